/- What the proofs of this claim share, part 17. No conditions. -/
import Derived.Test.YtilbehepmkpdbaaGreatDoorKm16
import Derived.Test.YtilbehepmkpdbaaGreatDoorKm11
set_option maxRecDepth 100000
set_option maxHeartbeats 4000000
set_option linter.unusedVariables false
set_option linter.unusedSimpArgs false
set_option linter.unusedSectionVars false
namespace Go.Proofs.YtilbehepmkpdbaaGreatDoor
open Go.RowKit
theorem pdsign_cv (x : Int) (dx : Nat) (hnx : Nf x dx) (lx : (canon x.natAbs).length ≤ 40000) : CV Tryz.prog TabAt 126 [aDy false x dx] [aI (sgI x)] := by
  refine cvz Tryz.func126 Tryz.ntmps126 ?_
  have PX := parts_cv (G := TabAt) x dx hnx (Nat.le_trans lx (by decide))
  by_cases c0 : x = 0
  case pos =>
    have l0 : ((canon x.natAbs).length : Int) = 0 := by rw [show x.natAbs = 0 by omega, canon_zero]; rfl
    rw [show decide (x < 0) = false by rw [decide_eq_false (by omega)]] at PX
    rw [show sgI x = 0 by unfold sgI; (repeat' split) <;> omega]
    repeat' (with_reducible first | apply qa | apply qb | apply qc | apply qd | apply qe | apply qf | apply qg | apply qh | apply qi | apply qj | apply qk | apply ql rfl | apply qm rfl | apply qn rfl | apply Je | (refine Tx 0 ?_; refine Jn xBo ?_; refine Ja ?_) | (refine Tx 1 ?_; refine Jo (xLa tk_Dyadic) ?_; refine Jo (xCl Tryz.func129 (PX)) ?_; refine Jo xMt ?_; refine Jo xEx ?_; refine Jo xEx ?_; refine Jo xEx ?_; refine Ja ?_; refine Ja ?_; refine Ja ?_) | (refine Tx 2 ?_; refine Jm ?_; refine Jo (xLn ts_dyadic_nat) ?_; refine Jo xEq ?_; refine Ja ?_) | (refine Tx 3 ?_; refine Ja ?_))
    exact ret_q rfl (.cons_ (rv_i rfl rfl) .nil_)
  by_cases cm1 : x < 0
  case pos =>
    have l0 : ¬ ((canon x.natAbs).length : Int) = 0 := fun hc => by have := canon_ne (n := x.natAbs) (by omega); omega
    rw [show decide (x < 0) = true by rw [decide_eq_true (by omega)]] at PX
    rw [show sgI x = -1 by unfold sgI; (repeat' split) <;> omega]
    repeat' (with_reducible first | apply qa | apply qb | apply qc | apply qd | apply qe | apply qf | apply qg | apply qh | apply qi | apply qj | apply qk | apply ql rfl | apply qm rfl | apply qn rfl | apply Je | (refine Tx 0 ?_; refine Jn xBo ?_; refine Ja ?_) | (refine Tx 1 ?_; refine Jo (xLa tk_Dyadic) ?_; refine Jo (xCl Tryz.func129 (PX)) ?_; refine Jo xMt ?_; refine Jo xEx ?_; refine Jo xEx ?_; refine Jo xEx ?_; refine Ja ?_; refine Ja ?_; refine Ja ?_) | (refine Tx 2 ?_; refine Jm ?_; refine Jo (xLn ts_dyadic_nat) ?_; refine Jo xEq ?_; refine Ja ?_) | (refine Tx 4 ?_; refine Jm ?_; refine Ja ?_) | (refine Tx 5 ?_; refine Ja ?_))
    exact ret_q rfl (.cons_ (rv_i rfl rfl) .nil_)
  have l0 : ¬ ((canon x.natAbs).length : Int) = 0 := fun hc => by have := canon_ne (n := x.natAbs) (by omega); omega
  rw [show decide (x < 0) = false by rw [decide_eq_false (by omega)]] at PX
  rw [show sgI x = 1 by unfold sgI; (repeat' split) <;> omega]
  repeat' (with_reducible first | apply qa | apply qb | apply qc | apply qd | apply qe | apply qf | apply qg | apply qh | apply qi | apply qj | apply qk | apply ql rfl | apply qm rfl | apply qn rfl | apply Je | (refine Tx 0 ?_; refine Jn xBo ?_; refine Ja ?_) | (refine Tx 1 ?_; refine Jo (xLa tk_Dyadic) ?_; refine Jo (xCl Tryz.func129 (PX)) ?_; refine Jo xMt ?_; refine Jo xEx ?_; refine Jo xEx ?_; refine Jo xEx ?_; refine Ja ?_; refine Ja ?_; refine Ja ?_) | (refine Tx 2 ?_; refine Jm ?_; refine Jo (xLn ts_dyadic_nat) ?_; refine Jo xEq ?_; refine Ja ?_) | (refine Tx 4 ?_; refine Jm ?_; refine Ja ?_) | (refine Tx 6 ?_; refine Ja ?_))
  exact ret_q rfl (.cons_ (rv_i rfl rfl) .nil_)
theorem pdfloor_cv (x : Int) (d den : Nat) (hn : Nf x d) (hl : (canon x.natAbs).length ≤ 40000) (hd : den ≤ 65536) : CVF Tryz.prog TabAt 124 [aDy false x d, aI (den : Int)] [aDy false (dyFloor x d den).1 (dyFloor x d den).2, aE 0] := fun w S vs hg hlt ha => by
  obtain ⟨v, vs', rfl, h1, ha⟩ := ha.uncons
  obtain ⟨u, hu, h2⟩ := one_arg ha
  subst hu
  cases h2
  exact (pfloor_any (dy_in h1 hlt hn) (Nat.le_refl _) (Nat.le_trans hl (by decide)) hd hg).mono fun r w' ⟨v, he, hd, hb⟩ => ⟨_, he, two_rel (dy_out hd) (DRel.val rfl), hb⟩
theorem floor_nf {x : Int} {d den : Nat} (hn : Nf x d) (hd : den ≤ 65536) : Nf (dyFloor x d den).1 (dyFloor x d den).2 := by
  unfold dyFloor
  split
  · exact hn
  · exact Nf.nf hd
theorem floor_abs {x : Int} {k : Nat} : (x / 2 ^ k).natAbs ≤ x.natAbs := by
  have h1 := Int.mul_ediv_add_emod x (2 ^ k)
  have h2 := Int.emod_nonneg x (two_ne k)
  have h3 := Int.emod_lt_of_pos x (two_pos k)
  have hp := two_pos k
  generalize (2 : Int) ^ k = P at *
  generalize hq : x / P = q at *
  rcases Int.lt_or_le q 0 with hlt | hge
  · have : P * q ≤ q := by
      have := Int.mul_le_mul_of_nonpos_right (show (1 : Int) ≤ P by omega) (Int.le_of_lt hlt)
      omega
    rcases Int.lt_or_le x 0 with hx | hx
    · by_cases hP : P = 1
      · subst hP; omega
      · have h4 : 2 * (-q) ≤ P * (-q) := Int.mul_le_mul_of_nonneg_right (by omega) (by omega)
        rw [Int.mul_neg] at h4
        by_cases hq1 : q = -1
        · subst hq1; omega
        · have h5 : P * (-q - 1) ≥ 1 * (-q - 1) := Int.mul_le_mul_of_nonneg_right (by omega) (by omega)
          rw [Int.mul_sub, Int.mul_neg] at h5
          omega
    · exfalso
      have : 0 ≤ q := by rw [← hq]; exact Int.ediv_nonneg hx (by omega)
      omega
  · have : 1 * q ≤ P * q := Int.mul_le_mul_of_nonneg_right (by omega) hge
    omega
theorem floor_len {x : Int} {d den k : Nat} (hl : (canon x.natAbs).length ≤ k) : (canon (dyFloor x d den).1.natAbs).length ≤ k := by
  unfold dyFloor
  split
  · exact hl
  · exact Nat.le_trans (canon_len_mono (Nat.le_trans (nf_abs_le _ _) floor_abs)) hl
theorem pdceil_cv (x : Int) (d den : Nat) (hn : Nf x d) (hl : (canon x.natAbs).length ≤ 40000) (hd : den ≤ 65536) : CV Tryz.prog TabAt 125 [aDy false x d, aI (den : Int)] [aDy false (qCeil (x, d) den).1 (qCeil (x, d) den).2, aE 0] := by
  refine cvz Tryz.func125 Tryz.ntmps125 ?_
  have NG := pdneg_cv x d hn hl
  have hnn : Nf (-x) d := ⟨hn.1, fun h => by have := hn.2 h; omega⟩
  have FL := (pdfloor_cv (-x) d den hnn (by rw [Int.natAbs_neg]; exact hl) hd).cv
  have NH := pdneg_cv (dyFloor (-x) d den).1 (dyFloor (-x) d den).2 (floor_nf hnn hd) (floor_len (by rw [Int.natAbs_neg]; exact hl))
  repeat' (with_reducible first | apply qa | apply qb | apply qc | apply qd | apply qe | apply qf | apply qg | apply qh | apply qi | apply qj | apply qk | apply ql rfl | apply qm rfl | apply qn rfl | apply Je | (refine Tx 0 ?_; refine Jn xBo ?_; refine Jn (xAl tz_Dyadic) ?_; refine Ja ?_) | (refine Tx 1 ?_; refine Jo (xLa tk_Dyadic) ?_; refine Jo (by first | exact xCl Tryz.func61 (NG) | exact xCl Tryz.func61 (NH)) ?_; refine Jm ?_; refine Jo (xCl Tryz.func124 (FL)) ?_; refine Jo xMt ?_; refine Jo (by exact ok_exA rfl rfl rfl) ?_; refine Jo xEx ?_; refine Jn (xAl tz_Dyadic) ?_; refine Js (xSk tk_Dyadic) ?_; refine Ja ?_) | (refine Tx 2 ?_; refine Jo (xLa tk_Dyadic) ?_; refine Jo (by first | exact xCl Tryz.func61 (NG) | exact xCl Tryz.func61 (NH)) ?_; refine Jm ?_; refine Js (xSk tk_Dyadic) ?_; refine Ja ?_))
  exact ret_q rfl (.cons_ (rvW tk_Dyadic rfl) (.cons_ (rv_e0 rfl rfl) .nil_))
def ivR (r s : Rv) : Bool := vdB r.rw && vdB s.rw && decide (dyCmp r.rw.x r.rw.d s.rw.x s.rw.d ≤ 0)
def RvL (r : Rv) : Prop := wordsOk r.ws ∧ r.ws.length ≤ 40000
def dIr (t : Bool) (a : Rv × Rv) : List D := dRv t a.1 ++ dRv t a.2
theorem pivalid_cv (r s : Rv) (hr : RvL r) (hs : RvL s) : CV Tryz.prog TabAt 42 [.agg (dIr false (r, s))] [aB (ivR r s)] := by
  refine cvz Tryz.func42 Tryz.ntmps42 ?_
  have V1 := (pvalid_cv (G := TabAt) false r hr.1 (Nat.le_trans hr.2 (by decide))).cv
  have V2 := (pvalid_cv (G := TabAt) false s hs.1 (Nat.le_trans hs.2 (by decide))).cv
  by_cases c1 : vdB r.rw = true
  case neg =>
    rw [Bool.not_eq_true] at c1
    rw [c1] at V1
    repeat' (with_reducible first | apply qa | apply qb | apply qc | apply qd | apply qe | apply qf | apply qg | apply qh | apply qi | apply qj | apply qk | apply ql rfl | apply qm rfl | apply qn rfl | apply Je | (refine Tx 0 ?_; refine Jn xBo ?_; refine Ja ?_) | (refine Tx 1 ?_; refine Jo (xFa tf_Interval0 tk_Dyadic) ?_; refine Jo (xLa tk_Dyadic) ?_; refine Jo (xCl Tryz.func88 (V1)) ?_; refine Jm ?_; (first | iterate 3 refine Jd ?_ | (refine Jy (xFa tf_Interval1 tk_Dyadic) ?_; refine Jy (xLa tk_Dyadic) ?_; refine Jy (xCl Tryz.func88 (V1)) ?_)); refine Jo xPk ?_; refine Jm ?_; (first | iterate 4 refine Jd ?_ | (refine Jy (xFa tf_Interval0 tk_Dyadic) ?_; refine Jy (xLa tk_Dyadic) ?_; refine Jy (xFa tf_Interval1 tk_Dyadic) ?_; refine Jy (xLa tk_Dyadic) ?_)); refine Jd ?_; (first | refine Jd ?_ | refine Jy xLe ?_); refine Jo xPk ?_; refine Ja ?_))
    exact ret_q rfl (.cons_ (rv_b rfl (by unfold ivR; rw [c1]; rfl)) .nil_)
  by_cases c2 : vdB s.rw = true
  case neg =>
    rw [Bool.not_eq_true] at c2
    rw [c1] at V1
    rw [c2] at V2
    repeat' (with_reducible first | apply qa | apply qb | apply qc | apply qd | apply qe | apply qf | apply qg | apply qh | apply qi | apply qj | apply qk | apply ql rfl | apply qm rfl | apply qn rfl | apply Je | (refine Tx 0 ?_; refine Jn xBo ?_; refine Ja ?_) | (refine Tx 1 ?_; refine Jo (xFa tf_Interval0 tk_Dyadic) ?_; refine Jo (xLa tk_Dyadic) ?_; refine Jo (xCl Tryz.func88 (V1)) ?_; refine Jm ?_; (first | iterate 3 refine Jd ?_ | (refine Jy (xFa tf_Interval1 tk_Dyadic) ?_; refine Jy (xLa tk_Dyadic) ?_; refine Jy (xCl Tryz.func88 (V2)) ?_)); refine Jo xPk ?_; refine Jm ?_; (first | iterate 4 refine Jd ?_ | (refine Jy (xFa tf_Interval0 tk_Dyadic) ?_; refine Jy (xLa tk_Dyadic) ?_; refine Jy (xFa tf_Interval1 tk_Dyadic) ?_; refine Jy (xLa tk_Dyadic) ?_)); refine Jd ?_; (first | refine Jd ?_ | refine Jy xLe ?_); refine Jo xPk ?_; refine Ja ?_))
    exact ret_q rfl (.cons_ (rv_b rfl (by unfold ivR; rw [c1, c2]; rfl)) .nil_)
  rw [c1] at V1
  rw [c2] at V2
  obtain ⟨e1, n1, k1⟩ := rv_dy (t := false) hr.1 c1
  obtain ⟨e2, n2, k2⟩ := rv_dy (t := false) hs.1 c2
  have CM := pdcmp_cv r.rw.x r.rw.d s.rw.x s.rw.d n1 n2 (Nat.le_trans (Nat.le_of_eq k1) hr.2) (Nat.le_trans (Nat.le_of_eq k2) hs.2)
  unfold aDy at CM
  rw [← e1, ← e2] at CM
  by_cases c3 : dyCmp r.rw.x r.rw.d s.rw.x s.rw.d ≤ 0
  case pos =>
    repeat' (with_reducible first | apply qa | apply qb | apply qc | apply qd | apply qe | apply qf | apply qg | apply qh | apply qi | apply qj | apply qk | apply ql rfl | apply qm rfl | apply qn rfl | apply Je | (refine Tx 0 ?_; refine Jn xBo ?_; refine Ja ?_) | (refine Tx 1 ?_; refine Jo (xFa tf_Interval0 tk_Dyadic) ?_; refine Jo (xLa tk_Dyadic) ?_; refine Jo (xCl Tryz.func88 (V1)) ?_; refine Jm ?_; (first | iterate 3 refine Jd ?_ | (refine Jy (xFa tf_Interval1 tk_Dyadic) ?_; refine Jy (xLa tk_Dyadic) ?_; refine Jy (xCl Tryz.func88 (V2)) ?_)); refine Jo xPk ?_; refine Jm ?_; (first | iterate 6 refine Jd ?_ | (refine Jy (xFa tf_Interval0 tk_Dyadic) ?_; refine Jy (xLa tk_Dyadic) ?_; refine Jy (xFa tf_Interval1 tk_Dyadic) ?_; refine Jy (xLa tk_Dyadic) ?_; refine Jy (xCl Tryz.func60 (CM)) ?_; refine Jy xLe ?_)); refine Jo xPk ?_; refine Ja ?_))
    exact ret_q rfl (.cons_ (rv_b rfl (by unfold ivR; rw [c1, c2, decide_eq_true c3]; rfl)) .nil_)
  case neg =>
    repeat' (with_reducible first | apply qa | apply qb | apply qc | apply qd | apply qe | apply qf | apply qg | apply qh | apply qi | apply qj | apply qk | apply ql rfl | apply qm rfl | apply qn rfl | apply Je | (refine Tx 0 ?_; refine Jn xBo ?_; refine Ja ?_) | (refine Tx 1 ?_; refine Jo (xFa tf_Interval0 tk_Dyadic) ?_; refine Jo (xLa tk_Dyadic) ?_; refine Jo (xCl Tryz.func88 (V1)) ?_; refine Jm ?_; (first | iterate 3 refine Jd ?_ | (refine Jy (xFa tf_Interval1 tk_Dyadic) ?_; refine Jy (xLa tk_Dyadic) ?_; refine Jy (xCl Tryz.func88 (V2)) ?_)); refine Jo xPk ?_; refine Jm ?_; (first | iterate 6 refine Jd ?_ | (refine Jy (xFa tf_Interval0 tk_Dyadic) ?_; refine Jy (xLa tk_Dyadic) ?_; refine Jy (xFa tf_Interval1 tk_Dyadic) ?_; refine Jy (xLa tk_Dyadic) ?_; refine Jy (xCl Tryz.func60 (CM)) ?_; refine Jy xLe ?_)); refine Jo xPk ?_; refine Ja ?_))
    exact ret_q rfl (.cons_ (rv_b rfl (by unfold ivR; rw [c1, c2, decide_eq_false c3]; rfl)) .nil_)
theorem rvOf_L {p : Pq} {n d : Nat} (h : Sm p n d) (hn : n ≤ 1280000) : RvL (rvOf p) := ⟨canon_ok _, h.lenN 40000 (by omega)⟩
theorem iv_of {a : Iq} {n d : Nat} (h : IwS a n d) : ivR (rvOf a.1) (rvOf a.2) = true := by
  unfold ivR
  rw [rvOf_ok h.s1.ok, rvOf_ok h.s2.ok]
  have : dyCmp (rvOf a.1).rw.x (rvOf a.1).rw.d (rvOf a.2).rw.x (rvOf a.2).rw.d = qCmp (rvP (rvOf a.1)) (rvP (rvOf a.2)) := rfl
  rw [rvOf_P, rvOf_P] at this
  rw [this, decide_eq_true ((cmp_le h.s1.le h.s2.le).2 h.le)]
  rfl
theorem pivalid_iw (a : Iq) {n d : Nat} (h : IwS a n d) (hn : n ≤ 1280000) : CV Tryz.prog TabAt 42 [aIw false a] [aB true] := by
  have := pivalid_cv (rvOf a.1) (rvOf a.2) (rvOf_L h.s1 hn) (rvOf_L h.s2 hn)
  rw [iv_of h] at this
  unfold dIr at this
  rwa [rvOf_D, rvOf_D] at this
theorem pisame_cv (x : Int) (d : Nat) (hn : Nf x d) (hl : (canon x.natAbs).length ≤ 40000) : CV Tryz.prog TabAt 121 [aDy false x d] [aDy false x d] := by
  refine cvz Tryz.func121 Tryz.ntmps121 ?_
  have SH := pdshift_cv x d 0 hn (Nat.le_trans hl (by decide)) (by have := hn.1; omega)
  rw [shift_none hn] at SH
  repeat' (with_reducible first | apply qa | apply qb | apply qc | apply qd | apply qe | apply qf | apply qg | apply qh | apply qi | apply qj | apply qk | apply ql rfl | apply qm rfl | apply qn rfl | apply Je | (refine Tx 0 ?_; refine Jn xBo ?_; refine Jn (xAl tz_Dyadic) ?_) | (refine Tx 1 ?_; refine Jo (xLa tk_Dyadic) ?_; refine Jo (xCl Tryz.func90 (SH)) ?_; refine Js (xSk tk_Dyadic) ?_))
  exact ret_q rfl (.cons_ (rvW tk_Dyadic rfl) .nil_)
theorem piarg_cv (a : Iq) {n d : Nat} (h : IwS a n d) (hn : n ≤ 1280000) (l1 : (canon a.1.1.natAbs).length ≤ 40000) (l2 : (canon a.2.1.natAbs).length ≤ 40000) : CV Tryz.prog TabAt 70 [aIw false a] [aIw false a] := by
  refine cvz Tryz.func70 Tryz.ntmps70 ?_
  have V := pivalid_iw a h hn
  have S1 := pisame_cv a.1.1 a.1.2 h.s1.ok l1
  have S2 := pisame_cv a.2.1 a.2.2 h.s2.ok l2
  repeat' (with_reducible first | apply qa | apply qb | apply qc | apply qd | apply qe | apply qf | apply qg | apply qh | apply qi | apply qj | apply qk | apply ql rfl | apply qm rfl | apply qn rfl | apply Je | (refine Tx 0 ?_; refine Jn xBo ?_; refine Jn (xAl tz_Interval) ?_) | (refine Tx 1 ?_; refine Jo (xLa tk_Interval) ?_; refine Jo (xCl Tryz.func42 (V)) ?_; refine Jo (by first | exact xNt | exact xNg) ?_) | (refine cw_part (id := 3) 7 mixed (by kernel_rfl) ?_; dsimp only [List.take, List.drop]; refine Ko (xFa tf_Interval0 tk_Dyadic) ?_; refine Ko (xLa tk_Dyadic) ?_; refine Ko (by first | exact xCl Tryz.func121 (S1) | exact xCl Tryz.func121 (S2)) ?_; refine Ko (xFa tf_Interval1 tk_Dyadic) ?_; refine Ko (xLa tk_Dyadic) ?_; refine Ko (by first | exact xCl Tryz.func121 (S1) | exact xCl Tryz.func121 (S2)) ?_; refine Ko (by exact ok_build rfl tb_Interval rfl rfl) ?_; refine Ke ?_; refine Js (xSk tk_Interval) ?_))
  exact ret_q rfl (.cons_ (rvJ tk_Interval rfl) .nil_)
theorem piarg_s (a : Iq) (h : IwS a 20000 20000) : CV Tryz.prog TabAt 70 [aIw false a] [aIw false a] := piarg_cv a h (by decide) (Nat.le_trans (h.s1.lenN 625 (by decide)) (by decide)) (Nat.le_trans (h.s2.lenN 625 (by decide)) (by decide))
theorem pipoint_cv (p : Pq) (hn : Nf p.1 p.2) (hl : (canon p.1.natAbs).length ≤ 40000) : CV Tryz.prog TabAt 57 [aDy false p.1 p.2] [aIw false (p, p)] := by
  refine cvz Tryz.func57 Tryz.ntmps57 ?_
  have S1 := pisame_cv p.1 p.2 hn hl
  repeat' (with_reducible first | apply qa | apply qb | apply qc | apply qd | apply qe | apply qf | apply qg | apply qh | apply qi | apply qj | apply qk | apply ql rfl | apply qm rfl | apply qn rfl | apply Je | (refine Tx 0 ?_; refine Jn xBo ?_; refine Jn (xAl tz_Interval) ?_) | (refine cw_part (id := 1) 5 mixed (by kernel_rfl) ?_; dsimp only [List.take, List.drop]; refine Ko (xLa tk_Dyadic) ?_; refine Ko (xCl Tryz.func121 (S1)) ?_; refine Ko (xLa tk_Dyadic) ?_; refine Ko (xCl Tryz.func121 (S1)) ?_; refine Ko (by exact ok_build rfl tb_Interval rfl rfl) ?_; refine Ke ?_; refine Js (xSk tk_Interval) ?_))
  exact ret_q rfl (.cons_ (rvJ tk_Interval rfl) .nil_)
theorem dyP_at {l : List Pq} {k : Nat} {p : Pq} (h : l[k]? = some p) : ((flatD dyP l).drop (k * 3)).take 3 = dyP p := dy_at h
theorem ok_sliceD {P : Program} {G : World → Prop} {o : Oper} {F : Frm} {H : List Ob} {t e : TypeId} {x l : Operand} {tg : Bool} {n s lo : Nat} {k : IntKind} {z : Int} {cs : List D} (ho : o.op = .slice t x (some l) none none) (hx : F.ev x = .one (.d (.row tg s n cs))) (hl : F.ev l = .one (.d (.val (.int k z)))) (hz : z = (lo : Int)) (ht : TyS P t e s) (h1 : lo ≤ n) : OpOk P G o F H (.one (.d (.row tg s (n - lo) (cs.drop (lo * s))))) [] := ok_sliceL ho hx hl hz ht h1
theorem pispan_cv (t : Bool) (L : List Pq) (hne : L ≠ []) (hs : ∀ p ∈ L, Sm p 40064 40000) (hL : L.length ≤ 100) : CV Tryz.prog TabAt 96 [.one (.row t 3 L.length (flatD dyP L))] [aIw false (spanL L)] := by
  refine cvz Tryz.func96 Tryz.ntmps96 ?_
  obtain ⟨p, l, rfl⟩ : ∃ p l, L = p :: l := by cases L with | nil => exact absurd rfl hne | cons p l => exact ⟨p, l, rfl⟩
  have hp := hs p (List.mem_cons_self ..)
  have hpl := Nat.le_trans (hp.lenN 1252 (by decide)) (show 1252 ≤ 40000 by decide)
  have PT := pipoint_cv p hp.ok hpl
  have hlen : (p :: l).length = l.length + 1 := List.length_cons
  repeat' (with_reducible first | apply qa | apply qb | apply qc | apply qd | apply qe | apply qf | apply qg | apply qh | apply qi | apply qj | apply qk | apply ql rfl | apply qm rfl | apply qn rfl | apply Je | (refine Tx 0 ?_; refine Jn (xAl tz_Interval) ?_) | (refine Tx 1 ?_; refine Jm ?_; refine Jo (by exact ok_ixR (i := 0) rfl rfl rfl rfl ts_s_Dyadic (by omega) (by decide) (dyP_at (l := p :: l) (k := 0) rfl)) ?_; refine Jo (xLa tk_Dyadic) ?_; refine Jo (xCl Tryz.func57 (PT)) ?_; refine Jn (xAl tz_Interval) ?_; refine Js (xSk tk_Interval) ?_) | (refine Tx 2 ?_; refine Jm ?_; refine Jo (by exact ok_sliceD (lo := 1) rfl rfl rfl rfl ts_s_Dyadic (by omega)) ?_; refine Jo (xLn ts_s_Dyadic) ?_; refine Jm ?_))
  refine cw_wk (F' := ofL [(2, vr 0), (3, vr 1), (11, vd (.row t 3 ((p :: l).length - 1) ((flatD dyP (p :: l)).drop (1 * 3)))), (12, vi (((p :: l).length - 1 : Nat))), (13, vi ((0 : Nat)))]) (H' := [.box 55 [.d (.val (.bool false)), .d (.val (.slice none 0 0)), .d (.val (.int .i64 0)), .d (.val (.bool false)), .d (.val (.slice none 0 0)), .d (.val (.int .i64 0))], .box 55 ((dIw false ((l.take (0)).foldl spanS (p, p))).map C.d)]) (wk_go _ 2 ?_ ?_ ?_) ?_
  · rfl
  · exact mB rfl rfl
  · exact ⟨bel_lit rfl, bel_D, trivial⟩
  refine cw_loopW (fun n Fr H => ∃ k : Nat, k ≤ l.length ∧ n = l.length - k ∧ IwS ((l.take (k)).foldl spanS (p, p)) 40064 40000 ∧ Fr = ofL [(2, vr 0), (3, vr 1), (11, vd (.row t 3 ((p :: l).length - 1) ((flatD dyP (p :: l)).drop (1 * 3)))), (12, vi (((p :: l).length - 1 : Nat))), (13, vi ((k : Nat)))] ∧ H = [.box 55 [.d (.val (.bool false)), .d (.val (.slice none 0 0)), .d (.val (.int .i64 0)), .d (.val (.bool false)), .d (.val (.slice none 0 0)), .d (.val (.int .i64 0))], .box 55 ((dIw false ((l.take (k)).foldl spanS (p, p))).map C.d)]) (n0 := l.length) ⟨0, Nat.zero_le _, rfl, .pt hp, rfl, rfl⟩ ?_
  rintro n Fr H ⟨k, hk, rfl, hS, rfl, rfl⟩
  by_cases hlt : k < l.length
  case pos =>
    obtain ⟨x, hx⟩ : ∃ x, l[k]? = some x := ⟨_, List.getElem?_eq_getElem hlt⟩
    have hxs := hs x (List.mem_cons_of_mem _ (List.mem_of_getElem? hx))
    have hxl := Nat.le_trans (hxs.lenN 1252 (by decide)) (show 1252 ≤ 40000 by decide)
    have a1 := hS.s1
    have a2 := hS.s2
    have a1l := Nat.le_trans (a1.lenN 1252 (by decide)) (show 1252 ≤ 40000 by decide)
    have a2l := Nat.le_trans (a2.lenN 1252 (by decide)) (show 1252 ≤ 40000 by decide)
    have hnx : spanS ((l.take (k)).foldl spanS (p, p)) x = ((l.take (k + 1)).foldl spanS (p, p)) := by rw [List.take_add_one, hx, Option.toList_some, List.foldl_append]; rfl
    have hIS : IwS (spanS ((l.take (k)).foldl spanS (p, p)) x) 40064 40000 := ⟨Sm.min a1 hxs, Sm.max a2 hxs, by show gv (qMin _ x) ≤ gv (qMax _ x); rw [gv_min a1.le hxs.le, gv_max a2.le hxs.le]; have := hS.le; omega⟩
    rw [hnx] at hIS
    have hxd : (((flatD dyP (p :: l)).drop (1 * 3)).drop (k * 3)).take 3 = dyP x := by rw [List.drop_drop, show 1 * 3 + k * 3 = (k + 1) * 3 by omega]; exact dyP_at (l := p :: l) (k := k + 1) (by rw [List.getElem?_cons_succ]; exact hx)
    generalize hT : ((l.take (k)).foldl spanS (p, p)) = T at *
    have MN := pdmin_cv T.1.1 T.1.2 x.1 x.2 a1.ok hxs.ok a1l hxl
    have MX := pdmax_cv T.2.1 T.2.2 x.1 x.2 a2.ok hxs.ok a2l hxl
    repeat' (with_reducible first | apply qa | apply qb | apply qc | apply qd | apply qe | apply qf | apply qg | apply qh | apply qi | apply qj | apply qk | apply ql rfl | apply qm rfl | apply qn rfl | apply Je | (refine Tx 3 ?_; refine Jo xLt ?_) | (refine Tx 4 ?_; refine Jo (xIr ts_s_Dyadic (hxd)) ?_; refine Jo (xLa tk_Dyadic) ?_; refine Jn (xAl tz_Dyadic) ?_; refine Js (xSk tk_Dyadic) ?_) | (refine cw_part (id := 5) 9 mixed (by kernel_rfl) ?_; dsimp only [List.take, List.drop]; refine Ko (xFa tf_Interval0 tk_Dyadic) ?_; refine Ko (xLa tk_Dyadic) ?_; refine Ko (xLa tk_Dyadic) ?_; refine Ko (xCl Tryz.func142 (MN)) ?_; refine Ko (xFa tf_Interval1 tk_Dyadic) ?_; refine Ko (xLa tk_Dyadic) ?_; refine Ko (xLa tk_Dyadic) ?_; refine Ko (xCl Tryz.func143 (MX)) ?_; refine Ko (xFa tf_Interval0 tk_Dyadic) ?_; refine Ke ?_; refine Js (xSk tk_Dyadic) ?_; refine Jo (xFa tf_Interval1 tk_Dyadic) ?_; refine Js (xSk tk_Dyadic) ?_) | (refine Tx 6 ?_; refine Jo xAd ?_; refine Jm ?_))
    refine ⟨_, _, wk_go _ 2 ?_ ?_ ?_, _, ?_, k + 1, by omega, rfl, hIS, rfl, rfl⟩
    · rw [← hnx]; rfl
    · exact mB rfl rfl
    · exact ⟨bel_lit rfl, bel_D, trivial⟩
    · omega
  obtain rfl : k = l.length := by omega
  clear hlt hk
  rw [List.take_length]
  repeat' (with_reducible first | apply qa | apply qb | apply qc | apply qd | apply qe | apply qf | apply qg | apply qh | apply qi | apply qj | apply qk | apply ql rfl | apply qm rfl | apply qn rfl | apply Je | (refine Tx 3 ?_; refine Jo xLt ?_) | (refine Tx 7 ?_; refine Jo (xLa tk_Interval) ?_; refine Js (xSk tk_Interval) ?_))
  exact ret_q rfl (.cons_ (rvJ tk_Interval rfl) .nil_)
theorem sm_intN (x : Int) {n d : Nat} (h : x.natAbs < 2 ^ 63) (hn : 63 ≤ n) : Sm (x, 0) n d := ⟨⟨Nat.zero_le _, fun h => absurd rfl h⟩, Nat.lt_of_lt_of_le h (Nat.pow_le_pow_right (by decide) hn), Nat.zero_le _⟩
theorem sm_int (x : Int) (h : x.natAbs < 2 ^ 63) : Sm (x, 0) 40064 40000 := sm_intN x h (by decide)
theorem piints_cv (x y : Int) (hx : -9223372036854775807 ≤ x ∧ x < 9223372036854775808) (hy : -9223372036854775807 ≤ y ∧ y < 9223372036854775808) : CV Tryz.prog TabAt 99 [aI x, aI y] [aIw false (spanL [(x, 0), (y, 0)])] := by
  refine cvz Tryz.func99 Tryz.ntmps99 ?_
  have O1 := pdof_cv x (by omega) (by omega)
  have O2 := pdof_cv y (by omega) (by omega)
  have s1 : Sm (x, 0) 40064 40000 := sm_int x (by omega)
  have s2 : Sm (y, 0) 40064 40000 := sm_int y (by omega)
  have SP := pispan_cv true [(x, 0), (y, 0)] (by simp) (fun p hp => by simp only [List.mem_cons, List.not_mem_nil, or_false] at hp; rcases hp with rfl | rfl <;> assumption) (Nat.le_of_ble_eq_true rfl)
  repeat' (with_reducible first | apply qa | apply qb | apply qc | apply qd | apply qe | apply qf | apply qg | apply qh | apply qi | apply qj | apply qk | apply ql rfl | apply qm rfl | apply qn rfl | apply Je | (refine Tx 0 ?_; refine Jn (xAl tz_Interval) ?_) | (refine Tx 1 ?_; refine Jm ?_; refine Jo (by first | exact xCl Tryz.func100 (O1) | exact xCl Tryz.func100 (O2)) ?_; refine Jm ?_; refine Jo (by first | exact xCl Tryz.func100 (O1) | exact xCl Tryz.func100 (O2)) ?_; refine Jn (by exact ok_build2 rfl ts_s_Dyadic tz_Dyadic rfl rfl rfl rfl (by decide) (by decide)) ?_; refine Jo (xCl Tryz.func96 (SP)) ?_; refine Js (xSk tk_Interval) ?_))
  exact ret_q rfl (.cons_ (rvJ tk_Interval rfl) .nil_)
theorem pineg_cv (a : Iq) (h : IwS a 20000 20000) : CV Tryz.prog TabAt 104 [aIw false a] [aIw false (iNeg a)] := by
  refine cvz Tryz.func104 Tryz.ntmps104 ?_
  have h1 := h.s1
  have h2 := h.s2
  have hl := h1.l4
  have hm := h2.l4
  have AR := piarg_s a h
  have N1 := pdneg_cv a.1.1 a.1.2 h1.ok hl
  have N2 := pdneg_cv a.2.1 a.2.2 h2.ok hm
  repeat' (with_reducible first | apply qa | apply qb | apply qc | apply qd | apply qe | apply qf | apply qg | apply qh | apply qi | apply qj | apply qk | apply ql rfl | apply qm rfl | apply qn rfl | apply Je | (refine Tx 0 ?_; refine Jn xBo ?_; refine Jn (xAl tz_Interval) ?_) | (refine Tx 1 ?_; refine Jo (xLa tk_Interval) ?_; refine Jo (xCl Tryz.func70 (AR)) ?_; refine Js (xSk tk_Interval) ?_) | (refine cw_part (id := 2) 7 mixed (by kernel_rfl) ?_; dsimp only [List.take, List.drop]; refine Ko (xFa tf_Interval1 tk_Dyadic) ?_; refine Ko (xLa tk_Dyadic) ?_; refine Ko (by first | exact xCl Tryz.func61 (N2) | exact xCl Tryz.func61 (N1)) ?_; refine Ko (xFa tf_Interval0 tk_Dyadic) ?_; refine Ko (xLa tk_Dyadic) ?_; refine Ko (by first | exact xCl Tryz.func61 (N2) | exact xCl Tryz.func61 (N1)) ?_; refine Ko (by exact ok_build rfl tb_Interval rfl rfl) ?_; refine Ke ?_; refine Js (xSk tk_Interval) ?_))
  exact ret_q rfl (.cons_ (rvJ tk_Interval rfl) .nil_)
theorem piadd_cv (a b : Iq) (h : IwS a 20000 20000) (k : IwS b 20000 20000) : CV Tryz.prog TabAt 101 [aIw false a, aIw false b] [aIw false (iAdd a b)] := by
  refine cvz Tryz.func101 Tryz.ntmps101 ?_
  have h1 := h.s1
  have h2 := h.s2
  have hl := h1.l4
  have hm := h2.l4
  have k1 := k.s1
  have k2 := k.s2
  have kl := k1.l4
  have km := k2.l4
  have AA := piarg_s a h
  have AB := piarg_s b k
  have C1 := pdadd_cv a.1.1 a.1.2 b.1.1 b.1.2 h1.ok k1.ok hl kl
  have C2 := pdadd_cv a.2.1 a.2.2 b.2.1 b.2.2 h2.ok k2.ok hm km
  repeat' (with_reducible first | apply qa | apply qb | apply qc | apply qd | apply qe | apply qf | apply qg | apply qh | apply qi | apply qj | apply qk | apply ql rfl | apply qm rfl | apply qn rfl | apply Je | (refine Tx 0 ?_; refine Jn xBo ?_; refine Jn xBo ?_; refine Jn (xAl tz_Interval) ?_) | (refine cw_part (id := 1) 4 mixed (by kernel_rfl) ?_; dsimp only [List.take, List.drop]; refine Ko (xLa tk_Interval) ?_; refine Ko (by first | exact xCl Tryz.func70 (AA) | exact xCl Tryz.func70 (AB)) ?_; refine Ko (xLa tk_Interval) ?_; refine Ko (by first | exact xCl Tryz.func70 (AA) | exact xCl Tryz.func70 (AB)) ?_; refine Ke ?_; refine Js (xSk tk_Interval) ?_; refine Js (xSk tk_Interval) ?_) | (refine cw_part (id := 2) 11 mixed (by kernel_rfl) ?_; dsimp only [List.take, List.drop]; refine Ko (xFa tf_Interval0 tk_Dyadic) ?_; refine Ko (xLa tk_Dyadic) ?_; refine Ko (xFa tf_Interval0 tk_Dyadic) ?_; refine Ko (xLa tk_Dyadic) ?_; refine Ko (by first | exact xCl Tryz.func138 (C1) | exact xCl Tryz.func138 (C2)) ?_; refine Ko (xFa tf_Interval1 tk_Dyadic) ?_; refine Ko (xLa tk_Dyadic) ?_; refine Ko (xFa tf_Interval1 tk_Dyadic) ?_; refine Ko (xLa tk_Dyadic) ?_; refine Ko (by first | exact xCl Tryz.func138 (C1) | exact xCl Tryz.func138 (C2)) ?_; refine Ko (by exact ok_build rfl tb_Interval rfl rfl) ?_; refine Ke ?_; refine Js (xSk tk_Interval) ?_))
  exact ret_q rfl (.cons_ (rvJ tk_Interval rfl) .nil_)
theorem pimin_cv (a b : Iq) (h : IwS a 20000 20000) (k : IwS b 20000 20000) : CV Tryz.prog TabAt 106 [aIw false a, aIw false b] [aIw false (iMin a b)] := by
  refine cvz Tryz.func106 Tryz.ntmps106 ?_
  have h1 := h.s1
  have h2 := h.s2
  have hl := h1.l4
  have hm := h2.l4
  have k1 := k.s1
  have k2 := k.s2
  have kl := k1.l4
  have km := k2.l4
  have AA := piarg_s a h
  have AB := piarg_s b k
  have C1 := pdmin_cv a.1.1 a.1.2 b.1.1 b.1.2 h1.ok k1.ok hl kl
  have C2 := pdmin_cv a.2.1 a.2.2 b.2.1 b.2.2 h2.ok k2.ok hm km
  repeat' (with_reducible first | apply qa | apply qb | apply qc | apply qd | apply qe | apply qf | apply qg | apply qh | apply qi | apply qj | apply qk | apply ql rfl | apply qm rfl | apply qn rfl | apply Je | (refine Tx 0 ?_; refine Jn xBo ?_; refine Jn xBo ?_; refine Jn (xAl tz_Interval) ?_) | (refine cw_part (id := 1) 4 mixed (by kernel_rfl) ?_; dsimp only [List.take, List.drop]; refine Ko (xLa tk_Interval) ?_; refine Ko (by first | exact xCl Tryz.func70 (AA) | exact xCl Tryz.func70 (AB)) ?_; refine Ko (xLa tk_Interval) ?_; refine Ko (by first | exact xCl Tryz.func70 (AA) | exact xCl Tryz.func70 (AB)) ?_; refine Ke ?_; refine Js (xSk tk_Interval) ?_; refine Js (xSk tk_Interval) ?_) | (refine cw_part (id := 2) 11 mixed (by kernel_rfl) ?_; dsimp only [List.take, List.drop]; refine Ko (xFa tf_Interval0 tk_Dyadic) ?_; refine Ko (xLa tk_Dyadic) ?_; refine Ko (xFa tf_Interval0 tk_Dyadic) ?_; refine Ko (xLa tk_Dyadic) ?_; refine Ko (by first | exact xCl Tryz.func142 (C1) | exact xCl Tryz.func142 (C2)) ?_; refine Ko (xFa tf_Interval1 tk_Dyadic) ?_; refine Ko (xLa tk_Dyadic) ?_; refine Ko (xFa tf_Interval1 tk_Dyadic) ?_; refine Ko (xLa tk_Dyadic) ?_; refine Ko (by first | exact xCl Tryz.func142 (C1) | exact xCl Tryz.func142 (C2)) ?_; refine Ko (by exact ok_build rfl tb_Interval rfl rfl) ?_; refine Ke ?_; refine Js (xSk tk_Interval) ?_))
  exact ret_q rfl (.cons_ (rvJ tk_Interval rfl) .nil_)
theorem pimax_cv (a b : Iq) (h : IwS a 20000 20000) (k : IwS b 20000 20000) : CV Tryz.prog TabAt 107 [aIw false a, aIw false b] [aIw false (iMax a b)] := by
  refine cvz Tryz.func107 Tryz.ntmps107 ?_
  have h1 := h.s1
  have h2 := h.s2
  have hl := h1.l4
  have hm := h2.l4
  have k1 := k.s1
  have k2 := k.s2
  have kl := k1.l4
  have km := k2.l4
  have AA := piarg_s a h
  have AB := piarg_s b k
  have C1 := pdmax_cv a.1.1 a.1.2 b.1.1 b.1.2 h1.ok k1.ok hl kl
  have C2 := pdmax_cv a.2.1 a.2.2 b.2.1 b.2.2 h2.ok k2.ok hm km
  repeat' (with_reducible first | apply qa | apply qb | apply qc | apply qd | apply qe | apply qf | apply qg | apply qh | apply qi | apply qj | apply qk | apply ql rfl | apply qm rfl | apply qn rfl | apply Je | (refine Tx 0 ?_; refine Jn xBo ?_; refine Jn xBo ?_; refine Jn (xAl tz_Interval) ?_) | (refine cw_part (id := 1) 4 mixed (by kernel_rfl) ?_; dsimp only [List.take, List.drop]; refine Ko (xLa tk_Interval) ?_; refine Ko (by first | exact xCl Tryz.func70 (AA) | exact xCl Tryz.func70 (AB)) ?_; refine Ko (xLa tk_Interval) ?_; refine Ko (by first | exact xCl Tryz.func70 (AA) | exact xCl Tryz.func70 (AB)) ?_; refine Ke ?_; refine Js (xSk tk_Interval) ?_; refine Js (xSk tk_Interval) ?_) | (refine cw_part (id := 2) 11 mixed (by kernel_rfl) ?_; dsimp only [List.take, List.drop]; refine Ko (xFa tf_Interval0 tk_Dyadic) ?_; refine Ko (xLa tk_Dyadic) ?_; refine Ko (xFa tf_Interval0 tk_Dyadic) ?_; refine Ko (xLa tk_Dyadic) ?_; refine Ko (by first | exact xCl Tryz.func143 (C1) | exact xCl Tryz.func143 (C2)) ?_; refine Ko (xFa tf_Interval1 tk_Dyadic) ?_; refine Ko (xLa tk_Dyadic) ?_; refine Ko (xFa tf_Interval1 tk_Dyadic) ?_; refine Ko (xLa tk_Dyadic) ?_; refine Ko (by first | exact xCl Tryz.func143 (C1) | exact xCl Tryz.func143 (C2)) ?_; refine Ko (by exact ok_build rfl tb_Interval rfl rfl) ?_; refine Ke ?_; refine Js (xSk tk_Interval) ?_))
  exact ret_q rfl (.cons_ (rvJ tk_Interval rfl) .nil_)
theorem pimul_cv (a b : Iq) (h : IwS a 20000 20000) (k : IwS b 20000 20000) : CV Tryz.prog TabAt 103 [aIw false a, aIw false b] [aIw false (iMul a b)] := by
  refine cvz Tryz.func103 Tryz.ntmps103 ?_
  have h1 := h.s1
  have h2 := h.s2
  have hl := h1.l4
  have hm := h2.l4
  have k1 := k.s1
  have k2 := k.s2
  have kl := k1.l4
  have km := k2.l4
  have AA := piarg_s a h
  have AB := piarg_s b k
  have C0 := pmul_cv a.1.1 a.1.2 b.1.1 b.1.2 h1.ok k1.ok hl kl (by have := h1.d; have := k1.d; omega)
  have s0 : Sm (qMul a.1 b.1) 40064 40000 := (Sm.mul h1 k1 (by decide)).more (by decide) (by decide)
  have C1 := pmul_cv a.1.1 a.1.2 b.2.1 b.2.2 h1.ok k2.ok hl km (by have := h1.d; have := k2.d; omega)
  have s1 : Sm (qMul a.1 b.2) 40064 40000 := (Sm.mul h1 k2 (by decide)).more (by decide) (by decide)
  have C2 := pmul_cv a.2.1 a.2.2 b.1.1 b.1.2 h2.ok k1.ok hm kl (by have := h2.d; have := k1.d; omega)
  have s2 : Sm (qMul a.2 b.1) 40064 40000 := (Sm.mul h2 k1 (by decide)).more (by decide) (by decide)
  have C3 := pmul_cv a.2.1 a.2.2 b.2.1 b.2.2 h2.ok k2.ok hm km (by have := h2.d; have := k2.d; omega)
  have s3 : Sm (qMul a.2 b.2) 40064 40000 := (Sm.mul h2 k2 (by decide)).more (by decide) (by decide)
  have SP := pispan_cv true [qMul a.1 b.1, qMul a.1 b.2, qMul a.2 b.1, qMul a.2 b.2] (by simp) (fun p hp => by simp only [List.mem_cons, List.not_mem_nil, or_false] at hp; rcases hp with rfl | rfl | rfl | rfl <;> assumption) (Nat.le_of_ble_eq_true rfl)
  repeat' (with_reducible first | apply qa | apply qb | apply qc | apply qd | apply qe | apply qf | apply qg | apply qh | apply qi | apply qj | apply qk | apply ql rfl | apply qm rfl | apply qn rfl | apply Je | (refine Tx 0 ?_; refine Jn xBo ?_; refine Jn xBo ?_; refine Jn (xAl tz_Interval) ?_) | (refine cw_part (id := 1) 4 mixed (by kernel_rfl) ?_; dsimp only [List.take, List.drop]; refine Ko (xLa tk_Interval) ?_; refine Ko (by first | exact xCl Tryz.func70 (AA) | exact xCl Tryz.func70 (AB)) ?_; refine Ko (xLa tk_Interval) ?_; refine Ko (by first | exact xCl Tryz.func70 (AA) | exact xCl Tryz.func70 (AB)) ?_; refine Ke ?_; refine Js (xSk tk_Interval) ?_; refine Js (xSk tk_Interval) ?_) | (refine cw_part (id := 2) 22 mixed (by kernel_rfl) ?_; dsimp only [List.take, List.drop]; refine Ko (xFa tf_Interval0 tk_Dyadic) ?_; refine Ko (xLa tk_Dyadic) ?_; refine Ko (xFa tf_Interval0 tk_Dyadic) ?_; refine Ko (xLa tk_Dyadic) ?_; refine Ko (by first | exact xCl Tryz.func140 (C0) | exact xCl Tryz.func140 (C1) | exact xCl Tryz.func140 (C2) | exact xCl Tryz.func140 (C3)) ?_; refine Ko (xFa tf_Interval0 tk_Dyadic) ?_; refine Ko (xLa tk_Dyadic) ?_; refine Ko (xFa tf_Interval1 tk_Dyadic) ?_; refine Ko (xLa tk_Dyadic) ?_; refine Ko (by first | exact xCl Tryz.func140 (C0) | exact xCl Tryz.func140 (C1) | exact xCl Tryz.func140 (C2) | exact xCl Tryz.func140 (C3)) ?_; refine Ko (xFa tf_Interval1 tk_Dyadic) ?_; refine Ko (xLa tk_Dyadic) ?_; refine Ko (xFa tf_Interval0 tk_Dyadic) ?_; refine Ko (xLa tk_Dyadic) ?_; refine Ko (by first | exact xCl Tryz.func140 (C0) | exact xCl Tryz.func140 (C1) | exact xCl Tryz.func140 (C2) | exact xCl Tryz.func140 (C3)) ?_; refine Ko (xFa tf_Interval1 tk_Dyadic) ?_; refine Ko (xLa tk_Dyadic) ?_; refine Ko (xFa tf_Interval1 tk_Dyadic) ?_; refine Ko (xLa tk_Dyadic) ?_; refine Ko (by first | exact xCl Tryz.func140 (C0) | exact xCl Tryz.func140 (C1) | exact xCl Tryz.func140 (C2) | exact xCl Tryz.func140 (C3)) ?_; refine Kn (by exact ok_buildN rfl rfl ts_s_Dyadic tz_Dyadic (by decide) (by decide) (by decide) rfl rfl rfl) ?_; refine Ko (xCl Tryz.func96 (SP)) ?_; refine Ke ?_; refine Js (xSk tk_Interval) ?_))
  exact ret_q rfl (.cons_ (rvJ tk_Interval rfl) .nil_)
theorem pihull_cv (a b : Iq) (h : IwS a 20000 20000) (k : IwS b 20000 20000) : CV Tryz.prog TabAt 45 [aIw false a, aIw false b] [aIw false (iHull a b)] := by
  refine cvz Tryz.func45 Tryz.ntmps45 ?_
  have h1 := h.s1
  have h2 := h.s2
  have hl := h1.l4
  have hm := h2.l4
  have k1 := k.s1
  have k2 := k.s2
  have kl := k1.l4
  have km := k2.l4
  have AA := piarg_s a h
  have AB := piarg_s b k
  have s0 := Sm.more (n' := 40064) (d' := 40000) h1 (by decide) (by decide)
  have s1 := Sm.more (n' := 40064) (d' := 40000) h2 (by decide) (by decide)
  have s2 := Sm.more (n' := 40064) (d' := 40000) k1 (by decide) (by decide)
  have s3 := Sm.more (n' := 40064) (d' := 40000) k2 (by decide) (by decide)
  have SP := pispan_cv true [a.1, a.2, b.1, b.2] (by simp) (fun p hp => by simp only [List.mem_cons, List.not_mem_nil, or_false] at hp; rcases hp with rfl | rfl | rfl | rfl <;> assumption) (Nat.le_of_ble_eq_true rfl)
  repeat' (with_reducible first | apply qa | apply qb | apply qc | apply qd | apply qe | apply qf | apply qg | apply qh | apply qi | apply qj | apply qk | apply ql rfl | apply qm rfl | apply qn rfl | apply Je | (refine Tx 0 ?_; refine Jn xBo ?_; refine Jn xBo ?_; refine Jn (xAl tz_Interval) ?_) | (refine cw_part (id := 1) 4 mixed (by kernel_rfl) ?_; dsimp only [List.take, List.drop]; refine Ko (xLa tk_Interval) ?_; refine Ko (by first | exact xCl Tryz.func70 (AA) | exact xCl Tryz.func70 (AB)) ?_; refine Ko (xLa tk_Interval) ?_; refine Ko (by first | exact xCl Tryz.func70 (AA) | exact xCl Tryz.func70 (AB)) ?_; refine Ke ?_; refine Js (xSk tk_Interval) ?_; refine Js (xSk tk_Interval) ?_) | (refine Tx 2 ?_; refine Jo (xFa tf_Interval0 tk_Dyadic) ?_; refine Jo (xLa tk_Dyadic) ?_; refine Jo (xFa tf_Interval1 tk_Dyadic) ?_; refine Jo (xLa tk_Dyadic) ?_; refine Jo (xFa tf_Interval0 tk_Dyadic) ?_; refine Jo (xLa tk_Dyadic) ?_; refine Jo (xFa tf_Interval1 tk_Dyadic) ?_; refine Jo (xLa tk_Dyadic) ?_; refine Jn (by exact ok_buildN rfl rfl ts_s_Dyadic tz_Dyadic (by decide) (by decide) (by decide) rfl rfl rfl) ?_; refine Jo (xCl Tryz.func96 (SP)) ?_; refine Js (xSk tk_Interval) ?_))
  exact ret_q rfl (.cons_ (rvJ tk_Interval rfl) .nil_)
theorem piscale_cv (a : Iq) (f : Pq) (h : IwS a 20000 20000) (hf : Sm f 20000 20000) : CV Tryz.prog TabAt 98 [aIw false a, aDy false f.1 f.2] [aIw false (iScale a f)] := by
  refine cvz Tryz.func98 Tryz.ntmps98 ?_
  have PT := pipoint_cv f hf.ok (Nat.le_trans (hf.lenN 625 (by decide)) (by decide))
  have ML := pimul_cv a (f, f) h (.pt hf)
  repeat' (with_reducible first | apply qa | apply qb | apply qc | apply qd | apply qe | apply qf | apply qg | apply qh | apply qi | apply qj | apply qk | apply ql rfl | apply qm rfl | apply qn rfl | apply Je | (refine Tx 0 ?_; refine Jn xBo ?_; refine Jn xBo ?_; refine Jn (xAl tz_Interval) ?_) | (refine cw_part (id := 1) 4 mixed (by kernel_rfl) ?_; dsimp only [List.take, List.drop]; refine Ko (xLa tk_Interval) ?_; refine Ko (xLa tk_Dyadic) ?_; refine Ko (xCl Tryz.func57 (PT)) ?_; refine Ko (xCl Tryz.func103 (ML)) ?_; refine Ke ?_; refine Js (xSk tk_Interval) ?_))
  exact ret_q rfl (.cons_ (rvJ tk_Interval rfl) .nil_)
theorem pisub_cv (a b : Iq) (h : IwS a 20000 20000) (k : IwS b 20000 20000) : CV Tryz.prog TabAt 102 [aIw false a, aIw false b] [aIw false (iSub a b)] := by
  refine cvz Tryz.func102 Tryz.ntmps102 ?_
  have NG := pineg_cv b k
  have AD := piadd_cv a (iNeg b) h k.neg
  repeat' (with_reducible first | apply qa | apply qb | apply qc | apply qd | apply qe | apply qf | apply qg | apply qh | apply qi | apply qj | apply qk | apply ql rfl | apply qm rfl | apply qn rfl | apply Je | (refine Tx 0 ?_; refine Jn xBo ?_; refine Jn xBo ?_; refine Jn (xAl tz_Interval) ?_) | (refine cw_part (id := 1) 4 mixed (by kernel_rfl) ?_; dsimp only [List.take, List.drop]; refine Ko (xLa tk_Interval) ?_; refine Ko (xLa tk_Interval) ?_; refine Ko (xCl Tryz.func104 (NG)) ?_; refine Ko (xCl Tryz.func101 (AD)) ?_; refine Ke ?_; refine Js (xSk tk_Interval) ?_))
  exact ret_q rfl (.cons_ (rvJ tk_Interval rfl) .nil_)
theorem rvJ0 {P : Program} {F : Frm} {H : List Ob} {t : Tmp} {ty ty' id k : Nat} {q : Pq} (hk : TyK P ty true k) (hi : 6 = k) (hF : F t = .one (.ref id 0 none) := by with_unfolding_all exact rfl) (hH : H[id]? = some (.box ty' ([.d (.val (.bool false)), .d (.val (.slice none 0 0)), .d (.val (.int .i64 0))] ++ (dDy false q.1 q.2).map C.d)) := by with_unfolding_all exact rfl) : RV P F H (.cell t ty) (aIw false ((0, 0), q)) := by
  obtain ⟨⟨dd, hu, hd⟩, hz⟩ := hk
  have e : dDy false 0 0 = [.val (.bool false), .row false 1 0 [], .val (.int .i64 0)] := A.agg.inj dy_zero
  refine .cellA hF hH hu hd (by rw [hz, ← hi]; rfl) ?_
  show LRel _ _ (dDy false 0 0 ++ dDy false q.1 q.2)
  rw [e]
  refine .app (.cons_ (.d fun _ => .val _) (.cons_ .nil (.cons_ (.d fun _ => .val _) .nil_))) (LRel.map_l.2 ⟨rfl, fun j x y hx hy => ?_⟩)
  rw [hx] at hy
  cases hy
  exact .d fun _ => dy_free _ _ x (List.mem_of_getElem? hx)
theorem piabs_cv (a : Iq) (h : IwS a 20000 20000) : CV Tryz.prog TabAt 105 [aIw false a] [aIw false (iAbs a)] := by
  refine cvz Tryz.func105 Tryz.ntmps105 ?_
  have h1 := h.s1
  have h2 := h.s2
  have hl := h1.l4
  have hm := h2.l4
  have AR := piarg_s a h
  have A1 := pdabs_cv a.1.1 a.1.2 h1.ok hl
  have A2 := pdabs_cv a.2.1 a.2.2 h2.ok hm
  have s1 : Sm (qAbs a.1) 40064 40000 := h1.abs.more (by decide) (by decide)
  have s2 : Sm (qAbs a.2) 40064 40000 := h2.abs.more (by decide) (by decide)
  have SP := pispan_cv true [qAbs a.1, qAbs a.2] (by simp) (fun p hp => by simp only [List.mem_cons, List.not_mem_nil, or_false] at hp; rcases hp with rfl | rfl <;> assumption) (Nat.le_of_ble_eq_true rfl)
  have G1 := pdsign_cv a.1.1 a.1.2 h1.ok hl
  have G2 := pdsign_cv a.2.1 a.2.2 h2.ok hm
  by_cases c1 : a.1.1 < 0
  case pos =>
    by_cases c2 : 0 < a.2.1
    case pos =>
      rw [show sgI a.1.1 = -1 by unfold sgI; (repeat' split) <;> omega] at G1
      rw [show sgI a.2.1 = 1 by unfold sgI; (repeat' split) <;> omega] at G2
      have e : iAbs a = ((0, 0), (spanL [qAbs a.1, qAbs a.2]).2) := if_pos ⟨c1, c2⟩
      rw [e]
      repeat' (with_reducible first | apply qa | apply qb | apply qc | apply qd | apply qe | apply qf | apply qg | apply qh | apply qi | apply qj | apply qk | apply ql rfl | apply qm rfl | apply qn rfl | apply Je | (refine Tx 0 ?_; refine Jn xBo ?_; refine Jn (xAl tz_Interval) ?_) | (refine Tx 1 ?_; refine Jo (xLa tk_Interval) ?_; refine Jo (xCl Tryz.func70 (AR)) ?_; refine Js (xSk tk_Interval) ?_) | (refine cw_part (id := 2) 9 mixed (by kernel_rfl) ?_; dsimp only [List.take, List.drop]; refine Ko (xFa tf_Interval0 tk_Dyadic) ?_; refine Ko (xLa tk_Dyadic) ?_; refine Ko (by first | exact xCl Tryz.func141 (A1) | exact xCl Tryz.func141 (A2)) ?_; refine Ko (xFa tf_Interval1 tk_Dyadic) ?_; refine Ko (xLa tk_Dyadic) ?_; refine Ko (by first | exact xCl Tryz.func141 (A1) | exact xCl Tryz.func141 (A2)) ?_; refine Kn (by exact ok_build2 rfl ts_s_Dyadic tz_Dyadic rfl rfl rfl rfl (by decide) (by decide)) ?_; refine Ko (xCl Tryz.func96 (SP)) ?_; refine Kn (xAl tz_Interval) ?_; refine Ke ?_; refine Js (xSk tk_Interval) ?_) | (refine Tx 3 ?_; refine Jo (xFa tf_Interval0 tk_Dyadic) ?_; refine Jo (xLa tk_Dyadic) ?_; refine Jo (by first | exact xCl Tryz.func126 (G1) | exact xCl Tryz.func126 (G2)) ?_; refine Jo xLt ?_; refine Jm ?_; (first | iterate 4 refine Jd ?_ | (refine Jy (xFa tf_Interval1 tk_Dyadic) ?_; refine Jy (xLa tk_Dyadic) ?_; refine Jy (by first | exact xCl Tryz.func126 (G1) | exact xCl Tryz.func126 (G2)) ?_; refine Jy xGt ?_)); refine Jo xPk ?_) | (refine Tx 4 ?_; refine Jo (by exact ok_build rfl tb_Dyadic rfl rfl) ?_; refine Jo (xFa tf_Interval0 tk_Dyadic) ?_; refine Js (xSk tk_Dyadic) ?_) | (refine Tx 5 ?_; refine Jo (xLa tk_Interval) ?_; refine Js (xSk tk_Interval) ?_))
      exact ret_q rfl (.cons_ (rvJ0 tk_Interval rfl) .nil_)
    rw [show sgI a.1.1 = -1 by unfold sgI; (repeat' split) <;> omega] at G1
    have g2 : sgI a.2.1 ≤ 0 := by unfold sgI; (repeat' split) <;> omega
    generalize sgI a.2.1 = g at *
    rw [show iAbs a = spanL [qAbs a.1, qAbs a.2] from if_neg (fun h => c2 h.2)]
    repeat' (with_reducible first | apply qa | apply qb | apply qc | apply qd | apply qe | apply qf | apply qg | apply qh | apply qi | apply qj | apply qk | apply ql rfl | apply qm rfl | apply qn rfl | apply Je | (refine Tx 0 ?_; refine Jn xBo ?_; refine Jn (xAl tz_Interval) ?_) | (refine Tx 1 ?_; refine Jo (xLa tk_Interval) ?_; refine Jo (xCl Tryz.func70 (AR)) ?_; refine Js (xSk tk_Interval) ?_) | (refine cw_part (id := 2) 9 mixed (by kernel_rfl) ?_; dsimp only [List.take, List.drop]; refine Ko (xFa tf_Interval0 tk_Dyadic) ?_; refine Ko (xLa tk_Dyadic) ?_; refine Ko (by first | exact xCl Tryz.func141 (A1) | exact xCl Tryz.func141 (A2)) ?_; refine Ko (xFa tf_Interval1 tk_Dyadic) ?_; refine Ko (xLa tk_Dyadic) ?_; refine Ko (by first | exact xCl Tryz.func141 (A1) | exact xCl Tryz.func141 (A2)) ?_; refine Kn (by exact ok_build2 rfl ts_s_Dyadic tz_Dyadic rfl rfl rfl rfl (by decide) (by decide)) ?_; refine Ko (xCl Tryz.func96 (SP)) ?_; refine Kn (xAl tz_Interval) ?_; refine Ke ?_; refine Js (xSk tk_Interval) ?_) | (refine Tx 3 ?_; refine Jo (xFa tf_Interval0 tk_Dyadic) ?_; refine Jo (xLa tk_Dyadic) ?_; refine Jo (by first | exact xCl Tryz.func126 (G1) | exact xCl Tryz.func126 (G2)) ?_; refine Jo xLt ?_; refine Jm ?_; (first | iterate 4 refine Jd ?_ | (refine Jy (xFa tf_Interval1 tk_Dyadic) ?_; refine Jy (xLa tk_Dyadic) ?_; refine Jy (by first | exact xCl Tryz.func126 (G1) | exact xCl Tryz.func126 (G2)) ?_; refine Jy xGt ?_)); refine Jo xPk ?_) | (refine Tx 5 ?_; refine Jo (xLa tk_Interval) ?_; refine Js (xSk tk_Interval) ?_))
    exact ret_q rfl (.cons_ (rvJ tk_Interval rfl) .nil_)
  have g1 : 0 ≤ sgI a.1.1 := by unfold sgI; (repeat' split) <;> omega
  generalize sgI a.1.1 = g at *
  rw [show iAbs a = spanL [qAbs a.1, qAbs a.2] from if_neg (fun h => c1 h.1)]
  repeat' (with_reducible first | apply qa | apply qb | apply qc | apply qd | apply qe | apply qf | apply qg | apply qh | apply qi | apply qj | apply qk | apply ql rfl | apply qm rfl | apply qn rfl | apply Je | (refine Tx 0 ?_; refine Jn xBo ?_; refine Jn (xAl tz_Interval) ?_) | (refine Tx 1 ?_; refine Jo (xLa tk_Interval) ?_; refine Jo (xCl Tryz.func70 (AR)) ?_; refine Js (xSk tk_Interval) ?_) | (refine cw_part (id := 2) 9 mixed (by kernel_rfl) ?_; dsimp only [List.take, List.drop]; refine Ko (xFa tf_Interval0 tk_Dyadic) ?_; refine Ko (xLa tk_Dyadic) ?_; refine Ko (by first | exact xCl Tryz.func141 (A1) | exact xCl Tryz.func141 (A2)) ?_; refine Ko (xFa tf_Interval1 tk_Dyadic) ?_; refine Ko (xLa tk_Dyadic) ?_; refine Ko (by first | exact xCl Tryz.func141 (A1) | exact xCl Tryz.func141 (A2)) ?_; refine Kn (by exact ok_build2 rfl ts_s_Dyadic tz_Dyadic rfl rfl rfl rfl (by decide) (by decide)) ?_; refine Ko (xCl Tryz.func96 (SP)) ?_; refine Kn (xAl tz_Interval) ?_; refine Ke ?_; refine Js (xSk tk_Interval) ?_) | (refine Tx 3 ?_; refine Jo (xFa tf_Interval0 tk_Dyadic) ?_; refine Jo (xLa tk_Dyadic) ?_; refine Jo (by first | exact xCl Tryz.func126 (G1) | exact xCl Tryz.func126 (G2)) ?_; refine Jo xLt ?_; refine Jm ?_; (first | iterate 4 refine Jd ?_ | (refine Jy (xFa tf_Interval1 tk_Dyadic) ?_; refine Jy (xLa tk_Dyadic) ?_; refine Jy (by first | exact xCl Tryz.func126 (G1) | exact xCl Tryz.func126 (G2)) ?_; refine Jy xGt ?_)); refine Jo xPk ?_) | (refine Tx 5 ?_; refine Jo (xLa tk_Interval) ?_; refine Js (xSk tk_Interval) ?_))
  exact ret_q rfl (.cons_ (rvJ tk_Interval rfl) .nil_)
theorem piclip_cv (a : Iq) (v u : Pq) (h : IwS a 20000 20000) (hv : Sm v 20000 20000) (hu : Sm u 20000 20000) (hvu : qCmp v u ≤ 0) : CV Tryz.prog TabAt 108 [aIw false a, aDy false v.1 v.2, aDy false u.1 u.2] [aIw false (iClip a v u), aE 0] := by
  refine cvz Tryz.func108 Tryz.ntmps108 ?_
  have CM := pdcmp_cv v.1 v.2 u.1 u.2 hv.ok hu.ok (Nat.le_trans (hv.lenN 625 (by decide)) (by decide)) (Nat.le_trans (hu.lenN 625 (by decide)) (by decide))
  have PV := pipoint_cv v hv.ok (Nat.le_trans (hv.lenN 625 (by decide)) (by decide))
  have PU := pipoint_cv u hu.ok (Nat.le_trans (hu.lenN 625 (by decide)) (by decide))
  have MX := pimax_cv a (v, v) h (.pt hv)
  have MN := pimin_cv (iMax a (v, v)) (u, u) (h.max (.pt hv)) (.pt hu)
  have hle : qCmp v u ≤ 0 := hvu
  unfold qCmp at hle
  repeat' (with_reducible first | apply qa | apply qb | apply qc | apply qd | apply qe | apply qf | apply qg | apply qh | apply qi | apply qj | apply qk | apply ql rfl | apply qm rfl | apply qn rfl | apply Je | (refine Tx 0 ?_; refine Jn xBo ?_; refine Jn xBo ?_; refine Jn xBo ?_; refine Jn (xAl tz_Interval) ?_; refine Ja ?_) | (refine Tx 1 ?_; refine Jo (xLa tk_Dyadic) ?_; refine Jo (xLa tk_Dyadic) ?_; refine Jo (xCl Tryz.func60 (CM)) ?_; refine Jo xGt ?_) | (refine cw_part (id := 3) 7 mixed (by kernel_rfl) ?_; dsimp only [List.take, List.drop]; refine Ko (xLa tk_Interval) ?_; refine Ko (xLa tk_Dyadic) ?_; refine Ko (by first | exact xCl Tryz.func57 (PV) | exact xCl Tryz.func57 (PU)) ?_; refine Ko (xCl Tryz.func107 (MX)) ?_; refine Ko (xLa tk_Dyadic) ?_; refine Ko (by first | exact xCl Tryz.func57 (PV) | exact xCl Tryz.func57 (PU)) ?_; refine Ko (xCl Tryz.func106 (MN)) ?_; refine Ke ?_; refine Js (xSk tk_Interval) ?_; refine Ja ?_))
  exact ret_q rfl (.cons_ (rvJ tk_Interval rfl) (.cons_ (rv_e0 rfl rfl) .nil_))
theorem piround_cv (a : Iq) (den : Nat) (h : IwS a 20000 20000) (hd : den ≤ 65536) : CV Tryz.prog TabAt 59 [aIw false a, aI (den : Int)] [aIw false (iRound a den), aE 0] := by
  refine cvz Tryz.func59 Tryz.ntmps59 ?_
  have h1 := h.s1
  have h2 := h.s2
  have hl := h1.l4
  have hm := h2.l4
  have AR := piarg_s a h
  have FL := (pdfloor_cv a.1.1 a.1.2 den h1.ok hl hd).cv
  have CE := pdceil_cv a.2.1 a.2.2 den h2.ok hm hd
  repeat' (with_reducible first | apply qa | apply qb | apply qc | apply qd | apply qe | apply qf | apply qg | apply qh | apply qi | apply qj | apply qk | apply ql rfl | apply qm rfl | apply qn rfl | apply Je | (refine Tx 0 ?_; refine Jn xBo ?_; refine Jn (xAl tz_Interval) ?_; refine Ja ?_) | (refine Tx 1 ?_; refine Jo (xLa tk_Interval) ?_; refine Jo (xCl Tryz.func70 (AR)) ?_; refine Js (xSk tk_Interval) ?_) | (refine Tx 2 ?_; refine Jo (xFa tf_Interval0 tk_Dyadic) ?_; refine Jo (xLa tk_Dyadic) ?_; refine Jm ?_; refine Jo (xCl Tryz.func124 (FL)) ?_; refine Jo xMt ?_; refine Jo (by exact ok_exA rfl rfl rfl) ?_; refine Jo xEx ?_; refine Jn (xAl tz_Dyadic) ?_; refine Js (xSk tk_Dyadic) ?_; refine Ja ?_) | (refine Tx 3 ?_; refine Jm ?_; refine Jo (xNE ti_error) ?_) | (refine Tx 5 ?_; refine Jo (xFa tf_Interval1 tk_Dyadic) ?_; refine Jo (xLa tk_Dyadic) ?_; refine Jm ?_; refine Jo (xCl Tryz.func125 (CE)) ?_; refine Jo xMt ?_; refine Jo (by exact ok_exA rfl rfl rfl) ?_; refine Jo xEx ?_; refine Jn (xAl tz_Dyadic) ?_; refine Js (xSk tk_Dyadic) ?_; refine Ja ?_) | (refine Tx 6 ?_; refine Jm ?_; refine Jo (xNE ti_error) ?_) | (refine Tx 8 ?_; refine Jo (xLa tk_Dyadic) ?_; refine Jo (xLa tk_Dyadic) ?_; refine Jo (by exact ok_build rfl tb_Interval rfl rfl) ?_; refine Js (xSk tk_Interval) ?_; refine Ja ?_))
  exact ret_q rfl (.cons_ (rvJ tk_Interval rfl) (.cons_ (rv_e0 rfl rfl) .nil_))
theorem piinside_cv (a b : Iq) (h : IwS a 20000 20000) (k : IwS b 20000 20000) : CV Tryz.prog TabAt 25 [aIw false a, aIw false b] [aB (iIn a b)] := by
  refine cvz Tryz.func25 Tryz.ntmps25 ?_
  have h1 := h.s1
  have h2 := h.s2
  have hl := h1.l4
  have hm := h2.l4
  have k1 := k.s1
  have k2 := k.s2
  have kl := k1.l4
  have km := k2.l4
  have AA := piarg_s a h
  have AB := piarg_s b k
  have C1 := pdcmp_cv b.1.1 b.1.2 a.1.1 a.1.2 k1.ok h1.ok kl hl
  have C2 := pdcmp_cv a.2.1 a.2.2 b.2.1 b.2.2 h2.ok k2.ok hm km
  by_cases c1 : dyCmp b.1.1 b.1.2 a.1.1 a.1.2 ≤ 0
  case neg =>
    repeat' (with_reducible first | apply qa | apply qb | apply qc | apply qd | apply qe | apply qf | apply qg | apply qh | apply qi | apply qj | apply qk | apply ql rfl | apply qm rfl | apply qn rfl | apply Je | (refine Tx 0 ?_; refine Jn xBo ?_; refine Jn xBo ?_; refine Ja ?_) | (refine cw_part (id := 1) 4 mixed (by kernel_rfl) ?_; dsimp only [List.take, List.drop]; refine Ko (xLa tk_Interval) ?_; refine Ko (by first | exact xCl Tryz.func70 (AA) | exact xCl Tryz.func70 (AB)) ?_; refine Ko (xLa tk_Interval) ?_; refine Ko (by first | exact xCl Tryz.func70 (AA) | exact xCl Tryz.func70 (AB)) ?_; refine Ke ?_; refine Js (xSk tk_Interval) ?_; refine Js (xSk tk_Interval) ?_) | (refine Tx 2 ?_; refine Jo (xFa tf_Interval0 tk_Dyadic) ?_; refine Jo (xLa tk_Dyadic) ?_; refine Jo (xFa tf_Interval0 tk_Dyadic) ?_; refine Jo (xLa tk_Dyadic) ?_; refine Jo (by first | exact xCl Tryz.func60 (C1) | exact xCl Tryz.func60 (C2)) ?_; refine Jo xLe ?_; refine Jm ?_; (first | iterate 6 refine Jd ?_ | (refine Jy (xFa tf_Interval1 tk_Dyadic) ?_; refine Jy (xLa tk_Dyadic) ?_; refine Jy (xFa tf_Interval1 tk_Dyadic) ?_; refine Jy (xLa tk_Dyadic) ?_; refine Jy (by first | exact xCl Tryz.func60 (C1) | exact xCl Tryz.func60 (C2)) ?_; refine Jy xLe ?_)); refine Jo xPk ?_; refine Ja ?_))
    exact ret_q rfl (.cons_ (rv_b rfl (by unfold iIn; rw [decide_eq_false c1]; rfl)) .nil_)
  by_cases c2 : dyCmp a.2.1 a.2.2 b.2.1 b.2.2 ≤ 0
  case pos =>
    repeat' (with_reducible first | apply qa | apply qb | apply qc | apply qd | apply qe | apply qf | apply qg | apply qh | apply qi | apply qj | apply qk | apply ql rfl | apply qm rfl | apply qn rfl | apply Je | (refine Tx 0 ?_; refine Jn xBo ?_; refine Jn xBo ?_; refine Ja ?_) | (refine cw_part (id := 1) 4 mixed (by kernel_rfl) ?_; dsimp only [List.take, List.drop]; refine Ko (xLa tk_Interval) ?_; refine Ko (by first | exact xCl Tryz.func70 (AA) | exact xCl Tryz.func70 (AB)) ?_; refine Ko (xLa tk_Interval) ?_; refine Ko (by first | exact xCl Tryz.func70 (AA) | exact xCl Tryz.func70 (AB)) ?_; refine Ke ?_; refine Js (xSk tk_Interval) ?_; refine Js (xSk tk_Interval) ?_) | (refine Tx 2 ?_; refine Jo (xFa tf_Interval0 tk_Dyadic) ?_; refine Jo (xLa tk_Dyadic) ?_; refine Jo (xFa tf_Interval0 tk_Dyadic) ?_; refine Jo (xLa tk_Dyadic) ?_; refine Jo (by first | exact xCl Tryz.func60 (C1) | exact xCl Tryz.func60 (C2)) ?_; refine Jo xLe ?_; refine Jm ?_; (first | iterate 6 refine Jd ?_ | (refine Jy (xFa tf_Interval1 tk_Dyadic) ?_; refine Jy (xLa tk_Dyadic) ?_; refine Jy (xFa tf_Interval1 tk_Dyadic) ?_; refine Jy (xLa tk_Dyadic) ?_; refine Jy (by first | exact xCl Tryz.func60 (C1) | exact xCl Tryz.func60 (C2)) ?_; refine Jy xLe ?_)); refine Jo xPk ?_; refine Ja ?_))
    exact ret_q rfl (.cons_ (rv_b rfl (by unfold iIn; rw [decide_eq_true c1, decide_eq_true c2]; rfl)) .nil_)
  case neg =>
    repeat' (with_reducible first | apply qa | apply qb | apply qc | apply qd | apply qe | apply qf | apply qg | apply qh | apply qi | apply qj | apply qk | apply ql rfl | apply qm rfl | apply qn rfl | apply Je | (refine Tx 0 ?_; refine Jn xBo ?_; refine Jn xBo ?_; refine Ja ?_) | (refine cw_part (id := 1) 4 mixed (by kernel_rfl) ?_; dsimp only [List.take, List.drop]; refine Ko (xLa tk_Interval) ?_; refine Ko (by first | exact xCl Tryz.func70 (AA) | exact xCl Tryz.func70 (AB)) ?_; refine Ko (xLa tk_Interval) ?_; refine Ko (by first | exact xCl Tryz.func70 (AA) | exact xCl Tryz.func70 (AB)) ?_; refine Ke ?_; refine Js (xSk tk_Interval) ?_; refine Js (xSk tk_Interval) ?_) | (refine Tx 2 ?_; refine Jo (xFa tf_Interval0 tk_Dyadic) ?_; refine Jo (xLa tk_Dyadic) ?_; refine Jo (xFa tf_Interval0 tk_Dyadic) ?_; refine Jo (xLa tk_Dyadic) ?_; refine Jo (by first | exact xCl Tryz.func60 (C1) | exact xCl Tryz.func60 (C2)) ?_; refine Jo xLe ?_; refine Jm ?_; (first | iterate 6 refine Jd ?_ | (refine Jy (xFa tf_Interval1 tk_Dyadic) ?_; refine Jy (xLa tk_Dyadic) ?_; refine Jy (xFa tf_Interval1 tk_Dyadic) ?_; refine Jy (xLa tk_Dyadic) ?_; refine Jy (by first | exact xCl Tryz.func60 (C1) | exact xCl Tryz.func60 (C2)) ?_; refine Jy xLe ?_)); refine Jo xPk ?_; refine Ja ?_))
    exact ret_q rfl (.cons_ (rv_b rfl (by unfold iIn; rw [decide_eq_true c1, decide_eq_false c2]; rfl)) .nil_)
theorem picontains_cv (a : Iq) (p : Pq) (h : IwS a 20000 20000) (hp : Sm p 20000 20000) : CV Tryz.prog TabAt 37 [aIw false a, aDy false p.1 p.2] [aB (iIn (p, p) a)] := by
  refine cvz Tryz.func37 Tryz.ntmps37 ?_
  have PT := pipoint_cv p hp.ok (Nat.le_trans (hp.lenN 625 (by decide)) (by decide))
  have IN := piinside_cv (p, p) a (.pt hp) h
  repeat' (with_reducible first | apply qa | apply qb | apply qc | apply qd | apply qe | apply qf | apply qg | apply qh | apply qi | apply qj | apply qk | apply ql rfl | apply qm rfl | apply qn rfl | apply Je | (refine Tx 0 ?_; refine Jn xBo ?_; refine Jn xBo ?_; refine Ja ?_) | (refine cw_any (id := 1) mixed (by kernel_rfl) ?_; refine Ko (xLa tk_Dyadic) ?_; refine Ko (xCl Tryz.func57 (PT)) ?_; refine Ko (xLa tk_Interval) ?_; refine Ko (xCl Tryz.func25 (IN)) ?_; refine Ka ?_; refine Ke ?_))
  exact ret_q rfl (.cons_ (rv_b rfl rfl) .nil_)
theorem pimag_cv (a : Iq) (h : IwS a 20000 20000) : CV Tryz.prog TabAt 122 [aIw false a] [aDy false (iMag a).1 (iMag a).2] := by
  refine cvz Tryz.func122 Tryz.ntmps122 ?_
  have AB := piabs_cv a h
  repeat' (with_reducible first | apply qa | apply qb | apply qc | apply qd | apply qe | apply qf | apply qg | apply qh | apply qi | apply qj | apply qk | apply ql rfl | apply qm rfl | apply qn rfl | apply Je | (refine Tx 0 ?_; refine Jn xBo ?_; refine Jn (xAl tz_Dyadic) ?_) | (refine Tx 1 ?_; refine Jo (xLa tk_Interval) ?_; refine Jo (xCl Tryz.func105 (AB)) ?_; refine Jo (by exact ok_fieldA rfl rfl tf_Interval1 tk_Dyadic rfl) ?_; refine Js (xSk tk_Dyadic) ?_))
  exact ret_q rfl (.cons_ (rvW tk_Dyadic rfl) .nil_)
def nrmR (r s : Rv) : Iq := if ivR r s = true then (rvP r, rvP s) else ((0, 0), (0, 0))
theorem iw_ext {a b : Iq} {n d n' d' : Nat} (h : IwS a n d) (k : IwS b n' d') (e1 : gv a.1 = gv b.1) (e2 : gv a.2 = gv b.2) : a = b := Prod.ext (gv_inj h.s1.ok k.s1.ok e1) (gv_inj h.s2.ok k.s2.ok e2)
theorem raw_ok {r s : Rv} (hr : RvL r) (hs : RvL s) (h : ivR r s = true) : dIr false (r, s) = dIw false (rvP r, rvP s) ∧ Nf (rvP r).1 (rvP r).2 ∧ Nf (rvP s).1 (rvP s).2 ∧ gv (rvP r) ≤ gv (rvP s) ∧ (canon (rvP r).1.natAbs).length = r.ws.length ∧ (canon (rvP s).1.natAbs).length = s.ws.length := by
  unfold ivR at h
  rw [Bool.and_eq_true, Bool.and_eq_true] at h
  obtain ⟨⟨h1, h2⟩, h3⟩ := h
  obtain ⟨e1, n1, k1⟩ := rv_dy (t := false) hr.1 h1
  obtain ⟨e2, n2, k2⟩ := rv_dy (t := false) hs.1 h2
  refine ⟨?_, n1, n2, (cmp_le (p := rvP r) (q := rvP s) n1.le n2.le).1 (of_decide_eq_true h3), k1, k2⟩
  show dRv false r ++ dRv false s = _
  rw [e1, e2]
  rfl
theorem nrm_of {a : Iq} {n d : Nat} (h : IwS a n d) : nrmR (rvOf a.1) (rvOf a.2) = a := by unfold nrmR; rw [if_pos (iv_of h), rvOf_P, rvOf_P]
theorem rivalid_cv (r s : Rv) (hr : RvL r) (hs : RvL s) : CV Tryz.prog TabAt 52 [.agg (dIr false (r, s))] [aB (ivR r s)] := by
  refine cvz Tryz.func52 Tryz.ntmps52 ?_
  have V1 := (dvalid_cv (G := TabAt) false r hr.1 (Nat.le_trans hr.2 (by decide))).cv
  have V2 := (dvalid_cv (G := TabAt) false s hs.1 (Nat.le_trans hs.2 (by decide))).cv
  by_cases c1 : vdB r.rw = true
  case neg =>
    rw [Bool.not_eq_true] at c1
    rw [c1] at V1
    repeat' (with_reducible first | apply qa | apply qb | apply qc | apply qd | apply qe | apply qf | apply qg | apply qh | apply qi | apply qj | apply qk | apply ql rfl | apply qm rfl | apply qn rfl | apply Je | (refine Tx 0 ?_; refine Jn xBo ?_; refine Ja ?_) | (refine Tx 1 ?_; refine Jo (xFa tf_Interval0 tk_Dyadic) ?_; refine Jo (xLa tk_Dyadic) ?_; refine Jo (xCl Tryz.func115 (V1)) ?_; refine Jm ?_; (first | iterate 3 refine Jd ?_ | (refine Jy (xFa tf_Interval1 tk_Dyadic) ?_; refine Jy (xLa tk_Dyadic) ?_; refine Jy (xCl Tryz.func115 (V1)) ?_)); refine Jo xPk ?_; refine Jm ?_; (first | iterate 4 refine Jd ?_ | (refine Jy (xFa tf_Interval0 tk_Dyadic) ?_; refine Jy (xLa tk_Dyadic) ?_; refine Jy (xFa tf_Interval1 tk_Dyadic) ?_; refine Jy (xLa tk_Dyadic) ?_)); refine Jd ?_; (first | refine Jd ?_ | refine Jy xLe ?_); refine Jo xPk ?_; refine Ja ?_))
    exact ret_q rfl (.cons_ (rv_b rfl (by unfold ivR; rw [c1]; rfl)) .nil_)
  by_cases c2 : vdB s.rw = true
  case neg =>
    rw [Bool.not_eq_true] at c2
    rw [c1] at V1
    rw [c2] at V2
    repeat' (with_reducible first | apply qa | apply qb | apply qc | apply qd | apply qe | apply qf | apply qg | apply qh | apply qi | apply qj | apply qk | apply ql rfl | apply qm rfl | apply qn rfl | apply Je | (refine Tx 0 ?_; refine Jn xBo ?_; refine Ja ?_) | (refine Tx 1 ?_; refine Jo (xFa tf_Interval0 tk_Dyadic) ?_; refine Jo (xLa tk_Dyadic) ?_; refine Jo (xCl Tryz.func115 (V1)) ?_; refine Jm ?_; (first | iterate 3 refine Jd ?_ | (refine Jy (xFa tf_Interval1 tk_Dyadic) ?_; refine Jy (xLa tk_Dyadic) ?_; refine Jy (xCl Tryz.func115 (V2)) ?_)); refine Jo xPk ?_; refine Jm ?_; (first | iterate 4 refine Jd ?_ | (refine Jy (xFa tf_Interval0 tk_Dyadic) ?_; refine Jy (xLa tk_Dyadic) ?_; refine Jy (xFa tf_Interval1 tk_Dyadic) ?_; refine Jy (xLa tk_Dyadic) ?_)); refine Jd ?_; (first | refine Jd ?_ | refine Jy xLe ?_); refine Jo xPk ?_; refine Ja ?_))
    exact ret_q rfl (.cons_ (rv_b rfl (by unfold ivR; rw [c1, c2]; rfl)) .nil_)
  rw [c1] at V1
  rw [c2] at V2
  obtain ⟨e1, n1, k1⟩ := rv_dy (t := false) hr.1 c1
  obtain ⟨e2, n2, k2⟩ := rv_dy (t := false) hs.1 c2
  have CM := (dcmp_cv (G := TabAt) false false r.rw.x r.rw.d s.rw.x s.rw.d n1 n2 (Nat.le_trans (Nat.le_of_eq k1) (Nat.le_trans hr.2 (by decide))) (Nat.le_trans (Nat.le_of_eq k2) (Nat.le_trans hs.2 (by decide)))).cv
  unfold aDy at CM
  rw [← e1, ← e2] at CM
  by_cases c3 : dyCmp r.rw.x r.rw.d s.rw.x s.rw.d ≤ 0
  case pos =>
    repeat' (with_reducible first | apply qa | apply qb | apply qc | apply qd | apply qe | apply qf | apply qg | apply qh | apply qi | apply qj | apply qk | apply ql rfl | apply qm rfl | apply qn rfl | apply Je | (refine Tx 0 ?_; refine Jn xBo ?_; refine Ja ?_) | (refine Tx 1 ?_; refine Jo (xFa tf_Interval0 tk_Dyadic) ?_; refine Jo (xLa tk_Dyadic) ?_; refine Jo (xCl Tryz.func115 (V1)) ?_; refine Jm ?_; (first | iterate 3 refine Jd ?_ | (refine Jy (xFa tf_Interval1 tk_Dyadic) ?_; refine Jy (xLa tk_Dyadic) ?_; refine Jy (xCl Tryz.func115 (V2)) ?_)); refine Jo xPk ?_; refine Jm ?_; (first | iterate 6 refine Jd ?_ | (refine Jy (xFa tf_Interval0 tk_Dyadic) ?_; refine Jy (xLa tk_Dyadic) ?_; refine Jy (xFa tf_Interval1 tk_Dyadic) ?_; refine Jy (xLa tk_Dyadic) ?_; refine Jy (xCl Tryz.func73 (CM)) ?_; refine Jy xLe ?_)); refine Jo xPk ?_; refine Ja ?_))
    exact ret_q rfl (.cons_ (rv_b rfl (by unfold ivR; rw [c1, c2, decide_eq_true c3]; rfl)) .nil_)
  case neg =>
    repeat' (with_reducible first | apply qa | apply qb | apply qc | apply qd | apply qe | apply qf | apply qg | apply qh | apply qi | apply qj | apply qk | apply ql rfl | apply qm rfl | apply qn rfl | apply Je | (refine Tx 0 ?_; refine Jn xBo ?_; refine Ja ?_) | (refine Tx 1 ?_; refine Jo (xFa tf_Interval0 tk_Dyadic) ?_; refine Jo (xLa tk_Dyadic) ?_; refine Jo (xCl Tryz.func115 (V1)) ?_; refine Jm ?_; (first | iterate 3 refine Jd ?_ | (refine Jy (xFa tf_Interval1 tk_Dyadic) ?_; refine Jy (xLa tk_Dyadic) ?_; refine Jy (xCl Tryz.func115 (V2)) ?_)); refine Jo xPk ?_; refine Jm ?_; (first | iterate 6 refine Jd ?_ | (refine Jy (xFa tf_Interval0 tk_Dyadic) ?_; refine Jy (xLa tk_Dyadic) ?_; refine Jy (xFa tf_Interval1 tk_Dyadic) ?_; refine Jy (xLa tk_Dyadic) ?_; refine Jy (xCl Tryz.func73 (CM)) ?_; refine Jy xLe ?_)); refine Jo xPk ?_; refine Ja ?_))
    exact ret_q rfl (.cons_ (rv_b rfl (by unfold ivR; rw [c1, c2, decide_eq_false c3]; rfl)) .nil_)
theorem rvJ1 {P : Program} {F : Frm} {H : List Ob} {t : Tmp} {ty ty' id k : Nat} (hk : TyK P ty true k) (hi : 6 = k) (hF : F t = .one (.ref id 0 none) := by with_unfolding_all exact rfl) (hH : H[id]? = some (.box ty' [.d (.val (.bool false)), .d (.val (.slice none 0 0)), .d (.val (.int .i64 0)), .d (.val (.bool false)), .d (.val (.slice none 0 0)), .d (.val (.int .i64 0))]) := by with_unfolding_all exact rfl) : RV P F H (.cell t ty) (.agg [.val (.bool false), .row false 1 0 [], .val (.int .i64 0), .val (.bool false), .row false 1 0 [], .val (.int .i64 0)]) := by
  obtain ⟨⟨dd, hu, hd⟩, hz⟩ := hk
  exact .cellA hF hH hu hd (by rw [hz, ← hi]; rfl) (.cons_ (.d fun _ => .val _) (.cons_ .nil (.cons_ (.d fun _ => .val _) (.cons_ (.d fun _ => .val _) (.cons_ .nil (.cons_ (.d fun _ => .val _) .nil_))))))
theorem rinorm_cv (r s : Rv) (hr : RvL r) (hs : RvL s) : CV Tryz.prog TabAt 72 [.agg (dIr false (r, s))] [aIw false (nrmR r s)] := by
  refine cvz Tryz.func72 Tryz.ntmps72 ?_
  have V := rivalid_cv r s hr hs
  by_cases c : ivR r s = true
  case pos =>
    rw [show nrmR r s = (rvP r, rvP s) from if_pos c]
    rw [c, (raw_ok hr hs c).1] at V
    rw [(raw_ok hr hs c).1]
    repeat' (with_reducible first | apply qa | apply qb | apply qc | apply qd | apply qe | apply qf | apply qg | apply qh | apply qi | apply qj | apply qk | apply ql rfl | apply qm rfl | apply qn rfl | apply Je | (refine Tx 0 ?_; refine Jn xBo ?_; refine Jn (xAl tz_Interval) ?_) | (refine Tx 1 ?_; refine Jo (xLa tk_Interval) ?_; refine Jo (xCl Tryz.func52 (V)) ?_) | (refine Tx 2 ?_; refine Jo (xLa tk_Interval) ?_; refine Js (xSk tk_Interval) ?_))
    exact ret_q rfl (.cons_ (rvJ tk_Interval rfl) .nil_)
  rw [show nrmR r s = ((0, 0), (0, 0)) from if_neg c]
  rw [Bool.not_eq_true] at c
  rw [c] at V
  unfold aIw
  rw [iw_zero]
  repeat' (with_reducible first | apply qa | apply qb | apply qc | apply qd | apply qe | apply qf | apply qg | apply qh | apply qi | apply qj | apply qk | apply ql rfl | apply qm rfl | apply qn rfl | apply Je | (refine Tx 0 ?_; refine Jn xBo ?_; refine Jn (xAl tz_Interval) ?_) | (refine Tx 1 ?_; refine Jo (xLa tk_Interval) ?_; refine Jo (xCl Tryz.func52 (V)) ?_) | (refine Tx 3 ?_; refine Jo (by exact ok_build rfl tb_Interval rfl rfl) ?_; refine Js (xSk tk_Interval) ?_))
  exact ret_q rfl (.cons_ (rvJ1 tk_Interval rfl) .nil_)
theorem rinorm_iw (a : Iq) {n d : Nat} (h : IwS a n d) (hn : n ≤ 1280000) : CV Tryz.prog TabAt 72 [aIw false a] [aIw false a] := by
  have := rinorm_cv (rvOf a.1) (rvOf a.2) (rvOf_L h.s1 hn) (rvOf_L h.s2 hn)
  rw [nrm_of h] at this
  unfold dIr at this
  rwa [rvOf_D, rvOf_D] at this
def IwL (a : Iq) : Prop := (canon a.1.1.natAbs).length ≤ 1000000 ∧ (canon a.2.1.natAbs).length ≤ 1000000
theorem IwS.L {a : Iq} {n d : Nat} (h : IwS a n d) (hn : n ≤ 1280000) : IwL a := ⟨Nat.le_trans (h.s1.lenN 40000 (by omega)) (by decide), Nat.le_trans (h.s2.lenN 40000 (by omega)) (by decide)⟩
theorem risame_cv (a b : Iq) (ha : IwL a) (hb : IwL b) : CV Tryz.prog TabAt 31 [aIw false a, aIw false b] [aB (decide (a = b))] := by
  refine cvz Tryz.func31 Tryz.ntmps31 ?_
  have S1 := dsame_cv false false a.1 b.1 ha.1 hb.1
  have S2 := dsame_cv false false a.2 b.2 ha.2 hb.2
  by_cases c1 : a.1 = b.1
  case neg =>
    rw [decide_eq_false c1] at S1
    repeat' (with_reducible first | apply qa | apply qb | apply qc | apply qd | apply qe | apply qf | apply qg | apply qh | apply qi | apply qj | apply qk | apply ql rfl | apply qm rfl | apply qn rfl | apply Je | (refine Tx 0 ?_; refine Jn xBo ?_; refine Jn xBo ?_; refine Ja ?_) | (refine Tx 1 ?_; refine Jo (xFa tf_Interval0 tk_Dyadic) ?_; refine Jo (xLa tk_Dyadic) ?_; refine Jo (xFa tf_Interval0 tk_Dyadic) ?_; refine Jo (xLa tk_Dyadic) ?_; refine Jo (xCl Tryz.func83 (S1)) ?_; refine Jm ?_; (first | iterate 4 refine Jd ?_ | (refine Jy (xFa tf_Interval1 tk_Dyadic) ?_; refine Jy (xLa tk_Dyadic) ?_; refine Jy (xFa tf_Interval1 tk_Dyadic) ?_; refine Jy (xLa tk_Dyadic) ?_)); refine Jd ?_; refine Jo xPk ?_; refine Ja ?_))
    exact ret_q rfl (.cons_ (rv_b rfl ((decide_eq_false fun h => c1 (by rw [h])).symm)) .nil_)
  rw [decide_eq_true c1] at S1
  by_cases c2 : a.2 = b.2
  case pos =>
    rw [decide_eq_true c2] at S2
    repeat' (with_reducible first | apply qa | apply qb | apply qc | apply qd | apply qe | apply qf | apply qg | apply qh | apply qi | apply qj | apply qk | apply ql rfl | apply qm rfl | apply qn rfl | apply Je | (refine Tx 0 ?_; refine Jn xBo ?_; refine Jn xBo ?_; refine Ja ?_) | (refine Tx 1 ?_; refine Jo (xFa tf_Interval0 tk_Dyadic) ?_; refine Jo (xLa tk_Dyadic) ?_; refine Jo (xFa tf_Interval0 tk_Dyadic) ?_; refine Jo (xLa tk_Dyadic) ?_; refine Jo (xCl Tryz.func83 (S1)) ?_; refine Jm ?_; (first | iterate 5 refine Jd ?_ | (refine Jy (xFa tf_Interval1 tk_Dyadic) ?_; refine Jy (xLa tk_Dyadic) ?_; refine Jy (xFa tf_Interval1 tk_Dyadic) ?_; refine Jy (xLa tk_Dyadic) ?_; refine Jy (xCl Tryz.func83 (S2)) ?_)); refine Jo xPk ?_; refine Ja ?_))
    exact ret_q rfl (.cons_ (rv_b rfl ((decide_eq_true (Prod.ext c1 c2)).symm)) .nil_)
  case neg =>
    rw [decide_eq_false c2] at S2
    repeat' (with_reducible first | apply qa | apply qb | apply qc | apply qd | apply qe | apply qf | apply qg | apply qh | apply qi | apply qj | apply qk | apply ql rfl | apply qm rfl | apply qn rfl | apply Je | (refine Tx 0 ?_; refine Jn xBo ?_; refine Jn xBo ?_; refine Ja ?_) | (refine Tx 1 ?_; refine Jo (xFa tf_Interval0 tk_Dyadic) ?_; refine Jo (xLa tk_Dyadic) ?_; refine Jo (xFa tf_Interval0 tk_Dyadic) ?_; refine Jo (xLa tk_Dyadic) ?_; refine Jo (xCl Tryz.func83 (S1)) ?_; refine Jm ?_; (first | iterate 5 refine Jd ?_ | (refine Jy (xFa tf_Interval1 tk_Dyadic) ?_; refine Jy (xLa tk_Dyadic) ?_; refine Jy (xFa tf_Interval1 tk_Dyadic) ?_; refine Jy (xLa tk_Dyadic) ?_; refine Jy (xCl Tryz.func83 (S2)) ?_)); refine Jo xPk ?_; refine Ja ?_))
    exact ret_q rfl (.cons_ (rv_b rfl ((decide_eq_false fun h => c2 (by rw [h])).symm)) .nil_)
theorem ripoint_cv (p : Pq) (hn : Nf p.1 p.2) (hl : (canon p.1.natAbs).length ≤ 40000) : CV Tryz.prog TabAt 74 [aDy false p.1 p.2] [aIw false (p, p)] := by
  refine cvz Tryz.func74 Tryz.ntmps74 ?_
  have NM := norm_cv TabAt p.1 p.2 hn (Nat.le_trans hl (by decide))
  repeat' (with_reducible first | apply qa | apply qb | apply qc | apply qd | apply qe | apply qf | apply qg | apply qh | apply qi | apply qj | apply qk | apply ql rfl | apply qm rfl | apply qn rfl | apply Je | (refine Tx 0 ?_; refine Jn xBo ?_; refine Jn (xAl tz_Interval) ?_) | (refine Tx 1 ?_; refine Jo (xLa tk_Dyadic) ?_; refine Jo (xCl Tryz.func67 (NM)) ?_; refine Js (xSk tk_Dyadic) ?_) | (refine Tx 2 ?_; refine Jo (xLa tk_Dyadic) ?_; refine Jo (xLa tk_Dyadic) ?_; refine Jo (by exact ok_build rfl tb_Interval rfl rfl) ?_; refine Js (xSk tk_Interval) ?_))
  exact ret_q rfl (.cons_ (rvJ tk_Interval rfl) .nil_)
theorem rispan_cv (t : Bool) (L : List Pq) (hne : L ≠ []) (hs : ∀ p ∈ L, Sm p 40064 40000) (hL : L.length ≤ 100) : CV Tryz.prog TabAt 65 [.one (.row t 3 L.length (flatD dyP L))] [aIw false (spanL L)] := by
  refine cvz Tryz.func65 Tryz.ntmps65 ?_
  obtain ⟨p, l, rfl⟩ : ∃ p l, L = p :: l := by cases L with | nil => exact absurd rfl hne | cons p l => exact ⟨p, l, rfl⟩
  have hp := hs p (List.mem_cons_self ..)
  have hpl := Nat.le_trans (hp.lenN 1252 (by decide)) (show 1252 ≤ 40000 by decide)
  have PT := ripoint_cv p hp.ok hpl
  have hlen : (p :: l).length = l.length + 1 := List.length_cons
  repeat' (with_reducible first | apply qa | apply qb | apply qc | apply qd | apply qe | apply qf | apply qg | apply qh | apply qi | apply qj | apply qk | apply ql rfl | apply qm rfl | apply qn rfl | apply Je | (refine Tx 0 ?_; refine Jn (xAl tz_Interval) ?_) | (refine Tx 1 ?_; refine Jm ?_; refine Jo (by exact ok_ixR (i := 0) rfl rfl rfl rfl ts_s_Dyadic (by omega) (by decide) (dyP_at (l := p :: l) (k := 0) rfl)) ?_; refine Jo (xLa tk_Dyadic) ?_; refine Jo (xCl Tryz.func74 (PT)) ?_; refine Jn (xAl tz_Interval) ?_; refine Js (xSk tk_Interval) ?_) | (refine Tx 2 ?_; refine Jm ?_; refine Jo (by exact ok_sliceD (lo := 1) rfl rfl rfl rfl ts_s_Dyadic (by omega)) ?_; refine Jo (xLn ts_s_Dyadic) ?_; refine Jm ?_))
  refine cw_wk (F' := ofL [(2, vr 0), (3, vr 1), (11, vd (.row t 3 ((p :: l).length - 1) ((flatD dyP (p :: l)).drop (1 * 3)))), (12, vi (((p :: l).length - 1 : Nat))), (13, vi ((0 : Nat)))]) (H' := [.box 55 [.d (.val (.bool false)), .d (.val (.slice none 0 0)), .d (.val (.int .i64 0)), .d (.val (.bool false)), .d (.val (.slice none 0 0)), .d (.val (.int .i64 0))], .box 55 ((dIw false ((l.take (0)).foldl spanS (p, p))).map C.d)]) (wk_go _ 2 ?_ ?_ ?_) ?_
  · rfl
  · exact mB rfl rfl
  · exact ⟨bel_lit rfl, bel_D, trivial⟩
  refine cw_loopW (fun n Fr H => ∃ k : Nat, k ≤ l.length ∧ n = l.length - k ∧ IwS ((l.take (k)).foldl spanS (p, p)) 40064 40000 ∧ Fr = ofL [(2, vr 0), (3, vr 1), (11, vd (.row t 3 ((p :: l).length - 1) ((flatD dyP (p :: l)).drop (1 * 3)))), (12, vi (((p :: l).length - 1 : Nat))), (13, vi ((k : Nat)))] ∧ H = [.box 55 [.d (.val (.bool false)), .d (.val (.slice none 0 0)), .d (.val (.int .i64 0)), .d (.val (.bool false)), .d (.val (.slice none 0 0)), .d (.val (.int .i64 0))], .box 55 ((dIw false ((l.take (k)).foldl spanS (p, p))).map C.d)]) (n0 := l.length) ⟨0, Nat.zero_le _, rfl, .pt hp, rfl, rfl⟩ ?_
  rintro n Fr H ⟨k, hk, rfl, hS, rfl, rfl⟩
  by_cases hlt : k < l.length
  case pos =>
    obtain ⟨x, hx⟩ : ∃ x, l[k]? = some x := ⟨_, List.getElem?_eq_getElem hlt⟩
    have hxs := hs x (List.mem_cons_of_mem _ (List.mem_of_getElem? hx))
    have hxl := Nat.le_trans (Nat.le_trans (hxs.lenN 1252 (by decide)) (show 1252 ≤ 40000 by decide)) (show 40000 ≤ 50000 by decide)
    have a1 := hS.s1
    have a2 := hS.s2
    have a1l := Nat.le_trans (Nat.le_trans (a1.lenN 1252 (by decide)) (show 1252 ≤ 40000 by decide)) (show 40000 ≤ 50000 by decide)
    have a2l := Nat.le_trans (Nat.le_trans (a2.lenN 1252 (by decide)) (show 1252 ≤ 40000 by decide)) (show 40000 ≤ 50000 by decide)
    have hnx : spanS ((l.take (k)).foldl spanS (p, p)) x = ((l.take (k + 1)).foldl spanS (p, p)) := by rw [List.take_add_one, hx, Option.toList_some, List.foldl_append]; rfl
    have hIS : IwS (spanS ((l.take (k)).foldl spanS (p, p)) x) 40064 40000 := ⟨Sm.min a1 hxs, Sm.max a2 hxs, by show gv (qMin _ x) ≤ gv (qMax _ x); rw [gv_min a1.le hxs.le, gv_max a2.le hxs.le]; have := hS.le; omega⟩
    rw [hnx] at hIS
    have hxd : (((flatD dyP (p :: l)).drop (1 * 3)).drop (k * 3)).take 3 = dyP x := by rw [List.drop_drop, show 1 * 3 + k * 3 = (k + 1) * 3 by omega]; exact dyP_at (l := p :: l) (k := k + 1) (by rw [List.getElem?_cons_succ]; exact hx)
    generalize hT : ((l.take (k)).foldl spanS (p, p)) = T at *
    have MN := (dmin_cv TabAt false false T.1.1 T.1.2 x.1 x.2 a1.ok hxs.ok a1l hxl).cv
    have MX := (dmax_cv TabAt false false T.2.1 T.2.2 x.1 x.2 a2.ok hxs.ok a2l hxl).cv
    repeat' (with_reducible first | apply qa | apply qb | apply qc | apply qd | apply qe | apply qf | apply qg | apply qh | apply qi | apply qj | apply qk | apply ql rfl | apply qm rfl | apply qn rfl | apply Je | (refine Tx 3 ?_; refine Jo xLt ?_) | (refine Tx 4 ?_; refine Jo (xIr ts_s_Dyadic (hxd)) ?_; refine Jo (xLa tk_Dyadic) ?_; refine Jn (xAl tz_Dyadic) ?_; refine Js (xSk tk_Dyadic) ?_) | (refine cw_part (id := 5) 9 mixed (by kernel_rfl) ?_; dsimp only [List.take, List.drop]; refine Ko (xFa tf_Interval0 tk_Dyadic) ?_; refine Ko (xLa tk_Dyadic) ?_; refine Ko (xLa tk_Dyadic) ?_; refine Ko (xCl Tryz.func131 (MN)) ?_; refine Ko (xFa tf_Interval1 tk_Dyadic) ?_; refine Ko (xLa tk_Dyadic) ?_; refine Ko (xLa tk_Dyadic) ?_; refine Ko (xCl Tryz.func132 (MX)) ?_; refine Ko (xFa tf_Interval0 tk_Dyadic) ?_; refine Ke ?_; refine Js (xSk tk_Dyadic) ?_; refine Jo (xFa tf_Interval1 tk_Dyadic) ?_; refine Js (xSk tk_Dyadic) ?_) | (refine Tx 6 ?_; refine Jo xAd ?_; refine Jm ?_))
    refine ⟨_, _, wk_go _ 2 ?_ ?_ ?_, _, ?_, k + 1, by omega, rfl, hIS, rfl, rfl⟩
    · rw [← hnx]; rfl
    · exact mB rfl rfl
    · exact ⟨bel_lit rfl, bel_D, trivial⟩
    · omega
  obtain rfl : k = l.length := by omega
  clear hlt hk
  rw [List.take_length]
  repeat' (with_reducible first | apply qa | apply qb | apply qc | apply qd | apply qe | apply qf | apply qg | apply qh | apply qi | apply qj | apply qk | apply ql rfl | apply qm rfl | apply qn rfl | apply Je | (refine Tx 3 ?_; refine Jo xLt ?_) | (refine Tx 7 ?_; refine Jo (xLa tk_Interval) ?_; refine Js (xSk tk_Interval) ?_))
  exact ret_q rfl (.cons_ (rvJ tk_Interval rfl) .nil_)
theorem riints_cv (x y : Int) (hx : -9223372036854775807 ≤ x ∧ x < 9223372036854775808) (hy : -9223372036854775807 ≤ y ∧ y < 9223372036854775808) : CV Tryz.prog TabAt 40 [aI x, aI y] [aIw false (spanL [(x, 0), (y, 0)])] := by
  refine cvz Tryz.func40 Tryz.ntmps40 ?_
  have O1 := (of_cv (G := TabAt) x (by omega) (by omega)).cv
  have O2 := (of_cv (G := TabAt) y (by omega) (by omega)).cv
  have s1 : Sm (x, 0) 40064 40000 := sm_int x (by omega)
  have s2 : Sm (y, 0) 40064 40000 := sm_int y (by omega)
  have SP := rispan_cv true [(x, 0), (y, 0)] (by simp) (fun p hp => by simp only [List.mem_cons, List.not_mem_nil, or_false] at hp; rcases hp with rfl | rfl <;> assumption) (Nat.le_of_ble_eq_true rfl)
  repeat' (with_reducible first | apply qa | apply qb | apply qc | apply qd | apply qe | apply qf | apply qg | apply qh | apply qi | apply qj | apply qk | apply ql rfl | apply qm rfl | apply qn rfl | apply Je | (refine Tx 0 ?_; refine Jn (xAl tz_Interval) ?_) | (refine Tx 1 ?_; refine Jm ?_; refine Jo (by first | exact xCl Tryz.func24 (O1) | exact xCl Tryz.func24 (O2)) ?_; refine Jm ?_; refine Jo (by first | exact xCl Tryz.func24 (O1) | exact xCl Tryz.func24 (O2)) ?_; refine Jn (by exact ok_build2 rfl ts_s_Dyadic tz_Dyadic rfl rfl rfl rfl (by decide) (by decide)) ?_; refine Jo (xCl Tryz.func65 (SP)) ?_; refine Js (xSk tk_Interval) ?_))
  exact ret_q rfl (.cons_ (rvJ tk_Interval rfl) .nil_)
theorem riwidth_cv (a : Iq) (h : IwS a 20000 20000) : CV Tryz.prog TabAt 33 [aIw false a] [aDy false (qSum a.2 (qNeg a.1)).1 (qSum a.2 (qNeg a.1)).2] := by
  refine cvz Tryz.func33 Tryz.ntmps33 ?_
  have h1 := h.s1
  have h2 := h.s2
  have hl := Nat.le_trans (h1.l4) (show 40000 ≤ 50000 by decide)
  have hm := Nat.le_trans (h2.l4) (show 40000 ≤ 50000 by decide)
  have AR := rinorm_iw a h (by decide)
  have C := (dsub_cv TabAt false false a.2.1 a.2.2 a.1.1 a.1.2 h2.ok h1.ok hm hl).cv
  repeat' (with_reducible first | apply qa | apply qb | apply qc | apply qd | apply qe | apply qf | apply qg | apply qh | apply qi | apply qj | apply qk | apply ql rfl | apply qm rfl | apply qn rfl | apply Je | (refine Tx 0 ?_; refine Jn xBo ?_; refine Jn (xAl tz_Dyadic) ?_) | (refine Tx 1 ?_; refine Jo (xLa tk_Interval) ?_; refine Jo (xCl Tryz.func72 (AR)) ?_; refine Js (xSk tk_Interval) ?_) | (refine Tx 2 ?_; refine Jo (xFa tf_Interval1 tk_Dyadic) ?_; refine Jo (xLa tk_Dyadic) ?_; refine Jo (xFa tf_Interval0 tk_Dyadic) ?_; refine Jo (xLa tk_Dyadic) ?_; refine Jo (xCl Tryz.func84 (C)) ?_; refine Js (xSk tk_Dyadic) ?_))
  exact ret_q rfl (.cons_ (rvW tk_Dyadic rfl) .nil_)
abbrev iZ : Iq := ((0, 0), (0, 0))
def kW : Option Iq → List C
  | none => [.d (.val (.bool false)), .d (.val (.slice none 0 0)), .d (.val (.int .i64 0)), .d (.val (.bool false)), .d (.val (.slice none 0 0)), .d (.val (.int .i64 0))]
  | some a => (dIw false a).map C.d
def kWs (l : List (Option Iq)) : List C := (l.map kW).flatten
def gW (l : List (Option Iq)) : List Iq := l.map (·.getD iZ)
theorem kW_len (o : Option Iq) : (kW o).length = 6 := by cases o <;> rfl
theorem kWs_cons (o : Option Iq) (l : List (Option Iq)) : kWs (o :: l) = kW o ++ kWs l := by simp [kWs]
theorem kWs_len (l : List (Option Iq)) : (kWs l).length = l.length * 6 := by
  induction l with
  | nil => rfl
  | cons o l ih => rw [kWs_cons, List.length_append, ih, kW_len, List.length_cons]; omega
theorem kWs_at : ∀ {l : List (Option Iq)} {i : Nat} {o : Option Iq}, l[i]? = some o → ((kWs l).drop (i * 6)).take 6 = kW o
  | [], i, o, h => by simp at h
  | q :: l, 0, o, h => by
    simp only [List.getElem?_cons_zero, Option.some.injEq] at h
    subst h
    rw [kWs_cons, Nat.zero_mul, List.drop_zero, List.take_append_of_le_length (by rw [kW_len]; omega), List.take_of_length_le (by rw [kW_len]; omega)]
  | q :: l, i + 1, o, h => by
    simp only [List.getElem?_cons_succ] at h
    rw [kWs_cons, show (i + 1) * 6 = (kW q).length + i * 6 by rw [kW_len]; omega, ← List.drop_drop, List.drop_left]
    exact kWs_at h
theorem kWs_set : ∀ {l : List (Option Iq)} {i : Nat} (a : Iq), i < l.length → (kWs l).take (i * 6) ++ (dIw false a).map C.d ++ (kWs l).drop (i * 6 + 6) = kWs (l.set i (some a))
  | [], i, a, h => by simp at h
  | q :: l, 0, a, h => by
    rw [kWs_cons, Nat.zero_mul, List.take_zero, List.nil_append, Nat.zero_add, List.set_cons_zero, kWs_cons, show (6 : Nat) = (kW q).length from (kW_len q).symm, List.drop_left]
    rfl
  | q :: l, i + 1, a, h => by
    have ih := kWs_set (l := l) (i := i) a (by simpa using h)
    rw [kWs_cons, List.set_cons_succ, kWs_cons, ← ih, show (i + 1) * 6 + 6 = (kW q).length + (i * 6 + 6) by rw [kW_len]; omega, ← List.drop_drop, List.drop_left, show (i + 1) * 6 = (kW q).length + i * 6 by rw [kW_len]; omega, List.take_length_add_append]
    simp
theorem kWs_new (n : Nat) : valsC (madeCells (Value.agg #[.bool false, .slice none 0 0, .int .i64 0, .bool false, .slice none 0 0, .int .i64 0]).cells (n * 6)).toList = kWs (List.replicate n none) := by
  have h1 : ∀ a : Nat, (madeCells (Value.agg #[.bool false, .slice none 0 0, .int .i64 0, .bool false, .slice none 0 0, .int .i64 0]).cells a).toList = (List.range a).map (fun j => #[Value.bool false, .slice none 0 0, .int .i64 0, .bool false, .slice none 0 0, .int .i64 0][j % 6]!) := fun a => by
    unfold madeCells
    rw [Array.toList_map, Array.toList_range]
    rfl
  rw [h1]
  induction n with
  | zero => rfl
  | succ n ih =>
    rw [show (n + 1) * 6 = n * 6 + 1 + 1 + 1 + 1 + 1 + 1 by omega, List.range_succ, List.range_succ, List.range_succ, List.range_succ, List.range_succ, List.range_succ, List.replicate_succ']
    simp only [List.map_append, valsC] at ih ⊢
    rw [ih]
    simp only [kWs, List.map_append, List.flatten_append, List.map_cons, List.map_nil, show n * 6 % 6 = 0 by omega, show (n * 6 + 1) % 6 = 1 by omega, show (n * 6 + 1 + 1) % 6 = 2 by omega, show (n * 6 + 1 + 1 + 1) % 6 = 3 by omega, show (n * 6 + 1 + 1 + 1 + 1) % 6 = 4 by omega, show (n * 6 + 1 + 1 + 1 + 1 + 1) % 6 = 5 by omega, List.append_assoc]
    rfl
theorem bel_kWs {n : Nat} {l : List (Option Iq)} : ∀ c ∈ kWs l, C.bel n c := fun c hc => by
  obtain ⟨cs, hcs, hc⟩ := List.mem_flatten.1 hc
  obtain ⟨o, _, rfl⟩ := List.mem_map.1 hcs
  cases o with
  | none => simp [kW] at hc; rcases hc with rfl | rfl | rfl | rfl | rfl | rfl <;> trivial
  | some p => exact bel_D c hc
theorem kW_exp {t : Bool} {H : List Ob} (o : Option Iq) : LRel (CExp t H) (kW o) (dIw false (o.getD iZ)) := by
  cases o with
  | none =>
    show LRel (CExp t H) _ (dIw false iZ)
    rw [iw_zero]
    exact .cons_ (.d fun _ => .val _) (.cons_ .nil (.cons_ (.d fun _ => .val _) (.cons_ (.d fun _ => .val _) (.cons_ .nil (.cons_ (.d fun _ => .val _) .nil_)))))
  | some p => exact LRel.map_l.2 ⟨rfl, fun j a b ha hb => by
      have : (dIw false p)[j]? = some b := hb
      rw [ha] at this
      cases this
      exact .d fun _ => iw_free _ a (List.mem_of_getElem? ha)⟩
theorem kWs_exp {t : Bool} {H : List Ob} (l : List (Option Iq)) : LRel (CExp t H) (kWs l) (flatD (dIw false) (gW l)) := by
  induction l with
  | nil => exact LRel.nil_
  | cons o l ih =>
    rw [kWs_cons]
    exact (kW_exp o).app ih
theorem gW_len (l : List (Option Iq)) : (gW l).length = l.length := List.length_map ..
theorem gW_at {l : List (Option Iq)} {i : Nat} {p : Iq} (h : l[i]? = some (some p)) : (gW l)[i]? = some p := by
  unfold gW
  rw [List.getElem?_map, h]
  rfl
theorem cexp_Iw {t : Bool} {H : List Ob} {id ty n : Nat} {c : C} {y : D} {l : List (Option Iq)} (hc : c = .own id n) (hH : H[id]? = some (.row ty 6 n (kWs l))) (hy : y = .row t 6 n (flatD (dIw false) (gW l))) : CExp t H c y := cexp_o hc hH hy (kWs_exp l)
section
variable {P : Program} {G : World → Prop} {o : Oper} {F : Frm} {H : List Ob}
theorem ok_makeIw {t e : TypeId} {x y : Operand} {by_ n : Nat} {k k' : IntKind} (ho : o.op = .makeSlice t x y) (hx : F.ev x = .one (.d (.val (.int k (n : Int))))) (hy : F.ev y = .one (.d (.val (.int k' (n : Int))))) (ht : TyS P t e 6) (hz : TyZ P e (.agg #[.bool false, .slice none 0 0, .int .i64 0, .bool false, .slice none 0 0, .int .i64 0]) 6 by_) (hn : n ≤ 1000000) (hby : by_ ≤ 1000) :
    OpOk P G o F H (.one (.own H.length n)) [.row e 6 n (kWs (List.replicate n none))] := by
  have := ok_makeSlice (P := P) (G := G) (H := H) ho hx hy ht hz hn hby
  rwa [kWs_new] at this
theorem ok_ldIw {t ty : TypeId} {x : Operand} {id n i : Nat} {l : List (Option Iq)} {p : Iq} (ho : o.op = .load t x) (hx : F.ev x = .one (.ref id (i * 6) (some n))) (hH : H[id]? = some (.row ty 6 n (kWs l))) (hp : l[i]? = some (some p)) (hk : TyK P t true 6) : OpOk P G o F H (.agg ((dIw false p).map C.d)) [] :=
  ok_loadA ho hx (.row hH) hk (kWs_at hp) rfl
theorem to_stIw {t ty : TypeId} {x y : Operand} {id n i : Nat} {l l' : List (Option Iq)} {p : Iq} (ho : o.op = .store t x y) (hx : F.ev x = .one (.ref id (i * 6) (some n))) (hH : H[id]? = some (.row ty 6 n (kWs l))) (hy : F.ev y = .agg ((dIw false p).map C.d)) (hty : TyK P t true 6) (hi : i < l.length) (hl : l.set i (some p) = l') : TOk P G o F H .any (H.set id (.row ty 6 n (kWs l'))) := by
  have h3 : ((dIw false p).map C.d).length = 6 := rfl
  have := to_storeK (P := P) (G := G) ho hx hH rfl (show cellsC (F.ev y) = some ((dIw false p).map C.d) by rw [hy]; rfl) hty rfl (by rw [h3]; show i * 6 + 6 ≤ (kWs l).length; rw [kWs_len]; omega)
  rw [h3] at this
  simp only [Ob.cs, Ob.setC] at this
  rw [kWs_set p hi, hl] at this
  exact this
end
def longI (a : Iq) : Bool := longP a.1 || longP a.2
def portI (p : Prt) : Iq := (dyShift p.lo 0 (-p.fr), dyShift p.hi 0 (-p.fr))
def blkI (y : Bk) (l : List Iq) : Iq :=
  if y.kind = 1 then (dyShift y.vn 0 y.ve, dyShift y.vn 0 y.ve)
  else if y.kind = 3 then iAdd (l[0]?.getD iZ) (l[1]?.getD iZ)
  else if y.kind = 4 then iSub (l[0]?.getD iZ) (l[1]?.getD iZ)
  else if y.kind = 5 then iNeg (l[0]?.getD iZ)
  else if y.kind = 6 then iScale (l[0]?.getD iZ) (dyShift y.vn 0 y.ve)
  else if y.kind = 7 then iMul (l[0]?.getD iZ) (l[1]?.getD iZ)
  else if y.kind = 8 then iMin (l[0]?.getD iZ) (l[1]?.getD iZ)
  else if y.kind = 9 then iMax (l[0]?.getD iZ) (l[1]?.getD iZ)
  else if y.kind = 10 then iAbs (l[0]?.getD iZ)
  else iClip (l[0]?.getD iZ) (dyShift y.vn 0 y.ve) (dyShift y.un 0 y.ue)
def rangeV (y : Bk) (l : List Iq) (ps : List Prt) : Iq := if y.kind = 0 then (ps[((y.args[0]?).getD 0).toNat]?.map portI).getD iZ else blkI y l
theorem iwl_of {a : Iq} {n d : Nat} (h : IwS a n d) (hl : longI a = false) : IwS a LB LB := by
  unfold longI at hl
  rw [Bool.or_eq_false_iff] at hl
  exact ⟨sm_of h.s1.ok hl.1, sm_of h.s2.ok hl.2, h.le⟩
theorem IwS.zero (n d : Nat) : IwS iZ n d := .pt (Sm.zero n d)
theorem getD_iw {l : List Iq} {n d : Nat} (h : ∀ p ∈ l, IwS p n d) (k : Nat) : IwS (l[k]?.getD iZ) n d := by
  cases hk : l[k]? with
  | none => exact IwS.zero n d
  | some p => exact h p (List.mem_of_getElem? hk)
theorem sc_lb {n e : Int} (h : scOk n e) : Sm (dyShift n 0 e) LB LB := by
  obtain ⟨h1, h2, h3, h4⟩ := h
  exact (Sm.shift (n := 32) (by omega) (by omega) (by omega)).more (by decide) (by decide)
theorem blk_iw {y : Bk} {l : List Iq} (hl : ∀ p ∈ l, IwS p LB LB) (hv : (y.kind = 1 ∨ y.kind = 6 ∨ y.kind = 11) → scOk y.vn y.ve) (hu : y.kind = 11 → scOk y.un y.ue) (hk : y.kind = 1 ∨ y.kind = 3 ∨ y.kind = 4 ∨ y.kind = 5 ∨ y.kind = 6 ∨ y.kind = 7 ∨ y.kind = 8 ∨ y.kind = 9 ∨ y.kind = 10 ∨ y.kind = 11) : IwS (blkI y l) LC LC := by
  have a := getD_iw hl 0
  have b := getD_iw hl 1
  have up : ∀ {r : Iq}, IwS r LB LB → IwS r LC LC := fun h => h.more (by decide) (by decide)
  unfold blkI
  generalize l[0]?.getD iZ = p at a ⊢
  generalize l[1]?.getD iZ = q at b ⊢
  rcases hk with h | h | h | h | h | h | h | h | h | h <;> simp only [h, Int.reduceEq, if_true, if_false, reduceIte]
  · exact up (.pt (sc_lb (hv (.inl h))))
  · exact (IwS.add a b (by decide : LB ≤ 65536)).more (by decide : LB + LB + 1 ≤ LC) lb_c
  · exact (IwS.sub a b (by decide : LB ≤ 65536)).more (by decide : LB + LB + 1 ≤ LC) lb_c
  · exact up a.neg
  · exact (IwS.mul a (.pt (sc_lb (hv (.inr (.inl h))))) (by decide : LB ≤ 30000)).more (by decide : LB + LB ≤ LC) (by decide : LB + LB ≤ LC)
  · exact (IwS.mul a b (by decide : LB ≤ 30000)).more (by decide : LB + LB ≤ LC) (by decide : LB + LB ≤ LC)
  · exact up (a.min b)
  · exact up (a.max b)
  · exact up a.abs
  · exact up (a.clip (sc_lb (hv (.inr (.inr h)))) (sc_lb (hu h)))
structure PortS (p : Prt) : Prop where
  l0 : -2147483648 ≤ p.lo
  le : p.lo ≤ p.hi
  h1 : p.hi < 2147483648
  f0 : 0 ≤ p.fr
  f1 : p.fr ≤ 30
theorem port_gv {z f : Int} (f0 : 0 ≤ f) (f1 : f ≤ 30) : gv (dyShift z 0 (-f)) * 2 ^ f.toNat = z * 2 ^ GQ := by
  have := gv_shiftD (p := (z, 0)) (n := f.toNat) (by show 0 + f.toNat ≤ 65536; omega) (by omega)
  rw [show (-(f.toNat : Int)) = -f by omega, gv_int] at this
  exact this
theorem port_sm {z f : Int} (h0 : -2147483648 ≤ z) (h1 : z < 2147483648) (f0 : 0 ≤ f) (f1 : f ≤ 30) : Sm (dyShift z 0 (-f)) 264 200 := Sm.shift (n := 64) (by omega) (by omega) (by omega)
theorem PortS.iw {p : Prt} (h : PortS p) : IwS (portI p) 264 200 := by
  obtain ⟨h1, h2, h3, h4, h5⟩ := h
  refine ⟨port_sm h1 (by omega) h4 h5, port_sm (by omega) h3 h4 h5, ?_⟩
  have e1 := port_gv (z := p.lo) h4 h5
  have e2 := port_gv (z := p.hi) h4 h5
  refine Int.not_lt.1 fun hc => ?_
  have := Int.mul_lt_mul_of_pos_right hc (two_pos p.fr.toNat)
  have g2 := Int.mul_le_mul_of_nonneg_right h2 (Int.le_of_lt (two_pos GQ))
  have e1' : gv (portI p).1 * 2 ^ p.fr.toNat = p.lo * 2 ^ GQ := e1
  have e2' : gv (portI p).2 * 2 ^ p.fr.toNat = p.hi * 2 ^ GQ := e2
  omega
theorem PortS.scale {p : Prt} (h : PortS p) : iScale (spanL [(p.lo, 0), (p.hi, 0)]) (dyShift 1 0 (-p.fr)) = portI p := by
  have H := h.iw
  obtain ⟨h1, h2, h3, h4, h5⟩ := h
  have s1 : Sm (p.lo, 0) 264 200 := sm_intN p.lo (by omega) (by decide)
  have s2 : Sm (p.hi, 0) 264 200 := sm_intN p.hi (by omega) (by decide)
  obtain ⟨e1, e2, e3⟩ := spanL_two s1 s2
  have s3 : Sm (dyShift 1 0 (-p.fr)) 264 200 := port_sm (by decide) (by decide) h4 h5
  have g2 := Int.mul_le_mul_of_nonneg_right h2 (Int.le_of_lt (two_pos GQ))
  rw [gv_int, gv_int] at e1 e2
  have E1 : gv (spanL [(p.lo, 0), (p.hi, 0)]).1 = p.lo * 2 ^ GQ := by rw [e1]; omega
  have E2 : gv (spanL [(p.lo, 0), (p.hi, 0)]).2 = p.hi * 2 ^ GQ := by rw [e2]; omega
  generalize spanL [(p.lo, 0), (p.hi, 0)] = w at e3 E1 E2 ⊢
  have m1 := Sm.mul e3.s1 s3 (by decide)
  have m2 := Sm.mul e3.s2 s3 (by decide)
  obtain ⟨k1, k2, k3⟩ := spanL_four m1 m1 m2 m2
  have mg : ∀ {x : Pq} {z : Int}, Sm x 264 200 → gv x = z * 2 ^ GQ → gv (qMul x (dyShift 1 0 (-p.fr))) = gv (dyShift z 0 (-p.fr)) := fun {x z} hx hz => by
    have a1 := gv_mul (p := x) (q := dyShift 1 0 (-p.fr)) (Nat.le_trans (Nat.add_le_add hx.d s3.d) (by decide))
    have a2 := port_gv (z := 1) h4 h5
    have a3 := port_gv (z := z) h4 h5
    rw [hz] at a1
    have p1 := two_pos GQ
    have p2 := two_pos p.fr.toNat
    refine Int.eq_of_mul_eq_mul_right (Int.ne_of_gt p2) (Int.eq_of_mul_eq_mul_right (Int.ne_of_gt p1) ?_)
    rw [a3, Int.mul_right_comm, a1, Int.mul_assoc (z * 2 ^ GQ), a2, Int.one_mul]
  have G1 := mg e3.s1 E1
  have G2 := mg e3.s2 E2
  refine iw_ext (n := 264 + 264) (d := 200 + 200) k3 H ?_ ?_
  · show gv (spanL [qMul w.1 (dyShift 1 0 (-p.fr)), qMul w.1 (dyShift 1 0 (-p.fr)), qMul w.2 (dyShift 1 0 (-p.fr)), qMul w.2 (dyShift 1 0 (-p.fr))]).1 = gv (dyShift p.lo 0 (-p.fr))
    rw [k1, G1, G2]
    have := H.le
    simp only [portI] at this
    omega
  · show gv (spanL [qMul w.1 (dyShift 1 0 (-p.fr)), qMul w.1 (dyShift 1 0 (-p.fr)), qMul w.2 (dyShift 1 0 (-p.fr)), qMul w.2 (dyShift 1 0 (-p.fr))]).2 = gv (dyShift p.hi 0 (-p.fr))
    rw [k2, G1, G2]
    have := H.le
    simp only [portI] at this
    omega
theorem acc_ports {ps : List Prt} {bs : List Bk} {os : List Int} (h : dgErr ps bs os = 0) {i : Nat} {p : Prt} (hp : ps[i]? = some p) : PortS p := by
  have hpp := acc_port h hp
  have h3 : -2147483648 ≤ p.lo ∧ p.lo ≤ p.hi ∧ p.hi < 2147483648 ∧ 0 ≤ p.fr ∧ p.fr ≤ 30 := Classical.byContradiction fun hn => by unfold portE at hpp; rw [if_neg hn] at hpp; cases hpp
  exact ⟨h3.1, h3.2.1, h3.2.2.1, h3.2.2.2.1, h3.2.2.2.2⟩
def argsW (vs : List (Option (Iq))) (y : Bk) : List (Iq) := if y.kind = 0 then [] else y.args.map fun a => (vs[a.toNat]?.getD none).getD iZ
def tkW (ps : List Prt) (bs : List Bk) (vs : List (Option (Iq))) (i : Nat) : Iq := match bs[i]? with
  | some y => rangeV y (argsW vs y) ps
  | none => iZ
def ordW (ps : List Prt) (bs : List Bk) (vs : List (Option (Iq))) (l : List Nat) : List (Option (Iq)) := l.foldl (fun v i => v.set i (some (tkW ps bs  v i))) vs
def delW (dl : List Nat) (st : List (Iq)) (vs : List (Option (Iq))) : List (Option (Iq)) := (dl.zip st).foldl (fun v p => v.set p.1 (some p.2)) vs
theorem ordW_len (ps : List Prt) (bs : List Bk) : ∀ (l : List Nat) (vs : List (Option (Iq))), (ordW ps bs  vs l).length = vs.length
  | [], vs => rfl
  | i :: l, vs => by show (ordW ps bs  _ l).length = _; rw [ordW_len ps bs  l]; simp
theorem delW_len : ∀ (dl : List Nat) (st : List (Iq)) (vs : List (Option (Iq))), (delW dl st vs).length = vs.length
  | [], st, vs => rfl
  | i :: dl, [], vs => rfl
  | i :: dl, x :: st, vs => by show (delW dl st _).length = _; rw [delW_len dl st]; simp
theorem ordW_next (ps : List Prt) (bs : List Bk) (vs : List (Option (Iq))) {l : List Nat} {t j : Nat} (h : l[t]? = some j) : ordW ps bs  vs (l.take (t + 1)) = (ordW ps bs  vs (l.take t)).set j (some (tkW ps bs  (ordW ps bs  vs (l.take t)) j)) := by
  unfold ordW
  rw [List.take_add_one, h, Option.toList_some, List.foldl_append]
  rfl
theorem delW_next (vs : List (Option (Iq))) {dl : List Nat} {st : List (Iq)} {t j : Nat} {p : Iq} (h : dl[t]? = some j) (h2 : st[t]? = some p) : delW (dl.take (t + 1)) (st.take (t + 1)) vs = (delW (dl.take t) (st.take t) vs).set j (some p) := by
  have l1 := (List.getElem?_eq_some_iff.1 h).1
  have l2 := (List.getElem?_eq_some_iff.1 h2).1
  unfold delW
  rw [List.take_add_one, List.take_add_one, h, h2, Option.toList_some, Option.toList_some, List.zip_append (by simp; omega), List.foldl_append]
  rfl
def rgS (ps : List Prt) (bs : List Bk) (st : List (Iq)) (t : Nat) : List (Option (Iq)) := ordW ps bs  (delW (delL bs) st (List.replicate bs.length none)) ((ordM bs).take t)
def rgN (ps : List Prt) (bs : List Bk) (st : List (Iq)) (t : Nat) : Iq := tkW ps bs  (rgS ps bs st t) ((ordM bs)[t]?.getD 0)
def rgBad (ps : List Prt) (bs : List Bk) (st : List (Iq)) : Bool := st.any longI || (List.range (ordM bs).length).any fun t => longI (rgN ps bs st t)
def rgV (ps : List Prt) (bs : List Bk) (st : List (Iq)) : List (Iq) := gW (rgS ps bs st  (ordM bs).length)
theorem rgS_len (ps : List Prt) (bs : List Bk) (st : List (Iq)) (t : Nat) : (rgS ps bs st t).length = bs.length := by unfold rgS; rw [ordW_len, delW_len, List.length_replicate]
theorem rgS_next {ps : List Prt} {bs : List Bk} {st : List (Iq)} {t j : Nat} (h : (ordM bs)[t]? = some j) : rgS ps bs st  (t + 1) = (rgS ps bs st t).set j (some (rgN ps bs st t)) := by
  unfold rgN
  rw [h]
  exact ordW_next ps bs  _ h
theorem rgS_0 (ps : List Prt) (bs : List Bk) (st : List (Iq)) : rgS ps bs st  0 = delW (delL bs) st (List.replicate bs.length none) := rfl
structure HasW (vs : List (Option (Iq))) (D : Nat → Prop) : Prop where
  at_ : ∀ i, D i → ∃ p, vs[i]? = some (some p) ∧ IwS p LB LB
theorem HasW.set {vs : List (Option (Iq))} {D D' : Nat → Prop} (h : HasW vs D) {j : Nat} {p : Iq} (hj : j < vs.length) (hp : IwS p LB LB) (hD : ∀ i, D' i → D i ∨ i = j) : HasW (vs.set j (some p)) D' := ⟨fun i hi => by
  rw [List.getElem?_set]
  by_cases hij : j = i
  · rw [if_pos hij, if_pos hj]
    exact ⟨p, rfl, hp⟩
  · rw [if_neg hij]
    rcases hD i hi with h1 | h1
    · exact h.at_ i h1
    · exact absurd h1.symm hij⟩
theorem badW_del {ps : List Prt} {bs : List Bk} {st : List (Iq)} {k : Nat} {p : Iq} (h : st[k]? = some p) (hl : longI p = true) : rgBad ps bs st  = true := by
  unfold rgBad
  rw [Bool.or_eq_true]
  exact .inl (List.any_eq_true.2 ⟨p, List.mem_of_getElem? h, hl⟩)
theorem badW_ord {ps : List Prt} {bs : List Bk} {st : List (Iq)} {t : Nat} (h : t < (ordM bs).length) (hl : longI (rgN ps bs st t) = true) : rgBad ps bs st  = true := by
  unfold rgBad
  rw [Bool.or_eq_true]
  exact .inr (List.any_eq_true.2 ⟨t, List.mem_range.2 h, hl⟩)
theorem goodW_of {ps : List Prt} {bs : List Bk} {st : List (Iq)} (h1 : ∀ p ∈ st, longI p = false) (h2 : ∀ t, t < (ordM bs).length → longI (rgN ps bs st t) = false) : rgBad ps bs st  = false := by
  unfold rgBad
  rw [Bool.or_eq_false_iff]
  exact ⟨List.any_eq_false.2 fun p hp => by rw [h1 p hp]; decide, List.any_eq_false.2 fun t ht => by rw [h2 t (List.mem_range.1 ht)]; decide⟩
theorem hasW_del {bs : List Bk} {st : List (Iq)} (hn : ∀ p ∈ st, IwS p LB LB) (hl : st.length = (delL bs).length) : HasW (delW (delL bs) st (List.replicate bs.length none)) (stdS bs 0) := by
  have key : ∀ t, t ≤ (delL bs).length → HasW (delW ((delL bs).take t) (st.take t) (List.replicate bs.length none)) (fun i => i ∈ (delL bs).take t) := fun t => by
    induction t with
    | zero => intro _; exact ⟨fun i hi => by simp at hi⟩
    | succ t ih =>
      intro ht
      obtain ⟨j, hj⟩ : ∃ j, (delL bs)[t]? = some j := ⟨_, List.getElem?_eq_getElem (by omega)⟩
      obtain ⟨p, hp⟩ : ∃ p, st[t]? = some p := ⟨_, List.getElem?_eq_getElem (by omega)⟩
      have h1 := hn p (List.mem_of_getElem? hp)
      rw [delW_next _ hj hp]
      refine (ih (by omega)).set (by rw [delW_len, List.length_replicate]; have := List.mem_of_getElem? hj; unfold delL at this; rw [List.mem_filter, List.mem_range] at this; exact this.1) h1 fun i hi => ?_
      rw [List.take_add_one, hj] at hi
      simpa using hi
  have h := key (delL bs).length (Nat.le_refl _)
  rw [List.take_length, List.take_of_length_le (by omega)] at h
  refine ⟨fun i hi => h.at_ i ?_⟩
  rcases hi with ⟨h1, h2⟩ | h1
  · unfold delL
    rw [List.mem_filter, List.mem_range, h2]
    exact ⟨h1, rfl⟩
  · simp at h1
theorem hasW_next {ps : List Prt} {bs : List Bk} {st : List (Iq)} {t j : Nat} (h : HasW (rgS ps bs st t) (stdS bs t)) (hj : (ordM bs)[t]? = some j) (hsm : IwS (rgN ps bs st t) LB LB) : HasW (rgS ps bs st  (t + 1)) (stdS bs (t + 1)) := by
  rw [rgS_next hj]
  refine h.set (by rw [rgS_len]; exact (ord_at hj).1) hsm fun i hi => ?_
  rcases hi with h1 | h1
  · exact .inl (.inl h1)
  · rw [List.take_add_one, hj] at h1
    rcases List.mem_append.1 h1 with h1 | h1
    · exact .inl (.inr h1)
    · exact .inr (by simpa using h1)
theorem hasW_all {ps : List Prt} {bs : List Bk} {os : List Int} (he : dgErr ps bs os = 0) {st : List (Iq)} (h : HasW (rgS ps bs st  (ordM bs).length) (stdS bs (ordM bs).length)) {i : Nat} (hi : i < bs.length) : ∃ p, (rgS ps bs st  (ordM bs).length)[i]? = some (some p) ∧ IwS p LB LB := by
  refine h.at_ i ?_
  by_cases hk : kindAt bs i = 2
  · exact .inl ⟨hi, hk⟩
  · refine .inr ?_
    rw [List.take_length]
    exact ord_all (pre_of he).2.2 hi hk
theorem iw_at {l : List Iq} {k : Nat} {a : Iq} (h : l[k]? = some a) : ((flatD (dIw false) l).drop (k * 6)).take 6 = dIw false a := flatD_at (f := dIw false) (s := 6) (fun _ => rfl) h
structure TickW (ps : List Prt) (bs : List Bk) (vs : List (Option Iq)) (y : Bk) : Prop where
  hk : y.kind = 0 ∨ y.kind = 1 ∨ y.kind = 3 ∨ y.kind = 4 ∨ y.kind = 5 ∨ y.kind = 6 ∨ y.kind = 7 ∨ y.kind = 8 ∨ y.kind = 9 ∨ y.kind = 10 ∨ y.kind = 11
  args : y.kind ≠ 0 → ∀ (k : Nat) (a : Int), y.args[k]? = some a → ∃ p, 0 ≤ a ∧ a.toNat < bs.length ∧ vs[a.toNat]? = some (some p) ∧ (argsW vs y)[k]? = some p
  len : y.args.length ≤ 2
  hl : ∀ k : Nat, (k = 0 ∧ y.kind ≠ 0 ∧ y.kind ≠ 1 ∨ k = 1 ∧ (y.kind = 3 ∨ y.kind = 4 ∨ y.kind = 7 ∨ y.kind = 8 ∨ y.kind = 9)) → ∃ p i, (argsW vs y)[k]? = some p ∧ y.args[k]? = some ((i : Nat) : Int) ∧ (gW vs)[i]? = some p
  hs : ∀ p ∈ argsW vs y, IwS p LB LB
  hin : y.kind = 0 → ∃ (i : Nat) (pp : Prt), y.args[0]? = some (i : Int) ∧ ps[i]? = some pp ∧ PortS pp
  hsv : (y.kind = 1 ∨ y.kind = 6 ∨ y.kind = 11) → scOk y.vn y.ve
  hsu : y.kind = 11 → scOk y.un y.ue
  hcl : y.kind = 11 → qCmp (dyShift y.vn 0 y.ve) (dyShift y.un 0 y.ue) ≤ 0
  sm : IwS (rangeV y (argsW vs y) ps) LC LC
theorem tickW_of2 {ps : List Prt} {bs : List Bk} {os : List Int} (he : dgErr ps bs os = 0) {vs : List (Option Iq)} {j : Nat} {y : Bk} (hy : bs[j]? = some y) (hk2 : y.kind ≠ 2) (hv : y.kind ≠ 0 → ∀ a ∈ y.args, 0 ≤ a → a < (bs.length : Int) → ∃ p, vs[a.toNat]? = some (some p) ∧ IwS p LB LB) : TickW ps bs vs y := by
  have hK := acc_kind he hy
  have hA := acc_args he hy
  have hlen : y.args.length ≤ 2 := by
    have h1 := hA.1
    have h2 := hA.2.1
    unfold arityM at h1 h2
    (repeat' split at h2) <;> omega
  have args : y.kind ≠ 0 → ∀ (k : Nat) (a : Int), y.args[k]? = some a → ∃ p, 0 ≤ a ∧ a.toNat < bs.length ∧ vs[a.toNat]? = some (some p) ∧ (argsW vs y)[k]? = some p ∧ IwS p LB LB := fun h0 k a ha => by
    have hm := List.mem_of_getElem? ha
    have hb := hA.2.2 a hm
    rw [show mostM ps.length bs.length y.kind = bs.length from if_neg h0] at hb
    obtain ⟨p, hp, hsm⟩ := hv h0 a hm hb.1 hb.2
    exact ⟨p, hb.1, by omega, hp, by unfold argsW; rw [if_neg h0, List.getElem?_map, ha, Option.map_some, hp]; rfl, hsm⟩
  have hs : y.kind ≠ 0 → ∀ p ∈ argsW vs y, IwS p LB LB := fun h0 p hp => by
    obtain ⟨k, hk⟩ := List.mem_iff_getElem?.1 hp
    have hk' := hk
    unfold argsW at hk'
    rw [if_neg h0, List.getElem?_map, Option.map_eq_some_iff] at hk'
    obtain ⟨a, ha, _⟩ := hk'
    obtain ⟨q, _, _, _, h4, h5⟩ := args h0 k a ha
    rw [hk] at h4
    cases h4
    exact h5
  have hin : y.kind = 0 → ∃ (i : Nat) (pp : Prt), y.args[0]? = some (i : Int) ∧ ps[i]? = some pp ∧ PortS pp := fun h0 => by
    have h1 := hA.2.1
    rw [h0] at h1
    have hl1 : y.args.length = 1 := by unfold arityM at h1; (repeat' split at h1) <;> omega
    obtain ⟨a, ha⟩ : ∃ a, y.args[0]? = some a := ⟨_, List.getElem?_eq_getElem (by omega)⟩
    have hb := hA.2.2 a (List.mem_of_getElem? ha)
    rw [show mostM ps.length bs.length y.kind = ps.length from if_pos h0] at hb
    obtain ⟨p, hp⟩ : ∃ p, ps[a.toNat]? = some p := ⟨_, List.getElem?_eq_getElem (by omega)⟩
    exact ⟨a.toNat, p, by rw [ha]; congr 1; omega, hp, acc_ports he hp⟩
  have hsv : (y.kind = 1 ∨ y.kind = 6 ∨ y.kind = 11) → scOk y.vn y.ve := fun h => acc_sc he hy (by unfold valU; rcases h with h | h | h <;> rw [h] <;> rfl)
  have hsu : y.kind = 11 → scOk y.un y.ue := fun h => (acc_clip he hy h).2.1
  have h0s : y.kind = 0 → ∀ p ∈ ([] : List Iq), IwS p LB LB := fun _ p hp => by cases hp
  have hk3 : y.kind = 0 ∨ y.kind = 1 ∨ y.kind = 3 ∨ y.kind = 4 ∨ y.kind = 5 ∨ y.kind = 6 ∨ y.kind = 7 ∨ y.kind = 8 ∨ y.kind = 9 ∨ y.kind = 10 ∨ y.kind = 11 := by clear hin args hs; omega
  refine ⟨hk3, fun h0 k a ha => ?_, hlen, fun k hk => ?_, ?_, hin, hsv, hsu, fun h => (acc_clip he hy h).2.2, ?_⟩
  · obtain ⟨p, h1, h2, h3, h4, _⟩ := args h0 k a ha
    exact ⟨p, h1, h2, h3, h4⟩
  · have h0 : y.kind ≠ 0 := by omega
    have hkl : k < y.args.length := by
      have h1 := hA.2.1
      unfold arityM at h1
      (repeat' split at h1) <;> omega
    obtain ⟨a, ha⟩ : ∃ a, y.args[k]? = some a := ⟨_, List.getElem?_eq_getElem hkl⟩
    obtain ⟨p, h1, h2, h3, h4, _⟩ := args h0 k a ha
    exact ⟨p, a.toNat, h4, by rw [ha]; congr 1; omega, gW_at h3⟩
  · by_cases h0 : y.kind = 0
    · unfold argsW; rw [if_pos h0]; exact h0s h0
    · exact hs h0
  · unfold rangeV
    by_cases h0 : y.kind = 0
    · rw [if_pos h0]
      obtain ⟨i, pp, q1, q3, q4⟩ := hin h0
      rw [q1]
      simp only [Option.getD_some, Int.toNat_natCast, q3, Option.map_some]
      exact q4.iw.more (by decide) (by decide)
    · rw [if_neg h0]
      exact blk_iw (hs h0) hsv hsu (by clear hin args hs; omega)
theorem tickW_of {ps : List Prt} {bs : List Bk} {os : List Int} (he : dgErr ps bs os = 0) {vs : List (Option Iq)} {t j : Nat} (hj : (ordM bs)[t]? = some j) (hv : HasW vs (stdS bs t)) : ∃ y, bs[j]? = some y ∧ y.kind ≠ 2 ∧ TickW ps bs vs y := by
  obtain ⟨hjl, hk2⟩ := ord_at hj
  obtain ⟨y, hy⟩ : ∃ y, bs[j]? = some y := ⟨_, List.getElem?_eq_getElem hjl⟩
  rw [kind_at hy] at hk2
  refine ⟨y, hy, hk2, tickW_of2 he hy hk2 fun h0 a ha a0 a1 => ?_⟩
  have hsplit : ordM bs = (ordM bs).take t ++ j :: (ordM bs).drop (t + 1) := by
    obtain ⟨hlt, he⟩ := List.getElem?_eq_some_iff.1 hj
    rw [← he, ← List.drop_eq_getElem_cons hlt, List.take_append_drop]
  have hd := ord_done hsplit (a := a) (by rw [preds_at hy h0]; exact ha)
  exact hv.at_ a.toNat (hd.imp (fun h => ⟨by omega, h⟩) id)
theorem ok_max4 {P : Program} {G : World → Prop} {o : Oper} {F : Frm} {H : List Ob} {ts : Array TypeId} {x y z u : Operand} {k : IntKind} {p q r s : Int} (ho : o.op = .call { callee := .builtin .max, args := #[x, y, z, u], argTypes := ts }) (hx : F.ev x = .one (.d (.val (.int k p)))) (hy : F.ev y = .one (.d (.val (.int k q)))) (hz : F.ev z = .one (.d (.val (.int k r)))) (hu : F.ev u = .one (.d (.val (.int k s)))) : OpOk P G o F H (.one (.d (.val (.int k (max (max (max p q) r) s))))) [] := ok_same fun b0 m a hp hcx hor => by
  have ex := val_of (m := m) (v := a.eval x) (by rw [← hx]; exact ev_rel hor (by rw [ho]; simp [Op.operands, Call.operands]))
  have ey := val_of (m := m) (v := a.eval y) (by rw [← hy]; exact ev_rel hor (by rw [ho]; simp [Op.operands, Call.operands]))
  have ez := val_of (m := m) (v := a.eval z) (by rw [← hz]; exact ev_rel hor (by rw [ho]; simp [Op.operands, Call.operands]))
  have eu := val_of (m := m) (v := a.eval u) (by rw [← hu]; exact ev_rel hor (by rw [ho]; simp [Op.operands, Call.operands]))
  refine ⟨_, ?_, DRel.val rfl⟩
  unfold execOp
  have key : ∀ a b : Int, (if a < b then b else a) = max a b := fun a b => by split <;> omega
  simp [ho, resolve, invoke, builtin, ex, ey, ez, eu, Builtin.max_, Builtin.max2, key]
theorem rgnum_cv (n e : Int) (hs : scOk n e) : CV Tryz.prog TabAt 47 [.agg [dI n, dI e]] [aDy false (dyShift n 0 e).1 (dyShift n 0 e).2] := by
  refine cvz Tryz.func47 Tryz.ntmps47 ?_
  have VA := value_cv n e
  rw [if_pos hs, if_pos hs] at VA
  repeat' (with_reducible first | apply qa | apply qb | apply qc | apply qd | apply qe | apply qf | apply qg | apply qh | apply qi | apply qj | apply qk | apply ql rfl | apply qm rfl | apply qn rfl | apply Je | (refine Tx 0 ?_; refine Jn xBo ?_; refine Jn (xAl tz_Dyadic) ?_) | (refine Tx 1 ?_; refine Jo (xLa tk_Scalar) ?_; refine Jo (xCl Tryz.func109 (VA)) ?_; refine Jo xMt ?_; refine Jo (by exact ok_exA rfl rfl rfl) ?_; refine Jo xEx ?_; refine Jn (xAl tz_Dyadic) ?_; refine Js (xSk tk_Dyadic) ?_; refine Ja ?_) | (refine Tx 2 ?_; refine Jo (xLa tk_Dyadic) ?_; refine Js (xSk tk_Dyadic) ?_))
  exact ret_q rfl (.cons_ (rvW tk_Dyadic rfl) .nil_)
theorem rglong_cv (a : Iq) (n1 : Nf a.1.1 a.1.2) (n2 : Nf a.2.1 a.2.2) (l1 : (canon a.1.1.natAbs).length ≤ 40000) (l2 : (canon a.2.1.natAbs).length ≤ 40000) : CV Tryz.prog TabAt 44 [aIw false a] [aB (longI a)] := by
  refine cvz Tryz.func44 Tryz.ntmps44 ?_
  have B1 := pbits_cv a.1.1 a.1.2 n1 l1
  have B2 := pbits_cv a.2.1 a.2.2 n2 l2
  have hm : decide ((4096 : Int) < max (max (max ((bitsN a.1.1.natAbs : Nat) : Int) (a.1.2 : Int)) ((bitsN a.2.1.natAbs : Nat) : Int)) (a.2.2 : Int)) = longI a := by unfold longI longP longB; rw [Bool.eq_iff_iff, Bool.or_eq_true, decide_eq_true_eq, decide_eq_true_eq, decide_eq_true_eq]; omega
  repeat' (with_reducible first | apply qa | apply qb | apply qc | apply qd | apply qe | apply qf | apply qg | apply qh | apply qi | apply qj | apply qk | apply ql rfl | apply qm rfl | apply qn rfl | apply Je | (refine Tx 0 ?_; refine Jn xBo ?_; refine Ja ?_) | (refine cw_any (id := 1) mixed (by kernel_rfl) ?_; refine Ko (xFa tf_Interval0 tk_Dyadic) ?_; refine Ko (xLa tk_Dyadic) ?_; refine Ko (by first | exact xCl Tryz.func95 (B1) | exact xCl Tryz.func95 (B2)) ?_; refine Ko (xFa tf_Interval0 tk_Dyadic) ?_; refine Ko (xFa tf_Dyadic2 tk_int) ?_; refine Ko (xLd tk_int) ?_; refine Ko (xFa tf_Interval1 tk_Dyadic) ?_; refine Ko (xLa tk_Dyadic) ?_; refine Ko (by first | exact xCl Tryz.func95 (B1) | exact xCl Tryz.func95 (B2)) ?_; refine Ko (xFa tf_Interval1 tk_Dyadic) ?_; refine Ko (xFa tf_Dyadic2 tk_int) ?_; refine Ko (xLd tk_int) ?_; refine Ko (by first | exact ok_max4 rfl rfl rfl rfl rfl | exact ok_max2 rfl rfl rfl) ?_; refine Ko (by first | exact ok_gtrD rfl rfl rfl hm | exact xGt) ?_; refine Ka ?_; refine Ke ?_))
  exact ret_q rfl (.cons_ (rv_b rfl rfl) .nil_)
theorem rgarg_cv (t u : Bool) (y : Bk) (vals : List Iq) (k : Nat) {i : Nat} {p : Iq} (hk : y.args[k]? = some (i : Int)) (hp : vals[i]? = some p) (ha : y.args.length ≤ 1000000) (hv : vals.length ≤ 1000000) : CV Tryz.prog TabAt 97 [aI (k : Int), .one (.ptr true [.row u 6 vals.length (flatD (dIw false) vals)]), .one (.ptr true (dBk t y))] [aIw false p] := by
  refine cvz Tryz.func97 Tryz.ntmps97 ?_
  have l1 := (List.getElem?_eq_some_iff.1 hk).1
  have l2 := (List.getElem?_eq_some_iff.1 hp).1
  repeat' (with_reducible first | apply qa | apply qb | apply qc | apply qd | apply qe | apply qf | apply qg | apply qh | apply qi | apply qj | apply qk | apply ql rfl | apply qm rfl | apply qn rfl | apply Je | (refine Tx 0 ?_; refine Jn (xAl tz_Interval) ?_) | (refine cw_part (id := 1) 8 mixed (by kernel_rfl) ?_; dsimp only [List.take, List.drop]; refine Ko (xLd tk_s_Interval) ?_; refine Ko (xFa tf_Block1 tk_s_int) ?_; refine Ko (xLd tk_s_int) ?_; refine Km ?_; refine Ko (by first | exact xIr ts_s_int (int_at hk) | exact xIr ts_s_int (iw_at hp)) ?_; refine Ko (xLd tk_int) ?_; refine Ko (xIr ts_s_Interval (iw_at hp)) ?_; refine Ko (xLa tk_Interval) ?_; refine Ke ?_; refine Js (xSk tk_Interval) ?_))
  exact ret_q rfl (.cons_ (rvJ tk_Interval rfl) .nil_)
theorem rgblock_cv (t : Bool) (ps : List Prt) (bs : List Bk) (os : List Int) (y : Bk) (vals l : List Iq) (hk : y.kind = 0 ∨ y.kind = 1 ∨ y.kind = 3 ∨ y.kind = 4 ∨ y.kind = 5 ∨ y.kind = 6 ∨ y.kind = 7 ∨ y.kind = 8 ∨ y.kind = 9 ∨ y.kind = 10 ∨ y.kind = 11) (ha : y.args.length ≤ 1000000) (hvl : vals.length ≤ 1000000) (hpl : ps.length ≤ 1000000)
    (hl : ∀ k : Nat, (k = 0 ∧ y.kind ≠ 0 ∧ y.kind ≠ 1 ∨ k = 1 ∧ (y.kind = 3 ∨ y.kind = 4 ∨ y.kind = 7 ∨ y.kind = 8 ∨ y.kind = 9)) → ∃ p i, l[k]? = some p ∧ y.args[k]? = some ((i : Nat) : Int) ∧ vals[i]? = some p) (hs : ∀ p ∈ l, IwS p 20000 20000)
    (hin : y.kind = 0 → ∃ (i : Nat) (pp : Prt), y.args[0]? = some (i : Int) ∧ ps[i]? = some pp ∧ PortS pp)
    (hsv : (y.kind = 1 ∨ y.kind = 6 ∨ y.kind = 11) → scOk y.vn y.ve) (hsu : y.kind = 11 → scOk y.un y.ue) (hcl : y.kind = 11 → qCmp (dyShift y.vn 0 y.ve) (dyShift y.un 0 y.ue) ≤ 0) : CV Tryz.prog TabAt 46 [aDg t ps bs os, .agg (dBk t y), .one (.row true 6 vals.length (flatD (dIw false) vals))] [aIw false (rangeV y l ps)] := by
  refine cvz Tryz.func46 Tryz.ntmps46 ?_
  rcases hk with h | h | h | h | h | h | h | h | h | h | h
  ·
    obtain ⟨i0, pp, q0, w0, ps0⟩ := hin h
    have l1 := (List.getElem?_eq_some_iff.1 q0).1
    have l3 := (List.getElem?_eq_some_iff.1 w0).1
    have f0 := ps0.l0
    have f1 := ps0.le
    have f2 := ps0.h1
    have f3 := ps0.f0
    have f4 := ps0.f1
    have IN := piints_cv pp.lo pp.hi (by omega) (by omega)
    have OF := pdof_cv 1 (by decide) (by decide)
    have SH := pdshift_cv 1 0 (-pp.fr) ⟨by decide, fun h => absurd rfl h⟩ (Nat.le_trans (canon_len_le (k := 2) (by decide)) (by decide)) (by omega)
    have SC := piscale_cv (spanL [(pp.lo, 0), (pp.hi, 0)]) (dyShift 1 0 (-pp.fr)) (spanL_two (sm_intN pp.lo (by omega) (by decide)) (sm_intN pp.hi (by omega) (by decide))).2.2 ((port_sm (by decide) (by decide) f3 f4).more (by decide) (by decide))
    rw [ps0.scale] at SC
    have hb : rangeV y l ps = portI pp := by unfold rangeV; rw [if_pos h, q0]; simp [w0]
    rw [hb]
    repeat' (with_reducible first | apply qa | apply qb | apply qc | apply qd | apply qe | apply qf | apply qg | apply qh | apply qi | apply qj | apply qk | apply ql rfl | apply qm rfl | apply qn rfl | apply Je | (refine Tx 0 ?_; refine Jn xBo ?_; refine Jn xBo ?_; refine Jn xBo ?_; refine Jn (xAl tz_Interval) ?_) | (refine Tx 1 ?_; refine Jo (by first | exact xMf [(2, 0, none), (1, 0, none)] | exact ok_makeFunc rfl (by repeat' first | exact lrel_n rfl rfl | refine lrel_c rfl rfl rfl ?_)) ?_; refine Ja ?_) | (refine Tx 2 ?_; refine Jo (xFa tf_Block0 tk_int) ?_; refine Jo (xLd tk_int) ?_) | (refine Tx 3 ?_; refine Jo xEq ?_; refine Ja ?_) | (refine cw_part (id := 4) 9 mixed (by kernel_rfl) ?_; dsimp only [List.take, List.drop]; refine Ko (xFa tf_Diagram0 tk_s_Port) ?_; refine Ko (xLd tk_s_Port) ?_; refine Ko (xFa tf_Block1 tk_s_int) ?_; refine Ko (xLd tk_s_int) ?_; refine Ko (xIr ts_s_int (int_at q0)) ?_; refine Ko (xLd tk_int) ?_; refine Ko (xIr ts_s_Port (prt_at w0)) ?_; refine Ko (xLa tk_Port) ?_; refine Kn (xAl tz_Port) ?_; refine Ke ?_; refine Js (xSk tk_Port) ?_) | (refine cw_part (id := 5) 11 mixed (by kernel_rfl) ?_; dsimp only [List.take, List.drop]; refine Ko (xFa tf_Port0 tk_int) ?_; refine Ko (xLd tk_int) ?_; refine Ko (xFa tf_Port1 tk_int) ?_; refine Ko (xLd tk_int) ?_; refine Ko (xCl Tryz.func99 (IN)) ?_; refine Ko (xCl Tryz.func100 (OF)) ?_; refine Ko (xFa tf_Port2 tk_int) ?_; refine Ko (xLd tk_int) ?_; refine Ko (by first | exact ok_neg64 rfl rfl (by omega) | exact ok_not rfl rfl) ?_; refine Ko (xCl Tryz.func90 (SH)) ?_; refine Ko (xCl Tryz.func98 (SC)) ?_; refine Ke ?_; refine Js (xSk tk_Interval) ?_))
    exact ret_q rfl (.cons_ (rvJ tk_Interval rfl) .nil_)
  ·
    have hv := hsv (by omega)
    have RV := rgnum_cv y.vn y.ve hv
    have sv := (sc_lb hv).more (show LB ≤ 20000 by decide) (show LB ≤ 20000 by decide)
    have C := pipoint_cv (dyShift y.vn 0 y.ve) sv.ok (Nat.le_trans (sv.lenN 625 (by decide)) (by decide))
    have hb : rangeV y l ps = ((dyShift y.vn 0 y.ve), (dyShift y.vn 0 y.ve)) := by unfold rangeV blkI; simp [h]
    rw [hb]
    repeat' (with_reducible first | apply qa | apply qb | apply qc | apply qd | apply qe | apply qf | apply qg | apply qh | apply qi | apply qj | apply qk | apply ql rfl | apply qm rfl | apply qn rfl | apply Je | (refine Tx 0 ?_; refine Jn xBo ?_; refine Jn xBo ?_; refine Jn xBo ?_; refine Jn (xAl tz_Interval) ?_) | (refine Tx 1 ?_; refine Jo (by first | exact xMf [(2, 0, none), (1, 0, none)] | exact ok_makeFunc rfl (by repeat' first | exact lrel_n rfl rfl | refine lrel_c rfl rfl rfl ?_)) ?_; refine Ja ?_) | (refine Tx 2 ?_; refine Jo (xFa tf_Block0 tk_int) ?_; refine Jo (xLd tk_int) ?_) | (refine Tx 3 ?_; refine Jo xEq ?_; refine Ja ?_) | (refine Tx 6 ?_; refine Jo xEq ?_; refine Ja ?_) | (refine Tx 7 ?_; refine Jo (xFa tf_Block2 tk_Scalar) ?_; refine Jo (xLa tk_Scalar) ?_; refine Jo (xCl Tryz.func47 (RV)) ?_; refine Jo (xCl Tryz.func57 (C)) ?_; refine Js (xSk tk_Interval) ?_))
    exact ret_q rfl (.cons_ (rvJ tk_Interval rfl) .nil_)
  ·
    obtain ⟨p, i0, h0, q0, r0⟩ := hl 0 (by omega)
    have sp := (hs p (List.mem_of_getElem? h0))
    have A0 := rgarg_cv t true y vals 0 q0 r0 ha hvl
    obtain ⟨q, i1, h1, q1, r1⟩ := hl 1 (by omega)
    have sq := (hs q (List.mem_of_getElem? h1))
    have A1 := rgarg_cv t true y vals 1 q1 r1 ha hvl
    have C := piadd_cv p q sp sq
    have hb : rangeV y l ps = iAdd p q := by unfold rangeV blkI; simp [h, h0, h1]
    rw [hb]
    repeat' (with_reducible first | apply qa | apply qb | apply qc | apply qd | apply qe | apply qf | apply qg | apply qh | apply qi | apply qj | apply qk | apply ql rfl | apply qm rfl | apply qn rfl | apply Je | (refine Tx 0 ?_; refine Jn xBo ?_; refine Jn xBo ?_; refine Jn xBo ?_; refine Jn (xAl tz_Interval) ?_) | (refine Tx 1 ?_; refine Jo (by first | exact xMf [(2, 0, none), (1, 0, none)] | exact ok_makeFunc rfl (by repeat' first | exact lrel_n rfl rfl | refine lrel_c rfl rfl rfl ?_)) ?_; refine Ja ?_) | (refine Tx 2 ?_; refine Jo (xFa tf_Block0 tk_int) ?_; refine Jo (xLd tk_int) ?_) | (refine Tx 3 ?_; refine Jo xEq ?_; refine Ja ?_) | (refine Tx 6 ?_; refine Jo xEq ?_; refine Ja ?_) | (refine Tx 8 ?_; refine Jo xEq ?_; refine Ja ?_) | (refine Tx 9 ?_; refine Jm ?_; refine Jo (xCc Tryz.func97 A0 (args := [_]) rfl) ?_; refine Jm ?_; refine Jo (xCc Tryz.func97 A1 (args := [_]) rfl) ?_; refine Jo (xCl Tryz.func101 (C)) ?_; refine Js (xSk tk_Interval) ?_))
    exact ret_q rfl (.cons_ (rvJ tk_Interval rfl) .nil_)
  ·
    obtain ⟨p, i0, h0, q0, r0⟩ := hl 0 (by omega)
    have sp := (hs p (List.mem_of_getElem? h0))
    have A0 := rgarg_cv t true y vals 0 q0 r0 ha hvl
    obtain ⟨q, i1, h1, q1, r1⟩ := hl 1 (by omega)
    have sq := (hs q (List.mem_of_getElem? h1))
    have A1 := rgarg_cv t true y vals 1 q1 r1 ha hvl
    have C := pisub_cv p q sp sq
    have hb : rangeV y l ps = iSub p q := by unfold rangeV blkI; simp [h, h0, h1]
    rw [hb]
    repeat' (with_reducible first | apply qa | apply qb | apply qc | apply qd | apply qe | apply qf | apply qg | apply qh | apply qi | apply qj | apply qk | apply ql rfl | apply qm rfl | apply qn rfl | apply Je | (refine Tx 0 ?_; refine Jn xBo ?_; refine Jn xBo ?_; refine Jn xBo ?_; refine Jn (xAl tz_Interval) ?_) | (refine Tx 1 ?_; refine Jo (by first | exact xMf [(2, 0, none), (1, 0, none)] | exact ok_makeFunc rfl (by repeat' first | exact lrel_n rfl rfl | refine lrel_c rfl rfl rfl ?_)) ?_; refine Ja ?_) | (refine Tx 2 ?_; refine Jo (xFa tf_Block0 tk_int) ?_; refine Jo (xLd tk_int) ?_) | (refine Tx 3 ?_; refine Jo xEq ?_; refine Ja ?_) | (refine Tx 6 ?_; refine Jo xEq ?_; refine Ja ?_) | (refine Tx 8 ?_; refine Jo xEq ?_; refine Ja ?_) | (refine Tx 10 ?_; refine Jo xEq ?_; refine Ja ?_) | (refine Tx 11 ?_; refine Jm ?_; refine Jo (xCc Tryz.func97 A0 (args := [_]) rfl) ?_; refine Jm ?_; refine Jo (xCc Tryz.func97 A1 (args := [_]) rfl) ?_; refine Jo (xCl Tryz.func102 (C)) ?_; refine Js (xSk tk_Interval) ?_))
    exact ret_q rfl (.cons_ (rvJ tk_Interval rfl) .nil_)
  ·
    obtain ⟨p, i0, h0, q0, r0⟩ := hl 0 (by omega)
    have sp := (hs p (List.mem_of_getElem? h0))
    have A0 := rgarg_cv t true y vals 0 q0 r0 ha hvl
    have C := pineg_cv p sp
    have hb : rangeV y l ps = iNeg p := by unfold rangeV blkI; simp [h, h0]
    rw [hb]
    repeat' (with_reducible first | apply qa | apply qb | apply qc | apply qd | apply qe | apply qf | apply qg | apply qh | apply qi | apply qj | apply qk | apply ql rfl | apply qm rfl | apply qn rfl | apply Je | (refine Tx 0 ?_; refine Jn xBo ?_; refine Jn xBo ?_; refine Jn xBo ?_; refine Jn (xAl tz_Interval) ?_) | (refine Tx 1 ?_; refine Jo (by first | exact xMf [(2, 0, none), (1, 0, none)] | exact ok_makeFunc rfl (by repeat' first | exact lrel_n rfl rfl | refine lrel_c rfl rfl rfl ?_)) ?_; refine Ja ?_) | (refine Tx 2 ?_; refine Jo (xFa tf_Block0 tk_int) ?_; refine Jo (xLd tk_int) ?_) | (refine Tx 3 ?_; refine Jo xEq ?_; refine Ja ?_) | (refine Tx 6 ?_; refine Jo xEq ?_; refine Ja ?_) | (refine Tx 8 ?_; refine Jo xEq ?_; refine Ja ?_) | (refine Tx 10 ?_; refine Jo xEq ?_; refine Ja ?_) | (refine Tx 12 ?_; refine Jo xEq ?_; refine Ja ?_) | (refine Tx 14 ?_; refine Jo xEq ?_; refine Ja ?_) | (refine Tx 15 ?_; refine Jm ?_; refine Jo (xCc Tryz.func97 A0 (args := [_]) rfl) ?_; refine Jo (xCl Tryz.func104 (C)) ?_; refine Js (xSk tk_Interval) ?_))
    exact ret_q rfl (.cons_ (rvJ tk_Interval rfl) .nil_)
  ·
    obtain ⟨p, i0, h0, q0, r0⟩ := hl 0 (by omega)
    have sp := (hs p (List.mem_of_getElem? h0))
    have A0 := rgarg_cv t true y vals 0 q0 r0 ha hvl
    have hv := hsv (by omega)
    have RV := rgnum_cv y.vn y.ve hv
    have sv := (sc_lb hv).more (show LB ≤ 20000 by decide) (show LB ≤ 20000 by decide)
    have C := piscale_cv p (dyShift y.vn 0 y.ve) sp sv
    have hb : rangeV y l ps = iScale p (dyShift y.vn 0 y.ve) := by unfold rangeV blkI; simp [h, h0]
    rw [hb]
    repeat' (with_reducible first | apply qa | apply qb | apply qc | apply qd | apply qe | apply qf | apply qg | apply qh | apply qi | apply qj | apply qk | apply ql rfl | apply qm rfl | apply qn rfl | apply Je | (refine Tx 0 ?_; refine Jn xBo ?_; refine Jn xBo ?_; refine Jn xBo ?_; refine Jn (xAl tz_Interval) ?_) | (refine Tx 1 ?_; refine Jo (by first | exact xMf [(2, 0, none), (1, 0, none)] | exact ok_makeFunc rfl (by repeat' first | exact lrel_n rfl rfl | refine lrel_c rfl rfl rfl ?_)) ?_; refine Ja ?_) | (refine Tx 2 ?_; refine Jo (xFa tf_Block0 tk_int) ?_; refine Jo (xLd tk_int) ?_) | (refine Tx 3 ?_; refine Jo xEq ?_; refine Ja ?_) | (refine Tx 6 ?_; refine Jo xEq ?_; refine Ja ?_) | (refine Tx 8 ?_; refine Jo xEq ?_; refine Ja ?_) | (refine Tx 10 ?_; refine Jo xEq ?_; refine Ja ?_) | (refine Tx 12 ?_; refine Jo xEq ?_; refine Ja ?_) | (refine Tx 14 ?_; refine Jo xEq ?_; refine Ja ?_) | (refine Tx 16 ?_; refine Jo xEq ?_; refine Ja ?_) | (refine Tx 18 ?_; refine Jo xEq ?_; refine Ja ?_) | (refine cw_part (id := 19) 6 mixed (by kernel_rfl) ?_; dsimp only [List.take, List.drop]; refine Km ?_; refine Ko (xCc Tryz.func97 A0 (args := [_]) rfl) ?_; refine Ko (xFa tf_Block2 tk_Scalar) ?_; refine Ko (xLa tk_Scalar) ?_; refine Ko (xCl Tryz.func47 (RV)) ?_; refine Ko (xCl Tryz.func98 (C)) ?_; refine Ke ?_; refine Js (xSk tk_Interval) ?_))
    exact ret_q rfl (.cons_ (rvJ tk_Interval rfl) .nil_)
  ·
    obtain ⟨p, i0, h0, q0, r0⟩ := hl 0 (by omega)
    have sp := (hs p (List.mem_of_getElem? h0))
    have A0 := rgarg_cv t true y vals 0 q0 r0 ha hvl
    obtain ⟨q, i1, h1, q1, r1⟩ := hl 1 (by omega)
    have sq := (hs q (List.mem_of_getElem? h1))
    have A1 := rgarg_cv t true y vals 1 q1 r1 ha hvl
    have C := pimul_cv p q sp sq
    have hb : rangeV y l ps = iMul p q := by unfold rangeV blkI; simp [h, h0, h1]
    rw [hb]
    repeat' (with_reducible first | apply qa | apply qb | apply qc | apply qd | apply qe | apply qf | apply qg | apply qh | apply qi | apply qj | apply qk | apply ql rfl | apply qm rfl | apply qn rfl | apply Je | (refine Tx 0 ?_; refine Jn xBo ?_; refine Jn xBo ?_; refine Jn xBo ?_; refine Jn (xAl tz_Interval) ?_) | (refine Tx 1 ?_; refine Jo (by first | exact xMf [(2, 0, none), (1, 0, none)] | exact ok_makeFunc rfl (by repeat' first | exact lrel_n rfl rfl | refine lrel_c rfl rfl rfl ?_)) ?_; refine Ja ?_) | (refine Tx 2 ?_; refine Jo (xFa tf_Block0 tk_int) ?_; refine Jo (xLd tk_int) ?_) | (refine Tx 3 ?_; refine Jo xEq ?_; refine Ja ?_) | (refine Tx 6 ?_; refine Jo xEq ?_; refine Ja ?_) | (refine Tx 8 ?_; refine Jo xEq ?_; refine Ja ?_) | (refine Tx 10 ?_; refine Jo xEq ?_; refine Ja ?_) | (refine Tx 12 ?_; refine Jo xEq ?_; refine Ja ?_) | (refine Tx 13 ?_; refine Jm ?_; refine Jo (xCc Tryz.func97 A0 (args := [_]) rfl) ?_; refine Jm ?_; refine Jo (xCc Tryz.func97 A1 (args := [_]) rfl) ?_; refine Jo (xCl Tryz.func103 (C)) ?_; refine Js (xSk tk_Interval) ?_))
    exact ret_q rfl (.cons_ (rvJ tk_Interval rfl) .nil_)
  ·
    obtain ⟨p, i0, h0, q0, r0⟩ := hl 0 (by omega)
    have sp := (hs p (List.mem_of_getElem? h0))
    have A0 := rgarg_cv t true y vals 0 q0 r0 ha hvl
    obtain ⟨q, i1, h1, q1, r1⟩ := hl 1 (by omega)
    have sq := (hs q (List.mem_of_getElem? h1))
    have A1 := rgarg_cv t true y vals 1 q1 r1 ha hvl
    have C := pimin_cv p q sp sq
    have hb : rangeV y l ps = iMin p q := by unfold rangeV blkI; simp [h, h0, h1]
    rw [hb]
    repeat' (with_reducible first | apply qa | apply qb | apply qc | apply qd | apply qe | apply qf | apply qg | apply qh | apply qi | apply qj | apply qk | apply ql rfl | apply qm rfl | apply qn rfl | apply Je | (refine Tx 0 ?_; refine Jn xBo ?_; refine Jn xBo ?_; refine Jn xBo ?_; refine Jn (xAl tz_Interval) ?_) | (refine Tx 1 ?_; refine Jo (by first | exact xMf [(2, 0, none), (1, 0, none)] | exact ok_makeFunc rfl (by repeat' first | exact lrel_n rfl rfl | refine lrel_c rfl rfl rfl ?_)) ?_; refine Ja ?_) | (refine Tx 2 ?_; refine Jo (xFa tf_Block0 tk_int) ?_; refine Jo (xLd tk_int) ?_) | (refine Tx 3 ?_; refine Jo xEq ?_; refine Ja ?_) | (refine Tx 6 ?_; refine Jo xEq ?_; refine Ja ?_) | (refine Tx 8 ?_; refine Jo xEq ?_; refine Ja ?_) | (refine Tx 10 ?_; refine Jo xEq ?_; refine Ja ?_) | (refine Tx 12 ?_; refine Jo xEq ?_; refine Ja ?_) | (refine Tx 14 ?_; refine Jo xEq ?_; refine Ja ?_) | (refine Tx 16 ?_; refine Jo xEq ?_; refine Ja ?_) | (refine Tx 18 ?_; refine Jo xEq ?_; refine Ja ?_) | (refine Tx 20 ?_; refine Jo xEq ?_; refine Ja ?_) | (refine Tx 21 ?_; refine Jm ?_; refine Jo (xCc Tryz.func97 A0 (args := [_]) rfl) ?_; refine Jm ?_; refine Jo (xCc Tryz.func97 A1 (args := [_]) rfl) ?_; refine Jo (xCl Tryz.func106 (C)) ?_; refine Js (xSk tk_Interval) ?_))
    exact ret_q rfl (.cons_ (rvJ tk_Interval rfl) .nil_)
  ·
    obtain ⟨p, i0, h0, q0, r0⟩ := hl 0 (by omega)
    have sp := (hs p (List.mem_of_getElem? h0))
    have A0 := rgarg_cv t true y vals 0 q0 r0 ha hvl
    obtain ⟨q, i1, h1, q1, r1⟩ := hl 1 (by omega)
    have sq := (hs q (List.mem_of_getElem? h1))
    have A1 := rgarg_cv t true y vals 1 q1 r1 ha hvl
    have C := pimax_cv p q sp sq
    have hb : rangeV y l ps = iMax p q := by unfold rangeV blkI; simp [h, h0, h1]
    rw [hb]
    repeat' (with_reducible first | apply qa | apply qb | apply qc | apply qd | apply qe | apply qf | apply qg | apply qh | apply qi | apply qj | apply qk | apply ql rfl | apply qm rfl | apply qn rfl | apply Je | (refine Tx 0 ?_; refine Jn xBo ?_; refine Jn xBo ?_; refine Jn xBo ?_; refine Jn (xAl tz_Interval) ?_) | (refine Tx 1 ?_; refine Jo (by first | exact xMf [(2, 0, none), (1, 0, none)] | exact ok_makeFunc rfl (by repeat' first | exact lrel_n rfl rfl | refine lrel_c rfl rfl rfl ?_)) ?_; refine Ja ?_) | (refine Tx 2 ?_; refine Jo (xFa tf_Block0 tk_int) ?_; refine Jo (xLd tk_int) ?_) | (refine Tx 3 ?_; refine Jo xEq ?_; refine Ja ?_) | (refine Tx 6 ?_; refine Jo xEq ?_; refine Ja ?_) | (refine Tx 8 ?_; refine Jo xEq ?_; refine Ja ?_) | (refine Tx 10 ?_; refine Jo xEq ?_; refine Ja ?_) | (refine Tx 12 ?_; refine Jo xEq ?_; refine Ja ?_) | (refine Tx 14 ?_; refine Jo xEq ?_; refine Ja ?_) | (refine Tx 16 ?_; refine Jo xEq ?_; refine Ja ?_) | (refine Tx 18 ?_; refine Jo xEq ?_; refine Ja ?_) | (refine Tx 20 ?_; refine Jo xEq ?_; refine Ja ?_) | (refine Tx 22 ?_; refine Jo xEq ?_; refine Ja ?_) | (refine Tx 23 ?_; refine Jm ?_; refine Jo (xCc Tryz.func97 A0 (args := [_]) rfl) ?_; refine Jm ?_; refine Jo (xCc Tryz.func97 A1 (args := [_]) rfl) ?_; refine Jo (xCl Tryz.func107 (C)) ?_; refine Js (xSk tk_Interval) ?_))
    exact ret_q rfl (.cons_ (rvJ tk_Interval rfl) .nil_)
  ·
    obtain ⟨p, i0, h0, q0, r0⟩ := hl 0 (by omega)
    have sp := (hs p (List.mem_of_getElem? h0))
    have A0 := rgarg_cv t true y vals 0 q0 r0 ha hvl
    have C := piabs_cv p sp
    have hb : rangeV y l ps = iAbs p := by unfold rangeV blkI; simp [h, h0]
    rw [hb]
    repeat' (with_reducible first | apply qa | apply qb | apply qc | apply qd | apply qe | apply qf | apply qg | apply qh | apply qi | apply qj | apply qk | apply ql rfl | apply qm rfl | apply qn rfl | apply Je | (refine Tx 0 ?_; refine Jn xBo ?_; refine Jn xBo ?_; refine Jn xBo ?_; refine Jn (xAl tz_Interval) ?_) | (refine Tx 1 ?_; refine Jo (by first | exact xMf [(2, 0, none), (1, 0, none)] | exact ok_makeFunc rfl (by repeat' first | exact lrel_n rfl rfl | refine lrel_c rfl rfl rfl ?_)) ?_; refine Ja ?_) | (refine Tx 2 ?_; refine Jo (xFa tf_Block0 tk_int) ?_; refine Jo (xLd tk_int) ?_) | (refine Tx 3 ?_; refine Jo xEq ?_; refine Ja ?_) | (refine Tx 6 ?_; refine Jo xEq ?_; refine Ja ?_) | (refine Tx 8 ?_; refine Jo xEq ?_; refine Ja ?_) | (refine Tx 10 ?_; refine Jo xEq ?_; refine Ja ?_) | (refine Tx 12 ?_; refine Jo xEq ?_; refine Ja ?_) | (refine Tx 14 ?_; refine Jo xEq ?_; refine Ja ?_) | (refine Tx 16 ?_; refine Jo xEq ?_; refine Ja ?_) | (refine Tx 17 ?_; refine Jm ?_; refine Jo (xCc Tryz.func97 A0 (args := [_]) rfl) ?_; refine Jo (xCl Tryz.func105 (C)) ?_; refine Js (xSk tk_Interval) ?_))
    exact ret_q rfl (.cons_ (rvJ tk_Interval rfl) .nil_)
  ·
    obtain ⟨p, i0, h0, q0, r0⟩ := hl 0 (by omega)
    have sp := (hs p (List.mem_of_getElem? h0))
    have A0 := rgarg_cv t true y vals 0 q0 r0 ha hvl
    have hv := hsv (by omega)
    have RV := rgnum_cv y.vn y.ve hv
    have sv := (sc_lb hv).more (show LB ≤ 20000 by decide) (show LB ≤ 20000 by decide)
    have hu := hsu h
    have RU := rgnum_cv y.un y.ue hu
    have su := (sc_lb hu).more (show LB ≤ 20000 by decide) (show LB ≤ 20000 by decide)
    have C := piclip_cv p (dyShift y.vn 0 y.ve) (dyShift y.un 0 y.ue) sp sv su (hcl h)
    have hb : rangeV y l ps = iClip p (dyShift y.vn 0 y.ve) (dyShift y.un 0 y.ue) := by unfold rangeV blkI; simp [h, h0]
    rw [hb]
    repeat' (with_reducible first | apply qa | apply qb | apply qc | apply qd | apply qe | apply qf | apply qg | apply qh | apply qi | apply qj | apply qk | apply ql rfl | apply qm rfl | apply qn rfl | apply Je | (refine Tx 0 ?_; refine Jn xBo ?_; refine Jn xBo ?_; refine Jn xBo ?_; refine Jn (xAl tz_Interval) ?_) | (refine Tx 1 ?_; refine Jo (by first | exact xMf [(2, 0, none), (1, 0, none)] | exact ok_makeFunc rfl (by repeat' first | exact lrel_n rfl rfl | refine lrel_c rfl rfl rfl ?_)) ?_; refine Ja ?_) | (refine Tx 2 ?_; refine Jo (xFa tf_Block0 tk_int) ?_; refine Jo (xLd tk_int) ?_) | (refine Tx 3 ?_; refine Jo xEq ?_; refine Ja ?_) | (refine Tx 6 ?_; refine Jo xEq ?_; refine Ja ?_) | (refine Tx 8 ?_; refine Jo xEq ?_; refine Ja ?_) | (refine Tx 10 ?_; refine Jo xEq ?_; refine Ja ?_) | (refine Tx 12 ?_; refine Jo xEq ?_; refine Ja ?_) | (refine Tx 14 ?_; refine Jo xEq ?_; refine Ja ?_) | (refine Tx 16 ?_; refine Jo xEq ?_; refine Ja ?_) | (refine Tx 18 ?_; refine Jo xEq ?_; refine Ja ?_) | (refine Tx 20 ?_; refine Jo xEq ?_; refine Ja ?_) | (refine Tx 22 ?_; refine Jo xEq ?_; refine Ja ?_) | (refine cw_partE (id := 24) 13 [(13, 11)] mixed (by kernel_rfl) ?_; dsimp only [List.take, List.drop]; refine Km ?_; refine Ko (xCc Tryz.func97 A0 (args := [_]) rfl) ?_; refine Ko (xFa tf_Block2 tk_Scalar) ?_; refine Ko (xLa tk_Scalar) ?_; refine Ko (by first | exact xCl Tryz.func47 (RV) | exact xCl Tryz.func47 (RU)) ?_; refine Ko (xFa tf_Block3 tk_Scalar) ?_; refine Ko (xLa tk_Scalar) ?_; refine Ko (by first | exact xCl Tryz.func47 (RV) | exact xCl Tryz.func47 (RU)) ?_; refine Ko (xCl Tryz.func108 (C)) ?_; refine Ko xMt ?_; refine Ko (by exact ok_exA rfl rfl rfl) ?_; refine Ko xEx ?_; refine Kn (xAl tz_Interval) ?_; refine Ke ?_; refine Js (xSk tk_Interval) ?_; refine Ja ?_) | (refine Tx 25 ?_; refine Jo (xLa tk_Interval) ?_; refine Js (xSk tk_Interval) ?_))
    exact ret_q rfl (.cons_ (rvJ tk_Interval rfl) .nil_)
abbrev ivQ (q : Rv × Rv) : Iq := (rvP q.1, rvP q.2)
def rowV (qs : List (Rv × Rv)) : D := .row false 6 qs.length (flatD (dIr false) qs)
def aIws (l : List Iq) : A := .one (.row false 6 l.length (flatD (dIw false) l))
abbrev ivC (q : Rv × Rv) : Bool := ivR q.1 q.2
def rgE (ps : List Prt) (bs : List Bk) (os : List Int) (qs : List (Rv × Rv)) : Int :=
  if dgErr ps bs os ≠ 0 then dgErr ps bs os else if qs.length ≠ (delL bs).length then 11 else if qs.all ivC = false then 2 else if rgBad ps bs (qs.map ivQ) = true then 4 else 0
section
variable {ps : List Prt} {bs : List Bk} {os : List Int} {qs : List (Rv × Rv)}
theorem rgE1 (h : dgErr ps bs os ≠ 0) : rgE ps bs os qs = dgErr ps bs os := by unfold rgE; rw [if_pos h]
theorem rgE2 (h : dgErr ps bs os = 0) (h2 : qs.length ≠ (delL bs).length) : rgE ps bs os qs = 11 := by unfold rgE; rw [if_neg (not_not_intro h), if_pos h2]
theorem rgE3 (h : dgErr ps bs os = 0) (h2 : qs.length = (delL bs).length) (h3 : qs.all ivC = false) : rgE ps bs os qs = 2 := by unfold rgE; rw [if_neg (not_not_intro h), if_neg (not_not_intro h2), if_pos h3]
theorem rgE4 (h : dgErr ps bs os = 0) (h2 : qs.length = (delL bs).length) (h3 : ¬ qs.all ivC = false) : rgE ps bs os qs = if rgBad ps bs (qs.map ivQ) = true then 4 else 0 := by unfold rgE; rw [if_neg (not_not_intro h), if_neg (not_not_intro h2), if_neg h3]
end
theorem iv_at {qs : List (Rv × Rv)} {k : Nat} {q : Rv × Rv} (h : qs[k]? = some q) : ((flatD (dIr false) qs).drop (k * 6)).take 6 = dIr false q := flatD_at (f := dIr false) (s := 6) (fun _ => rfl) h
theorem raw_iw {q : Rv × Rv} (hr : RvL q.1) (hs : RvL q.2) (h : ivC q = true) : IwS (ivQ q) 1280000 65536 ∧ dIr false q = dIw false (ivQ q) ∧ (canon (rvP q.1).1.natAbs).length ≤ 40000 ∧ (canon (rvP q.2).1.natAbs).length ≤ 40000 := by
  obtain ⟨e, n1, n2, g, k1, k2⟩ := raw_ok hr hs h
  exact ⟨⟨sm_lenN (p := rvP q.1) n1 (k := 40000) (k1 ▸ hr.2) (by decide), sm_lenN (p := rvP q.2) n2 (k := 40000) (k2 ▸ hs.2) (by decide), g⟩, e, k1 ▸ hr.2, k2 ▸ hs.2⟩
theorem not_ivs {qs : List (Rv × Rv)} {k : Nat} {q : Rv × Rv} (h : qs[k]? = some q) (hv : ivC q = false) : qs.all ivC = false := by
  rw [List.all_eq_false]
  exact ⟨q, List.mem_of_getElem? h, by rw [hv]; decide⟩
theorem hull_self {a : Iq} {n d : Nat} (h : IwS a n d) : iHull a a = a := by
  obtain ⟨e1, e2, e3⟩ := spanL_four h.s1 h.s2 h.s1 h.s2
  have hle := h.le
  exact iw_ext e3 h (by show gv (spanL [a.1, a.2, a.1, a.2]).1 = _; rw [e1]; omega) (by show gv (spanL [a.1, a.2, a.1, a.2]).2 = _; rw [e2]; omega)
theorem rgeval_cv (t : Bool) {ps : List Prt} {bs : List Bk} {os : List Int} (hl : DgLen ps bs os) (qs : List (Rv × Rv)) (hw : ∀ q ∈ qs, RvL q.1 ∧ RvL q.2) (hrl : qs.length ≤ 1000000) : CV Tryz.prog TabAt 12 [aDg t ps bs os, .one (rowV qs)] [aIws (okQ (rgE ps bs os qs) (rgV ps bs (qs.map ivQ))), aE (rgE ps bs os qs)] := by
  refine cvz Tryz.func12 Tryz.ntmps12 ?_
  have DL := (delays_cv t hl (ps := ps) (bs := bs) (os := os)).cv
  have OL := (order_cv t hl (ps := ps) (bs := bs) (os := os)).cv
  have hnl := natI_len (delL bs)
  have hol := natI_len (ordM bs)
  have hl1 := hl.l1
  have hl2 := hl.l2
  have hl3 := hl.l3
  have hob := ord_len (bs := bs)
  have hdb := delL_le bs
  by_cases h0 : dgErr ps bs os = 0
  case neg =>
    rw [if_neg h0] at DL
    have hE := rgE1 (qs := qs) h0
    rw [hE, okQ_n h0]
    repeat' (with_reducible first | apply qa | apply qb | apply qc | apply qd | apply qe | apply qf | apply qg | apply qh | apply qi | apply qj | apply qk | apply ql rfl | apply qm rfl | apply qn rfl | apply Je | (refine Tx 0 ?_; refine Jn xBo ?_; refine Ja ?_; refine Ja ?_) | (refine Tx 1 ?_; refine Jo (xLa tk_Diagram) ?_; refine Jo (xCl Tryz.func41 (DL)) ?_; refine Jo xMt ?_; refine Jo xEx ?_; refine Jo xEx ?_; refine Ja ?_; refine Ja ?_) | (refine Tx 2 ?_; refine Jm ?_; refine Jo (xNE ti_error) ?_) | (refine Tx 3 ?_; refine Jm ?_; refine Ja ?_; refine Ja ?_))
    exact ret_q rfl (.cons_ (.tmp (.one (cexp_n rfl rfl))) (.cons_ (rv_e rfl rfl) .nil_))
  rw [if_pos h0, h0] at DL
  rw [if_pos h0, h0] at OL
  by_cases hL : qs.length = (delL bs).length
  case neg =>
    have hE := rgE2 (os := os) h0 hL
    rw [hE, okQ_n (by decide)]
    repeat' (with_reducible first | apply qa | apply qb | apply qc | apply qd | apply qe | apply qf | apply qg | apply qh | apply qi | apply qj | apply qk | apply ql rfl | apply qm rfl | apply qn rfl | apply Je | (refine Tx 0 ?_; refine Jn xBo ?_; refine Ja ?_; refine Ja ?_) | (refine Tx 1 ?_; refine Jo (xLa tk_Diagram) ?_; refine Jo (xCl Tryz.func41 (DL)) ?_; refine Jo xMt ?_; refine Jo xEx ?_; refine Jo xEx ?_; refine Ja ?_; refine Ja ?_) | (refine Tx 2 ?_; refine Jm ?_; refine Jo (xNE ti_error) ?_) | (refine Tx 4 ?_; refine Jm ?_; refine Jo (xLn ts_s_Interval) ?_; refine Jm ?_; refine Jo (xLn ts_s_int) ?_; refine Jo xNe ?_) | (refine Tx 5 ?_; refine Jo (xMi Tryz.underlying48) ?_; refine Ja ?_; refine Ja ?_))
    exact ret_q rfl (.cons_ (.tmp (.one (cexp_n rfl rfl))) (.cons_ (rv_en rfl (by decide) rfl) .nil_))
  repeat' (with_reducible first | apply qa | apply qb | apply qc | apply qd | apply qe | apply qf | apply qg | apply qh | apply qi | apply qj | apply qk | apply ql rfl | apply qm rfl | apply qn rfl | apply Je | (refine Tx 0 ?_; refine Jn xBo ?_; refine Ja ?_; refine Ja ?_) | (refine Tx 1 ?_; refine Jo (xLa tk_Diagram) ?_; refine Jo (xCl Tryz.func41 (DL)) ?_; refine Jo xMt ?_; refine Jo xEx ?_; refine Jo xEx ?_; refine Ja ?_; refine Ja ?_) | (refine Tx 2 ?_; refine Jm ?_; refine Jo (xNE ti_error) ?_) | (refine Tx 4 ?_; refine Jm ?_; refine Jo (xLn ts_s_Interval) ?_; refine Jm ?_; refine Jo (xLn ts_s_int) ?_; refine Jo xNe ?_) | (refine Tx 6 ?_; refine Jm ?_; refine Jo (xLn ts_s_Interval) ?_; refine Jm ?_))
  refine cw_wk (F' := ofL [(1, vd (rowV qs)), (2, vr 0), (6, vd (rowI false (natI (delL bs)))), (30, vd (rowV qs)), (31, vi qs.length), (32, vi ((0 : Nat)))]) (H' := [.box 26 [.d (rowP t ps), .d (rowB t bs), .d (rowI t os)]]) (wk_go _ 1 ?_ ?_ ?_) ?_
  · rfl
  · exact mB rfl rfl
  · exact ⟨bel_lit rfl, trivial⟩
  refine cw_loopW (fun n Fr H => ∃ k : Nat, k ≤ qs.length ∧ n = qs.length - k ∧ (∀ q ∈ qs.take k, ivC q = true) ∧ Fr = ofL [(1, vd (rowV qs)), (2, vr 0), (6, vd (rowI false (natI (delL bs)))), (30, vd (rowV qs)), (31, vi qs.length), (32, vi ((k : Nat)))] ∧ H = [.box 26 [.d (rowP t ps), .d (rowB t bs), .d (rowI t os)]]) (n0 := qs.length) ⟨0, Nat.zero_le _, rfl, (fun r hr => by simp at hr), rfl, rfl⟩ ?_
  rintro n Fr H ⟨k, hk, rfl, hv, rfl, rfl⟩
  by_cases hlt : k < qs.length
  case pos =>
    obtain ⟨q, hq⟩ : ∃ q, qs[k]? = some q := ⟨_, List.getElem?_eq_getElem hlt⟩
    have hqm := hw q (List.mem_of_getElem? hq)
    have VA : CV Tryz.prog TabAt 42 [.agg (dIr false q)] [aB (ivC q)] := pivalid_cv q.1 q.2 hqm.1 hqm.2
    cases hb : ivC q
    case false =>
      rw [hb] at VA
      have hE := rgE3 (os := os) h0 hL (not_ivs hq hb)
      rw [hE, okQ_n (by decide)]
      repeat' (with_reducible first | apply qa | apply qb | apply qc | apply qd | apply qe | apply qf | apply qg | apply qh | apply qi | apply qj | apply qk | apply ql rfl | apply qm rfl | apply qn rfl | apply Je | (refine Tx 7 ?_; refine Jo xLt ?_) | (refine Tx 8 ?_; refine Jo (xIr ts_s_Interval (iv_at hq)) ?_; refine Jo (xLa tk_Interval) ?_; refine Jn (xAl tz_Interval) ?_; refine Js (xSk tk_Interval) ?_) | (refine Tx 9 ?_; refine Jo (xLa tk_Interval) ?_; refine Jo (xCl Tryz.func42 (VA)) ?_; refine Jo (by first | exact xNt | exact xNg) ?_) | (refine Tx 10 ?_; refine Jo (xMi Tryz.underlying48) ?_; refine Ja ?_; refine Ja ?_))
      exact ret_q rfl (.cons_ (.tmp (.one (cexp_n rfl rfl))) (.cons_ (rv_en rfl (by decide) rfl) .nil_))
    case true =>
      rw [hb] at VA
      repeat' (with_reducible first | apply qa | apply qb | apply qc | apply qd | apply qe | apply qf | apply qg | apply qh | apply qi | apply qj | apply qk | apply ql rfl | apply qm rfl | apply qn rfl | apply Je | (refine Tx 7 ?_; refine Jo xLt ?_) | (refine Tx 8 ?_; refine Jo (xIr ts_s_Interval (iv_at hq)) ?_; refine Jo (xLa tk_Interval) ?_; refine Jn (xAl tz_Interval) ?_; refine Js (xSk tk_Interval) ?_) | (refine Tx 9 ?_; refine Jo (xLa tk_Interval) ?_; refine Jo (xCl Tryz.func42 (VA)) ?_; refine Jo (by first | exact xNt | exact xNg) ?_) | (refine Tx 11 ?_; refine Jo xAd ?_; refine Jm ?_))
      refine ⟨_, _, wk_go _ 1 ?_ ?_ ?_, _, ?_, k + 1, by omega, rfl, take_all1 hv hq hb, rfl, rfl⟩
      · rfl
      · exact mB rfl rfl
      · exact ⟨bel_lit rfl, trivial⟩
      · omega
  obtain rfl : k = qs.length := by omega
  rw [List.take_length] at hv
  clear hlt hk
  have hva : ¬ qs.all ivC = false := by rw [Bool.not_eq_false]; exact List.all_eq_true.2 hv
  have hE := rgE4 (os := os) h0 hL hva
  have hsl : (qs.map ivQ).length = (delL bs).length := by rw [List.length_map]; exact hL
  repeat' (with_reducible first | apply qa | apply qb | apply qc | apply qd | apply qe | apply qf | apply qg | apply qh | apply qi | apply qj | apply qk | apply ql rfl | apply qm rfl | apply qn rfl | apply Je | (refine Tx 7 ?_; refine Jo xLt ?_) | (refine Tx 12 ?_; refine Jo (xLa tk_Diagram) ?_; refine Jo (xCl Tryz.func43 (OL)) ?_; refine Jo xMt ?_; refine Jo xEx ?_; refine Jo xEx ?_; refine Ja ?_; refine Ja ?_) | (refine Tx 13 ?_; refine Jm ?_; refine Jo (xNE ti_error) ?_) | (refine Tx 15 ?_; refine Jo (xFa tf_Diagram1 tk_s_Block) ?_; refine Jo (xLd tk_s_Block) ?_; refine Jo (xLn ts_s_Block) ?_; refine Jn (by first | exact ok_makeIw (n := bs.length) rfl rfl rfl ts_s_Interval tz_Interval (by omega) (by decide) | exact ok_makeSlice rfl rfl rfl ts_s_Interval tz_Interval (by omega) (by decide)) ?_; refine Ja ?_) | (refine Tx 16 ?_; refine Jm ?_; refine Jo (xLn ts_s_int) ?_; refine Jm ?_))
  refine cw_wk (F' := ofL [(1, vd (rowV qs)), (2, vr 0), (6, vd (rowI false (natI (delL bs)))), (10, vd (rowI false (natI (ordM bs)))), (11, vo 1 bs.length), (53, vd (rowI false (natI (delL bs)))), (54, vi ((delL bs).length)), (55, vi ((0 : Nat)))]) (H' := [.box 26 [.d (rowP t ps), .d (rowB t bs), .d (rowI t os)], .row 55 6 bs.length (kWs (delW ((delL bs).take (0)) ((qs.map ivQ).take (0)) (List.replicate bs.length none)))]) (wk_go _ 2 ?_ ?_ ?_) ?_
  · rfl
  · rw [← hnl]; exact mB rfl rfl
  · exact ⟨bel_lit rfl, bel_kWs, trivial⟩
  refine cw_loopW (fun n Fr H => ∃ k : Nat, k ≤ (delL bs).length ∧ n = (delL bs).length - k ∧ (∀ p ∈ (qs.map ivQ).take k, longI p = false) ∧ Fr = ofL [(1, vd (rowV qs)), (2, vr 0), (6, vd (rowI false (natI (delL bs)))), (10, vd (rowI false (natI (ordM bs)))), (11, vo 1 bs.length), (53, vd (rowI false (natI (delL bs)))), (54, vi ((delL bs).length)), (55, vi ((k : Nat)))] ∧ H = [.box 26 [.d (rowP t ps), .d (rowB t bs), .d (rowI t os)], .row 55 6 bs.length (kWs (delW ((delL bs).take (k)) ((qs.map ivQ).take (k)) (List.replicate bs.length none)))]) (n0 := (delL bs).length) ⟨0, Nat.zero_le _, rfl, (fun r hr => by simp at hr), rfl, rfl⟩ ?_
  rintro n Fr H ⟨k, hk, rfl, hnl2, rfl, rfl⟩
  by_cases hlt : k < (delL bs).length
  case pos =>
    obtain ⟨i, hi⟩ : ∃ i, (delL bs)[k]? = some i := ⟨_, List.getElem?_eq_getElem hlt⟩
    obtain ⟨q, hq⟩ : ∃ q, qs[k]? = some q := ⟨_, List.getElem?_eq_getElem (by omega)⟩
    have hqm := List.mem_of_getElem? hq
    obtain ⟨sw, hdy, lw1, lw2⟩ := raw_iw (hw q hqm).1 (hw q hqm).2 (hv q hqm)
    have hst : (qs.map ivQ)[k]? = some (ivQ q) := by rw [List.getElem?_map, hq]; rfl
    have hra := iv_at hq
    rw [hdy] at hra
    have hil2 := (del_at hi).1
    have LG := rglong_cv (ivQ q) sw.s1.ok sw.s2.ok lw1 lw2
    by_cases hlg : longI (ivQ q) = true
    case pos =>
      rw [hlg] at LG
      rw [badW_del hst hlg, if_pos rfl] at hE
      rw [hE, okQ_n (by decide)]
      repeat' (with_reducible first | apply qa | apply qb | apply qc | apply qd | apply qe | apply qf | apply qg | apply qh | apply qi | apply qj | apply qk | apply ql rfl | apply qm rfl | apply qn rfl | apply Je | (refine Tx 17 ?_; refine Jo xLt ?_) | (refine Tx 18 ?_; refine Jm ?_; refine Jo (by first | exact xIr ts_s_int (int_at (natI_at hi)) | exact xIr ts_s_int (hra) | exact xIo (i := i) ts_s_int) ?_; refine Jo (xLd tk_int) ?_; refine Ja ?_; refine Ja ?_) | (refine Tx 19 ?_; refine Jm ?_; refine Jm ?_; refine Jo (by first | exact xIr ts_s_Interval (hra) | exact xIo (i := i) ts_s_Interval) ?_; refine Jo (xLa tk_Interval) ?_; refine Jo (xCl Tryz.func44 (LG)) ?_) | (refine Tx 20 ?_; refine Jo (xMi Tryz.underlying48) ?_; refine Ja ?_; refine Ja ?_))
      exact ret_q rfl (.cons_ (.tmp (.one (cexp_n rfl rfl))) (.cons_ (rv_en rfl (by decide) rfl) .nil_))
    rw [Bool.not_eq_true] at hlg
    rw [hlg] at LG
    have sb := (iwl_of sw hlg)
    have sb2 := sb.more (show LB ≤ 20000 by decide) (show LB ≤ 20000 by decide)
    have HU := pihull_cv (ivQ q) (ivQ q) sb2 sb2
    rw [hull_self sb] at HU
    have tl : i < (delW ((delL bs).take (k)) ((qs.map ivQ).take (k)) (List.replicate bs.length none)).length := by rw [delW_len, List.length_replicate]; exact hil2
    have stV : (delW ((delL bs).take (k)) ((qs.map ivQ).take (k)) (List.replicate bs.length none)).set i (some (ivQ q)) = (delW ((delL bs).take (k + 1)) ((qs.map ivQ).take (k + 1)) (List.replicate bs.length none)) := (delW_next _ hi hst).symm
    repeat' (with_reducible first | apply qa | apply qb | apply qc | apply qd | apply qe | apply qf | apply qg | apply qh | apply qi | apply qj | apply qk | apply ql rfl | apply qm rfl | apply qn rfl | apply Je | (refine Tx 17 ?_; refine Jo xLt ?_) | (refine Tx 18 ?_; refine Jm ?_; refine Jo (by first | exact xIr ts_s_int (int_at (natI_at hi)) | exact xIr ts_s_int (hra) | exact xIo (i := i) ts_s_int) ?_; refine Jo (xLd tk_int) ?_; refine Ja ?_; refine Ja ?_) | (refine Tx 19 ?_; refine Jm ?_; refine Jm ?_; refine Jo (by first | exact xIr ts_s_Interval (hra) | exact xIo (i := i) ts_s_Interval) ?_; refine Jo (xLa tk_Interval) ?_; refine Jo (xCl Tryz.func44 (LG)) ?_) | (refine cw_part (id := 21) 12 mixed (by kernel_rfl) ?_; dsimp only [List.take, List.drop]; refine Km ?_; refine Km ?_; refine Km ?_; refine Km ?_; refine Ko (by first | exact xIr ts_s_Interval (hra) | exact xIo (i := i) ts_s_Interval) ?_; refine Ko (xLa tk_Interval) ?_; refine Km ?_; refine Km ?_; refine Ko (by first | exact xIr ts_s_Interval (hra) | exact xIo (i := i) ts_s_Interval) ?_; refine Ko (xLa tk_Interval) ?_; refine Ko (xCl Tryz.func45 (HU)) ?_; refine Ko (by first | exact xIr ts_s_Interval (hra) | exact xIo (i := i) ts_s_Interval) ?_; refine Ke ?_; refine Js (by first | exact to_stIw rfl rfl rfl rfl tk_Interval tl stV | exact xSk tk_Interval) ?_) | (refine Tx 22 ?_; refine Jo xAd ?_; refine Jm ?_))
    refine ⟨_, _, wk_go _ 2 ?_ ?_ ?_, _, by omega, k + 1, by omega, rfl, take_all1 hnl2 hst hlg, rfl, rfl⟩
    · rfl
    · exact mB rfl rfl
    · exact ⟨bel_lit rfl, bel_kWs, trivial⟩
  obtain rfl : k = (delL bs).length := by omega
  clear hlt hk
  rw [List.take_of_length_le (by omega)] at hnl2
  have HD := hasW_del (bs := bs) (st := (qs.map ivQ)) (fun p hp => by obtain ⟨q, hq, rfl⟩ := List.mem_map.1 hp; exact iwl_of (raw_iw (hw q hq).1 (hw q hq).2 (hv q hq)).1 (hnl2 _ hp)) hsl
  rw [← rgS_0 ps bs (qs.map ivQ)] at HD
  rw [List.take_length, List.take_of_length_le (l := (qs.map ivQ)) (by omega), ← rgS_0 ps bs (qs.map ivQ)]
  repeat' (with_reducible first | apply qa | apply qb | apply qc | apply qd | apply qe | apply qf | apply qg | apply qh | apply qi | apply qj | apply qk | apply ql rfl | apply qm rfl | apply qn rfl | apply Je | (refine Tx 17 ?_; refine Jo xLt ?_) | (refine Tx 23 ?_; refine Jm ?_; refine Jo (xLn ts_s_int) ?_; refine Jm ?_))
  refine cw_wk (F' := ofL [(1, vd (rowV qs)), (2, vr 0), (6, vd (rowI false (natI (delL bs)))), (10, vd (rowI false (natI (ordM bs)))), (11, vo 1 bs.length), (79, vd (rowI false (natI (ordM bs)))), (80, vi ((ordM bs).length)), (81, vi ((0 : Nat)))]) (H' := [.box 26 [.d (rowP t ps), .d (rowB t bs), .d (rowI t os)], .row 55 6 bs.length (kWs (rgS ps bs (qs.map ivQ) (0)))]) (wk_go _ 2 ?_ ?_ ?_) ?_
  · rfl
  · rw [← hol]; exact mB rfl rfl
  · exact ⟨bel_lit rfl, bel_kWs, trivial⟩
  refine cw_loopW (fun n Fr H => ∃ k : Nat, k ≤ (ordM bs).length ∧ n = (ordM bs).length - k ∧ HasW (rgS ps bs (qs.map ivQ) (k)) (stdS bs k) ∧ (∀ s, s < k → longI (rgN ps bs (qs.map ivQ) s) = false) ∧ Fr = ofL [(1, vd (rowV qs)), (2, vr 0), (6, vd (rowI false (natI (delL bs)))), (10, vd (rowI false (natI (ordM bs)))), (11, vo 1 bs.length), (79, vd (rowI false (natI (ordM bs)))), (80, vi ((ordM bs).length)), (81, vi ((k : Nat)))] ∧ H = [.box 26 [.d (rowP t ps), .d (rowB t bs), .d (rowI t os)], .row 55 6 bs.length (kWs (rgS ps bs (qs.map ivQ) (k)))]) (n0 := (ordM bs).length) ⟨0, Nat.zero_le _, rfl, HD, (fun s hs => absurd hs (Nat.not_lt_zero s)), rfl, rfl⟩ ?_
  rintro n Fr H ⟨k, hk, rfl, HK, hgd, rfl, rfl⟩
  by_cases hlt : k < (ordM bs).length
  case pos =>
    obtain ⟨j, hj⟩ : ∃ j, (ordM bs)[k]? = some j := ⟨_, List.getElem?_eq_getElem hlt⟩
    obtain ⟨y, hy, hk2, T⟩ := tickW_of h0 hj HK
    have hjl := (ord_at hj).1
    have hvn : rgN ps bs (qs.map ivQ) k = rangeV y (argsW (rgS ps bs (qs.map ivQ) (k)) y) ps := by unfold rgN tkW; rw [hj]; simp only [Option.getD_some]; rw [hy]
    have hgl : (gW (rgS ps bs (qs.map ivQ) (k))).length = bs.length := by rw [gW_len, rgS_len]
    have BL := rgblock_cv t ps bs os y (gW (rgS ps bs (qs.map ivQ) (k))) (argsW (rgS ps bs (qs.map ivQ) (k)) y) T.hk (by have := T.len; omega) (by omega) (by omega) T.hl (fun p hp => (T.hs p hp).more (by decide) (by decide)) T.hin T.hsv T.hsu T.hcl
    have TS := T.sm
    rw [← hvn] at BL TS
    rw [hgl] at BL
    have LG := rglong_cv (rgN ps bs (qs.map ivQ) k) TS.s1.ok TS.s2.ok (Nat.le_trans (TS.s1.lenN 282 (by decide)) (by decide)) (Nat.le_trans (TS.s2.lenN 282 (by decide)) (by decide))
    have tl : j < (rgS ps bs (qs.map ivQ) (k)).length := by rw [rgS_len]; exact hjl
    have stV : (rgS ps bs (qs.map ivQ) (k)).set j (some (rgN ps bs (qs.map ivQ) k)) = (rgS ps bs (qs.map ivQ) (k + 1)) := (rgS_next hj).symm
    have hbad := badW_ord (ps := ps) (st := (qs.map ivQ)) hlt
    have hnx := hasW_next HK hj
    have hat : (rgS ps bs (qs.map ivQ) (k + 1))[j]? = some (some (rgN ps bs (qs.map ivQ) k)) := by rw [← stV, List.getElem?_set, if_pos rfl, if_pos tl]
    by_cases hlg : longI (rgN ps bs (qs.map ivQ) k) = true
    case pos =>
      rw [hlg] at LG
      rw [hbad hlg, if_pos rfl] at hE
      rw [hE, okQ_n (by decide)]
      repeat' (with_reducible first | apply qa | apply qb | apply qc | apply qd | apply qe | apply qf | apply qg | apply qh | apply qi | apply qj | apply qk | apply ql rfl | apply qm rfl | apply qn rfl | apply Je | (refine Tx 24 ?_; refine Jo xLt ?_) | (refine Tx 25 ?_; refine Jo (by first | exact xIr ts_s_int (int_at (natI_at hj)) | exact xIo (i := j) ts_s_int) ?_; refine Jo (xLd tk_int) ?_; refine Ja ?_) | (refine cw_part (id := 26) 11 mixed (by kernel_rfl) ?_; dsimp only [List.take, List.drop]; refine Km ?_; refine Km ?_; refine Ko (xLa tk_Diagram) ?_; refine Ko (xFa tf_Diagram1 tk_s_Block) ?_; refine Ko (xLd tk_s_Block) ?_; refine Km ?_; refine Ko (by first | exact xIr ts_s_Block (bk_at hy) | exact xIo (i := j) ts_s_Block) ?_; refine Ko (xLa tk_Block) ?_; refine Km ?_; refine Ko (xCl Tryz.func46 BL (ha := by with_unfolding_all first | ((repeat' first | exact lrel_n rfl rfl | refine lrel_c rfl rfl ?_ ?_ | refine xexp_1 rfl rfl ?_ | refine xexp_a rfl rfl ?_ | exact cexp_d rfl (fun h => by cases h) | exact cexp_Iw rfl rfl rfl) <;> fail) | fail)) ?_; refine Ko (xIo (i := j) ts_s_Interval) ?_; refine Ke ?_; refine Js (by first | exact to_stIw rfl rfl rfl rfl tk_Interval tl stV | exact xSk tk_Interval) ?_) | (refine Tx 27 ?_; refine Jm ?_; refine Jm ?_; refine Jo (xIo (i := j) ts_s_Interval) ?_; refine Jo (by first | exact ok_ldIw rfl rfl rfl hat tk_Interval | exact xLa tk_Interval) ?_; refine Jo (xCl Tryz.func44 (LG)) ?_) | (refine Tx 28 ?_; refine Jo (xMi Tryz.underlying48) ?_; refine Ja ?_; refine Ja ?_))
      exact ret_q rfl (.cons_ (.tmp (.one (cexp_n rfl rfl))) (.cons_ (rv_en rfl (by decide) rfl) .nil_))
    rw [Bool.not_eq_true] at hlg
    rw [hlg] at LG
    repeat' (with_reducible first | apply qa | apply qb | apply qc | apply qd | apply qe | apply qf | apply qg | apply qh | apply qi | apply qj | apply qk | apply ql rfl | apply qm rfl | apply qn rfl | apply Je | (refine Tx 24 ?_; refine Jo xLt ?_) | (refine Tx 25 ?_; refine Jo (by first | exact xIr ts_s_int (int_at (natI_at hj)) | exact xIo (i := j) ts_s_int) ?_; refine Jo (xLd tk_int) ?_; refine Ja ?_) | (refine cw_part (id := 26) 11 mixed (by kernel_rfl) ?_; dsimp only [List.take, List.drop]; refine Km ?_; refine Km ?_; refine Ko (xLa tk_Diagram) ?_; refine Ko (xFa tf_Diagram1 tk_s_Block) ?_; refine Ko (xLd tk_s_Block) ?_; refine Km ?_; refine Ko (by first | exact xIr ts_s_Block (bk_at hy) | exact xIo (i := j) ts_s_Block) ?_; refine Ko (xLa tk_Block) ?_; refine Km ?_; refine Ko (xCl Tryz.func46 BL (ha := by with_unfolding_all first | ((repeat' first | exact lrel_n rfl rfl | refine lrel_c rfl rfl ?_ ?_ | refine xexp_1 rfl rfl ?_ | refine xexp_a rfl rfl ?_ | exact cexp_d rfl (fun h => by cases h) | exact cexp_Iw rfl rfl rfl) <;> fail) | fail)) ?_; refine Ko (xIo (i := j) ts_s_Interval) ?_; refine Ke ?_; refine Js (by first | exact to_stIw rfl rfl rfl rfl tk_Interval tl stV | exact xSk tk_Interval) ?_) | (refine Tx 27 ?_; refine Jm ?_; refine Jm ?_; refine Jo (xIo (i := j) ts_s_Interval) ?_; refine Jo (by first | exact ok_ldIw rfl rfl rfl hat tk_Interval | exact xLa tk_Interval) ?_; refine Jo (xCl Tryz.func44 (LG)) ?_) | (refine Tx 29 ?_; refine Jo xAd ?_; refine Jm ?_))
    refine ⟨_, _, wk_go _ 2 ?_ ?_ ?_, _, by omega, k + 1, by omega, rfl, hnx (iwl_of TS hlg), lt_step hgd hlg, rfl, rfl⟩
    · rfl
    · exact mB rfl rfl
    · exact ⟨bel_lit rfl, bel_kWs, trivial⟩
  obtain rfl : k = (ordM bs).length := by omega
  clear hlt hk
  rw [goodW_of hnl2 hgd, if_neg (by decide)] at hE
  rw [hE, okQ_z rfl]
  have hvE : (rgV ps bs (qs.map ivQ)).length = bs.length := by unfold rgV; rw [gW_len, rgS_len]
  unfold aIws
  rw [hvE]
  repeat' (with_reducible first | apply qa | apply qb | apply qc | apply qd | apply qe | apply qf | apply qg | apply qh | apply qi | apply qj | apply qk | apply ql rfl | apply qm rfl | apply qn rfl | apply Je | (refine Tx 24 ?_; refine Jo xLt ?_) | (refine Tx 30 ?_; refine Jm ?_; refine Ja ?_; refine Ja ?_))
  exact ret_q rfl (.cons_ (.tmp (.one (cexp_Iw rfl rfl rfl))) (.cons_ (rv_e0 rfl rfl) .nil_))
section
variable {ps : List Prt} {bs : List Bk} {os : List Int} {qs : List (Rv × Rv)} {st : List Iq}
theorem rgE_z (h : rgE ps bs os qs = 0) : dgErr ps bs os = 0 ∧ qs.length = (delL bs).length ∧ (∀ q ∈ qs, ivC q = true) ∧ rgBad ps bs (qs.map ivQ) = false := by
  by_cases h0 : dgErr ps bs os = 0
  · by_cases h1 : qs.length = (delL bs).length
    · by_cases h2 : qs.all ivC = false
      · rw [rgE3 h0 h1 h2] at h; cases h
      · rw [rgE4 h0 h1 h2] at h
        by_cases h3 : rgBad ps bs (qs.map ivQ) = true
        · rw [if_pos h3] at h; cases h
        · rw [Bool.not_eq_false] at h2
          exact ⟨h0, h1, List.all_eq_true.1 h2, by rw [Bool.not_eq_true] at h3; exact h3⟩
    · rw [rgE2 h0 h1] at h; cases h
  · rw [rgE1 h0] at h; exact absurd h h0
theorem rgBad_f (h : rgBad ps bs st = false) : (∀ p ∈ st, longI p = false) ∧ ∀ t, t < (ordM bs).length → longI (rgN ps bs st t) = false := by
  unfold rgBad at h
  rw [Bool.or_eq_false_iff] at h
  exact ⟨fun p hp => by have := List.any_eq_false.1 h.1 p hp; rwa [Bool.not_eq_true] at this, fun t ht => by have := List.any_eq_false.1 h.2 t (List.mem_range.2 ht); rwa [Bool.not_eq_true] at this⟩
theorem qs_iw (hw : ∀ q ∈ qs, RvL q.1 ∧ RvL q.2) (h : rgE ps bs os qs = 0) : ∀ p ∈ qs.map ivQ, IwS p LB LB := fun p hp => by
  obtain ⟨q, hq, rfl⟩ := List.mem_map.1 hp
  obtain ⟨_, _, hv, hb⟩ := rgE_z h
  exact iwl_of (raw_iw (hw q hq).1 (hw q hq).2 (hv q hq)).1 ((rgBad_f hb).1 _ hp)
theorem rgN_at {t j : Nat} {y : Bk} (hj : (ordM bs)[t]? = some j) (hy : bs[j]? = some y) : rgN ps bs st t = rangeV y (argsW (rgS ps bs st t) y) ps := by
  unfold rgN tkW
  rw [hj]
  simp only [Option.getD_some]
  rw [hy]
theorem rgS_has (he : dgErr ps bs os = 0) (hst : ∀ p ∈ st, IwS p LB LB) (hl : st.length = (delL bs).length) (hb : rgBad ps bs st = false) : ∀ t, t ≤ (ordM bs).length → HasW (rgS ps bs st t) (stdS bs t) := fun t => by
  induction t with
  | zero => intro _; rw [rgS_0]; exact hasW_del hst hl
  | succ t ih =>
    intro ht
    obtain ⟨j, hj⟩ : ∃ j, (ordM bs)[t]? = some j := ⟨_, List.getElem?_eq_getElem ht⟩
    have h := ih (by omega)
    obtain ⟨y, hy, _, T⟩ := tickW_of he hj h
    have TS := T.sm
    rw [← rgN_at hj hy] at TS
    exact hasW_next h hj (iwl_of TS ((rgBad_f hb).2 t ht))
theorem rgV_at (he : dgErr ps bs os = 0) (hst : ∀ p ∈ st, IwS p LB LB) (hl : st.length = (delL bs).length) (hb : rgBad ps bs st = false) {i : Nat} (hi : i < bs.length) : ∃ p, (rgV ps bs st)[i]? = some p ∧ (rgS ps bs st (ordM bs).length)[i]? = some (some p) ∧ IwS p LB LB := by
  obtain ⟨p, hp, hs⟩ := hasW_all he (rgS_has he hst hl hb _ (Nat.le_refl _)) hi
  exact ⟨p, gW_at hp, hp, hs⟩
theorem rgV_len : (rgV ps bs st).length = bs.length := by unfold rgV; rw [gW_len, rgS_len]
end
def clOk (ps : List Prt) (bs : List Bk) (st : List Iq) (k : Nat) : Bool :=
  iIn ((startM bs)[k]?.getD (0, 0), (startM bs)[k]?.getD (0, 0)) (st[k]?.getD iZ) && iIn ((rgV ps bs st)[argZ bs ((delL bs)[k]?.getD 0)]?.getD iZ) (st[k]?.getD iZ)
def closB (ps : List Prt) (bs : List Bk) (st : List Iq) : Bool := (List.range (delL bs).length).all (clOk ps bs st)
theorem clos_no {ps : List Prt} {bs : List Bk} {st : List Iq} {k : Nat} (hk : k < (delL bs).length) (h : clOk ps bs st k = false) : closB ps bs st = false := by
  unfold closB
  rw [List.all_eq_false]
  exact ⟨k, List.mem_range.2 hk, by rw [h]; decide⟩
theorem clos_yes {ps : List Prt} {bs : List Bk} {st : List Iq} (h : ∀ k, k < (delL bs).length → clOk ps bs st k = true) : closB ps bs st = true := List.all_eq_true.2 fun k hk => h k (List.mem_range.1 hk)
theorem clOk_at {ps : List Prt} {bs : List Bk} {st : List Iq} {k i b : Nat} {y : Bk} {a r : Iq} (hi : (delL bs)[k]? = some i) (hy : bs[i]? = some y) (ha : y.args[0]? = some (b : Int)) (hs : st[k]? = some a) (hr : (rgV ps bs st)[b]? = some r) : clOk ps bs st k = (iIn (dyShift y.vn 0 y.ve, dyShift y.vn 0 y.ve) a && iIn r a) := by
  unfold clOk
  rw [start_at hi hy, hs, hi, Option.getD_some, Option.getD_some, Option.getD_some, argZ_at hy ha, hr, Option.getD_some]
def clE (ps : List Prt) (bs : List Bk) (os : List Int) (qs : List (Rv × Rv)) : Bool := if rgE ps bs os qs = 0 then closB ps bs (qs.map ivQ) else false
abbrev pw (k : Int) : Pq := dyShift 1 0 k
theorem pw_sm {k : Int} {n : Nat} (h0 : -(n : Int) ≤ k) (h1 : k ≤ n) (hn : n ≤ 65536) : Sm (pw k) (n + 1) n := by
  unfold pw dyShift
  split
  · exact (Sm.mk_nf (m := 1) (n := n + 1) (d := n) (p := 0 + (-(max (-65536) (min k 65536))).toNat) (by omega) (by omega) (Nat.one_lt_two_pow (by omega)))
  · refine (Sm.mk_nf (n := n + 1) (d := n) (p := 0) (by omega) (by omega) ?_)
    rw [Int.one_mul, Int.natAbs_pow]
    exact Nat.pow_lt_pow_right (by decide) (by omega)
theorem pw_gv {k : Int} (h0 : -65536 ≤ k) (h1 : k ≤ 65536) : gv (pw k) = 2 ^ (65536 + k).toNat := by
  by_cases hk : 0 ≤ k
  · have := gv_shiftU (p := (1, 0)) (n := k.toNat) (Nat.zero_le _) (by omega)
    rw [show ((k.toNat : Nat) : Int) = k by omega, gv_int, Int.one_mul, ← Int.pow_add] at this
    rw [show gv (pw k) = _ from this]
    congr 1
    show 65536 + k.toNat = _
    omega
  · have := gv_shiftD (p := (1, 0)) (n := (-k).toNat) (by show 0 + (-k).toNat ≤ 65536; omega) (by omega)
    rw [show (-(((-k).toNat : Nat) : Int)) = k by omega, gv_int, Int.one_mul] at this
    refine Int.eq_of_mul_eq_mul_right (Int.ne_of_gt (two_pos (-k).toNat)) ?_
    rw [this, ← Int.pow_add]
    congr 1
    show 65536 = _
    omega
def upK (x : Pq) : Int := (bitsN x.1.natAbs : Int) - 1 - x.2
def upP (x : Pq) : Pq := if x.1 = 0 then x else if x.1 < 0 then (if upK x < -30 then (0, 0) else qNeg (pw (upK x))) else pw (max (if qCmp (pw (upK x)) x < 0 then upK x + 1 else upK x) (-30))
theorem rgclosed_cv (t : Bool) {ps : List Prt} {bs : List Bk} {os : List Int} (hl : DgLen ps bs os) (qs : List (Rv × Rv)) (hw : ∀ q ∈ qs, RvL q.1 ∧ RvL q.2) (hrl : qs.length ≤ 1000000) : CV Tryz.prog TabAt 13 [aDg t ps bs os, .one (rowV qs)] [aB (clE ps bs os qs), aE (rgE ps bs os qs)] := by
  refine cvz Tryz.func13 Tryz.ntmps13 ?_
  have EV := rgeval_cv t hl qs hw hrl
  have DL := (delays_cv t hl (ps := ps) (bs := bs) (os := os)).cv
  have hnl := natI_len (delL bs)
  have hl2 := hl.l2
  have hdb := delL_le bs
  by_cases hE : rgE ps bs os qs = 0
  case neg =>
    rw [okQ_n hE] at EV
    have hc : clE ps bs os qs = false := if_neg hE
    rw [hc]
    repeat' (with_reducible first | apply qa | apply qb | apply qc | apply qd | apply qe | apply qf | apply qg | apply qh | apply qi | apply qj | apply qk | apply ql rfl | apply qm rfl | apply qn rfl | apply Je | (refine Tx 0 ?_; refine Jn xBo ?_; refine Ja ?_; refine Ja ?_) | (refine Tx 1 ?_; refine Jo (xLa tk_Diagram) ?_; refine Jm ?_; refine Jo (xCl Tryz.func12 (EV)) ?_; refine Jo xMt ?_; refine Jo xEx ?_; refine Jo xEx ?_; refine Ja ?_; refine Ja ?_) | (refine Tx 2 ?_; refine Jm ?_; refine Jo (xNE ti_error) ?_) | (refine Tx 3 ?_; refine Jm ?_; refine Ja ?_; refine Ja ?_))
    exact ret_q rfl (.cons_ (rv_b rfl (rfl)) (.cons_ (rv_e rfl rfl) .nil_))
  have hc : clE ps bs os qs = closB ps bs (qs.map ivQ) := if_pos hE
  rw [hc]
  obtain ⟨h0, hL, hv, hb⟩ := rgE_z hE
  have hiw := qs_iw hw hE
  rw [okQ_z hE, hE] at EV
  rw [if_pos h0, h0] at DL
  rw [hE]
  have hsl : (qs.map ivQ).length = (delL bs).length := by rw [List.length_map]; exact hL
  have hvl : (rgV ps bs (qs.map ivQ)).length = bs.length := rgV_len
  repeat' (with_reducible first | apply qa | apply qb | apply qc | apply qd | apply qe | apply qf | apply qg | apply qh | apply qi | apply qj | apply qk | apply ql rfl | apply qm rfl | apply qn rfl | apply Je | (refine Tx 0 ?_; refine Jn xBo ?_; refine Ja ?_; refine Ja ?_) | (refine Tx 1 ?_; refine Jo (xLa tk_Diagram) ?_; refine Jm ?_; refine Jo (xCl Tryz.func12 (EV)) ?_; refine Jo xMt ?_; refine Jo xEx ?_; refine Jo xEx ?_; refine Ja ?_; refine Ja ?_) | (refine Tx 2 ?_; refine Jm ?_; refine Jo (xNE ti_error) ?_) | (refine Tx 4 ?_; refine Jo (xLa tk_Diagram) ?_; refine Jo (xCl Tryz.func41 (DL)) ?_; refine Jo xMt ?_; refine Jo xEx ?_; refine Jo xEx ?_; refine Ja ?_; refine Ja ?_) | (refine Tx 5 ?_; refine Jm ?_; refine Jo (xNE ti_error) ?_) | (refine Tx 7 ?_; refine Jm ?_; refine Jo (xLn ts_s_int) ?_; refine Jm ?_))
  refine cw_wk (F' := ofL [(1, vd (rowV qs)), (2, vr 0), (6, vd (.row false 6 (rgV ps bs (qs.map ivQ)).length (flatD (dIw false) (rgV ps bs (qs.map ivQ))))), (29, vd (rowI false (natI (delL bs)))), (30, vi ((delL bs).length)), (31, vi ((0 : Nat)))]) (H' := [.box 26 [.d (rowP t ps), .d (rowB t bs), .d (rowI t os)]]) (wk_go _ 1 ?_ ?_ ?_) ?_
  · rfl
  · rw [← hnl]; exact mB rfl rfl
  · exact ⟨bel_lit rfl, trivial⟩
  refine cw_loopW (fun n Fr H => ∃ k : Nat, k ≤ (delL bs).length ∧ n = (delL bs).length - k ∧ (∀ s, s < k → clOk ps bs (qs.map ivQ) s = true) ∧ Fr = ofL [(1, vd (rowV qs)), (2, vr 0), (6, vd (.row false 6 (rgV ps bs (qs.map ivQ)).length (flatD (dIw false) (rgV ps bs (qs.map ivQ))))), (29, vd (rowI false (natI (delL bs)))), (30, vi ((delL bs).length)), (31, vi ((k : Nat)))] ∧ H = [.box 26 [.d (rowP t ps), .d (rowB t bs), .d (rowI t os)]]) (n0 := (delL bs).length) ⟨0, Nat.zero_le _, rfl, (fun s hs => absurd hs (Nat.not_lt_zero s)), rfl, rfl⟩ ?_
  rintro n Fr H ⟨k, hk, rfl, hcl, rfl, rfl⟩
  by_cases hlt : k < (delL bs).length
  case pos =>
    obtain ⟨i, hi⟩ : ∃ i, (delL bs)[k]? = some i := ⟨_, List.getElem?_eq_getElem hlt⟩
    have hid := del_at hi
    have hil := hid.1
    obtain ⟨y, hy⟩ : ∃ y, bs[i]? = some y := ⟨_, List.getElem?_eq_getElem hil⟩
    have hk2 := hid.2
    rw [kind_at hy] at hk2
    have hsc := acc_sc h0 hy (by unfold valU; rw [hk2]; rfl)
    have NU := rgnum_cv y.vn y.ve hsc
    obtain ⟨b, hA0, hbl⟩ := del_arg h0 hy hk2
    obtain ⟨r, hr, _, hrs⟩ := rgV_at h0 hiw hsl hb hbl
    have hal := (List.getElem?_eq_some_iff.1 hA0).1
    obtain ⟨q, hq⟩ : ∃ q, qs[k]? = some q := ⟨_, List.getElem?_eq_getElem (by omega)⟩
    have hqm := List.mem_of_getElem? hq
    obtain ⟨_, hdy, _, _⟩ := raw_iw (hw q hqm).1 (hw q hqm).2 (hv q hqm)
    have hst : (qs.map ivQ)[k]? = some (ivQ q) := by rw [List.getElem?_map, hq]; rfl
    have hra := iv_at hq
    rw [hdy] at hra
    have hqs := hiw _ (List.mem_of_getElem? hst)
    have hck := clOk_at hi hy hA0 hst hr
    have CO := picontains_cv (ivQ q) (dyShift y.vn 0 y.ve) (hqs.more (show LB ≤ 20000 by decide) (show LB ≤ 20000 by decide)) ((sc_lb hsc).more (show LB ≤ 20000 by decide) (show LB ≤ 20000 by decide))
    have IN := piinside_cv r (ivQ q) (hrs.more (show LB ≤ 20000 by decide) (show LB ≤ 20000 by decide)) (hqs.more (show LB ≤ 20000 by decide) (show LB ≤ 20000 by decide))
    cases c1 : iIn (dyShift y.vn 0 y.ve, dyShift y.vn 0 y.ve) (ivQ q)
    case false =>
      rw [c1] at CO
      rw [c1, Bool.false_and] at hck
      rw [clos_no hlt hck]
      repeat' (with_reducible first | apply qa | apply qb | apply qc | apply qd | apply qe | apply qf | apply qg | apply qh | apply qi | apply qj | apply qk | apply ql rfl | apply qm rfl | apply qn rfl | apply Je | (refine Tx 8 ?_; refine Jo xLt ?_) | (refine Tx 9 ?_; refine Jm ?_; refine Jo (by first | exact xIr ts_s_int (int_at (natI_at hi)) | exact xIr ts_s_int (hra)) ?_; refine Jo (xLd tk_int) ?_; refine Ja ?_; refine Ja ?_) | (refine Tx 10 ?_; refine Jo (xFa tf_Diagram1 tk_s_Block) ?_; refine Jo (xLd tk_s_Block) ?_; refine Jm ?_; refine Jo (by first | exact xIr ts_s_Block (bk_at hy) | exact xIr ts_s_Block (hra)) ?_; refine Jo (xLa tk_Block) ?_; refine Jn (xAl tz_Block) ?_; refine Js (xSk tk_Block) ?_) | (refine cw_any (id := 11) mixed (by kernel_rfl) ?_; refine Km ?_; refine Km ?_; refine Ko (xIr ts_s_Interval (hra)) ?_; refine Ko (xLa tk_Interval) ?_; refine Ko (xFa tf_Block2 tk_Scalar) ?_; refine Ko (xLa tk_Scalar) ?_; refine Ko (xCl Tryz.func47 (NU)) ?_; refine Ko (xCl Tryz.func37 (CO)) ?_; refine Ko (by first | exact xNt | exact xNg) ?_; refine Km ?_; (first | iterate 13 refine Kd ?_ | (refine Ky xM1 ?_; refine Ky (xFa tf_Block1 tk_s_int) ?_; refine Ky (xLd tk_s_int) ?_; refine Ky (by first | exact xIr ts_s_int (int_at hA0) | exact xIr ts_s_int (hra)) ?_; refine Ky (xLd tk_int) ?_; refine Ky (by first | exact xIr ts_s_Interval (iw_at hr) | exact xIr ts_s_Interval (hra)) ?_; refine Ky (xLa tk_Interval) ?_; refine Ky xM1 ?_; refine Ky xM1 ?_; refine Ky (xIr ts_s_Interval (hra)) ?_; refine Ky (xLa tk_Interval) ?_; refine Ky (xCl Tryz.func25 (IN)) ?_; refine Ky (by first | exact xNt | exact xNg) ?_)); refine Ko xPk ?_; refine Ke ?_) | (refine Tx 12 ?_; refine Ja ?_; refine Ja ?_))
      exact ret_q rfl (.cons_ (rv_b rfl (rfl)) (.cons_ (rv_e0 rfl rfl) .nil_))
    case true =>
      rw [c1] at CO
      rw [c1, Bool.true_and] at hck
      cases c2 : iIn r (ivQ q)
      case false =>
        rw [c2] at IN hck
        rw [clos_no hlt hck]
        repeat' (with_reducible first | apply qa | apply qb | apply qc | apply qd | apply qe | apply qf | apply qg | apply qh | apply qi | apply qj | apply qk | apply ql rfl | apply qm rfl | apply qn rfl | apply Je | (refine Tx 8 ?_; refine Jo xLt ?_) | (refine Tx 9 ?_; refine Jm ?_; refine Jo (by first | exact xIr ts_s_int (int_at (natI_at hi)) | exact xIr ts_s_int (hra)) ?_; refine Jo (xLd tk_int) ?_; refine Ja ?_; refine Ja ?_) | (refine Tx 10 ?_; refine Jo (xFa tf_Diagram1 tk_s_Block) ?_; refine Jo (xLd tk_s_Block) ?_; refine Jm ?_; refine Jo (by first | exact xIr ts_s_Block (bk_at hy) | exact xIr ts_s_Block (hra)) ?_; refine Jo (xLa tk_Block) ?_; refine Jn (xAl tz_Block) ?_; refine Js (xSk tk_Block) ?_) | (refine cw_any (id := 11) mixed (by kernel_rfl) ?_; refine Km ?_; refine Km ?_; refine Ko (xIr ts_s_Interval (hra)) ?_; refine Ko (xLa tk_Interval) ?_; refine Ko (xFa tf_Block2 tk_Scalar) ?_; refine Ko (xLa tk_Scalar) ?_; refine Ko (xCl Tryz.func47 (NU)) ?_; refine Ko (xCl Tryz.func37 (CO)) ?_; refine Ko (by first | exact xNt | exact xNg) ?_; refine Km ?_; (first | iterate 13 refine Kd ?_ | (refine Ky xM1 ?_; refine Ky (xFa tf_Block1 tk_s_int) ?_; refine Ky (xLd tk_s_int) ?_; refine Ky (by first | exact xIr ts_s_int (int_at hA0) | exact xIr ts_s_int (hra)) ?_; refine Ky (xLd tk_int) ?_; refine Ky (by first | exact xIr ts_s_Interval (iw_at hr) | exact xIr ts_s_Interval (hra)) ?_; refine Ky (xLa tk_Interval) ?_; refine Ky xM1 ?_; refine Ky xM1 ?_; refine Ky (xIr ts_s_Interval (hra)) ?_; refine Ky (xLa tk_Interval) ?_; refine Ky (xCl Tryz.func25 (IN)) ?_; refine Ky (by first | exact xNt | exact xNg) ?_)); refine Ko xPk ?_; refine Ke ?_) | (refine Tx 12 ?_; refine Ja ?_; refine Ja ?_))
        exact ret_q rfl (.cons_ (rv_b rfl (rfl)) (.cons_ (rv_e0 rfl rfl) .nil_))
      case true =>
        rw [c2] at IN hck
        repeat' (with_reducible first | apply qa | apply qb | apply qc | apply qd | apply qe | apply qf | apply qg | apply qh | apply qi | apply qj | apply qk | apply ql rfl | apply qm rfl | apply qn rfl | apply Je | (refine Tx 8 ?_; refine Jo xLt ?_) | (refine Tx 9 ?_; refine Jm ?_; refine Jo (by first | exact xIr ts_s_int (int_at (natI_at hi)) | exact xIr ts_s_int (hra)) ?_; refine Jo (xLd tk_int) ?_; refine Ja ?_; refine Ja ?_) | (refine Tx 10 ?_; refine Jo (xFa tf_Diagram1 tk_s_Block) ?_; refine Jo (xLd tk_s_Block) ?_; refine Jm ?_; refine Jo (by first | exact xIr ts_s_Block (bk_at hy) | exact xIr ts_s_Block (hra)) ?_; refine Jo (xLa tk_Block) ?_; refine Jn (xAl tz_Block) ?_; refine Js (xSk tk_Block) ?_) | (refine cw_any (id := 11) mixed (by kernel_rfl) ?_; refine Km ?_; refine Km ?_; refine Ko (xIr ts_s_Interval (hra)) ?_; refine Ko (xLa tk_Interval) ?_; refine Ko (xFa tf_Block2 tk_Scalar) ?_; refine Ko (xLa tk_Scalar) ?_; refine Ko (xCl Tryz.func47 (NU)) ?_; refine Ko (xCl Tryz.func37 (CO)) ?_; refine Ko (by first | exact xNt | exact xNg) ?_; refine Km ?_; (first | iterate 13 refine Kd ?_ | (refine Ky xM1 ?_; refine Ky (xFa tf_Block1 tk_s_int) ?_; refine Ky (xLd tk_s_int) ?_; refine Ky (by first | exact xIr ts_s_int (int_at hA0) | exact xIr ts_s_int (hra)) ?_; refine Ky (xLd tk_int) ?_; refine Ky (by first | exact xIr ts_s_Interval (iw_at hr) | exact xIr ts_s_Interval (hra)) ?_; refine Ky (xLa tk_Interval) ?_; refine Ky xM1 ?_; refine Ky xM1 ?_; refine Ky (xIr ts_s_Interval (hra)) ?_; refine Ky (xLa tk_Interval) ?_; refine Ky (xCl Tryz.func25 (IN)) ?_; refine Ky (by first | exact xNt | exact xNg) ?_)); refine Ko xPk ?_; refine Ke ?_) | (refine Tx 13 ?_; refine Jo xAd ?_; refine Jm ?_))
        refine ⟨_, _, wk_go _ 1 ?_ ?_ ?_, _, ?_, k + 1, by omega, rfl, lt_step hcl hck, rfl, rfl⟩
        · rfl
        · exact mB rfl rfl
        · exact ⟨bel_lit rfl, trivial⟩
        · omega
  obtain rfl : k = (delL bs).length := by omega
  rw [clos_yes hcl]
  repeat' (with_reducible first | apply qa | apply qb | apply qc | apply qd | apply qe | apply qf | apply qg | apply qh | apply qi | apply qj | apply qk | apply ql rfl | apply qm rfl | apply qn rfl | apply Je | (refine Tx 8 ?_; refine Jo xLt ?_) | (refine Tx 14 ?_; refine Ja ?_; refine Ja ?_))
  exact ret_q rfl (.cons_ (rv_b rfl (rfl)) (.cons_ (rv_e0 rfl rfl) .nil_))
theorem rgpow_cv (k : Int) (h0 : -65536 ≤ k) (h1 : k ≤ 65536) : CV Tryz.prog TabAt 123 [aI k] [aDy false (pw k).1 (pw k).2] := by
  refine cvz Tryz.func123 Tryz.ntmps123 ?_
  have OF := pdof_cv 1 (by decide) (by decide)
  have SH := pdshift_cv 1 0 k ⟨by decide, fun h => absurd rfl h⟩ (Nat.le_trans (canon_len_le (k := 2) (by decide)) (by decide)) (by omega)
  repeat' (with_reducible first | apply qa | apply qb | apply qc | apply qd | apply qe | apply qf | apply qg | apply qh | apply qi | apply qj | apply qk | apply ql rfl | apply qm rfl | apply qn rfl | apply Je | (refine Tx 0 ?_; refine Jn (xAl tz_Dyadic) ?_) | (refine Tx 1 ?_; refine Jo (xCl Tryz.func100 (OF)) ?_; refine Jm ?_; refine Jo (xCl Tryz.func90 (SH)) ?_; refine Js (xSk tk_Dyadic) ?_))
  exact ret_q rfl (.cons_ (rvW tk_Dyadic rfl) .nil_)
def farB (a : Iq) : Bool := decide (0 < qCmp (iMag a) (pw 40))
theorem rgfar_cv (a : Iq) (h : IwS a 20000 20000) : CV Tryz.prog TabAt 58 [aIw false a] [aB (farB a)] := by
  refine cvz Tryz.func58 Tryz.ntmps58 ?_
  have MG := pimag_cv a h
  have hm := h.abs.s2
  have PW := rgpow_cv 40 (by decide) (by decide)
  have hp := pw_sm (k := 40) (n := 40) (by decide) (by decide) (by decide)
  have CM := (pdcmp_cv (iMag a).1 (iMag a).2 (pw 40).1 (pw 40).2 hm.ok hp.ok (Nat.le_trans (hm.lenN 625 (by decide)) (by decide)) (Nat.le_trans (hp.lenN 2 (by decide)) (by decide)))
  have hf : decide (0 < qCmp (iMag a) (pw 40)) = farB a := rfl
  repeat' (with_reducible first | apply qa | apply qb | apply qc | apply qd | apply qe | apply qf | apply qg | apply qh | apply qi | apply qj | apply qk | apply ql rfl | apply qm rfl | apply qn rfl | apply Je | (refine Tx 0 ?_; refine Jn xBo ?_; refine Ja ?_) | (refine Tx 1 ?_; refine Jo (xLa tk_Interval) ?_; refine Jo (xCl Tryz.func122 (MG)) ?_; refine Jo (xCl Tryz.func123 (PW)) ?_; refine Jo (xCl Tryz.func60 (CM)) ?_; refine Jo (by first | exact ok_gtrD rfl rfl rfl hf | exact xGt) ?_; refine Ja ?_))
  exact ret_q rfl (.cons_ (rv_b rfl rfl) .nil_)
end Go.Proofs.YtilbehepmkpdbaaGreatDoor
