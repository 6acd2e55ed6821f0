/- What the proofs of this claim share, part 16. No conditions. -/
import Derived.Test.YtilbehepmkpdbaaGreatDoorKk15
import Derived.Test.YtilbehepmkpdbaaGreatDoorKk6
import Derived.Test.YtilbehepmkpdbaaGreatDoorKk14
import Derived.Test.YtilbehepmkpdbaaGreatDoorKk11
import Derived.Test.YtilbehepmkpdbaaGreatDoorKk10
import Derived.Test.YtilbehepmkpdbaaGreatDoorKk8
import Derived.Tactics2
import Derived.Deep.RegionHeld3
set_option maxRecDepth 100000
set_option maxHeartbeats 4000000
set_option linter.unusedVariables false
set_option linter.unusedSimpArgs false
set_option linter.unusedSectionVars false
namespace Go.Proofs.YtilbehepmkpdbaaGreatDoor
open Go.RowKit
theorem nf_uniq {p q : Int × Nat} {X : Int} {Q : Nat} (h1 : Nf p.1 p.2) (h2 : Nf q.1 q.2) (e1 : p.1 * 2 ^ Q = X * 2 ^ p.2) (e2 : q.1 * 2 ^ Q = X * 2 ^ q.2) : p = q := by
  have key : ∀ p q : Int × Nat, Nf q.1 q.2 → p.1 * 2 ^ Q = X * 2 ^ p.2 → q.1 * 2 ^ Q = X * 2 ^ q.2 → p.2 ≤ q.2 → q.1 = p.1 * 2 ^ (q.2 - p.2) := fun p q _ e1 e2 hle => by
    have pw : (2 : Int) ^ Q ≠ 0 := Int.ne_of_gt (Int.pow_pos (by decide))
    refine Int.eq_of_mul_eq_mul_right pw ?_
    rw [e2, Int.mul_right_comm, e1, Int.mul_assoc, ← Int.pow_add]
    congr 2; omega
  have fin : ∀ p q : Int × Nat, Nf q.1 q.2 → p.1 * 2 ^ Q = X * 2 ^ p.2 → q.1 * 2 ^ Q = X * 2 ^ q.2 → p.2 ≤ q.2 → p = q := fun p q hq e1 e2 hle => by
    have h := key p q hq e1 e2 hle
    by_cases hd : p.2 = q.2
    · rw [hd, Nat.sub_self] at h
      refine Prod.ext ?_ hd
      rw [h]; show p.1 = p.1 * 1; omega
    · exfalso
      have ho := hq.2 (by omega)
      obtain ⟨k, hk⟩ : ∃ k, q.2 - p.2 = k + 1 := ⟨q.2 - p.2 - 1, by omega⟩
      rw [hk, Int.pow_succ, ← Int.mul_assoc] at h
      omega
  rcases Nat.le_total p.2 q.2 with h | h
  · exact fin p q h2 e1 e2 h
  · exact (fin q p h1 e2 e1 h).symm
theorem at_grid (p : Int × Nat) {Q : Nat} (h : p.2 ≤ Q) : p.1 * 2 ^ Q = p.1 * 2 ^ (Q - p.2) * 2 ^ p.2 := by
  rw [Int.mul_assoc, ← Int.pow_add]
  congr 2; omega
theorem dy_zero : aDy false 0 0 = .agg [.val (.bool false), .row false 1 0 [], .val (.int .i64 0)] := by
  unfold aDy dDy wds
  rw [show (0 : Int).natAbs = 0 from rfl, canon_zero]
  rfl
theorem rv_z {P : Program} {F : Frm} {H : List Ob} {t : Tmp} {ty ty' id k : Nat} (hk : TyK P ty true k) (hi : 3 = k) (hF : F t = .one (.ref id 0 none) := by with_unfolding_all exact rfl) (hH : H[id]? = some (.box ty' [.d (.val (.bool false)), .d (.val (.slice none 0 0)), .d (.val (.int .i64 0))]) := by with_unfolding_all exact rfl) : RV P F H (.cell t ty) (.agg [.val (.bool false), .row false 1 0 [], .val (.int .i64 0)]) := by
  obtain ⟨⟨dd, hu, hd⟩, hz⟩ := hk
  exact .cellA hF hH hu hd (by rw [hz, ← hi]; rfl) (.cons_ (.d fun _ => .val _) (.cons_ .nil (.cons_ (.d fun _ => .val _) .nil_)))
def tickV (y : Bk) (l : List (Int × Nat)) (ps : List Prt) (ins : List Int) : Int × Nat :=
  if y.kind = 0 then dyShift (ins[((y.args[0]?).getD 0).toNat]?.getD 0) 0 (-((ps[((y.args[0]?).getD 0).toNat]?.map Prt.fr).getD 0)) else blkD y l
theorem value_cv (n e : Int) : CV Tryz.prog TabAt 109 [.agg [dI n, dI e]] [aDy false (if scOk n e then dyShift n 0 e else (0, 0)).1 (if scOk n e then dyShift n 0 e else (0, 0)).2, aE (if scOk n e then 0 else 3)] := by
  refine cvz Tryz.func109 Tryz.ntmps109 ?_
  by_cases hs : scOk n e
  case pos =>
    rw [if_pos hs, if_pos hs]
    obtain ⟨s1, s2, s3, s4⟩ := hs
    have OF := pdof_cv n (by omega) (by omega)
    have SH := pdshift_cv n 0 e ⟨by decide, fun h => absurd rfl h⟩ (Nat.le_trans (canon_len_le (k := 2) (by omega)) (by decide)) (by omega)
    repeat' (with_reducible first | apply qa | apply qb | apply qc | apply qd | apply qe | apply qf | apply qg | apply qh | apply qi | apply qj | apply qk | apply ql rfl | apply qm rfl | apply qn rfl | apply Je | (refine Tx 0 ?_; refine Jn xBo ?_; refine Jn (xAl tz_Dyadic) ?_; refine Ja ?_) | (refine Tx 1 ?_; refine Jo (xFa tf_Scalar0 tk_int) ?_; refine Jo (xLd tk_int) ?_; refine Jo xLe ?_; refine Jm ?_; (first | iterate 3 refine Jd ?_ | (refine Jy (xFa tf_Scalar0 tk_int) ?_; refine Jy (xLd tk_int) ?_; refine Jy xGe ?_)); refine Jo xPk ?_; refine Jm ?_; (first | iterate 3 refine Jd ?_ | (refine Jy (xFa tf_Scalar1 tk_int) ?_; refine Jy (xLd tk_int) ?_; refine Jy xLt ?_)); refine Jo xPk ?_; refine Jm ?_; (first | iterate 3 refine Jd ?_ | (refine Jy (xFa tf_Scalar1 tk_int) ?_; refine Jy (xLd tk_int) ?_; refine Jy xGt ?_)); refine Jo xPk ?_) | (refine cw_part (id := 3) 6 mixed (by kernel_rfl) ?_; dsimp only [List.take, List.drop]; refine Ko (xFa tf_Scalar0 tk_int) ?_; refine Ko (xLd tk_int) ?_; refine Ko (xCl Tryz.func100 (OF)) ?_; refine Ko (xFa tf_Scalar1 tk_int) ?_; refine Ko (xLd tk_int) ?_; refine Ko (xCl Tryz.func90 (SH)) ?_; refine Ke ?_; refine Js (xSk tk_Dyadic) ?_; refine Ja ?_))
    exact ret_q rfl (.cons_ (rvW tk_Dyadic rfl) (.cons_ (rv_e0 rfl rfl) .nil_))
  rw [if_neg hs, if_neg hs, dy_zero]
  unfold scOk at hs
  by_cases c : n ≤ -2147483648
  case pos =>
    repeat' (with_reducible first | apply qa | apply qb | apply qc | apply qd | apply qe | apply qf | apply qg | apply qh | apply qi | apply qj | apply qk | apply ql rfl | apply qm rfl | apply qn rfl | apply Je | (refine Tx 0 ?_; refine Jn xBo ?_; refine Jn (xAl tz_Dyadic) ?_; refine Ja ?_) | (refine Tx 1 ?_; refine Jo (xFa tf_Scalar0 tk_int) ?_; refine Jo (xLd tk_int) ?_; refine Jo xLe ?_; refine Jm ?_; (first | iterate 3 refine Jd ?_ | (refine Jy (xFa tf_Scalar0 tk_int) ?_; refine Jy (xLd tk_int) ?_; refine Jy xGe ?_)); refine Jo xPk ?_; refine Jm ?_; (first | iterate 3 refine Jd ?_ | (refine Jy (xFa tf_Scalar1 tk_int) ?_; refine Jy (xLd tk_int) ?_; refine Jy xLt ?_)); refine Jo xPk ?_; refine Jm ?_; (first | iterate 3 refine Jd ?_ | (refine Jy (xFa tf_Scalar1 tk_int) ?_; refine Jy (xLd tk_int) ?_; refine Jy xGt ?_)); refine Jo xPk ?_) | (refine Tx 2 ?_; refine Jo (by exact ok_build rfl tb_Dyadic rfl rfl) ?_; refine Jo (xMi Tryz.underlying48) ?_; refine Js (xSk tk_Dyadic) ?_; refine Ja ?_))
    exact ret_q rfl (.cons_ (rv_z tk_Dyadic rfl) (.cons_ (.tmp (.one (cexp_d rfl fun _ => .val _))) .nil_))
  have ca := c
  clear c
  by_cases c : 2147483648 ≤ n
  case pos =>
    repeat' (with_reducible first | apply qa | apply qb | apply qc | apply qd | apply qe | apply qf | apply qg | apply qh | apply qi | apply qj | apply qk | apply ql rfl | apply qm rfl | apply qn rfl | apply Je | (refine Tx 0 ?_; refine Jn xBo ?_; refine Jn (xAl tz_Dyadic) ?_; refine Ja ?_) | (refine Tx 1 ?_; refine Jo (xFa tf_Scalar0 tk_int) ?_; refine Jo (xLd tk_int) ?_; refine Jo xLe ?_; refine Jm ?_; (first | iterate 3 refine Jd ?_ | (refine Jy (xFa tf_Scalar0 tk_int) ?_; refine Jy (xLd tk_int) ?_; refine Jy xGe ?_)); refine Jo xPk ?_; refine Jm ?_; (first | iterate 3 refine Jd ?_ | (refine Jy (xFa tf_Scalar1 tk_int) ?_; refine Jy (xLd tk_int) ?_; refine Jy xLt ?_)); refine Jo xPk ?_; refine Jm ?_; (first | iterate 3 refine Jd ?_ | (refine Jy (xFa tf_Scalar1 tk_int) ?_; refine Jy (xLd tk_int) ?_; refine Jy xGt ?_)); refine Jo xPk ?_) | (refine Tx 2 ?_; refine Jo (by exact ok_build rfl tb_Dyadic rfl rfl) ?_; refine Jo (xMi Tryz.underlying48) ?_; refine Js (xSk tk_Dyadic) ?_; refine Ja ?_))
    exact ret_q rfl (.cons_ (rv_z tk_Dyadic rfl) (.cons_ (.tmp (.one (cexp_d rfl fun _ => .val _))) .nil_))
  have cb := c
  clear c
  by_cases c : e < -62
  case pos =>
    repeat' (with_reducible first | apply qa | apply qb | apply qc | apply qd | apply qe | apply qf | apply qg | apply qh | apply qi | apply qj | apply qk | apply ql rfl | apply qm rfl | apply qn rfl | apply Je | (refine Tx 0 ?_; refine Jn xBo ?_; refine Jn (xAl tz_Dyadic) ?_; refine Ja ?_) | (refine Tx 1 ?_; refine Jo (xFa tf_Scalar0 tk_int) ?_; refine Jo (xLd tk_int) ?_; refine Jo xLe ?_; refine Jm ?_; (first | iterate 3 refine Jd ?_ | (refine Jy (xFa tf_Scalar0 tk_int) ?_; refine Jy (xLd tk_int) ?_; refine Jy xGe ?_)); refine Jo xPk ?_; refine Jm ?_; (first | iterate 3 refine Jd ?_ | (refine Jy (xFa tf_Scalar1 tk_int) ?_; refine Jy (xLd tk_int) ?_; refine Jy xLt ?_)); refine Jo xPk ?_; refine Jm ?_; (first | iterate 3 refine Jd ?_ | (refine Jy (xFa tf_Scalar1 tk_int) ?_; refine Jy (xLd tk_int) ?_; refine Jy xGt ?_)); refine Jo xPk ?_) | (refine Tx 2 ?_; refine Jo (by exact ok_build rfl tb_Dyadic rfl rfl) ?_; refine Jo (xMi Tryz.underlying48) ?_; refine Js (xSk tk_Dyadic) ?_; refine Ja ?_))
    exact ret_q rfl (.cons_ (rv_z tk_Dyadic rfl) (.cons_ (.tmp (.one (cexp_d rfl fun _ => .val _))) .nil_))
  have cc := c
  clear c
  have cd : 30 < e := by omega
  repeat' (with_reducible first | apply qa | apply qb | apply qc | apply qd | apply qe | apply qf | apply qg | apply qh | apply qi | apply qj | apply qk | apply ql rfl | apply qm rfl | apply qn rfl | apply Je | (refine Tx 0 ?_; refine Jn xBo ?_; refine Jn (xAl tz_Dyadic) ?_; refine Ja ?_) | (refine Tx 1 ?_; refine Jo (xFa tf_Scalar0 tk_int) ?_; refine Jo (xLd tk_int) ?_; refine Jo xLe ?_; refine Jm ?_; (first | iterate 3 refine Jd ?_ | (refine Jy (xFa tf_Scalar0 tk_int) ?_; refine Jy (xLd tk_int) ?_; refine Jy xGe ?_)); refine Jo xPk ?_; refine Jm ?_; (first | iterate 3 refine Jd ?_ | (refine Jy (xFa tf_Scalar1 tk_int) ?_; refine Jy (xLd tk_int) ?_; refine Jy xLt ?_)); refine Jo xPk ?_; refine Jm ?_; (first | iterate 3 refine Jd ?_ | (refine Jy (xFa tf_Scalar1 tk_int) ?_; refine Jy (xLd tk_int) ?_; refine Jy xGt ?_)); refine Jo xPk ?_) | (refine Tx 2 ?_; refine Jo (by exact ok_build rfl tb_Dyadic rfl rfl) ?_; refine Jo (xMi Tryz.underlying48) ?_; refine Js (xSk tk_Dyadic) ?_; refine Ja ?_))
  exact ret_q rfl (.cons_ (rv_z tk_Dyadic rfl) (.cons_ (.tmp (.one (cexp_d rfl fun _ => .val _))) .nil_))
theorem number_cv2 (n e : Int) (hs : scOk n e) : CV Tryz.prog TabAt 94 [.agg [dI n, dI e]] [aDy false (dyShift n 0 e).1 (dyShift n 0 e).2] := by
  refine cvz Tryz.func94 Tryz.ntmps94 ?_
  have VA := value_cv n e
  rw [if_pos hs, if_pos hs] at VA
  repeat' (with_reducible first | apply qa | apply qb | apply qc | apply qd | apply qe | apply qf | apply qg | apply qh | apply qi | apply qj | apply qk | apply ql rfl | apply qm rfl | apply qn rfl | apply Je | (refine Tx 0 ?_; refine Jn xBo ?_; refine Jn (xAl tz_Dyadic) ?_) | (refine Tx 1 ?_; refine Jo (xLa tk_Scalar) ?_; refine Jo (xCl Tryz.func109 (VA)) ?_; refine Jo xMt ?_; refine Jo (by exact ok_exA rfl rfl rfl) ?_; refine Jo xEx ?_; refine Jn (xAl tz_Dyadic) ?_; refine Js (xSk tk_Dyadic) ?_; refine Ja ?_) | (refine Tx 2 ?_; refine Jo (xLa tk_Dyadic) ?_; refine Js (xSk tk_Dyadic) ?_))
  exact ret_q rfl (.cons_ (rvW tk_Dyadic rfl) .nil_)
def GQ : Nat := 65536
def gv (p : Int × Nat) : Int := p.1 * 2 ^ (GQ - p.2)
theorem two_ne (n : Nat) : (2 : Int) ^ n ≠ 0 := Int.ne_of_gt (Int.pow_pos (by decide))
theorem two_pos (n : Nat) : (0 : Int) < 2 ^ n := Int.pow_pos (by decide)
theorem gv_grid {p : Int × Nat} (h : p.2 ≤ GQ) : p.1 * 2 ^ GQ = gv p * 2 ^ p.2 := at_grid p h
theorem Nf.le {x : Int} {d : Nat} (h : Nf x d) : d ≤ GQ := h.1
theorem gv_nf {m : Int} {d : Nat} (h : d ≤ GQ) : gv (nf m d) = m * 2 ^ (GQ - d) := by
  have e := nf_eq m d
  have l := nf_le m d
  refine Int.eq_of_mul_eq_mul_right (two_ne d) ?_
  unfold gv
  rw [Int.mul_right_comm, e, Int.mul_assoc, Int.mul_assoc, ← Int.pow_add, ← Int.pow_add]
  congr 2
  omega
theorem gv_neg (p : Int × Nat) : gv (-p.1, p.2) = -gv p := Int.neg_mul ..
theorem gv_zero : gv (0, 0) = 0 := Int.zero_mul _
theorem gv_abs (p : Int × Nat) : gv (((p.1.natAbs : Nat) : Int), p.2) = ((gv p).natAbs : Int) := by
  unfold gv
  rw [Int.natAbs_mul, Int.natCast_mul, Int.natAbs_pow]
  congr 1
theorem gv_sum {p q : Int × Nat} (hp : p.2 ≤ GQ) (hq : q.2 ≤ GQ) : gv (dySum p.1 p.2 q.1 q.2) = gv p + gv q := by
  unfold dySum
  rw [gv_nf (by omega), Int.add_mul, Int.mul_assoc, Int.mul_assoc, ← Int.pow_add, ← Int.pow_add, show max p.2 q.2 - p.2 + (GQ - max p.2 q.2) = GQ - p.2 by omega, show max p.2 q.2 - q.2 + (GQ - max p.2 q.2) = GQ - q.2 by omega]
  rfl
theorem gv_mul {p q : Int × Nat} (h : p.2 + q.2 ≤ GQ) : gv (dyMul p.1 p.2 q.1 q.2) * 2 ^ GQ = gv p * gv q := by
  unfold dyMul
  rw [gv_nf h]
  unfold gv
  have e1 : p.1 * q.1 * 2 ^ (GQ - (p.2 + q.2)) * 2 ^ GQ = p.1 * q.1 * 2 ^ (GQ - (p.2 + q.2) + GQ) := by rw [Int.mul_assoc, ← Int.pow_add]
  have e2 : p.1 * 2 ^ (GQ - p.2) * (q.1 * 2 ^ (GQ - q.2)) = p.1 * q.1 * 2 ^ (GQ - p.2 + (GQ - q.2)) := by rw [Int.pow_add]; simp only [Int.mul_assoc, Int.mul_left_comm, Int.mul_comm]
  rw [e1, e2]
  congr 2
  omega
theorem gv_cmp {p q : Int × Nat} (hp : p.2 ≤ GQ) (hq : q.2 ≤ GQ) : dyCmp p.1 p.2 q.1 q.2 = sgI (gv p - gv q) := cmp_sgn (gv_grid hp) (gv_grid hq)
theorem gv_inj {p q : Int × Nat} (hp : Nf p.1 p.2) (hq : Nf q.1 q.2) (h : gv p = gv q) : p = q := nf_uniq hp hq (gv_grid hp.le) (by rw [h]; exact gv_grid hq.le)
theorem cmp_le {p q : Int × Nat} (hp : p.2 ≤ GQ) (hq : q.2 ≤ GQ) : dyCmp p.1 p.2 q.1 q.2 ≤ 0 ↔ gv p ≤ gv q := by
  rw [gv_cmp hp hq, sgI_three]
  by_cases h1 : gv p < gv q
  · rw [if_pos h1]; exact ⟨fun _ => Int.le_of_lt h1, fun _ => by decide⟩
  · rw [if_neg h1]
    by_cases h2 : gv q < gv p
    · rw [if_pos h2]; exact ⟨fun h => absurd h (by decide), fun h => by omega⟩
    · rw [if_neg h2]; exact ⟨fun _ => by omega, fun _ => by decide⟩
theorem cmp_eq {p q : Int × Nat} (hp : p.2 ≤ GQ) (hq : q.2 ≤ GQ) : dyCmp p.1 p.2 q.1 q.2 = 0 ↔ gv p = gv q := by
  rw [gv_cmp hp hq, sgI_three]
  by_cases h1 : gv p < gv q
  · rw [if_pos h1]; exact ⟨fun h => absurd h (by decide), fun h => by omega⟩
  · rw [if_neg h1]
    by_cases h2 : gv q < gv p
    · rw [if_pos h2]; exact ⟨fun h => absurd h (by decide), fun h => by omega⟩
    · rw [if_neg h2]; exact ⟨fun _ => by omega, fun _ => rfl⟩
theorem cmp_ge {p q : Int × Nat} (hp : p.2 ≤ GQ) (hq : q.2 ≤ GQ) : 0 ≤ dyCmp p.1 p.2 q.1 q.2 ↔ gv q ≤ gv p := by
  rw [gv_cmp hp hq, sgI_three]
  by_cases h1 : gv p < gv q
  · rw [if_pos h1]; exact ⟨fun h => absurd h (by decide), fun h => by omega⟩
  · rw [if_neg h1]
    by_cases h2 : gv q < gv p
    · rw [if_pos h2]; exact ⟨fun _ => by omega, fun _ => by decide⟩
    · rw [if_neg h2]; exact ⟨fun _ => by omega, fun _ => by decide⟩
theorem min_is {p q : Int × Nat} (hp : p.2 ≤ GQ) (hq : q.2 ≤ GQ) : dyMin p.1 p.2 q.1 q.2 = if gv q < gv p then q else p := by
  unfold dyMin
  by_cases h : gv q < gv p
  · rw [if_pos h, if_pos (Int.not_le.1 fun hc => by have := (cmp_le hp hq).1 hc; omega)]
  · rw [if_neg h, if_neg (by have := (cmp_le hp hq).2 (by omega); omega)]
theorem max_is {p q : Int × Nat} (hp : p.2 ≤ GQ) (hq : q.2 ≤ GQ) : dyMax p.1 p.2 q.1 q.2 = if gv p < gv q then q else p := by
  unfold dyMax
  by_cases h : gv p < gv q
  · rw [if_pos h, if_pos (Int.not_le.1 fun hc => by have := (cmp_ge hp hq).1 hc; omega)]
  · rw [if_neg h, if_neg (by have := (cmp_ge hp hq).2 (by omega); omega)]
theorem gv_min {p q : Int × Nat} (hp : p.2 ≤ GQ) (hq : q.2 ≤ GQ) : gv (dyMin p.1 p.2 q.1 q.2) = min (gv p) (gv q) := by
  rw [min_is hp hq]
  split <;> omega
theorem gv_max {p q : Int × Nat} (hp : p.2 ≤ GQ) (hq : q.2 ≤ GQ) : gv (dyMax p.1 p.2 q.1 q.2) = max (gv p) (gv q) := by
  rw [max_is hp hq]
  split <;> omega
theorem gv_shiftU {p : Int × Nat} {n : Nat} (hp : p.2 ≤ GQ) (hn : n ≤ 65536) : gv (dyShift p.1 p.2 (n : Int)) = gv p * 2 ^ n := by
  unfold dyShift
  rw [if_neg (by omega), gv_nf hp, show (max (-65536) (min ((n : Nat) : Int) 65536)).toNat = n by omega]
  exact Int.mul_right_comm ..
theorem gv_shiftD {p : Int × Nat} {n : Nat} (hp : p.2 + n ≤ GQ) (hn : n ≤ 65536) : gv (dyShift p.1 p.2 (-(n : Int))) * 2 ^ n = gv p := by
  unfold dyShift
  by_cases h0 : n = 0
  · subst h0
    rw [if_neg (by omega), gv_nf (by omega)]
    show p.1 * 2 ^ (max (-65536) (min (-((0 : Nat) : Int)) 65536)).toNat * 2 ^ (GQ - p.2) * 2 ^ 0 = gv p
    rw [show (max (-65536) (min (-((0 : Nat) : Int)) 65536)).toNat = 0 by omega, Int.pow_zero, Int.mul_one, Int.mul_one]
    rfl
  · rw [if_pos (by omega), gv_nf (by omega), show (-(max (-65536) (min (-(n : Int)) 65536))).toNat = n by omega, Int.mul_assoc, ← Int.pow_add]
    unfold gv
    congr 2
    omega
theorem gv_int (n : Int) : gv (n, 0) = n * 2 ^ GQ := rfl
theorem gv_floor {p : Int × Nat} {den : Nat} (hp : p.2 ≤ GQ) (hd : den ≤ GQ) : gv (dyFloor p.1 p.2 den) ≤ gv p ∧ gv p < gv (dyFloor p.1 p.2 den) + 2 ^ (GQ - den) ∧ ∃ k : Int, gv (dyFloor p.1 p.2 den) = k * 2 ^ (GQ - den) := by
  unfold dyFloor
  by_cases h : p.2 ≤ den
  · rw [if_pos h]
    show gv p ≤ gv p ∧ gv p < gv p + 2 ^ (GQ - den) ∧ ∃ k : Int, gv p = k * 2 ^ (GQ - den)
    refine ⟨Int.le_refl _, by have := two_pos (GQ - den); omega, p.1 * 2 ^ (den - p.2), ?_⟩
    unfold gv
    rw [Int.mul_assoc, ← Int.pow_add]
    congr 2
    omega
  · rw [if_neg h, gv_nf hd]
    have e : gv p = p.1 * 2 ^ (GQ - p.2) := rfl
    have hk : (2 : Int) ^ (GQ - den) = 2 ^ (p.2 - den) * 2 ^ (GQ - p.2) := by rw [← Int.pow_add]; congr 1; omega
    have h1 := Int.mul_ediv_add_emod p.1 (2 ^ (p.2 - den))
    have h2 := Int.emod_nonneg p.1 (two_ne (p.2 - den))
    have h3 := Int.emod_lt_of_pos p.1 (two_pos (p.2 - den))
    have e2 : p.1 / 2 ^ (p.2 - den) * 2 ^ (GQ - den) = p.1 / 2 ^ (p.2 - den) * 2 ^ (p.2 - den) * 2 ^ (GQ - p.2) := by rw [hk, Int.mul_assoc]
    refine ⟨?_, ?_, _, rfl⟩
    · rw [e2, e]
      refine Int.mul_le_mul_of_nonneg_right ?_ (Int.le_of_lt (two_pos _))
      rw [Int.mul_comm]; omega
    · rw [e2, e, hk, ← Int.add_mul]
      refine Int.mul_lt_mul_of_pos_right ?_ (two_pos _)
      rw [Int.mul_comm (p.1 / _)]; omega
def blkA (bs : List Bk) (j : Nat) : Bk := bs[j]?.getD bk0
def scA (F : List Int) (j : Nat) : Int := F[j]?.getD 0
def portFr (ps : List Prt) (a : Int) : Int := (ps[a.toNat]?.getD ⟨0, 0, 0⟩).fr
def rawVv (bs : List Bk) (F : List Int) (j : Nat) : Int := rawV (blkA bs j).vn (blkA bs j).ve (scA F j)
def rawUu (bs : List Bk) (F : List Int) (j : Nat) : Int := rawV (blkA bs j).un (blkA bs j).ue (scA F j)
def errVv (bs : List Bk) (F : List Int) (j : Nat) : Int := rawErr (blkA bs j).vn (blkA bs j).ve (scA F j)
def errUu (bs : List Bk) (F : List Int) (j : Nat) : Int := rawErr (blkA bs j).un (blkA bs j).ue (scA F j)
def conE (bs : List Bk) (F : List Int) (j : Nat) : Int :=
  if kindAt bs j = 1 ∨ kindAt bs j = 2 then errVv bs F j else if kindAt bs j = 11 then (if errVv bs F j = 0 then errUu bs F j else errVv bs F j) else 0
def conV (bs : List Bk) (F : List Int) (j : Nat) : Int := if kindAt bs j = 1 ∨ kindAt bs j = 2 ∨ kindAt bs j = 11 then rawVv bs F j else 0
def conU (bs : List Bk) (F : List Int) (j : Nat) : Int := if kindAt bs j = 11 then rawUu bs F j else 0
def tab (n : Nat) (f : Nat → Int) : List Int := (List.range n).map f
def rank (p : Nat → Bool) (j : Nat) : Nat := ((List.range j).filter p).length
def dlB (bs : List Bk) (i : Nat) : Bool := kindAt bs i == 2
def cpB (bs : List Bk) (i : Nat) : Bool := kindAt bs i == 11
def dlK (bs : List Bk) (k : Nat) : List Nat := (List.range k).filter (dlB bs)
def cpK (bs : List Bk) (k : Nat) : List Nat := (List.range k).filter (cpB bs)
def cellF (bs : List Bk) (j : Nat) : Int :=
  if kindAt bs j = 2 then (bs.length : Int) + (rank (dlB bs) j : Int) else if kindAt bs j = 11 then (bs.length : Int) + ((dlK bs bs.length).length : Int) + 2 * (rank (cpB bs) j : Int) else 0
def opM (k : Int) : Int := if k = 3 then 3 else if k = 4 then 4 else if k = 8 then 8 else if k = 9 then 9 else if k = 5 then 5 else 10
def arg0 (b : Bk) : Int := b.args[0]?.getD 0
def arg1 (b : Bk) : Int := b.args[1]?.getD 0
def blkC (ps : List Prt) (bs : List Bk) (F : List Int) (j : Nat) (c : Int) : List Ins :=
  let b := blkA bs j
  let s := scA F j
  let s0 := scA F (arg0 b).toNat
  let s1 := scA F (arg1 b).toNat
  if b.kind = 0 then [⟨0, j, arg0 b, 0, s - portFr ps (arg0 b), 0, 0⟩]
  else if b.kind = 1 then [⟨1, j, 0, 0, 0, 0, rawVv bs F j⟩]
  else if b.kind = 6 then [⟨6, j, arg0 b, 0, s - s0 + b.ve, 0, b.vn⟩]
  else if b.kind = 7 then [⟨7, j, arg0 b, arg1 b, s - s0 - s1, 0, 0⟩]
  else if b.kind = 11 then [⟨9, j, arg0 b, c, s - s0, 0, 0⟩, ⟨8, j, j, c + 1, 0, 0, 0⟩]
  else if b.args.length = 2 then [⟨opM b.kind, j, arg0 b, arg1 b, s - s0, s - s1, 0⟩]
  else [⟨opM b.kind, j, arg0 b, 0, s - s0, 0, 0⟩]
def mv1 (bs : List Bk) (F : List Int) (j : Nat) : Ins := ⟨2, cellF bs j, arg0 (blkA bs j), 0, scA F j - scA F (arg0 (blkA bs j)).toNat, 0, 0⟩
def mv2 (bs : List Bk) (j : Nat) : Ins := ⟨2, j, cellF bs j, 0, 0, 0, 0⟩
def codeM (ps : List Prt) (bs : List Bk) (F : List Int) : List Ins :=
  (ordM bs).flatMap (fun j => blkC ps bs F j (cellF bs j)) ++ (delL bs).map (mv1 bs F) ++ (delL bs).map (mv2 bs)
def initM (bs : List Bk) (F : List Int) : List Int :=
  tab bs.length (fun j => if kindAt bs j = 2 then conV bs F j else 0) ++ List.replicate (delL bs).length 0 ++ (cpK bs bs.length).flatMap (fun j => [conV bs F j, conU bs F j])
def shOk (x : Ins) : Bool := decide (-62 ≤ x.sa ∧ x.sa ≤ 30 ∧ -62 ≤ x.sb ∧ x.sb ≤ 30)
def scOk30 (z : Int) : Bool := decide (0 ≤ z ∧ z ≤ 30)
def cpErr (ps : List Prt) (bs : List Bk) (F : List Int) : Int :=
  if ¬ F.length = bs.length then 11 else if ¬ F.all scOk30 = true then 3 else if ¬ firstErr ((List.range bs.length).map (conE bs F)) = 0 then firstErr ((List.range bs.length).map (conE bs F))
  else if (codeM ps bs F).all shOk = true then 0 else 3
def cpE (d : Dg) (F : List Int) : Int := if dgErr d.ps d.bs d.os = 0 then cpErr d.ps d.bs F else dgErr d.ps d.bs d.os
end Go.Proofs.YtilbehepmkpdbaaGreatDoor
namespace Go.Proofs.YtilbehepmkpdbaaGreatDoor
open Go.RowKit
section
variable {ps : List Prt} {bs : List Bk} {os : List Int}
theorem acc_blk (h : dgErr ps bs os = 0) {i : Nat} {y : Bk} (hy : bs[i]? = some y) : blkErr ps.length bs.length y = 0 :=
  firstErr_zero (pre_blk (pre_of h).2.1) _ (List.mem_map.2 ⟨y, List.mem_of_getElem? hy, rfl⟩)
theorem acc_args (h : dgErr ps bs os = 0) {i : Nat} {y : Bk} (hy : bs[i]? = some y) : 0 ≤ arityM y.kind ∧ ((y.args.length : Nat) : Int) = arityM y.kind ∧ ∀ a ∈ y.args, 0 ≤ a ∧ a < (mostM ps.length bs.length y.kind : Int) := blk_args (acc_blk h hy)
theorem acc_sc (h : dgErr ps bs os = 0) {i : Nat} {y : Bk} (hy : bs[i]? = some y) (hv : valU y.kind = true) : scOk y.vn y.ve := by
  have h1 := acc_blk h hy
  have ha := acc_args h hy
  unfold blkErr at h1
  rw [if_neg (by omega), if_neg (not_not_intro ha.2.1)] at h1
  by_cases h3 : firstErr (y.args.map (outE (mostM ps.length bs.length y.kind))) = 0
  · rw [if_neg (not_not_intro h3)] at h1
    by_cases h4 : scalE y.vn y.ve (valU y.kind) = 0
    · rw [hv] at h4
      unfold scalE at h4
      rw [if_pos rfl] at h4
      by_cases h5 : scOk y.vn y.ve
      · exact h5
      · rw [if_neg h5] at h4; cases h4
    · rw [if_pos h4] at h1
      exact absurd h1 h4
  · rw [if_pos h3] at h1
    cases h1
theorem acc_port (h : dgErr ps bs os = 0) {i : Nat} {p : Prt} (hp : ps[i]? = some p) : portE p = 0 := by
  have h1 := (pre_of h).2.1
  unfold preErr at h1
  rw [firstErr_append] at h1
  by_cases h2 : firstErr (ps.map portE) = 0
  · exact firstErr_zero h2 _ (List.mem_map.2 ⟨p, List.mem_of_getElem? hp, rfl⟩)
  · rw [if_neg h2] at h1
    exact absurd h1 h2
theorem ord_at {u i : Nat} (h : (ordM bs)[u]? = some i) : i < bs.length ∧ kindAt bs i ≠ 2 := (ordN_ok bs.length (OutOk.nil bs)).mem i (List.mem_of_getElem? h)
theorem ord_len : (ordM bs).length ≤ bs.length := Nat.le_trans (ordN_ok bs.length (OutOk.nil bs)).le (nonDel_le bs)
end
end Go.Proofs.YtilbehepmkpdbaaGreatDoor
namespace Go.Proofs.YtilbehepmkpdbaaGreatDoor
open Go.RowKit
end Go.Proofs.YtilbehepmkpdbaaGreatDoor
namespace Go.Proofs.YtilbehepmkpdbaaGreatDoor
open Go.RowKit
abbrev longP (p : Int × Nat) : Bool := longB p.1.natAbs p.2
def tlV : Value := .iface 119 (.agg #[])
def tlC : List PanicEntry := [{ v := tlV, recovered := false }]
def cV : Option (Int × Nat) → List C
  | none => [.d (.val (.bool false)), .d (.val (.slice none 0 0)), .d (.val (.int .i64 0))]
  | some p => (dDy false p.1 p.2).map C.d
def cVs (l : List (Option (Int × Nat))) : List C := (l.map cV).flatten
def gV (l : List (Option (Int × Nat))) : List (Int × Nat) := l.map (·.getD (0, 0))
theorem dy_free (x : Int) (d : Nat) : ∀ u ∈ dDy false x d, DFree u := fun u hu => by
  simp only [dDy, List.mem_cons, List.not_mem_nil, or_false] at hu
  rcases hu with rfl | rfl | rfl
  · exact .val _
  · refine .row fun u hu => ?_
    obtain ⟨v, _, rfl⟩ := List.mem_map.1 hu
    exact .val _
  · exact .val _
theorem cexp_oD {t : Bool} {H : List Ob} {id ty n : Nat} {c : C} {y : D} {l : List (Int × Nat)} (hc : c = .own id n) (hH : H[id]? = some (.row ty 3 n ((flatD dyP l).map C.d))) (hy : y = .row t 3 n (flatD dyP l)) : CExp t H c y :=
  cexp_o hc hH hy (LRel.map_l.2 ⟨rfl, fun j a b ha hb => by
    rw [ha] at hb
    cases hb
    exact .d fun _ => flatD_free (f := dyP) (fun p => dy_free _ _) l a (List.mem_of_getElem? ha)⟩)
def LB : Nat := 4096
def LC : Nat := 9000
theorem lb_c : LB ≤ LC := by decide
theorem sm_of {p : Int × Nat} (hn : Nf p.1 p.2) (h : longP p = false) : Sm p LB LB := by
  have h1 : ¬ 4096 < max (bitsN p.1.natAbs) p.2 := of_decide_eq_false h
  exact ⟨hn, bitsN_le.1 (by unfold LB; omega), by unfold LB; omega⟩
def argsV (vs : List (Option (Int × Nat))) (y : Bk) : List (Int × Nat) := if y.kind = 0 then [] else y.args.map fun a => (vs[a.toNat]?.getD none).getD (0, 0)
def tkV (ps : List Prt) (bs : List Bk) (ins : List Int) (vs : List (Option (Int × Nat))) (i : Nat) : Int × Nat := match bs[i]? with
  | some y => tickV y (argsV vs y) ps ins
  | none => (0, 0)
def ordV (ps : List Prt) (bs : List Bk) (ins : List Int) (vs : List (Option (Int × Nat))) (l : List Nat) : List (Option (Int × Nat)) := l.foldl (fun v i => v.set i (some (tkV ps bs ins v i))) vs
def delV (dl : List Nat) (st : List (Int × Nat)) (vs : List (Option (Int × Nat))) : List (Option (Int × Nat)) := (dl.zip st).foldl (fun v p => v.set p.1 (some p.2)) vs
def valS (ps : List Prt) (bs : List Bk) (st : List (Int × Nat)) (ins : List Int) (t : Nat) : List (Option (Int × Nat)) := ordV ps bs ins (delV (delL bs) st (List.replicate bs.length none)) ((ordM bs).take t)
def valN (ps : List Prt) (bs : List Bk) (st : List (Int × Nat)) (ins : List Int) (t : Nat) : Int × Nat := tkV ps bs ins (valS ps bs st ins t) ((ordM bs)[t]?.getD 0)
def stepBad (ps : List Prt) (bs : List Bk) (st : List (Int × Nat)) (ins : List Int) : Bool := st.any longP || (List.range (ordM bs).length).any fun t => longP (valN ps bs st ins t)
def valE (ps : List Prt) (bs : List Bk) (st : List (Int × Nat)) (ins : List Int) : List (Int × Nat) := gV (valS ps bs st ins (ordM bs).length)
def argZ (bs : List Bk) (i : Nat) : Nat := (((bs[i]?.map Bk.args).getD [])[0]?.getD 0).toNat
def nextE (ps : List Prt) (bs : List Bk) (st : List (Int × Nat)) (ins : List Int) : List (Int × Nat) := (delL bs).map fun i => ((valE ps bs st ins)[argZ bs i]?).getD (0, 0)
structure Has (vs : List (Option (Int × Nat))) (D : Nat → Prop) : Prop where
  at_ : ∀ i, D i → ∃ p, vs[i]? = some (some p) ∧ Sm p LB LB
theorem Sm.zero (n d : Nat) : Sm (0, 0) n d := ⟨⟨by decide, fun h => absurd rfl h⟩, Nat.two_pow_pos n, Nat.zero_le d⟩
theorem acc_clip {ps : List Prt} {bs : List Bk} {os : List Int} (h : dgErr ps bs os = 0) {i : Nat} {y : Bk} (hy : bs[i]? = some y) (hk : y.kind = 11) : scOk y.vn y.ve ∧ scOk y.un y.ue ∧ dyCmp (dyShift y.vn 0 y.ve).1 (dyShift y.vn 0 y.ve).2 (dyShift y.un 0 y.ue).1 (dyShift y.un 0 y.ue).2 ≤ 0 := by
  have h1 := acc_blk h hy
  have ha := acc_args h hy
  have hv := acc_sc h hy (by unfold valU; rw [hk]; rfl)
  unfold blkErr at h1
  rw [if_neg (by omega), if_neg (not_not_intro ha.2.1)] at h1
  by_cases h3 : firstErr (y.args.map (outE (mostM ps.length bs.length y.kind))) = 0
  · rw [if_neg (not_not_intro h3)] at h1
    by_cases h4 : scalE y.vn y.ve (valU y.kind) = 0
    · rw [if_neg (not_not_intro h4)] at h1
      by_cases h5 : scalE y.un y.ue (clipU y.kind) = 0
      · rw [if_neg (not_not_intro h5)] at h1
        have hc : clipU y.kind = true := by unfold clipU; rw [hk]; rfl
        rw [hc] at h5
        have hu := scOk_of h5
        refine ⟨hv, hu, ?_⟩
        rw [cmp_sgn (sc62_shift hv.2.2.1 hv.2.2.2) (sc62_shift hu.2.2.1 hu.2.2.2)]
        by_cases h6 : 0 < scCmp y.vn y.ve y.un y.ue
        · rw [if_pos ⟨hc, h6⟩] at h1; cases h1
        · exact Int.not_lt.1 h6
      · rw [if_pos h5] at h1; exact absurd h1 h5
    · rw [if_pos h4] at h1; exact absurd h1 h4
  · rw [if_pos h3] at h1; cases h1
theorem acc_kind {ps : List Prt} {bs : List Bk} {os : List Int} (h : dgErr ps bs os = 0) {i : Nat} {y : Bk} (hy : bs[i]? = some y) : y.kind = 0 ∨ y.kind = 1 ∨ y.kind = 2 ∨ y.kind = 3 ∨ y.kind = 4 ∨ y.kind = 5 ∨ y.kind = 6 ∨ y.kind = 7 ∨ y.kind = 8 ∨ y.kind = 9 ∨ y.kind = 10 ∨ y.kind = 11 := by
  have := (acc_args h hy).1
  unfold arityM at this
  (repeat' split at this) <;> omega
theorem kind_at {bs : List Bk} {i : Nat} {y : Bk} (h : bs[i]? = some y) : kindAt bs i = y.kind := by unfold kindAt; rw [h]; rfl
theorem preds_at {bs : List Bk} {i : Nat} {y : Bk} (h : bs[i]? = some y) (h0 : y.kind ≠ 0) : preds bs i = y.args := by
  unfold preds argsAt
  rw [kind_at h, if_neg h0, h]
  rfl
def rngB (ps : List Prt) (ins : List Int) (i : Nat) : Bool := match ps[i]?, ins[i]? with
  | some p, some z => decide (p.lo ≤ z ∧ z ≤ p.hi)
  | _, _ => true
def inOk (ps : List Prt) (ins : List Int) : Bool := (List.range ins.length).all (rngB ps ins)
def stdS (bs : List Bk) (t : Nat) (i : Nat) : Prop := (i < bs.length ∧ kindAt bs i = 2) ∨ i ∈ (ordM bs).take t
structure Tick (ps : List Prt) (bs : List Bk) (ins : List Int) (vs : List (Option (Int × Nat))) (y : Bk) : Prop where
  hk : y.kind = 0 ∨ y.kind = 1 ∨ y.kind = 3 ∨ y.kind = 4 ∨ y.kind = 5 ∨ y.kind = 6 ∨ y.kind = 7 ∨ y.kind = 8 ∨ y.kind = 9 ∨ y.kind = 10 ∨ y.kind = 11
  args : y.kind ≠ 0 → ∀ (k : Nat) (a : Int), y.args[k]? = some a → ∃ p, 0 ≤ a ∧ a.toNat < bs.length ∧ vs[a.toNat]? = some (some p) ∧ (argsV vs y)[k]? = some p
  len : y.args.length ≤ 2
  hl : ∀ k : Nat, (k = 0 ∧ y.kind ≠ 0 ∧ y.kind ≠ 1 ∨ k = 1 ∧ (y.kind = 3 ∨ y.kind = 4 ∨ y.kind = 7 ∨ y.kind = 8 ∨ y.kind = 9)) → ∃ p i, (argsV vs y)[k]? = some p ∧ y.args[k]? = some ((i : Nat) : Int) ∧ (gV vs)[i]? = some p
  hs : ∀ p ∈ argsV vs y, Sm p LB LB
  hin : y.kind = 0 → ∃ (i : Nat) (z : Int) (pp : Prt), y.args[0]? = some (i : Int) ∧ ins[i]? = some z ∧ ps[i]? = some pp ∧ -9223372036854775808 ≤ z ∧ z < 9223372036854775808 ∧ -100 ≤ pp.fr ∧ pp.fr ≤ 100
  hsv : (y.kind = 1 ∨ y.kind = 6 ∨ y.kind = 11) → scOk y.vn y.ve
  hsu : y.kind = 11 → scOk y.un y.ue
  hcl : y.kind = 11 → dyCmp (dyShift y.vn 0 y.ve).1 (dyShift y.vn 0 y.ve).2 (dyShift y.un 0 y.ue).1 (dyShift y.un 0 y.ue).2 ≤ 0
  sm : Sm (tickV y (argsV vs y) ps ins) LC LC
abbrev Pq := Int × Nat
abbrev qSum (p q : Pq) : Pq := dySum p.1 p.2 q.1 q.2
abbrev qNeg (p : Pq) : Pq := (-p.1, p.2)
abbrev qAbs (p : Pq) : Pq := (((p.1.natAbs : Nat) : Int), p.2)
abbrev qMul (p q : Pq) : Pq := dyMul p.1 p.2 q.1 q.2
abbrev qMin (p q : Pq) : Pq := dyMin p.1 p.2 q.1 q.2
abbrev qMax (p q : Pq) : Pq := dyMax p.1 p.2 q.1 q.2
abbrev qCmp (p q : Pq) : Int := dyCmp p.1 p.2 q.1 q.2
abbrev qShift (p : Pq) (n : Int) : Pq := dyShift p.1 p.2 n
abbrev qFloor (p : Pq) (n : Nat) : Pq := dyFloor p.1 p.2 n
abbrev qCeil (p : Pq) (n : Nat) : Pq := qNeg (qFloor (qNeg p) n)
abbrev Iq := Pq × Pq
def dIw (t : Bool) (a : Iq) : List D := dDy t a.1.1 a.1.2 ++ dDy t a.2.1 a.2.2
def aIw (t : Bool) (a : Iq) : A := .agg (dIw t a)
structure IwS (a : Iq) (n d : Nat) : Prop where
  s1 : Sm a.1 n d
  s2 : Sm a.2 n d
  le : gv a.1 ≤ gv a.2
theorem IwS.more {a : Iq} {n d n' d' : Nat} (h : IwS a n d) (h1 : n ≤ n') (h2 : d ≤ d') : IwS a n' d' := ⟨h.s1.more h1 h2, h.s2.more h1 h2, h.le⟩
def spanS (a : Iq) (x : Pq) : Iq := (qMin a.1 x, qMax a.2 x)
def spanL : List Pq → Iq
  | [] => ((0, 0), (0, 0))
  | p :: l => l.foldl spanS (p, p)
def iNeg (a : Iq) : Iq := (qNeg a.2, qNeg a.1)
def iAdd (a b : Iq) : Iq := (qSum a.1 b.1, qSum a.2 b.2)
def iSub (a b : Iq) : Iq := iAdd a (iNeg b)
def iMul (a b : Iq) : Iq := spanL [qMul a.1 b.1, qMul a.1 b.2, qMul a.2 b.1, qMul a.2 b.2]
def iScale (a : Iq) (f : Pq) : Iq := iMul a (f, f)
def iMin (a b : Iq) : Iq := (qMin a.1 b.1, qMin a.2 b.2)
def iMax (a b : Iq) : Iq := (qMax a.1 b.1, qMax a.2 b.2)
def iHull (a b : Iq) : Iq := spanL [a.1, a.2, b.1, b.2]
def iAbs (a : Iq) : Iq := if a.1.1 < 0 ∧ 0 < a.2.1 then ((0, 0), (spanL [qAbs a.1, qAbs a.2]).2) else spanL [qAbs a.1, qAbs a.2]
def iClip (a : Iq) (v u : Pq) : Iq := iMin (iMax a (v, v)) (u, u)
def iRound (a : Iq) (den : Nat) : Iq := (qFloor a.1 den, qCeil a.2 den)
def iIn (a b : Iq) : Bool := decide (qCmp b.1 a.1 ≤ 0) && decide (qCmp a.2 b.2 ≤ 0)
def iMag (a : Iq) : Pq := (iAbs a).2
theorem Sm.le {p : Pq} {n d : Nat} (h : Sm p n d) : p.2 ≤ GQ := h.ok.le
section
variable {a b : Iq} {n d : Nat}
theorem spanL_two {p q : Pq} (hp : Sm p n d) (hq : Sm q n d) : gv (spanL [p, q]).1 = min (gv p) (gv q) ∧ gv (spanL [p, q]).2 = max (gv p) (gv q) ∧ IwS (spanL [p, q]) n d := by
  have e1 : gv (qMin p q) = min (gv p) (gv q) := gv_min hp.le hq.le
  have e2 : gv (qMax p q) = max (gv p) (gv q) := gv_max hp.le hq.le
  refine ⟨e1, e2, Sm.min hp hq, Sm.max hp hq, ?_⟩
  show gv (qMin p q) ≤ gv (qMax p q)
  omega
theorem spanL_four {p q r s : Pq} (hp : Sm p n d) (hq : Sm q n d) (hr : Sm r n d) (hs : Sm s n d) : gv (spanL [p, q, r, s]).1 = min (min (min (gv p) (gv q)) (gv r)) (gv s) ∧ gv (spanL [p, q, r, s]).2 = max (max (max (gv p) (gv q)) (gv r)) (gv s) ∧ IwS (spanL [p, q, r, s]) n d := by
  have m1 : Sm (qMin p q) n d := Sm.min hp hq
  have m2 : Sm (qMin (qMin p q) r) n d := Sm.min m1 hr
  have x1 : Sm (qMax p q) n d := Sm.max hp hq
  have x2 : Sm (qMax (qMax p q) r) n d := Sm.max x1 hr
  have e1 : gv (qMin (qMin (qMin p q) r) s) = min (min (min (gv p) (gv q)) (gv r)) (gv s) := by rw [gv_min m2.le hs.le, gv_min m1.le hr.le, gv_min hp.le hq.le]
  have e2 : gv (qMax (qMax (qMax p q) r) s) = max (max (max (gv p) (gv q)) (gv r)) (gv s) := by rw [gv_max x2.le hs.le, gv_max x1.le hr.le, gv_max hp.le hq.le]
  refine ⟨e1, e2, Sm.min m2 hs, Sm.max x2 hs, ?_⟩
  show gv (qMin (qMin (qMin p q) r) s) ≤ gv (qMax (qMax (qMax p q) r) s)
  omega
theorem IwS.neg (h : IwS a n d) : IwS (iNeg a) n d := ⟨h.s2.neg, h.s1.neg, by show gv (qNeg a.2) ≤ gv (qNeg a.1); rw [gv_neg, gv_neg]; have := h.le; omega⟩
theorem IwS.add (h : IwS a n d) (k : IwS b n d) (hd : d ≤ 65536) : IwS (iAdd a b) (n + d + 1) d := ⟨Sm.sum h.s1 k.s1 hd, Sm.sum h.s2 k.s2 hd, by
  show gv (qSum a.1 b.1) ≤ gv (qSum a.2 b.2)
  rw [gv_sum h.s1.le k.s1.le, gv_sum h.s2.le k.s2.le]
  have := h.le; have := k.le; omega⟩
theorem IwS.sub (h : IwS a n d) (k : IwS b n d) (hd : d ≤ 65536) : IwS (iSub a b) (n + d + 1) d := h.add k.neg hd
theorem IwS.min (h : IwS a n d) (k : IwS b n d) : IwS (iMin a b) n d := ⟨Sm.min h.s1 k.s1, Sm.min h.s2 k.s2, by
  show gv (qMin a.1 b.1) ≤ gv (qMin a.2 b.2)
  rw [gv_min h.s1.le k.s1.le, gv_min h.s2.le k.s2.le]
  have := h.le; have := k.le; omega⟩
theorem IwS.max (h : IwS a n d) (k : IwS b n d) : IwS (iMax a b) n d := ⟨Sm.max h.s1 k.s1, Sm.max h.s2 k.s2, by
  show gv (qMax a.1 b.1) ≤ gv (qMax a.2 b.2)
  rw [gv_max h.s1.le k.s1.le, gv_max h.s2.le k.s2.le]
  have := h.le; have := k.le; omega⟩
theorem IwS.pt {p : Pq} (h : Sm p n d) : IwS (p, p) n d := ⟨h, h, Int.le_refl _⟩
theorem IwS.mul (h : IwS a n d) (k : IwS b n d) (hd : d ≤ 30000) : IwS (iMul a b) (n + n) (d + d) := (spanL_four (Sm.mul h.s1 k.s1 hd) (Sm.mul h.s1 k.s2 hd) (Sm.mul h.s2 k.s1 hd) (Sm.mul h.s2 k.s2 hd)).2.2
theorem IwS.hull (h : IwS a n d) (k : IwS b n d) : IwS (iHull a b) n d := (spanL_four h.s1 h.s2 k.s1 k.s2).2.2
theorem IwS.clip {v u : Pq} (h : IwS a n d) (hv : Sm v n d) (hu : Sm u n d) : IwS (iClip a v u) n d := (h.max (.pt hv)).min (.pt hu)
theorem sgn_lt {p : Pq} : p.1 < 0 ↔ gv p < 0 := by
  unfold gv
  exact ⟨fun h => Int.mul_neg_of_neg_of_pos h (two_pos _), fun h => Int.not_le.1 fun hc => by have := Int.mul_nonneg hc (Int.le_of_lt (two_pos (GQ - p.2))); omega⟩
theorem sgn_gt {p : Pq} : 0 < p.1 ↔ 0 < gv p := by
  unfold gv
  exact ⟨fun h => Int.mul_pos h (two_pos _), fun h => Int.not_le.1 fun hc => by have := Int.mul_nonpos_of_nonpos_of_nonneg hc (Int.le_of_lt (two_pos (GQ - p.2))); omega⟩
theorem IwS.abs (h : IwS a n d) : IwS (iAbs a) n d := by
  obtain ⟨h1, h2, h3⟩ := spanL_two h.s1.abs h.s2.abs
  unfold iAbs
  split
  · refine ⟨Sm.zero n d, h3.s2, ?_⟩
    show gv (0, 0) ≤ gv (spanL [qAbs a.1, qAbs a.2]).2
    rw [gv_zero, h2, gv_abs, gv_abs]
    omega
  · exact h3
theorem iAbs_gv (h : IwS a n d) : gv (iAbs a).1 = (if gv a.1 < 0 ∧ 0 < gv a.2 then 0 else min ((gv a.1).natAbs : Int) (gv a.2).natAbs) ∧ gv (iAbs a).2 = max ((gv a.1).natAbs : Int) (gv a.2).natAbs := by
  obtain ⟨h1, h2, h3⟩ := spanL_two h.s1.abs h.s2.abs
  rw [gv_abs, gv_abs] at h1 h2
  unfold iAbs
  by_cases hc : a.1.1 < 0 ∧ 0 < a.2.1
  · rw [if_pos hc, if_pos ⟨sgn_lt.1 hc.1, sgn_gt.1 hc.2⟩]
    exact ⟨gv_zero, h2⟩
  · rw [if_neg hc, if_neg (fun h => hc ⟨sgn_lt.2 h.1, sgn_gt.2 h.2⟩)]
    exact ⟨h1, h2⟩
theorem iIn_is (h : IwS a n d) (k : IwS b n d) : iIn a b = decide (gv b.1 ≤ gv a.1 ∧ gv a.2 ≤ gv b.2) := by
  unfold iIn
  rw [Bool.eq_iff_iff, Bool.and_eq_true, decide_eq_true_eq, decide_eq_true_eq, decide_eq_true_eq, cmp_le k.s1.le h.s1.le, cmp_le h.s2.le k.s2.le]
end
theorem iw_free (a : Iq) : ∀ u ∈ dIw false a, DFree u := fun u hu => by
  rcases List.mem_append.1 hu with h | h <;> exact dy_free _ _ u h
theorem rvJ {P : Program} {F : Frm} {H : List Ob} {t : Tmp} {ty ty' id k : Nat} {a : Iq} (hk : TyK P ty true k) (hi : 6 = k) (hF : F t = .one (.ref id 0 none) := by with_unfolding_all exact rfl) (hH : H[id]? = some (.box ty' ((dIw false a).map C.d)) := by with_unfolding_all exact rfl) : RV P F H (.cell t ty) (aIw false a) := by
  obtain ⟨⟨dd, hu, hd⟩, hz⟩ := hk
  refine .cellA hF hH hu hd (by rw [hz, ← hi]; rfl) (LRel.map_l.2 ⟨rfl, fun j x y hx hy => ?_⟩)
  rw [hx] at hy
  cases hy
  exact .d fun _ => iw_free a x (List.mem_of_getElem? hx)
theorem iw_zero : dIw false ((0, 0), (0, 0)) = [.val (.bool false), .row false 1 0 [], .val (.int .i64 0), .val (.bool false), .row false 1 0 [], .val (.int .i64 0)] := by
  have e : dDy false 0 0 = [.val (.bool false), .row false 1 0 [], .val (.int .i64 0)] := A.agg.inj dy_zero
  show dDy false 0 0 ++ dDy false 0 0 = _
  rw [e]
  rfl
theorem natI_at {l : List Nat} {t j : Nat} (h : l[t]? = some j) : (natI l)[t]? = some (j : Int) := by simp [natI, h]
def okQ {α : Type} (e : Int) (l : List α) : List α := if e = 0 then l else []
theorem okQ_n {α : Type} {e : Int} (h : e ≠ 0) (l : List α) : okQ e l = [] := if_neg h
theorem okQ_z {α : Type} {e : Int} (h : e = 0) (l : List α) : okQ e l = l := if_pos h
def aDys (l : List (Int × Nat)) : A := .one (.row false 3 l.length (flatD dyP l))
def rvP (r : Rv) : Int × Nat := (r.rw.x, r.rw.d)
def rowR (rs : List Rv) : D := .row false 3 rs.length (flatD (dRv false) rs)
def stE (ps : List Prt) (bs : List Bk) (os : List Int) (rs : List Rv) (ins : List Int) : Int :=
  if dgErr ps bs os ≠ 0 then dgErr ps bs os else if rs.length ≠ (delL bs).length then 11 else if rs.all (fun r => vdB r.rw) = false then 2
  else if ins.length ≠ ps.length then 11 else if inOk ps ins = false then 3 else if stepBad ps bs (rs.map rvP) ins = true then 4 else 0
theorem take_all1 {α : Type} {p : α → Prop} {l : List α} {k : Nat} {x : α} (h : ∀ q ∈ l.take k, p q) (hx : l[k]? = some x) (hp : p x) : ∀ q ∈ l.take (k + 1), p q := fun q hq => by
  rw [List.take_add_one, hx] at hq
  rcases List.mem_append.1 hq with hq | hq
  · exact h q hq
  · simp only [Option.toList_some, List.mem_cons, List.not_mem_nil, or_false] at hq
    rw [hq]; exact hp
theorem lt_step {p : Nat → Prop} {k : Nat} (h : ∀ i, i < k → p i) (hk : p k) : ∀ i, i < k + 1 → p i := fun i hi => by
  by_cases hik : i = k
  · rw [hik]; exact hk
  · exact h i (by omega)
theorem del_at {bs : List Bk} {k i : Nat} (h : (delL bs)[k]? = some i) : i < bs.length ∧ kindAt bs i = 2 := by
  have := List.mem_of_getElem? h
  unfold delL at this
  rw [List.mem_filter, List.mem_range] at this
  exact ⟨this.1, by simpa using this.2⟩
theorem del_arg {ps : List Prt} {bs : List Bk} {os : List Int} (h : dgErr ps bs os = 0) {i : Nat} {y : Bk} (hy : bs[i]? = some y) (hk : y.kind = 2) : ∃ b : Nat, y.args[0]? = some (b : Int) ∧ b < bs.length := by
  have hA := acc_args h hy
  have h1 := hA.2.1
  rw [hk] at h1
  have hl1 : y.args.length = 1 := by unfold arityM at h1; (repeat' split at h1) <;> omega
  obtain ⟨a, ha⟩ : ∃ a, y.args[0]? = some a := ⟨_, List.getElem?_eq_getElem (by omega)⟩
  have hb := hA.2.2 a (List.mem_of_getElem? ha)
  rw [show mostM ps.length bs.length y.kind = bs.length from if_neg (by omega)] at hb
  exact ⟨a.toNat, by rw [ha]; congr 1; omega, by omega⟩
theorem argZ_at {bs : List Bk} {i b : Nat} {y : Bk} (hy : bs[i]? = some y) (ha : y.args[0]? = some (b : Int)) : argZ bs i = b := by
  unfold argZ
  rw [hy, Option.map_some, Option.getD_some, ha]
  rfl
def tickE (ps : List Prt) (bs : List Bk) (st : List (Int × Nat)) (ins : List Int) : Int :=
  if ins.length ≠ ps.length then 11 else if inOk ps ins = false then 3 else if stepBad ps bs st ins = true then 4 else 0
structure StOk (bs : List Bk) (st : List (Int × Nat)) : Prop where
  len : st.length = (delL bs).length
  sm : ∀ p ∈ st, Sm p LB LB
section
variable {ps : List Prt} {bs : List Bk} {os : List Int} {st : List (Int × Nat)} {ins : List Int}
def argsE (V : List (Int × Nat)) (y : Bk) : List (Int × Nat) := if y.kind = 0 then [] else y.args.map fun a => V[a.toNat]?.getD (0, 0)
theorem del_lt {i : Nat} (h : i ∈ delL bs) : i < bs.length ∧ kindAt bs i = 2 := by
  obtain ⟨k, hk⟩ := List.mem_iff_getElem?.1 h
  exact del_at hk
end
def vnAt (bs : List Bk) (i : Nat) : Int := (bs[i]?.getD bk0).vn
def veAt (bs : List Bk) (i : Nat) : Int := (bs[i]?.getD bk0).ve
def startM (bs : List Bk) : List (Int × Nat) := (delL bs).map fun i => dyShift (vnAt bs i) 0 (veAt bs i)
theorem start_ok {ps : List Prt} {bs : List Bk} {os : List Int} (he : dgErr ps bs os = 0) : StOk bs (startM bs) := ⟨by unfold startM; rw [List.length_map], fun p hp => by
  obtain ⟨i, hi, rfl⟩ := List.mem_map.1 hp
  obtain ⟨h1, h2⟩ := del_lt hi
  obtain ⟨y, hy⟩ : ∃ y, bs[i]? = some y := ⟨_, List.getElem?_eq_getElem h1⟩
  rw [kind_at hy] at h2
  obtain ⟨s1, s2, s3, s4⟩ := acc_sc he hy (by unfold valU; rw [h2]; rfl)
  unfold vnAt veAt
  rw [hy]
  exact (Sm.shift (n := 32) (by simp only [Option.getD_some]; omega) (by simp only [Option.getD_some]; omega) (by simp only [Option.getD_some]; omega)).more (by decide) (by decide)⟩
def outV (ps : List Prt) (bs : List Bk) (os : List Int) (st : List (Int × Nat)) (ins : List Int) : List (Int × Nat) := os.map fun o => ((valE ps bs st ins)[o.toNat]?).getD (0, 0)
def stN (ps : List Prt) (bs : List Bk) (st : List (Int × Nat)) (ls : List (List Int)) : List (Int × Nat) := ls.foldl (fun s ins => nextE ps bs s ins) st
def runE (ps : List Prt) (bs : List Bk) (st : List (Int × Nat)) : List (List Int) → Int
  | [] => 0
  | ins :: l => if tickE ps bs st ins = 0 then runE ps bs (nextE ps bs st ins) l else tickE ps bs st ins
def runO (ps : List Prt) (bs : List Bk) (os : List Int) (st : List (Int × Nat)) : List (List Int) → List (List (Int × Nat))
  | [] => []
  | ins :: l => outV ps bs os st ins :: runO ps bs os (nextE ps bs st ins) l
section
variable {ps : List Prt} {bs : List Bk} {os : List Int}
def AllT (ps : List Prt) (bs : List Bk) (st : List (Int × Nat)) (ls : List (List Int)) : Prop := ∀ (k : Nat) (ins : List Int), ls[k]? = some ins → tickE ps bs (stN ps bs st (ls.take k)) ins = 0
end
def rvOf (p : Int × Nat) : Rv := ⟨decide (p.1 < 0), canon p.1.natAbs, p.2⟩
theorem rvOf_x (p : Int × Nat) : (rvOf p).rw.x = p.1 := by
  show sg (decide (p.1 < 0)) (wval (canon p.1.natAbs)) = p.1
  rw [wval_canon]
  unfold sg
  split <;> rename_i h
  · have := of_decide_eq_true h; omega
  · have : ¬ p.1 < 0 := by simpa using h
    omega
theorem rvOf_P (p : Int × Nat) : rvP (rvOf p) = p := by
  unfold rvP
  rw [rvOf_x]
  show (p.1, ((p.2 : Nat) : Int).toNat) = p
  rw [Int.toNat_natCast]
theorem rvOf_D (t : Bool) (p : Int × Nat) : dRv t (rvOf p) = dDy t p.1 p.2 := by
  unfold dRv dDy wds
  rw [w32_D]
  rfl
theorem rvOf_ok {p : Int × Nat} (h : Nf p.1 p.2) : vdB (rvOf p).rw = true := by
  refine decide_eq_true ?_
  by_cases h0 : (canon p.1.natAbs).length = 0
  · refine (vdP_0 (r := (rvOf p).rw) h0).2 ?_
    have hz : p.1.natAbs = 0 := by
      have := wval_canon p.1.natAbs
      rw [List.eq_nil_of_length_eq_zero h0] at this
      exact this.symm
    have hd : p.2 = 0 := Classical.byContradiction fun hne => by have := h.2 hne; omega
    exact ⟨decide_eq_false (by omega), by show ((p.2 : Nat) : Int) = 0; omega⟩
  · refine (vdP_n (r := (rvOf p).rw) h0).2 ⟨?_, by show (0 : Int) ≤ (p.2 : Nat); omega, by have := h.1; show ((p.2 : Nat) : Int) ≤ 65536; omega, ?_⟩
    · have hne : p.1.natAbs ≠ 0 := fun hz => h0 (by rw [hz, canon_zero]; rfl)
      obtain ⟨q, L, hL, hq, q0, _, _⟩ := canon_last hne
      show _ ≠ _
      simp only [rvOf, Rv.rw]
      first | (rw [hL]; simpa [hq] using q0) | simp_all
    · by_cases hd : p.2 = 0
      · left; show ((p.2 : Nat) : Int) = 0; omega
      · right
        have := h.2 hd
        have hb := wval_bit (canon_ok p.1.natAbs) 0
        rw [wval_canon] at hb
        simp only [Nat.pow_zero, Nat.div_one, Nat.zero_div, Nat.zero_mod] at hb
        show (canon p.1.natAbs)[0]?.getD 0 % 2 = 1
        omega
theorem delL_le (bs : List Bk) : (delL bs).length ≤ bs.length := by unfold delL; exact Nat.le_trans (List.length_filter_le _ _) (Nat.le_of_eq List.length_range)
theorem start_at {bs : List Bk} {k i : Nat} {y : Bk} (hi : (delL bs)[k]? = some i) (hy : bs[i]? = some y) : (startM bs)[k]? = some (dyShift y.vn 0 y.ve) := by
  unfold startM vnAt veAt
  rw [List.getElem?_map, hi, Option.map_some, hy]
  rfl
theorem flat_next {l : List (Int × Nat)} {k : Nat} {p : Int × Nat} (h : l[k]? = some p) : (flatD dyP (l.take k)).map C.d ++ (dDy false p.1 p.2).map C.d = (flatD dyP (l.take (k + 1))).map C.d ∧ (l.take k).length + 1 = (l.take (k + 1)).length ∧ (l.take k).length ≤ k := by
  refine ⟨?_, ?_, by rw [List.length_take]; omega⟩
  · rw [List.take_add_one, h, Option.toList_some, flatD_app, List.map_append]; rfl
  · rw [List.take_add_one, h, List.length_append]; rfl
def rowLI (u : Bool) (ls : List (List Int)) : D := .row u 1 ls.length (ls.map (rowI u))
def dRw (l : List (Int × Nat)) : D := .row false 3 l.length (flatD dyP l)
def rowLJ (u v : Bool) (ls : List (List Int)) : D := .row u 1 ls.length (ls.map (rowI v))
def rowLD (rows : List (List (Int × Nat))) : D := .row false 1 rows.length (rows.map dRw)
def runQE (ps : List Prt) (bs : List Bk) (os : List Int) (ls : List (List Int)) : Int := if dgErr ps bs os ≠ 0 then dgErr ps bs os else if 256 < ls.length then 4 else runE ps bs (startM bs) ls
theorem pstart_cv (t : Bool) {ps : List Prt} {bs : List Bk} {os : List Int} (hl : DgLen ps bs os) : CV Tryz.prog TabAt 38 [aDg t ps bs os] [aDys (okQ (dgErr ps bs os) (startM bs)), aE (dgErr ps bs os)] := by
  refine cvz Tryz.func38 Tryz.ntmps38 ?_
  have DL := (delays_cv t hl (ps := ps) (bs := bs) (os := os)).cv
  have hnl := natI_len (delL bs)
  by_cases h0 : dgErr ps bs os = 0
  case neg =>
    rw [if_neg h0] at DL
    rw [okQ_n h0]
    repeat' (with_reducible first | apply qa | apply qb | apply qc | apply qd | apply qe | apply qf | apply qg | apply qh | apply qi | apply qj | apply qk | apply ql rfl | apply qm rfl | apply qn rfl | apply Je | (refine Tx 0 ?_; refine Jn xBo ?_; refine Ja ?_; refine Ja ?_) | (refine Tx 1 ?_; refine Jo (xLa tk_Diagram) ?_; refine Jo (xCl Tryz.func41 (DL)) ?_; refine Jo xMt ?_; refine Jo xEx ?_; refine Jo xEx ?_; refine Ja ?_; refine Ja ?_) | (refine Tx 2 ?_; refine Jm ?_; refine Jo (xNE ti_error) ?_) | (refine Tx 3 ?_; refine Jm ?_; refine Ja ?_; refine Ja ?_))
    exact ret_q rfl (.cons_ (.tmp (.one (cexp_n rfl rfl))) (.cons_ (rv_e rfl rfl) .nil_))
  rw [if_pos h0, h0] at DL
  rw [h0, okQ_z rfl]
  repeat' (with_reducible first | apply qa | apply qb | apply qc | apply qd | apply qe | apply qf | apply qg | apply qh | apply qi | apply qj | apply qk | apply ql rfl | apply qm rfl | apply qn rfl | apply Je | (refine Tx 0 ?_; refine Jn xBo ?_; refine Ja ?_; refine Ja ?_) | (refine Tx 1 ?_; refine Jo (xLa tk_Diagram) ?_; refine Jo (xCl Tryz.func41 (DL)) ?_; refine Jo xMt ?_; refine Jo xEx ?_; refine Jo xEx ?_; refine Ja ?_; refine Ja ?_) | (refine Tx 2 ?_; refine Jm ?_; refine Jo (xNE ti_error) ?_) | (refine Tx 4 ?_; refine Ja ?_) | (refine Tx 5 ?_; refine Jm ?_; refine Jo (xLn ts_s_int) ?_; refine Jm ?_))
  refine cw_wk (wk_nil 6 53 3 rfl) ?_
  have hl2 := hl.l2
  have hdb := delL_le bs
  have hsl : (startM bs).length = (delL bs).length := (start_ok h0).len
  refine cw_wk (F' := ofL [(1, vr 0), (6, vo 1 (((startM bs).take 0).length)), (17, vd (rowI false (natI (delL bs)))), (18, vi ((natI (delL bs)).length)), (19, vi ((0 : Nat)))]) (H' := [.box 26 [.d (rowP t ps), .d (rowB t bs), .d (rowI t os)], .row 53 3 ((startM bs).take (0)).length ((flatD dyP ((startM bs).take (0))).map C.d)]) (wk_go _ 2 ?_ ?_ ?_) ?_
  · rfl
  · exact mB rfl rfl
  · exact ⟨bel_lit rfl, bel_D, trivial⟩
  refine cw_loopW (fun n Fr H => ∃ k : Nat, k ≤ (delL bs).length ∧ n = (delL bs).length - k ∧ Fr = ofL [(1, vr 0), (6, vo 1 (((startM bs).take k).length)), (17, vd (rowI false (natI (delL bs)))), (18, vi ((natI (delL bs)).length)), (19, vi ((k : Nat)))] ∧ H = [.box 26 [.d (rowP t ps), .d (rowB t bs), .d (rowI t os)], .row 53 3 ((startM bs).take (k)).length ((flatD dyP ((startM bs).take (k))).map C.d)]) (n0 := (delL bs).length) ⟨0, Nat.zero_le _, rfl, rfl, rfl⟩ ?_
  rintro n Fr H ⟨k, hk, rfl, rfl, rfl⟩
  by_cases hlt : k < (delL bs).length
  case pos =>
    obtain ⟨i, hi⟩ : ∃ i, (delL bs)[k]? = some i := ⟨_, List.getElem?_eq_getElem hlt⟩
    have hid := del_at hi
    have hil := hid.1
    obtain ⟨y, hy⟩ : ∃ y, bs[i]? = some y := ⟨_, List.getElem?_eq_getElem hil⟩
    have hk2 := hid.2
    rw [kind_at hy] at hk2
    have hsc := acc_sc h0 hy (by unfold valU; rw [hk2]; rfl)
    have NU := number_cv2 y.vn y.ve hsc
    obtain ⟨hap, hap2, hoL⟩ := flat_next (start_at hi hy)
    repeat' (with_reducible first | apply qa | apply qb | apply qc | apply qd | apply qe | apply qf | apply qg | apply qh | apply qi | apply qj | apply qk | apply ql rfl | apply qm rfl | apply qn rfl | apply Je | (refine Tx 6 ?_; refine Jo xLt ?_) | (refine Tx 7 ?_; refine Jo (xIr ts_s_int (int_at (natI_at hi))) ?_; refine Jo (xLd tk_int) ?_; refine Ja ?_) | (refine Tx 8 ?_; refine Jm ?_; refine Jo (xFa tf_Diagram1 tk_s_Block) ?_; refine Jo (xLd tk_s_Block) ?_; refine Jm ?_; refine Jo (xIr ts_s_Block (bk_at hy)) ?_; refine Jo (xFa tf_Block2 tk_Scalar) ?_; refine Jo (xLa tk_Scalar) ?_; refine Jo (xCl Tryz.func94 (NU)) ?_; refine Jn (by exact ok_build1 rfl ts_s_Dyadic tz_Dyadic rfl rfl (by decide) (by decide)) ?_; refine Jt (by exact to_apD rfl rfl rfl rfl rfl rfl ts_s_Dyadic tz_Dyadic (by omega) (by decide) (by decide) rfl hap hap2) ?_; refine Ja ?_) | (refine Tx 9 ?_; refine Jo xAd ?_; refine Jm ?_))
    refine ⟨_, _, wk_go _ 2 ?_ ?_ ?_, _, ?_, k + 1, by omega, rfl, rfl, rfl⟩
    · rfl
    · exact mB rfl rfl
    · exact ⟨bel_lit rfl, bel_D, trivial⟩
    · omega
  obtain rfl : k = (delL bs).length := by omega
  clear hlt hk
  rw [← hsl, List.take_length]
  unfold aDys
  repeat' (with_reducible first | apply qa | apply qb | apply qc | apply qd | apply qe | apply qf | apply qg | apply qh | apply qi | apply qj | apply qk | apply ql rfl | apply qm rfl | apply qn rfl | apply Je | (refine Tx 6 ?_; refine Jo xLt ?_) | (refine Tx 10 ?_; refine Jm ?_; refine Ja ?_; refine Ja ?_))
  exact ret_q rfl (.cons_ (.tmp (.one (cexp_oD rfl rfl rfl))) (.cons_ (rv_e0 rfl rfl) .nil_))
def lightB (ps : List Prt) (bs : List Bk) (os : List Int) : Bool := decide (ps.length ≤ 40 ∧ bs.length ≤ 80 ∧ os.length ≤ 40) && bs.all fun b => decide (b.args.length ≤ 10)
theorem light_cvT (t : Bool) (ps : List Prt) (bs : List Bk) (os : List Int) : CV Tryz.prog TabAt 10 [aDg t ps bs os] [aB (lightB ps bs os)] := by
  refine cvz Tryz.func10 Tryz.ntmps10 ?_
  by_cases cp : 40 < ps.length
  case pos =>
    repeat' (with_reducible first | apply qa | apply qb | apply qc | apply qd | apply qe | apply qf | apply qg | apply qh | apply qi | apply qj | apply qk | apply ql rfl | apply qm rfl | apply qn rfl | apply Je | (refine Tx 0 ?_; refine Jn xBo ?_; refine Ja ?_) | (refine Tx 1 ?_; refine Jo (xFa tf_Diagram0 tk_s_Port) ?_; refine Jo (xLd tk_s_Port) ?_; refine Jo (xLn ts_s_Port) ?_; refine Jo xGt ?_; refine Jm ?_; (first | iterate 4 refine Jd ?_ | (refine Jy (xFa tf_Diagram1 tk_s_Block) ?_; refine Jy (xLd tk_s_Block) ?_; refine Jy (xLn ts_s_Block) ?_; refine Jy xGt ?_)); refine Jo xPk ?_; refine Jm ?_; (first | iterate 4 refine Jd ?_ | (refine Jy (xFa tf_Diagram2 tk_s_int) ?_; refine Jy (xLd tk_s_int) ?_; refine Jy (xLn ts_s_int) ?_; refine Jy xGt ?_)); refine Jo xPk ?_) | (refine Tx 2 ?_; refine Ja ?_))
    exact ret_q rfl (.cons_ (rv_b rfl (by unfold lightB; rw [decide_eq_false (by omega)]; rfl)) .nil_)
  by_cases cb : 80 < bs.length
  case pos =>
    repeat' (with_reducible first | apply qa | apply qb | apply qc | apply qd | apply qe | apply qf | apply qg | apply qh | apply qi | apply qj | apply qk | apply ql rfl | apply qm rfl | apply qn rfl | apply Je | (refine Tx 0 ?_; refine Jn xBo ?_; refine Ja ?_) | (refine Tx 1 ?_; refine Jo (xFa tf_Diagram0 tk_s_Port) ?_; refine Jo (xLd tk_s_Port) ?_; refine Jo (xLn ts_s_Port) ?_; refine Jo xGt ?_; refine Jm ?_; (first | iterate 4 refine Jd ?_ | (refine Jy (xFa tf_Diagram1 tk_s_Block) ?_; refine Jy (xLd tk_s_Block) ?_; refine Jy (xLn ts_s_Block) ?_; refine Jy xGt ?_)); refine Jo xPk ?_; refine Jm ?_; (first | iterate 4 refine Jd ?_ | (refine Jy (xFa tf_Diagram2 tk_s_int) ?_; refine Jy (xLd tk_s_int) ?_; refine Jy (xLn ts_s_int) ?_; refine Jy xGt ?_)); refine Jo xPk ?_) | (refine Tx 2 ?_; refine Ja ?_))
    exact ret_q rfl (.cons_ (rv_b rfl (by unfold lightB; rw [decide_eq_false (by omega)]; rfl)) .nil_)
  by_cases co : 40 < os.length
  case pos =>
    repeat' (with_reducible first | apply qa | apply qb | apply qc | apply qd | apply qe | apply qf | apply qg | apply qh | apply qi | apply qj | apply qk | apply ql rfl | apply qm rfl | apply qn rfl | apply Je | (refine Tx 0 ?_; refine Jn xBo ?_; refine Ja ?_) | (refine Tx 1 ?_; refine Jo (xFa tf_Diagram0 tk_s_Port) ?_; refine Jo (xLd tk_s_Port) ?_; refine Jo (xLn ts_s_Port) ?_; refine Jo xGt ?_; refine Jm ?_; (first | iterate 4 refine Jd ?_ | (refine Jy (xFa tf_Diagram1 tk_s_Block) ?_; refine Jy (xLd tk_s_Block) ?_; refine Jy (xLn ts_s_Block) ?_; refine Jy xGt ?_)); refine Jo xPk ?_; refine Jm ?_; (first | iterate 4 refine Jd ?_ | (refine Jy (xFa tf_Diagram2 tk_s_int) ?_; refine Jy (xLd tk_s_int) ?_; refine Jy (xLn ts_s_int) ?_; refine Jy xGt ?_)); refine Jo xPk ?_) | (refine Tx 2 ?_; refine Ja ?_))
    exact ret_q rfl (.cons_ (rv_b rfl (by unfold lightB; rw [decide_eq_false (by omega)]; rfl)) .nil_)
  repeat' (with_reducible first | apply qa | apply qb | apply qc | apply qd | apply qe | apply qf | apply qg | apply qh | apply qi | apply qj | apply qk | apply ql rfl | apply qm rfl | apply qn rfl | apply Je | (refine Tx 0 ?_; refine Jn xBo ?_; refine Ja ?_) | (refine Tx 1 ?_; refine Jo (xFa tf_Diagram0 tk_s_Port) ?_; refine Jo (xLd tk_s_Port) ?_; refine Jo (xLn ts_s_Port) ?_; refine Jo xGt ?_; refine Jm ?_; (first | iterate 4 refine Jd ?_ | (refine Jy (xFa tf_Diagram1 tk_s_Block) ?_; refine Jy (xLd tk_s_Block) ?_; refine Jy (xLn ts_s_Block) ?_; refine Jy xGt ?_)); refine Jo xPk ?_; refine Jm ?_; (first | iterate 4 refine Jd ?_ | (refine Jy (xFa tf_Diagram2 tk_s_int) ?_; refine Jy (xLd tk_s_int) ?_; refine Jy (xLn ts_s_int) ?_; refine Jy xGt ?_)); refine Jo xPk ?_) | (refine Tx 3 ?_; refine Jo (xFa tf_Diagram1 tk_s_Block) ?_; refine Jo (xLd tk_s_Block) ?_; refine Jo (xLn ts_s_Block) ?_; refine Jm ?_))
  refine cw_wk (F' := ofL [(1, vr 0), (22, vd (rowB t bs)), (23, vi bs.length), (24, vi ((0 : Nat)))]) (H' := [.box 26 [.d (rowP t ps), .d (rowB t bs), .d (rowI t os)]]) (wk_go _ 1 ?_ ?_ ?_) ?_
  · rfl
  · exact mB rfl rfl
  · exact ⟨bel_lit rfl, trivial⟩
  refine cw_loopW (fun n Fr H => ∃ k : Nat, k ≤ bs.length ∧ n = bs.length - k ∧ (bs.take k).all (fun b : Bk => decide (b.args.length ≤ 10)) = true ∧ Fr = ofL [(1, vr 0), (22, vd (rowB t bs)), (23, vi bs.length), (24, vi ((k : Nat)))] ∧ H = [.box 26 [.d (rowP t ps), .d (rowB t bs), .d (rowI t os)]]) (n0 := bs.length) ⟨0, Nat.zero_le _, rfl, rfl, rfl, rfl⟩ ?_
  rintro n Fr H ⟨k, hk, rfl, hall, rfl, rfl⟩
  by_cases hlt : k < bs.length
  case pos =>
    obtain ⟨y, hy⟩ : ∃ y, bs[k]? = some y := ⟨_, List.getElem?_eq_getElem hlt⟩
    by_cases hy10 : y.args.length ≤ 10
    case pos =>
      repeat' (with_reducible first | apply qa | apply qb | apply qc | apply qd | apply qe | apply qf | apply qg | apply qh | apply qi | apply qj | apply qk | apply ql rfl | apply qm rfl | apply qn rfl | apply Je | (refine Tx 4 ?_; refine Jo xLt ?_) | (refine Tx 5 ?_; refine Jo (xIr ts_s_Block (bk_at hy)) ?_; refine Jo (xLa tk_Block) ?_; refine Jn (xAl tz_Block) ?_; refine Js (xSk tk_Block) ?_) | (refine Tx 6 ?_; refine Jo (xFa tf_Block1 tk_s_int) ?_; refine Jo (xLd tk_s_int) ?_; refine Jo (xLn ts_s_int) ?_; refine Jo xGt ?_) | (refine Tx 8 ?_; refine Jo xAd ?_; refine Jm ?_))
      refine ⟨_, _, wk_go _ 1 ?_ ?_ ?_, _, ?_, k + 1, by omega, rfl, all_take hy hall (decide_eq_true hy10), rfl, rfl⟩
      · rfl
      · exact mB rfl rfl
      · exact ⟨bel_lit rfl, trivial⟩
      · omega
    case neg =>
      repeat' (with_reducible first | apply qa | apply qb | apply qc | apply qd | apply qe | apply qf | apply qg | apply qh | apply qi | apply qj | apply qk | apply ql rfl | apply qm rfl | apply qn rfl | apply Je | (refine Tx 4 ?_; refine Jo xLt ?_) | (refine Tx 5 ?_; refine Jo (xIr ts_s_Block (bk_at hy)) ?_; refine Jo (xLa tk_Block) ?_; refine Jn (xAl tz_Block) ?_; refine Js (xSk tk_Block) ?_) | (refine Tx 6 ?_; refine Jo (xFa tf_Block1 tk_s_int) ?_; refine Jo (xLd tk_s_int) ?_; refine Jo (xLn ts_s_int) ?_; refine Jo xGt ?_) | (refine Tx 7 ?_; refine Ja ?_))
      exact ret_q rfl (.cons_ (rv_b rfl (by unfold lightB; rw [show bs.all (fun b : Bk => decide (b.args.length ≤ 10)) = false from List.all_eq_false.2 ⟨y, List.mem_of_getElem? hy, by rw [decide_eq_false hy10]; exact Bool.false_ne_true⟩, Bool.and_false])) .nil_)
  obtain rfl : k = bs.length := by omega
  rw [List.take_length] at hall
  repeat' (with_reducible first | apply qa | apply qb | apply qc | apply qd | apply qe | apply qf | apply qg | apply qh | apply qi | apply qj | apply qk | apply ql rfl | apply qm rfl | apply qn rfl | apply Je | (refine Tx 4 ?_; refine Jo xLt ?_) | (refine Tx 9 ?_; refine Ja ?_))
  exact ret_q rfl (.cons_ (rv_b rfl (by unfold lightB; rw [hall, decide_eq_true (by omega)]; rfl)) .nil_)
theorem light_len {ps : List Prt} {bs : List Bk} {os : List Int} (h : lightB ps bs os = true) : DgLen ps bs os ∧ bs.length ≤ 80 := by
  unfold lightB at h
  rw [Bool.and_eq_true] at h
  have h1 := of_decide_eq_true h.1
  exact ⟨⟨by omega, by omega, by omega, fun b hb => by have := of_decide_eq_true (List.all_eq_true.1 h.2 b hb); omega⟩, h1.2.1⟩
theorem bis_cv (n k : Int) : CVF Tryz.prog TabAt 21 [aE n, aI k] [aB (isB n k)] := fun w S vs hg hlt ha => by
  obtain ⟨v, vs', rfl, h1, ha⟩ := ha.uncons
  obtain ⟨u, hu, h2⟩ := one_arg ha
  subst hu
  cases h1
  cases h2
  refine (is_any n k w).mono fun r w' ⟨he, hw⟩ => ?_
  subst hw
  exact ⟨_, he, DRel.val rfl, Below.refl _ _⟩
def prtD : Prt := ⟨0, 0, 0⟩
def inpV (ps : List Prt) (inn : List Int) (n : Nat) : List Int := (List.range n).map fun i => clipI (inn[i]?.getD 0) (ps[i]?.getD prtD).lo (ps[i]?.getD prtD).hi
structure HasB (vs : List (Option (Int × Nat))) (D : Nat → Prop) (B : Bool) : Prop where
  at_ : ∀ i, D i → ∃ p, vs[i]? = some (some p) ∧ Sm p 32000 65536 ∧ (longP p = true → B = true)
theorem sm_lenN {p : Int × Nat} {n k : Nat} (h : Nf p.1 p.2) (hl : (canon p.1.natAbs).length ≤ k) (hn : 32 * k ≤ n) : Sm p n 65536 := by
  refine ⟨h, ?_, h.1⟩
  have hlt : p.1.natAbs < 2 ^ (32 * (canon p.1.natAbs).length) := by have := wval_lt (canon_ok p.1.natAbs); rw [wval_canon] at this; rw [Nat.pow_mul]; exact this
  exact Nat.lt_of_lt_of_le hlt (Nat.pow_le_pow_right (by decide) (by omega))
def sameB (r s : Rv) : Bool := decide (r.nb = s.nb ∧ r.den = s.den ∧ r.ws = s.ws)
theorem same_p {p q : Int × Nat} : sameB (rvOf p) (rvOf q) = decide (p = q) := by
  unfold sameB
  refine decide_eq_decide.2 ⟨fun ⟨h1, h2, h3⟩ => ?_, fun h => by rw [h]; exact ⟨rfl, rfl, rfl⟩⟩
  have : rvOf p = rvOf q := by
    cases hp : rvOf p; cases hq : rvOf q
    simp_all
  rw [← rvOf_P p, this, rvOf_P]
section
variable {P : Program} {G : World → Prop} {o : Oper} {F : Frm} {H : List Ob}
theorem ok_neqBT {t t' : TypeId} {x y : Operand} {p q : Bool} (ho : o.op = .binOp .neq t x y t') (ht : P.underlying t = some .bool) (hx : F.ev x = .one (.d (.val (.bool p)))) (hy : F.ev y = .one (.d (.val (.bool q)))) (h : ¬ p = q) : OpOk P G o F H (.one (.d (.val (.bool true)))) [] := by
  have := ok_neqB (P := P) (G := G) (H := H) ho ht hx hy
  rwa [show (p != q) = true by cases p <;> cases q <;> simp_all] at this
theorem ok_neqBF {t t' : TypeId} {x y : Operand} {p q : Bool} (ho : o.op = .binOp .neq t x y t') (ht : P.underlying t = some .bool) (hx : F.ev x = .one (.d (.val (.bool p)))) (hy : F.ev y = .one (.d (.val (.bool q)))) (h : p = q) : OpOk P G o F H (.one (.d (.val (.bool false)))) [] := by
  have := ok_neqB (P := P) (G := G) (H := H) ho ht hx hy
  rwa [show (p != q) = false by subst h; cases p <;> rfl] at this
end
theorem take_ext {α : Type} {l m : List α} {k : Nat} {x : α} (h : l.take k = m.take k) (h1 : l[k]? = some x) (h2 : m[k]? = some x) : l.take (k + 1) = m.take (k + 1) := by rw [List.take_add_one, List.take_add_one, h, h1, h2]
theorem ne_at {α : Type} {l m : List α} {k : Nat} {x y : α} (h1 : l[k]? = some x) (h2 : m[k]? = some y) (h : x ≠ y) : l ≠ m := fun e => h (by subst e; rw [h1] at h2; exact Option.some.inj h2)
theorem rvsame_cv (t u : Bool) (r s : Rv) (hr : r.ws.length ≤ 1000000) (hs : s.ws.length ≤ 1000000) : CV Tryz.prog TabAt 83 [aRv t r, aRv u s] [aB (sameB r s)] := by
  refine cvz Tryz.func83 Tryz.ntmps83 ?_
  have l1 : r.ws.length ≤ 1000000 := hr
  have l2 : s.ws.length ≤ 1000000 := hs
  by_cases hb : r.nb = s.nb
  case neg =>
    repeat' (with_reducible first | apply qa | apply qb | apply qc | apply qd | apply qe | apply qf | apply qg | apply qh | apply qi | apply qj | apply qk | apply ql rfl | apply qm rfl | apply qn rfl | apply Je | (refine Tx 0 ?_; refine Jn xBo ?_; refine Jn xBo ?_; refine Ja ?_) | (refine Tx 1 ?_; refine Jo (xFa tf_Dyadic0 tk_bool) ?_; refine Jo (xLd tk_bool) ?_; refine Jo (xFa tf_Dyadic0 tk_bool) ?_; refine Jo (xLd tk_bool) ?_; refine Jo (by first | exact ok_neqBT rfl Tryz.underlying4 rfl rfl hb | exact xNe) ?_; refine Jm ?_; (first | iterate 5 refine Jd ?_ | (refine Jy (xFa tf_Dyadic2 tk_int) ?_; refine Jy (xLd tk_int) ?_; refine Jy (xFa tf_Dyadic2 tk_int) ?_; refine Jy (xLd tk_int) ?_; refine Jy xNe ?_)); refine Jo xPk ?_; refine Jm ?_; (first | iterate 7 refine Jd ?_ | (refine Jy (xFa tf_Dyadic1 tk_s_uint32) ?_; refine Jy (xLd tk_s_uint32) ?_; refine Jy (xLn ts_s_uint32) ?_; refine Jy (xFa tf_Dyadic1 tk_s_uint32) ?_; refine Jy (xLd tk_s_uint32) ?_; refine Jy (xLn ts_s_uint32) ?_; refine Jy xNe ?_)); refine Jo xPk ?_) | (refine Tx 2 ?_; refine Ja ?_))
    exact ret_q rfl (.cons_ (rv_b rfl (by unfold sameB; rw [decide_eq_false (fun h => hb h.1)])) .nil_)
  by_cases hd : r.den = s.den
  case neg =>
    repeat' (with_reducible first | apply qa | apply qb | apply qc | apply qd | apply qe | apply qf | apply qg | apply qh | apply qi | apply qj | apply qk | apply ql rfl | apply qm rfl | apply qn rfl | apply Je | (refine Tx 0 ?_; refine Jn xBo ?_; refine Jn xBo ?_; refine Ja ?_) | (refine Tx 1 ?_; refine Jo (xFa tf_Dyadic0 tk_bool) ?_; refine Jo (xLd tk_bool) ?_; refine Jo (xFa tf_Dyadic0 tk_bool) ?_; refine Jo (xLd tk_bool) ?_; refine Jo (by first | exact ok_neqBF rfl Tryz.underlying4 rfl rfl hb | exact xNe) ?_; refine Jm ?_; (first | iterate 5 refine Jd ?_ | (refine Jy (xFa tf_Dyadic2 tk_int) ?_; refine Jy (xLd tk_int) ?_; refine Jy (xFa tf_Dyadic2 tk_int) ?_; refine Jy (xLd tk_int) ?_; refine Jy xNe ?_)); refine Jo xPk ?_; refine Jm ?_; (first | iterate 7 refine Jd ?_ | (refine Jy (xFa tf_Dyadic1 tk_s_uint32) ?_; refine Jy (xLd tk_s_uint32) ?_; refine Jy (xLn ts_s_uint32) ?_; refine Jy (xFa tf_Dyadic1 tk_s_uint32) ?_; refine Jy (xLd tk_s_uint32) ?_; refine Jy (xLn ts_s_uint32) ?_; refine Jy xNe ?_)); refine Jo xPk ?_) | (refine Tx 2 ?_; refine Ja ?_))
    exact ret_q rfl (.cons_ (rv_b rfl (by unfold sameB; rw [decide_eq_false (fun h => hd h.2.1)])) .nil_)
  by_cases hl : r.ws.length = s.ws.length
  case neg =>
    repeat' (with_reducible first | apply qa | apply qb | apply qc | apply qd | apply qe | apply qf | apply qg | apply qh | apply qi | apply qj | apply qk | apply ql rfl | apply qm rfl | apply qn rfl | apply Je | (refine Tx 0 ?_; refine Jn xBo ?_; refine Jn xBo ?_; refine Ja ?_) | (refine Tx 1 ?_; refine Jo (xFa tf_Dyadic0 tk_bool) ?_; refine Jo (xLd tk_bool) ?_; refine Jo (xFa tf_Dyadic0 tk_bool) ?_; refine Jo (xLd tk_bool) ?_; refine Jo (by first | exact ok_neqBF rfl Tryz.underlying4 rfl rfl hb | exact xNe) ?_; refine Jm ?_; (first | iterate 5 refine Jd ?_ | (refine Jy (xFa tf_Dyadic2 tk_int) ?_; refine Jy (xLd tk_int) ?_; refine Jy (xFa tf_Dyadic2 tk_int) ?_; refine Jy (xLd tk_int) ?_; refine Jy xNe ?_)); refine Jo xPk ?_; refine Jm ?_; (first | iterate 7 refine Jd ?_ | (refine Jy (xFa tf_Dyadic1 tk_s_uint32) ?_; refine Jy (xLd tk_s_uint32) ?_; refine Jy (xLn ts_s_uint32) ?_; refine Jy (xFa tf_Dyadic1 tk_s_uint32) ?_; refine Jy (xLd tk_s_uint32) ?_; refine Jy (xLn ts_s_uint32) ?_; refine Jy xNe ?_)); refine Jo xPk ?_) | (refine Tx 2 ?_; refine Ja ?_))
    exact ret_q rfl (.cons_ (rv_b rfl (by unfold sameB; rw [decide_eq_false (fun h => hl (by rw [h.2.2]))])) .nil_)
  repeat' (with_reducible first | apply qa | apply qb | apply qc | apply qd | apply qe | apply qf | apply qg | apply qh | apply qi | apply qj | apply qk | apply ql rfl | apply qm rfl | apply qn rfl | apply Je | (refine Tx 0 ?_; refine Jn xBo ?_; refine Jn xBo ?_; refine Ja ?_) | (refine Tx 1 ?_; refine Jo (xFa tf_Dyadic0 tk_bool) ?_; refine Jo (xLd tk_bool) ?_; refine Jo (xFa tf_Dyadic0 tk_bool) ?_; refine Jo (xLd tk_bool) ?_; refine Jo (by first | exact ok_neqBF rfl Tryz.underlying4 rfl rfl hb | exact xNe) ?_; refine Jm ?_; (first | iterate 5 refine Jd ?_ | (refine Jy (xFa tf_Dyadic2 tk_int) ?_; refine Jy (xLd tk_int) ?_; refine Jy (xFa tf_Dyadic2 tk_int) ?_; refine Jy (xLd tk_int) ?_; refine Jy xNe ?_)); refine Jo xPk ?_; refine Jm ?_; (first | iterate 7 refine Jd ?_ | (refine Jy (xFa tf_Dyadic1 tk_s_uint32) ?_; refine Jy (xLd tk_s_uint32) ?_; refine Jy (xLn ts_s_uint32) ?_; refine Jy (xFa tf_Dyadic1 tk_s_uint32) ?_; refine Jy (xLd tk_s_uint32) ?_; refine Jy (xLn ts_s_uint32) ?_; refine Jy xNe ?_)); refine Jo xPk ?_) | (refine Tx 3 ?_; refine Jo (xFa tf_Dyadic1 tk_s_uint32) ?_; refine Jo (xLd tk_s_uint32) ?_; refine Jo (xLn ts_s_uint32) ?_; refine Jm ?_))
  refine cw_wk (F' := ofL [(2, vr 0), (3, vr 1), (29, vi r.ws.length), (30, vi ((0 : Nat)))]) (H' := [.box 53 ((dRv t r).map C.d), .box 53 ((dRv u s).map C.d)]) (wk_go _ 2 ?_ ?_ ?_) ?_
  · rfl
  · exact mB rfl rfl
  · exact ⟨bel_D, bel_D, trivial⟩
  refine cw_loopW (fun n Fr H => ∃ k : Nat, k ≤ r.ws.length ∧ n = r.ws.length - k ∧ r.ws.take k = s.ws.take k ∧ Fr = ofL [(2, vr 0), (3, vr 1), (29, vi r.ws.length), (30, vi ((k : Nat)))] ∧ H = [.box 53 ((dRv t r).map C.d), .box 53 ((dRv u s).map C.d)]) (n0 := r.ws.length) ⟨0, Nat.zero_le _, rfl, rfl, rfl, rfl⟩ ?_
  rintro n Fr H ⟨k, hk, rfl, he, rfl, rfl⟩
  by_cases hlt : k < r.ws.length
  case pos =>
    obtain ⟨p, hp⟩ : ∃ p, r.ws[k]? = some p := ⟨_, List.getElem?_eq_getElem hlt⟩
    obtain ⟨q, hq⟩ : ∃ q, s.ws[k]? = some q := ⟨_, List.getElem?_eq_getElem (by omega)⟩
    by_cases e : p = q
    case neg =>
      repeat' (with_reducible first | apply qa | apply qb | apply qc | apply qd | apply qe | apply qf | apply qg | apply qh | apply qi | apply qj | apply qk | apply ql rfl | apply qm rfl | apply qn rfl | apply Je | (refine Tx 4 ?_; refine Jo xLt ?_) | (refine Tx 5 ?_; refine Jm ?_; refine Ja ?_) | (refine cw_any (id := 6) mixed (by kernel_rfl) ?_; refine Ko (xFa tf_Dyadic1 tk_s_uint32) ?_; refine Ko (xLd tk_s_uint32) ?_; refine Km ?_; refine Ko (by first | exact xIr ts_s_uint32 (word_at hp) | exact xIr ts_s_uint32 (word_at hq)) ?_; refine Ko (xLd tk_uint32) ?_; refine Ko (xFa tf_Dyadic1 tk_s_uint32) ?_; refine Ko (xLd tk_s_uint32) ?_; refine Km ?_; refine Ko (by first | exact xIr ts_s_uint32 (word_at hp) | exact xIr ts_s_uint32 (word_at hq)) ?_; refine Ko (xLd tk_uint32) ?_; refine Ko xNe ?_; refine Ke ?_) | (refine Tx 7 ?_; refine Ja ?_))
      exact ret_q rfl (.cons_ (rv_b rfl (by unfold sameB; rw [decide_eq_false (fun h => ne_at hp hq e h.2.2)])) .nil_)
    subst e
    repeat' (with_reducible first | apply qa | apply qb | apply qc | apply qd | apply qe | apply qf | apply qg | apply qh | apply qi | apply qj | apply qk | apply ql rfl | apply qm rfl | apply qn rfl | apply Je | (refine Tx 4 ?_; refine Jo xLt ?_) | (refine Tx 5 ?_; refine Jm ?_; refine Ja ?_) | (refine cw_any (id := 6) mixed (by kernel_rfl) ?_; refine Ko (xFa tf_Dyadic1 tk_s_uint32) ?_; refine Ko (xLd tk_s_uint32) ?_; refine Km ?_; refine Ko (by first | exact xIr ts_s_uint32 (word_at hp) | exact xIr ts_s_uint32 (word_at hq)) ?_; refine Ko (xLd tk_uint32) ?_; refine Ko (xFa tf_Dyadic1 tk_s_uint32) ?_; refine Ko (xLd tk_s_uint32) ?_; refine Km ?_; refine Ko (by first | exact xIr ts_s_uint32 (word_at hp) | exact xIr ts_s_uint32 (word_at hq)) ?_; refine Ko (xLd tk_uint32) ?_; refine Ko xNe ?_; refine Ke ?_) | (refine Tx 8 ?_; refine Jo xAd ?_; refine Jm ?_))
    refine ⟨_, _, wk_go _ 2 ?_ ?_ ?_, _, by omega, k + 1, by omega, rfl, take_ext he hp hq, rfl, rfl⟩
    · rfl
    · exact mB rfl rfl
    · exact ⟨bel_D, bel_D, trivial⟩
  obtain rfl : k = r.ws.length := by omega
  clear hlt hk
  rw [List.take_length, hl, List.take_length] at he
  repeat' (with_reducible first | apply qa | apply qb | apply qc | apply qd | apply qe | apply qf | apply qg | apply qh | apply qi | apply qj | apply qk | apply ql rfl | apply qm rfl | apply qn rfl | apply Je | (refine Tx 4 ?_; refine Jo xLt ?_) | (refine Tx 9 ?_; refine Ja ?_))
  exact ret_q rfl (.cons_ (rv_b rfl (by unfold sameB; rw [decide_eq_true ⟨hb, hd, he⟩])) .nil_)
theorem dsame_cv (t u : Bool) (p q : Int × Nat) (l1 : (canon p.1.natAbs).length ≤ 1000000) (l2 : (canon q.1.natAbs).length ≤ 1000000) : CV Tryz.prog TabAt 83 [aDy t p.1 p.2, aDy u q.1 q.2] [aB (decide (p = q))] := by
  have := rvsame_cv t u (rvOf p) (rvOf q) l1 l2
  rw [same_p] at this
  unfold aRv at this
  rwa [rvOf_D, rvOf_D] at this
def LenOk (l : List (Int × Nat)) : Prop := ∀ p ∈ l, (canon p.1.natAbs).length ≤ 1000000
theorem pdsign_cv (x : Int) (dx : Nat) (hnx : Nf x dx) (lx : (canon x.natAbs).length ≤ 40000) : CV Tryz.prog TabAt 126 [aDy false x dx] [aI (sgI x)] := by
  refine cvz Tryz.func126 Tryz.ntmps126 ?_
  have PX := parts_cv (G := TabAt) x dx hnx (Nat.le_trans lx (by decide))
  by_cases c0 : x = 0
  case pos =>
    have l0 : ((canon x.natAbs).length : Int) = 0 := by rw [show x.natAbs = 0 by omega, canon_zero]; rfl
    rw [show decide (x < 0) = false by rw [decide_eq_false (by omega)]] at PX
    rw [show sgI x = 0 by unfold sgI; (repeat' split) <;> omega]
    repeat' (with_reducible first | apply qa | apply qb | apply qc | apply qd | apply qe | apply qf | apply qg | apply qh | apply qi | apply qj | apply qk | apply ql rfl | apply qm rfl | apply qn rfl | apply Je | (refine Tx 0 ?_; refine Jn xBo ?_; refine Ja ?_) | (refine Tx 1 ?_; refine Jo (xLa tk_Dyadic) ?_; refine Jo (xCl Tryz.func129 (PX)) ?_; refine Jo xMt ?_; refine Jo xEx ?_; refine Jo xEx ?_; refine Jo xEx ?_; refine Ja ?_; refine Ja ?_; refine Ja ?_) | (refine Tx 2 ?_; refine Jm ?_; refine Jo (xLn ts_dyadic_nat) ?_; refine Jo xEq ?_; refine Ja ?_) | (refine Tx 3 ?_; refine Ja ?_))
    exact ret_q rfl (.cons_ (rv_i rfl rfl) .nil_)
  by_cases cm1 : x < 0
  case pos =>
    have l0 : ¬ ((canon x.natAbs).length : Int) = 0 := fun hc => by have := canon_ne (n := x.natAbs) (by omega); omega
    rw [show decide (x < 0) = true by rw [decide_eq_true (by omega)]] at PX
    rw [show sgI x = -1 by unfold sgI; (repeat' split) <;> omega]
    repeat' (with_reducible first | apply qa | apply qb | apply qc | apply qd | apply qe | apply qf | apply qg | apply qh | apply qi | apply qj | apply qk | apply ql rfl | apply qm rfl | apply qn rfl | apply Je | (refine Tx 0 ?_; refine Jn xBo ?_; refine Ja ?_) | (refine Tx 1 ?_; refine Jo (xLa tk_Dyadic) ?_; refine Jo (xCl Tryz.func129 (PX)) ?_; refine Jo xMt ?_; refine Jo xEx ?_; refine Jo xEx ?_; refine Jo xEx ?_; refine Ja ?_; refine Ja ?_; refine Ja ?_) | (refine Tx 2 ?_; refine Jm ?_; refine Jo (xLn ts_dyadic_nat) ?_; refine Jo xEq ?_; refine Ja ?_) | (refine Tx 4 ?_; refine Jm ?_; refine Ja ?_) | (refine Tx 5 ?_; refine Ja ?_))
    exact ret_q rfl (.cons_ (rv_i rfl rfl) .nil_)
  have l0 : ¬ ((canon x.natAbs).length : Int) = 0 := fun hc => by have := canon_ne (n := x.natAbs) (by omega); omega
  rw [show decide (x < 0) = false by rw [decide_eq_false (by omega)]] at PX
  rw [show sgI x = 1 by unfold sgI; (repeat' split) <;> omega]
  repeat' (with_reducible first | apply qa | apply qb | apply qc | apply qd | apply qe | apply qf | apply qg | apply qh | apply qi | apply qj | apply qk | apply ql rfl | apply qm rfl | apply qn rfl | apply Je | (refine Tx 0 ?_; refine Jn xBo ?_; refine Ja ?_) | (refine Tx 1 ?_; refine Jo (xLa tk_Dyadic) ?_; refine Jo (xCl Tryz.func129 (PX)) ?_; refine Jo xMt ?_; refine Jo xEx ?_; refine Jo xEx ?_; refine Jo xEx ?_; refine Ja ?_; refine Ja ?_; refine Ja ?_) | (refine Tx 2 ?_; refine Jm ?_; refine Jo (xLn ts_dyadic_nat) ?_; refine Jo xEq ?_; refine Ja ?_) | (refine Tx 4 ?_; refine Jm ?_; refine Ja ?_) | (refine Tx 6 ?_; refine Ja ?_))
  exact ret_q rfl (.cons_ (rv_i rfl rfl) .nil_)
theorem pdfloor_cv (x : Int) (d den : Nat) (hn : Nf x d) (hl : (canon x.natAbs).length ≤ 40000) (hd : den ≤ 65536) : CVF Tryz.prog TabAt 124 [aDy false x d, aI (den : Int)] [aDy false (dyFloor x d den).1 (dyFloor x d den).2, aE 0] := fun w S vs hg hlt ha => by
  obtain ⟨v, vs', rfl, h1, ha⟩ := ha.uncons
  obtain ⟨u, hu, h2⟩ := one_arg ha
  subst hu
  cases h2
  exact (pfloor_any (dy_in h1 hlt hn) (Nat.le_refl _) (Nat.le_trans hl (by decide)) hd hg).mono fun r w' ⟨v, he, hd, hb⟩ => ⟨_, he, two_rel (dy_out hd) (DRel.val rfl), hb⟩
theorem floor_nf {x : Int} {d den : Nat} (hn : Nf x d) (hd : den ≤ 65536) : Nf (dyFloor x d den).1 (dyFloor x d den).2 := by
  unfold dyFloor
  split
  · exact hn
  · exact Nf.nf hd
theorem floor_abs {x : Int} {k : Nat} : (x / 2 ^ k).natAbs ≤ x.natAbs := by
  have h1 := Int.mul_ediv_add_emod x (2 ^ k)
  have h2 := Int.emod_nonneg x (two_ne k)
  have h3 := Int.emod_lt_of_pos x (two_pos k)
  have hp := two_pos k
  generalize (2 : Int) ^ k = P at *
  generalize hq : x / P = q at *
  rcases Int.lt_or_le q 0 with hlt | hge
  · have : P * q ≤ q := by
      have := Int.mul_le_mul_of_nonpos_right (show (1 : Int) ≤ P by omega) (Int.le_of_lt hlt)
      omega
    rcases Int.lt_or_le x 0 with hx | hx
    · by_cases hP : P = 1
      · subst hP; omega
      · have h4 : 2 * (-q) ≤ P * (-q) := Int.mul_le_mul_of_nonneg_right (by omega) (by omega)
        rw [Int.mul_neg] at h4
        by_cases hq1 : q = -1
        · subst hq1; omega
        · have h5 : P * (-q - 1) ≥ 1 * (-q - 1) := Int.mul_le_mul_of_nonneg_right (by omega) (by omega)
          rw [Int.mul_sub, Int.mul_neg] at h5
          omega
    · exfalso
      have : 0 ≤ q := by rw [← hq]; exact Int.ediv_nonneg hx (by omega)
      omega
  · have : 1 * q ≤ P * q := Int.mul_le_mul_of_nonneg_right (by omega) hge
    omega
theorem floor_len {x : Int} {d den k : Nat} (hl : (canon x.natAbs).length ≤ k) : (canon (dyFloor x d den).1.natAbs).length ≤ k := by
  unfold dyFloor
  split
  · exact hl
  · exact Nat.le_trans (canon_len_mono (Nat.le_trans (nf_abs_le _ _) floor_abs)) hl
theorem pdceil_cv (x : Int) (d den : Nat) (hn : Nf x d) (hl : (canon x.natAbs).length ≤ 40000) (hd : den ≤ 65536) : CV Tryz.prog TabAt 125 [aDy false x d, aI (den : Int)] [aDy false (qCeil (x, d) den).1 (qCeil (x, d) den).2, aE 0] := by
  refine cvz Tryz.func125 Tryz.ntmps125 ?_
  have NG := pdneg_cv x d hn hl
  have hnn : Nf (-x) d := ⟨hn.1, fun h => by have := hn.2 h; omega⟩
  have FL := (pdfloor_cv (-x) d den hnn (by rw [Int.natAbs_neg]; exact hl) hd).cv
  have NH := pdneg_cv (dyFloor (-x) d den).1 (dyFloor (-x) d den).2 (floor_nf hnn hd) (floor_len (by rw [Int.natAbs_neg]; exact hl))
  repeat' (with_reducible first | apply qa | apply qb | apply qc | apply qd | apply qe | apply qf | apply qg | apply qh | apply qi | apply qj | apply qk | apply ql rfl | apply qm rfl | apply qn rfl | apply Je | (refine Tx 0 ?_; refine Jn xBo ?_; refine Jn (xAl tz_Dyadic) ?_; refine Ja ?_) | (refine Tx 1 ?_; refine Jo (xLa tk_Dyadic) ?_; refine Jo (by first | exact xCl Tryz.func61 (NG) | exact xCl Tryz.func61 (NH)) ?_; refine Jm ?_; refine Jo (xCl Tryz.func124 (FL)) ?_; refine Jo xMt ?_; refine Jo (by exact ok_exA rfl rfl rfl) ?_; refine Jo xEx ?_; refine Jn (xAl tz_Dyadic) ?_; refine Js (xSk tk_Dyadic) ?_; refine Ja ?_) | (refine Tx 2 ?_; refine Jo (xLa tk_Dyadic) ?_; refine Jo (by first | exact xCl Tryz.func61 (NG) | exact xCl Tryz.func61 (NH)) ?_; refine Jm ?_; refine Js (xSk tk_Dyadic) ?_; refine Ja ?_))
  exact ret_q rfl (.cons_ (rvW tk_Dyadic rfl) (.cons_ (rv_e0 rfl rfl) .nil_))
def ivR (r s : Rv) : Bool := vdB r.rw && vdB s.rw && decide (dyCmp r.rw.x r.rw.d s.rw.x s.rw.d ≤ 0)
def RvL (r : Rv) : Prop := wordsOk r.ws ∧ r.ws.length ≤ 40000
def dIr (t : Bool) (a : Rv × Rv) : List D := dRv t a.1 ++ dRv t a.2
theorem pivalid_cv (r s : Rv) (hr : RvL r) (hs : RvL s) : CV Tryz.prog TabAt 42 [.agg (dIr false (r, s))] [aB (ivR r s)] := by
  refine cvz Tryz.func42 Tryz.ntmps42 ?_
  have V1 := (pvalid_cv (G := TabAt) false r hr.1 (Nat.le_trans hr.2 (by decide))).cv
  have V2 := (pvalid_cv (G := TabAt) false s hs.1 (Nat.le_trans hs.2 (by decide))).cv
  by_cases c1 : vdB r.rw = true
  case neg =>
    rw [Bool.not_eq_true] at c1
    rw [c1] at V1
    repeat' (with_reducible first | apply qa | apply qb | apply qc | apply qd | apply qe | apply qf | apply qg | apply qh | apply qi | apply qj | apply qk | apply ql rfl | apply qm rfl | apply qn rfl | apply Je | (refine Tx 0 ?_; refine Jn xBo ?_; refine Ja ?_) | (refine Tx 1 ?_; refine Jo (xFa tf_Interval0 tk_Dyadic) ?_; refine Jo (xLa tk_Dyadic) ?_; refine Jo (xCl Tryz.func88 (V1)) ?_; refine Jm ?_; (first | iterate 3 refine Jd ?_ | (refine Jy (xFa tf_Interval1 tk_Dyadic) ?_; refine Jy (xLa tk_Dyadic) ?_; refine Jy (xCl Tryz.func88 (V1)) ?_)); refine Jo xPk ?_; refine Jm ?_; (first | iterate 4 refine Jd ?_ | (refine Jy (xFa tf_Interval0 tk_Dyadic) ?_; refine Jy (xLa tk_Dyadic) ?_; refine Jy (xFa tf_Interval1 tk_Dyadic) ?_; refine Jy (xLa tk_Dyadic) ?_)); refine Jd ?_; (first | refine Jd ?_ | refine Jy xLe ?_); refine Jo xPk ?_; refine Ja ?_))
    exact ret_q rfl (.cons_ (rv_b rfl (by unfold ivR; rw [c1]; rfl)) .nil_)
  by_cases c2 : vdB s.rw = true
  case neg =>
    rw [Bool.not_eq_true] at c2
    rw [c1] at V1
    rw [c2] at V2
    repeat' (with_reducible first | apply qa | apply qb | apply qc | apply qd | apply qe | apply qf | apply qg | apply qh | apply qi | apply qj | apply qk | apply ql rfl | apply qm rfl | apply qn rfl | apply Je | (refine Tx 0 ?_; refine Jn xBo ?_; refine Ja ?_) | (refine Tx 1 ?_; refine Jo (xFa tf_Interval0 tk_Dyadic) ?_; refine Jo (xLa tk_Dyadic) ?_; refine Jo (xCl Tryz.func88 (V1)) ?_; refine Jm ?_; (first | iterate 3 refine Jd ?_ | (refine Jy (xFa tf_Interval1 tk_Dyadic) ?_; refine Jy (xLa tk_Dyadic) ?_; refine Jy (xCl Tryz.func88 (V2)) ?_)); refine Jo xPk ?_; refine Jm ?_; (first | iterate 4 refine Jd ?_ | (refine Jy (xFa tf_Interval0 tk_Dyadic) ?_; refine Jy (xLa tk_Dyadic) ?_; refine Jy (xFa tf_Interval1 tk_Dyadic) ?_; refine Jy (xLa tk_Dyadic) ?_)); refine Jd ?_; (first | refine Jd ?_ | refine Jy xLe ?_); refine Jo xPk ?_; refine Ja ?_))
    exact ret_q rfl (.cons_ (rv_b rfl (by unfold ivR; rw [c1, c2]; rfl)) .nil_)
  rw [c1] at V1
  rw [c2] at V2
  obtain ⟨e1, n1, k1⟩ := rv_dy (t := false) hr.1 c1
  obtain ⟨e2, n2, k2⟩ := rv_dy (t := false) hs.1 c2
  have CM := pdcmp_cv r.rw.x r.rw.d s.rw.x s.rw.d n1 n2 (Nat.le_trans (Nat.le_of_eq k1) hr.2) (Nat.le_trans (Nat.le_of_eq k2) hs.2)
  unfold aDy at CM
  rw [← e1, ← e2] at CM
  by_cases c3 : dyCmp r.rw.x r.rw.d s.rw.x s.rw.d ≤ 0
  case pos =>
    repeat' (with_reducible first | apply qa | apply qb | apply qc | apply qd | apply qe | apply qf | apply qg | apply qh | apply qi | apply qj | apply qk | apply ql rfl | apply qm rfl | apply qn rfl | apply Je | (refine Tx 0 ?_; refine Jn xBo ?_; refine Ja ?_) | (refine Tx 1 ?_; refine Jo (xFa tf_Interval0 tk_Dyadic) ?_; refine Jo (xLa tk_Dyadic) ?_; refine Jo (xCl Tryz.func88 (V1)) ?_; refine Jm ?_; (first | iterate 3 refine Jd ?_ | (refine Jy (xFa tf_Interval1 tk_Dyadic) ?_; refine Jy (xLa tk_Dyadic) ?_; refine Jy (xCl Tryz.func88 (V2)) ?_)); refine Jo xPk ?_; refine Jm ?_; (first | iterate 6 refine Jd ?_ | (refine Jy (xFa tf_Interval0 tk_Dyadic) ?_; refine Jy (xLa tk_Dyadic) ?_; refine Jy (xFa tf_Interval1 tk_Dyadic) ?_; refine Jy (xLa tk_Dyadic) ?_; refine Jy (xCl Tryz.func60 (CM)) ?_; refine Jy xLe ?_)); refine Jo xPk ?_; refine Ja ?_))
    exact ret_q rfl (.cons_ (rv_b rfl (by unfold ivR; rw [c1, c2, decide_eq_true c3]; rfl)) .nil_)
  case neg =>
    repeat' (with_reducible first | apply qa | apply qb | apply qc | apply qd | apply qe | apply qf | apply qg | apply qh | apply qi | apply qj | apply qk | apply ql rfl | apply qm rfl | apply qn rfl | apply Je | (refine Tx 0 ?_; refine Jn xBo ?_; refine Ja ?_) | (refine Tx 1 ?_; refine Jo (xFa tf_Interval0 tk_Dyadic) ?_; refine Jo (xLa tk_Dyadic) ?_; refine Jo (xCl Tryz.func88 (V1)) ?_; refine Jm ?_; (first | iterate 3 refine Jd ?_ | (refine Jy (xFa tf_Interval1 tk_Dyadic) ?_; refine Jy (xLa tk_Dyadic) ?_; refine Jy (xCl Tryz.func88 (V2)) ?_)); refine Jo xPk ?_; refine Jm ?_; (first | iterate 6 refine Jd ?_ | (refine Jy (xFa tf_Interval0 tk_Dyadic) ?_; refine Jy (xLa tk_Dyadic) ?_; refine Jy (xFa tf_Interval1 tk_Dyadic) ?_; refine Jy (xLa tk_Dyadic) ?_; refine Jy (xCl Tryz.func60 (CM)) ?_; refine Jy xLe ?_)); refine Jo xPk ?_; refine Ja ?_))
    exact ret_q rfl (.cons_ (rv_b rfl (by unfold ivR; rw [c1, c2, decide_eq_false c3]; rfl)) .nil_)
theorem rvOf_L {p : Pq} {n d : Nat} (h : Sm p n d) (hn : n ≤ 1280000) : RvL (rvOf p) := ⟨canon_ok _, h.lenN 40000 (by omega)⟩
theorem iv_of {a : Iq} {n d : Nat} (h : IwS a n d) : ivR (rvOf a.1) (rvOf a.2) = true := by
  unfold ivR
  rw [rvOf_ok h.s1.ok, rvOf_ok h.s2.ok]
  have : dyCmp (rvOf a.1).rw.x (rvOf a.1).rw.d (rvOf a.2).rw.x (rvOf a.2).rw.d = qCmp (rvP (rvOf a.1)) (rvP (rvOf a.2)) := rfl
  rw [rvOf_P, rvOf_P] at this
  rw [this, decide_eq_true ((cmp_le h.s1.le h.s2.le).2 h.le)]
  rfl
theorem pivalid_iw (a : Iq) {n d : Nat} (h : IwS a n d) (hn : n ≤ 1280000) : CV Tryz.prog TabAt 42 [aIw false a] [aB true] := by
  have := pivalid_cv (rvOf a.1) (rvOf a.2) (rvOf_L h.s1 hn) (rvOf_L h.s2 hn)
  rw [iv_of h] at this
  unfold dIr at this
  rwa [rvOf_D, rvOf_D] at this
theorem pisame_cv (x : Int) (d : Nat) (hn : Nf x d) (hl : (canon x.natAbs).length ≤ 40000) : CV Tryz.prog TabAt 121 [aDy false x d] [aDy false x d] := by
  refine cvz Tryz.func121 Tryz.ntmps121 ?_
  have SH := pdshift_cv x d 0 hn (Nat.le_trans hl (by decide)) (by have := hn.1; omega)
  rw [shift_none hn] at SH
  repeat' (with_reducible first | apply qa | apply qb | apply qc | apply qd | apply qe | apply qf | apply qg | apply qh | apply qi | apply qj | apply qk | apply ql rfl | apply qm rfl | apply qn rfl | apply Je | (refine Tx 0 ?_; refine Jn xBo ?_; refine Jn (xAl tz_Dyadic) ?_) | (refine Tx 1 ?_; refine Jo (xLa tk_Dyadic) ?_; refine Jo (xCl Tryz.func90 (SH)) ?_; refine Js (xSk tk_Dyadic) ?_))
  exact ret_q rfl (.cons_ (rvW tk_Dyadic rfl) .nil_)
theorem piarg_cv (a : Iq) {n d : Nat} (h : IwS a n d) (hn : n ≤ 1280000) (l1 : (canon a.1.1.natAbs).length ≤ 40000) (l2 : (canon a.2.1.natAbs).length ≤ 40000) : CV Tryz.prog TabAt 70 [aIw false a] [aIw false a] := by
  refine cvz Tryz.func70 Tryz.ntmps70 ?_
  have V := pivalid_iw a h hn
  have S1 := pisame_cv a.1.1 a.1.2 h.s1.ok l1
  have S2 := pisame_cv a.2.1 a.2.2 h.s2.ok l2
  repeat' (with_reducible first | apply qa | apply qb | apply qc | apply qd | apply qe | apply qf | apply qg | apply qh | apply qi | apply qj | apply qk | apply ql rfl | apply qm rfl | apply qn rfl | apply Je | (refine Tx 0 ?_; refine Jn xBo ?_; refine Jn (xAl tz_Interval) ?_) | (refine Tx 1 ?_; refine Jo (xLa tk_Interval) ?_; refine Jo (xCl Tryz.func42 (V)) ?_; refine Jo (by first | exact xNt | exact xNg) ?_) | (refine cw_part (id := 3) 7 mixed (by kernel_rfl) ?_; dsimp only [List.take, List.drop]; refine Ko (xFa tf_Interval0 tk_Dyadic) ?_; refine Ko (xLa tk_Dyadic) ?_; refine Ko (by first | exact xCl Tryz.func121 (S1) | exact xCl Tryz.func121 (S2)) ?_; refine Ko (xFa tf_Interval1 tk_Dyadic) ?_; refine Ko (xLa tk_Dyadic) ?_; refine Ko (by first | exact xCl Tryz.func121 (S1) | exact xCl Tryz.func121 (S2)) ?_; refine Ko (by exact ok_build rfl tb_Interval rfl rfl) ?_; refine Ke ?_; refine Js (xSk tk_Interval) ?_))
  exact ret_q rfl (.cons_ (rvJ tk_Interval rfl) .nil_)
theorem piarg_s (a : Iq) (h : IwS a 20000 20000) : CV Tryz.prog TabAt 70 [aIw false a] [aIw false a] := piarg_cv a h (by decide) (Nat.le_trans (h.s1.lenN 625 (by decide)) (by decide)) (Nat.le_trans (h.s2.lenN 625 (by decide)) (by decide))
theorem pipoint_cv (p : Pq) (hn : Nf p.1 p.2) (hl : (canon p.1.natAbs).length ≤ 40000) : CV Tryz.prog TabAt 57 [aDy false p.1 p.2] [aIw false (p, p)] := by
  refine cvz Tryz.func57 Tryz.ntmps57 ?_
  have S1 := pisame_cv p.1 p.2 hn hl
  repeat' (with_reducible first | apply qa | apply qb | apply qc | apply qd | apply qe | apply qf | apply qg | apply qh | apply qi | apply qj | apply qk | apply ql rfl | apply qm rfl | apply qn rfl | apply Je | (refine Tx 0 ?_; refine Jn xBo ?_; refine Jn (xAl tz_Interval) ?_) | (refine cw_part (id := 1) 5 mixed (by kernel_rfl) ?_; dsimp only [List.take, List.drop]; refine Ko (xLa tk_Dyadic) ?_; refine Ko (xCl Tryz.func121 (S1)) ?_; refine Ko (xLa tk_Dyadic) ?_; refine Ko (xCl Tryz.func121 (S1)) ?_; refine Ko (by exact ok_build rfl tb_Interval rfl rfl) ?_; refine Ke ?_; refine Js (xSk tk_Interval) ?_))
  exact ret_q rfl (.cons_ (rvJ tk_Interval rfl) .nil_)
theorem dyP_at {l : List Pq} {k : Nat} {p : Pq} (h : l[k]? = some p) : ((flatD dyP l).drop (k * 3)).take 3 = dyP p := dy_at h
theorem ok_sliceD {P : Program} {G : World → Prop} {o : Oper} {F : Frm} {H : List Ob} {t e : TypeId} {x l : Operand} {tg : Bool} {n s lo : Nat} {k : IntKind} {z : Int} {cs : List D} (ho : o.op = .slice t x (some l) none none) (hx : F.ev x = .one (.d (.row tg s n cs))) (hl : F.ev l = .one (.d (.val (.int k z)))) (hz : z = (lo : Int)) (ht : TyS P t e s) (h1 : lo ≤ n) : OpOk P G o F H (.one (.d (.row tg s (n - lo) (cs.drop (lo * s))))) [] := ok_sliceL ho hx hl hz ht h1
theorem pispan_cv (t : Bool) (L : List Pq) (hne : L ≠ []) (hs : ∀ p ∈ L, Sm p 40064 40000) (hL : L.length ≤ 100) : CV Tryz.prog TabAt 96 [.one (.row t 3 L.length (flatD dyP L))] [aIw false (spanL L)] := by
  refine cvz Tryz.func96 Tryz.ntmps96 ?_
  obtain ⟨p, l, rfl⟩ : ∃ p l, L = p :: l := by cases L with | nil => exact absurd rfl hne | cons p l => exact ⟨p, l, rfl⟩
  have hp := hs p (List.mem_cons_self ..)
  have hpl := Nat.le_trans (hp.lenN 1252 (by decide)) (show 1252 ≤ 40000 by decide)
  have PT := pipoint_cv p hp.ok hpl
  have hlen : (p :: l).length = l.length + 1 := List.length_cons
  repeat' (with_reducible first | apply qa | apply qb | apply qc | apply qd | apply qe | apply qf | apply qg | apply qh | apply qi | apply qj | apply qk | apply ql rfl | apply qm rfl | apply qn rfl | apply Je | (refine Tx 0 ?_; refine Jn (xAl tz_Interval) ?_) | (refine Tx 1 ?_; refine Jm ?_; refine Jo (by exact ok_ixR (i := 0) rfl rfl rfl rfl ts_s_Dyadic (by omega) (by decide) (dyP_at (l := p :: l) (k := 0) rfl)) ?_; refine Jo (xLa tk_Dyadic) ?_; refine Jo (xCl Tryz.func57 (PT)) ?_; refine Jn (xAl tz_Interval) ?_; refine Js (xSk tk_Interval) ?_) | (refine Tx 2 ?_; refine Jm ?_; refine Jo (by exact ok_sliceD (lo := 1) rfl rfl rfl rfl ts_s_Dyadic (by omega)) ?_; refine Jo (xLn ts_s_Dyadic) ?_; refine Jm ?_))
  refine cw_wk (F' := ofL [(2, vr 0), (3, vr 1), (11, vd (.row t 3 ((p :: l).length - 1) ((flatD dyP (p :: l)).drop (1 * 3)))), (12, vi (((p :: l).length - 1 : Nat))), (13, vi ((0 : Nat)))]) (H' := [.box 55 [.d (.val (.bool false)), .d (.val (.slice none 0 0)), .d (.val (.int .i64 0)), .d (.val (.bool false)), .d (.val (.slice none 0 0)), .d (.val (.int .i64 0))], .box 55 ((dIw false ((l.take (0)).foldl spanS (p, p))).map C.d)]) (wk_go _ 2 ?_ ?_ ?_) ?_
  · rfl
  · exact mB rfl rfl
  · exact ⟨bel_lit rfl, bel_D, trivial⟩
  refine cw_loopW (fun n Fr H => ∃ k : Nat, k ≤ l.length ∧ n = l.length - k ∧ IwS ((l.take (k)).foldl spanS (p, p)) 40064 40000 ∧ Fr = ofL [(2, vr 0), (3, vr 1), (11, vd (.row t 3 ((p :: l).length - 1) ((flatD dyP (p :: l)).drop (1 * 3)))), (12, vi (((p :: l).length - 1 : Nat))), (13, vi ((k : Nat)))] ∧ H = [.box 55 [.d (.val (.bool false)), .d (.val (.slice none 0 0)), .d (.val (.int .i64 0)), .d (.val (.bool false)), .d (.val (.slice none 0 0)), .d (.val (.int .i64 0))], .box 55 ((dIw false ((l.take (k)).foldl spanS (p, p))).map C.d)]) (n0 := l.length) ⟨0, Nat.zero_le _, rfl, .pt hp, rfl, rfl⟩ ?_
  rintro n Fr H ⟨k, hk, rfl, hS, rfl, rfl⟩
  by_cases hlt : k < l.length
  case pos =>
    obtain ⟨x, hx⟩ : ∃ x, l[k]? = some x := ⟨_, List.getElem?_eq_getElem hlt⟩
    have hxs := hs x (List.mem_cons_of_mem _ (List.mem_of_getElem? hx))
    have hxl := Nat.le_trans (hxs.lenN 1252 (by decide)) (show 1252 ≤ 40000 by decide)
    have a1 := hS.s1
    have a2 := hS.s2
    have a1l := Nat.le_trans (a1.lenN 1252 (by decide)) (show 1252 ≤ 40000 by decide)
    have a2l := Nat.le_trans (a2.lenN 1252 (by decide)) (show 1252 ≤ 40000 by decide)
    have hnx : spanS ((l.take (k)).foldl spanS (p, p)) x = ((l.take (k + 1)).foldl spanS (p, p)) := by rw [List.take_add_one, hx, Option.toList_some, List.foldl_append]; rfl
    have hIS : IwS (spanS ((l.take (k)).foldl spanS (p, p)) x) 40064 40000 := ⟨Sm.min a1 hxs, Sm.max a2 hxs, by show gv (qMin _ x) ≤ gv (qMax _ x); rw [gv_min a1.le hxs.le, gv_max a2.le hxs.le]; have := hS.le; omega⟩
    rw [hnx] at hIS
    have hxd : (((flatD dyP (p :: l)).drop (1 * 3)).drop (k * 3)).take 3 = dyP x := by rw [List.drop_drop, show 1 * 3 + k * 3 = (k + 1) * 3 by omega]; exact dyP_at (l := p :: l) (k := k + 1) (by rw [List.getElem?_cons_succ]; exact hx)
    generalize hT : ((l.take (k)).foldl spanS (p, p)) = T at *
    have MN := pdmin_cv T.1.1 T.1.2 x.1 x.2 a1.ok hxs.ok a1l hxl
    have MX := pdmax_cv T.2.1 T.2.2 x.1 x.2 a2.ok hxs.ok a2l hxl
    repeat' (with_reducible first | apply qa | apply qb | apply qc | apply qd | apply qe | apply qf | apply qg | apply qh | apply qi | apply qj | apply qk | apply ql rfl | apply qm rfl | apply qn rfl | apply Je | (refine Tx 3 ?_; refine Jo xLt ?_) | (refine Tx 4 ?_; refine Jo (xIr ts_s_Dyadic (hxd)) ?_; refine Jo (xLa tk_Dyadic) ?_; refine Jn (xAl tz_Dyadic) ?_; refine Js (xSk tk_Dyadic) ?_) | (refine cw_part (id := 5) 9 mixed (by kernel_rfl) ?_; dsimp only [List.take, List.drop]; refine Ko (xFa tf_Interval0 tk_Dyadic) ?_; refine Ko (xLa tk_Dyadic) ?_; refine Ko (xLa tk_Dyadic) ?_; refine Ko (xCl Tryz.func142 (MN)) ?_; refine Ko (xFa tf_Interval1 tk_Dyadic) ?_; refine Ko (xLa tk_Dyadic) ?_; refine Ko (xLa tk_Dyadic) ?_; refine Ko (xCl Tryz.func143 (MX)) ?_; refine Ko (xFa tf_Interval0 tk_Dyadic) ?_; refine Ke ?_; refine Js (xSk tk_Dyadic) ?_; refine Jo (xFa tf_Interval1 tk_Dyadic) ?_; refine Js (xSk tk_Dyadic) ?_) | (refine Tx 6 ?_; refine Jo xAd ?_; refine Jm ?_))
    refine ⟨_, _, wk_go _ 2 ?_ ?_ ?_, _, ?_, k + 1, by omega, rfl, hIS, rfl, rfl⟩
    · rw [← hnx]; rfl
    · exact mB rfl rfl
    · exact ⟨bel_lit rfl, bel_D, trivial⟩
    · omega
  obtain rfl : k = l.length := by omega
  clear hlt hk
  rw [List.take_length]
  repeat' (with_reducible first | apply qa | apply qb | apply qc | apply qd | apply qe | apply qf | apply qg | apply qh | apply qi | apply qj | apply qk | apply ql rfl | apply qm rfl | apply qn rfl | apply Je | (refine Tx 3 ?_; refine Jo xLt ?_) | (refine Tx 7 ?_; refine Jo (xLa tk_Interval) ?_; refine Js (xSk tk_Interval) ?_))
  exact ret_q rfl (.cons_ (rvJ tk_Interval rfl) .nil_)
theorem sm_intN (x : Int) {n d : Nat} (h : x.natAbs < 2 ^ 63) (hn : 63 ≤ n) : Sm (x, 0) n d := ⟨⟨Nat.zero_le _, fun h => absurd rfl h⟩, Nat.lt_of_lt_of_le h (Nat.pow_le_pow_right (by decide) hn), Nat.zero_le _⟩
theorem sm_int (x : Int) (h : x.natAbs < 2 ^ 63) : Sm (x, 0) 40064 40000 := sm_intN x h (by decide)
theorem piints_cv (x y : Int) (hx : -9223372036854775807 ≤ x ∧ x < 9223372036854775808) (hy : -9223372036854775807 ≤ y ∧ y < 9223372036854775808) : CV Tryz.prog TabAt 99 [aI x, aI y] [aIw false (spanL [(x, 0), (y, 0)])] := by
  refine cvz Tryz.func99 Tryz.ntmps99 ?_
  have O1 := pdof_cv x (by omega) (by omega)
  have O2 := pdof_cv y (by omega) (by omega)
  have s1 : Sm (x, 0) 40064 40000 := sm_int x (by omega)
  have s2 : Sm (y, 0) 40064 40000 := sm_int y (by omega)
  have SP := pispan_cv true [(x, 0), (y, 0)] (by simp) (fun p hp => by simp only [List.mem_cons, List.not_mem_nil, or_false] at hp; rcases hp with rfl | rfl <;> assumption) (Nat.le_of_ble_eq_true rfl)
  repeat' (with_reducible first | apply qa | apply qb | apply qc | apply qd | apply qe | apply qf | apply qg | apply qh | apply qi | apply qj | apply qk | apply ql rfl | apply qm rfl | apply qn rfl | apply Je | (refine Tx 0 ?_; refine Jn (xAl tz_Interval) ?_) | (refine Tx 1 ?_; refine Jm ?_; refine Jo (by first | exact xCl Tryz.func100 (O1) | exact xCl Tryz.func100 (O2)) ?_; refine Jm ?_; refine Jo (by first | exact xCl Tryz.func100 (O1) | exact xCl Tryz.func100 (O2)) ?_; refine Jn (by exact ok_build2 rfl ts_s_Dyadic tz_Dyadic rfl rfl rfl rfl (by decide) (by decide)) ?_; refine Jo (xCl Tryz.func96 (SP)) ?_; refine Js (xSk tk_Interval) ?_))
  exact ret_q rfl (.cons_ (rvJ tk_Interval rfl) .nil_)
theorem pineg_cv (a : Iq) (h : IwS a 20000 20000) : CV Tryz.prog TabAt 104 [aIw false a] [aIw false (iNeg a)] := by
  refine cvz Tryz.func104 Tryz.ntmps104 ?_
  have h1 := h.s1
  have h2 := h.s2
  have hl := h1.l4
  have hm := h2.l4
  have AR := piarg_s a h
  have N1 := pdneg_cv a.1.1 a.1.2 h1.ok hl
  have N2 := pdneg_cv a.2.1 a.2.2 h2.ok hm
  repeat' (with_reducible first | apply qa | apply qb | apply qc | apply qd | apply qe | apply qf | apply qg | apply qh | apply qi | apply qj | apply qk | apply ql rfl | apply qm rfl | apply qn rfl | apply Je | (refine Tx 0 ?_; refine Jn xBo ?_; refine Jn (xAl tz_Interval) ?_) | (refine Tx 1 ?_; refine Jo (xLa tk_Interval) ?_; refine Jo (xCl Tryz.func70 (AR)) ?_; refine Js (xSk tk_Interval) ?_) | (refine cw_part (id := 2) 7 mixed (by kernel_rfl) ?_; dsimp only [List.take, List.drop]; refine Ko (xFa tf_Interval1 tk_Dyadic) ?_; refine Ko (xLa tk_Dyadic) ?_; refine Ko (by first | exact xCl Tryz.func61 (N2) | exact xCl Tryz.func61 (N1)) ?_; refine Ko (xFa tf_Interval0 tk_Dyadic) ?_; refine Ko (xLa tk_Dyadic) ?_; refine Ko (by first | exact xCl Tryz.func61 (N2) | exact xCl Tryz.func61 (N1)) ?_; refine Ko (by exact ok_build rfl tb_Interval rfl rfl) ?_; refine Ke ?_; refine Js (xSk tk_Interval) ?_))
  exact ret_q rfl (.cons_ (rvJ tk_Interval rfl) .nil_)
theorem piadd_cv (a b : Iq) (h : IwS a 20000 20000) (k : IwS b 20000 20000) : CV Tryz.prog TabAt 101 [aIw false a, aIw false b] [aIw false (iAdd a b)] := by
  refine cvz Tryz.func101 Tryz.ntmps101 ?_
  have h1 := h.s1
  have h2 := h.s2
  have hl := h1.l4
  have hm := h2.l4
  have k1 := k.s1
  have k2 := k.s2
  have kl := k1.l4
  have km := k2.l4
  have AA := piarg_s a h
  have AB := piarg_s b k
  have C1 := pdadd_cv a.1.1 a.1.2 b.1.1 b.1.2 h1.ok k1.ok hl kl
  have C2 := pdadd_cv a.2.1 a.2.2 b.2.1 b.2.2 h2.ok k2.ok hm km
  repeat' (with_reducible first | apply qa | apply qb | apply qc | apply qd | apply qe | apply qf | apply qg | apply qh | apply qi | apply qj | apply qk | apply ql rfl | apply qm rfl | apply qn rfl | apply Je | (refine Tx 0 ?_; refine Jn xBo ?_; refine Jn xBo ?_; refine Jn (xAl tz_Interval) ?_) | (refine cw_part (id := 1) 4 mixed (by kernel_rfl) ?_; dsimp only [List.take, List.drop]; refine Ko (xLa tk_Interval) ?_; refine Ko (by first | exact xCl Tryz.func70 (AA) | exact xCl Tryz.func70 (AB)) ?_; refine Ko (xLa tk_Interval) ?_; refine Ko (by first | exact xCl Tryz.func70 (AA) | exact xCl Tryz.func70 (AB)) ?_; refine Ke ?_; refine Js (xSk tk_Interval) ?_; refine Js (xSk tk_Interval) ?_) | (refine cw_part (id := 2) 11 mixed (by kernel_rfl) ?_; dsimp only [List.take, List.drop]; refine Ko (xFa tf_Interval0 tk_Dyadic) ?_; refine Ko (xLa tk_Dyadic) ?_; refine Ko (xFa tf_Interval0 tk_Dyadic) ?_; refine Ko (xLa tk_Dyadic) ?_; refine Ko (by first | exact xCl Tryz.func138 (C1) | exact xCl Tryz.func138 (C2)) ?_; refine Ko (xFa tf_Interval1 tk_Dyadic) ?_; refine Ko (xLa tk_Dyadic) ?_; refine Ko (xFa tf_Interval1 tk_Dyadic) ?_; refine Ko (xLa tk_Dyadic) ?_; refine Ko (by first | exact xCl Tryz.func138 (C1) | exact xCl Tryz.func138 (C2)) ?_; refine Ko (by exact ok_build rfl tb_Interval rfl rfl) ?_; refine Ke ?_; refine Js (xSk tk_Interval) ?_))
  exact ret_q rfl (.cons_ (rvJ tk_Interval rfl) .nil_)
theorem pimin_cv (a b : Iq) (h : IwS a 20000 20000) (k : IwS b 20000 20000) : CV Tryz.prog TabAt 106 [aIw false a, aIw false b] [aIw false (iMin a b)] := by
  refine cvz Tryz.func106 Tryz.ntmps106 ?_
  have h1 := h.s1
  have h2 := h.s2
  have hl := h1.l4
  have hm := h2.l4
  have k1 := k.s1
  have k2 := k.s2
  have kl := k1.l4
  have km := k2.l4
  have AA := piarg_s a h
  have AB := piarg_s b k
  have C1 := pdmin_cv a.1.1 a.1.2 b.1.1 b.1.2 h1.ok k1.ok hl kl
  have C2 := pdmin_cv a.2.1 a.2.2 b.2.1 b.2.2 h2.ok k2.ok hm km
  repeat' (with_reducible first | apply qa | apply qb | apply qc | apply qd | apply qe | apply qf | apply qg | apply qh | apply qi | apply qj | apply qk | apply ql rfl | apply qm rfl | apply qn rfl | apply Je | (refine Tx 0 ?_; refine Jn xBo ?_; refine Jn xBo ?_; refine Jn (xAl tz_Interval) ?_) | (refine cw_part (id := 1) 4 mixed (by kernel_rfl) ?_; dsimp only [List.take, List.drop]; refine Ko (xLa tk_Interval) ?_; refine Ko (by first | exact xCl Tryz.func70 (AA) | exact xCl Tryz.func70 (AB)) ?_; refine Ko (xLa tk_Interval) ?_; refine Ko (by first | exact xCl Tryz.func70 (AA) | exact xCl Tryz.func70 (AB)) ?_; refine Ke ?_; refine Js (xSk tk_Interval) ?_; refine Js (xSk tk_Interval) ?_) | (refine cw_part (id := 2) 11 mixed (by kernel_rfl) ?_; dsimp only [List.take, List.drop]; refine Ko (xFa tf_Interval0 tk_Dyadic) ?_; refine Ko (xLa tk_Dyadic) ?_; refine Ko (xFa tf_Interval0 tk_Dyadic) ?_; refine Ko (xLa tk_Dyadic) ?_; refine Ko (by first | exact xCl Tryz.func142 (C1) | exact xCl Tryz.func142 (C2)) ?_; refine Ko (xFa tf_Interval1 tk_Dyadic) ?_; refine Ko (xLa tk_Dyadic) ?_; refine Ko (xFa tf_Interval1 tk_Dyadic) ?_; refine Ko (xLa tk_Dyadic) ?_; refine Ko (by first | exact xCl Tryz.func142 (C1) | exact xCl Tryz.func142 (C2)) ?_; refine Ko (by exact ok_build rfl tb_Interval rfl rfl) ?_; refine Ke ?_; refine Js (xSk tk_Interval) ?_))
  exact ret_q rfl (.cons_ (rvJ tk_Interval rfl) .nil_)
theorem pimax_cv (a b : Iq) (h : IwS a 20000 20000) (k : IwS b 20000 20000) : CV Tryz.prog TabAt 107 [aIw false a, aIw false b] [aIw false (iMax a b)] := by
  refine cvz Tryz.func107 Tryz.ntmps107 ?_
  have h1 := h.s1
  have h2 := h.s2
  have hl := h1.l4
  have hm := h2.l4
  have k1 := k.s1
  have k2 := k.s2
  have kl := k1.l4
  have km := k2.l4
  have AA := piarg_s a h
  have AB := piarg_s b k
  have C1 := pdmax_cv a.1.1 a.1.2 b.1.1 b.1.2 h1.ok k1.ok hl kl
  have C2 := pdmax_cv a.2.1 a.2.2 b.2.1 b.2.2 h2.ok k2.ok hm km
  repeat' (with_reducible first | apply qa | apply qb | apply qc | apply qd | apply qe | apply qf | apply qg | apply qh | apply qi | apply qj | apply qk | apply ql rfl | apply qm rfl | apply qn rfl | apply Je | (refine Tx 0 ?_; refine Jn xBo ?_; refine Jn xBo ?_; refine Jn (xAl tz_Interval) ?_) | (refine cw_part (id := 1) 4 mixed (by kernel_rfl) ?_; dsimp only [List.take, List.drop]; refine Ko (xLa tk_Interval) ?_; refine Ko (by first | exact xCl Tryz.func70 (AA) | exact xCl Tryz.func70 (AB)) ?_; refine Ko (xLa tk_Interval) ?_; refine Ko (by first | exact xCl Tryz.func70 (AA) | exact xCl Tryz.func70 (AB)) ?_; refine Ke ?_; refine Js (xSk tk_Interval) ?_; refine Js (xSk tk_Interval) ?_) | (refine cw_part (id := 2) 11 mixed (by kernel_rfl) ?_; dsimp only [List.take, List.drop]; refine Ko (xFa tf_Interval0 tk_Dyadic) ?_; refine Ko (xLa tk_Dyadic) ?_; refine Ko (xFa tf_Interval0 tk_Dyadic) ?_; refine Ko (xLa tk_Dyadic) ?_; refine Ko (by first | exact xCl Tryz.func143 (C1) | exact xCl Tryz.func143 (C2)) ?_; refine Ko (xFa tf_Interval1 tk_Dyadic) ?_; refine Ko (xLa tk_Dyadic) ?_; refine Ko (xFa tf_Interval1 tk_Dyadic) ?_; refine Ko (xLa tk_Dyadic) ?_; refine Ko (by first | exact xCl Tryz.func143 (C1) | exact xCl Tryz.func143 (C2)) ?_; refine Ko (by exact ok_build rfl tb_Interval rfl rfl) ?_; refine Ke ?_; refine Js (xSk tk_Interval) ?_))
  exact ret_q rfl (.cons_ (rvJ tk_Interval rfl) .nil_)
theorem pimul_cv (a b : Iq) (h : IwS a 20000 20000) (k : IwS b 20000 20000) : CV Tryz.prog TabAt 103 [aIw false a, aIw false b] [aIw false (iMul a b)] := by
  refine cvz Tryz.func103 Tryz.ntmps103 ?_
  have h1 := h.s1
  have h2 := h.s2
  have hl := h1.l4
  have hm := h2.l4
  have k1 := k.s1
  have k2 := k.s2
  have kl := k1.l4
  have km := k2.l4
  have AA := piarg_s a h
  have AB := piarg_s b k
  have C0 := pmul_cv a.1.1 a.1.2 b.1.1 b.1.2 h1.ok k1.ok hl kl (by have := h1.d; have := k1.d; omega)
  have s0 : Sm (qMul a.1 b.1) 40064 40000 := (Sm.mul h1 k1 (by decide)).more (by decide) (by decide)
  have C1 := pmul_cv a.1.1 a.1.2 b.2.1 b.2.2 h1.ok k2.ok hl km (by have := h1.d; have := k2.d; omega)
  have s1 : Sm (qMul a.1 b.2) 40064 40000 := (Sm.mul h1 k2 (by decide)).more (by decide) (by decide)
  have C2 := pmul_cv a.2.1 a.2.2 b.1.1 b.1.2 h2.ok k1.ok hm kl (by have := h2.d; have := k1.d; omega)
  have s2 : Sm (qMul a.2 b.1) 40064 40000 := (Sm.mul h2 k1 (by decide)).more (by decide) (by decide)
  have C3 := pmul_cv a.2.1 a.2.2 b.2.1 b.2.2 h2.ok k2.ok hm km (by have := h2.d; have := k2.d; omega)
  have s3 : Sm (qMul a.2 b.2) 40064 40000 := (Sm.mul h2 k2 (by decide)).more (by decide) (by decide)
  have SP := pispan_cv true [qMul a.1 b.1, qMul a.1 b.2, qMul a.2 b.1, qMul a.2 b.2] (by simp) (fun p hp => by simp only [List.mem_cons, List.not_mem_nil, or_false] at hp; rcases hp with rfl | rfl | rfl | rfl <;> assumption) (Nat.le_of_ble_eq_true rfl)
  repeat' (with_reducible first | apply qa | apply qb | apply qc | apply qd | apply qe | apply qf | apply qg | apply qh | apply qi | apply qj | apply qk | apply ql rfl | apply qm rfl | apply qn rfl | apply Je | (refine Tx 0 ?_; refine Jn xBo ?_; refine Jn xBo ?_; refine Jn (xAl tz_Interval) ?_) | (refine cw_part (id := 1) 4 mixed (by kernel_rfl) ?_; dsimp only [List.take, List.drop]; refine Ko (xLa tk_Interval) ?_; refine Ko (by first | exact xCl Tryz.func70 (AA) | exact xCl Tryz.func70 (AB)) ?_; refine Ko (xLa tk_Interval) ?_; refine Ko (by first | exact xCl Tryz.func70 (AA) | exact xCl Tryz.func70 (AB)) ?_; refine Ke ?_; refine Js (xSk tk_Interval) ?_; refine Js (xSk tk_Interval) ?_) | (refine cw_part (id := 2) 22 mixed (by kernel_rfl) ?_; dsimp only [List.take, List.drop]; refine Ko (xFa tf_Interval0 tk_Dyadic) ?_; refine Ko (xLa tk_Dyadic) ?_; refine Ko (xFa tf_Interval0 tk_Dyadic) ?_; refine Ko (xLa tk_Dyadic) ?_; refine Ko (by first | exact xCl Tryz.func140 (C0) | exact xCl Tryz.func140 (C1) | exact xCl Tryz.func140 (C2) | exact xCl Tryz.func140 (C3)) ?_; refine Ko (xFa tf_Interval0 tk_Dyadic) ?_; refine Ko (xLa tk_Dyadic) ?_; refine Ko (xFa tf_Interval1 tk_Dyadic) ?_; refine Ko (xLa tk_Dyadic) ?_; refine Ko (by first | exact xCl Tryz.func140 (C0) | exact xCl Tryz.func140 (C1) | exact xCl Tryz.func140 (C2) | exact xCl Tryz.func140 (C3)) ?_; refine Ko (xFa tf_Interval1 tk_Dyadic) ?_; refine Ko (xLa tk_Dyadic) ?_; refine Ko (xFa tf_Interval0 tk_Dyadic) ?_; refine Ko (xLa tk_Dyadic) ?_; refine Ko (by first | exact xCl Tryz.func140 (C0) | exact xCl Tryz.func140 (C1) | exact xCl Tryz.func140 (C2) | exact xCl Tryz.func140 (C3)) ?_; refine Ko (xFa tf_Interval1 tk_Dyadic) ?_; refine Ko (xLa tk_Dyadic) ?_; refine Ko (xFa tf_Interval1 tk_Dyadic) ?_; refine Ko (xLa tk_Dyadic) ?_; refine Ko (by first | exact xCl Tryz.func140 (C0) | exact xCl Tryz.func140 (C1) | exact xCl Tryz.func140 (C2) | exact xCl Tryz.func140 (C3)) ?_; refine Kn (by exact ok_buildN rfl rfl ts_s_Dyadic tz_Dyadic (by decide) (by decide) (by decide) rfl rfl rfl) ?_; refine Ko (xCl Tryz.func96 (SP)) ?_; refine Ke ?_; refine Js (xSk tk_Interval) ?_))
  exact ret_q rfl (.cons_ (rvJ tk_Interval rfl) .nil_)
theorem pihull_cv (a b : Iq) (h : IwS a 20000 20000) (k : IwS b 20000 20000) : CV Tryz.prog TabAt 45 [aIw false a, aIw false b] [aIw false (iHull a b)] := by
  refine cvz Tryz.func45 Tryz.ntmps45 ?_
  have h1 := h.s1
  have h2 := h.s2
  have hl := h1.l4
  have hm := h2.l4
  have k1 := k.s1
  have k2 := k.s2
  have kl := k1.l4
  have km := k2.l4
  have AA := piarg_s a h
  have AB := piarg_s b k
  have s0 := Sm.more (n' := 40064) (d' := 40000) h1 (by decide) (by decide)
  have s1 := Sm.more (n' := 40064) (d' := 40000) h2 (by decide) (by decide)
  have s2 := Sm.more (n' := 40064) (d' := 40000) k1 (by decide) (by decide)
  have s3 := Sm.more (n' := 40064) (d' := 40000) k2 (by decide) (by decide)
  have SP := pispan_cv true [a.1, a.2, b.1, b.2] (by simp) (fun p hp => by simp only [List.mem_cons, List.not_mem_nil, or_false] at hp; rcases hp with rfl | rfl | rfl | rfl <;> assumption) (Nat.le_of_ble_eq_true rfl)
  repeat' (with_reducible first | apply qa | apply qb | apply qc | apply qd | apply qe | apply qf | apply qg | apply qh | apply qi | apply qj | apply qk | apply ql rfl | apply qm rfl | apply qn rfl | apply Je | (refine Tx 0 ?_; refine Jn xBo ?_; refine Jn xBo ?_; refine Jn (xAl tz_Interval) ?_) | (refine cw_part (id := 1) 4 mixed (by kernel_rfl) ?_; dsimp only [List.take, List.drop]; refine Ko (xLa tk_Interval) ?_; refine Ko (by first | exact xCl Tryz.func70 (AA) | exact xCl Tryz.func70 (AB)) ?_; refine Ko (xLa tk_Interval) ?_; refine Ko (by first | exact xCl Tryz.func70 (AA) | exact xCl Tryz.func70 (AB)) ?_; refine Ke ?_; refine Js (xSk tk_Interval) ?_; refine Js (xSk tk_Interval) ?_) | (refine Tx 2 ?_; refine Jo (xFa tf_Interval0 tk_Dyadic) ?_; refine Jo (xLa tk_Dyadic) ?_; refine Jo (xFa tf_Interval1 tk_Dyadic) ?_; refine Jo (xLa tk_Dyadic) ?_; refine Jo (xFa tf_Interval0 tk_Dyadic) ?_; refine Jo (xLa tk_Dyadic) ?_; refine Jo (xFa tf_Interval1 tk_Dyadic) ?_; refine Jo (xLa tk_Dyadic) ?_; refine Jn (by exact ok_buildN rfl rfl ts_s_Dyadic tz_Dyadic (by decide) (by decide) (by decide) rfl rfl rfl) ?_; refine Jo (xCl Tryz.func96 (SP)) ?_; refine Js (xSk tk_Interval) ?_))
  exact ret_q rfl (.cons_ (rvJ tk_Interval rfl) .nil_)
theorem piscale_cv (a : Iq) (f : Pq) (h : IwS a 20000 20000) (hf : Sm f 20000 20000) : CV Tryz.prog TabAt 98 [aIw false a, aDy false f.1 f.2] [aIw false (iScale a f)] := by
  refine cvz Tryz.func98 Tryz.ntmps98 ?_
  have PT := pipoint_cv f hf.ok (Nat.le_trans (hf.lenN 625 (by decide)) (by decide))
  have ML := pimul_cv a (f, f) h (.pt hf)
  repeat' (with_reducible first | apply qa | apply qb | apply qc | apply qd | apply qe | apply qf | apply qg | apply qh | apply qi | apply qj | apply qk | apply ql rfl | apply qm rfl | apply qn rfl | apply Je | (refine Tx 0 ?_; refine Jn xBo ?_; refine Jn xBo ?_; refine Jn (xAl tz_Interval) ?_) | (refine cw_part (id := 1) 4 mixed (by kernel_rfl) ?_; dsimp only [List.take, List.drop]; refine Ko (xLa tk_Interval) ?_; refine Ko (xLa tk_Dyadic) ?_; refine Ko (xCl Tryz.func57 (PT)) ?_; refine Ko (xCl Tryz.func103 (ML)) ?_; refine Ke ?_; refine Js (xSk tk_Interval) ?_))
  exact ret_q rfl (.cons_ (rvJ tk_Interval rfl) .nil_)
theorem pisub_cv (a b : Iq) (h : IwS a 20000 20000) (k : IwS b 20000 20000) : CV Tryz.prog TabAt 102 [aIw false a, aIw false b] [aIw false (iSub a b)] := by
  refine cvz Tryz.func102 Tryz.ntmps102 ?_
  have NG := pineg_cv b k
  have AD := piadd_cv a (iNeg b) h k.neg
  repeat' (with_reducible first | apply qa | apply qb | apply qc | apply qd | apply qe | apply qf | apply qg | apply qh | apply qi | apply qj | apply qk | apply ql rfl | apply qm rfl | apply qn rfl | apply Je | (refine Tx 0 ?_; refine Jn xBo ?_; refine Jn xBo ?_; refine Jn (xAl tz_Interval) ?_) | (refine cw_part (id := 1) 4 mixed (by kernel_rfl) ?_; dsimp only [List.take, List.drop]; refine Ko (xLa tk_Interval) ?_; refine Ko (xLa tk_Interval) ?_; refine Ko (xCl Tryz.func104 (NG)) ?_; refine Ko (xCl Tryz.func101 (AD)) ?_; refine Ke ?_; refine Js (xSk tk_Interval) ?_))
  exact ret_q rfl (.cons_ (rvJ tk_Interval rfl) .nil_)
theorem rvJ0 {P : Program} {F : Frm} {H : List Ob} {t : Tmp} {ty ty' id k : Nat} {q : Pq} (hk : TyK P ty true k) (hi : 6 = k) (hF : F t = .one (.ref id 0 none) := by with_unfolding_all exact rfl) (hH : H[id]? = some (.box ty' ([.d (.val (.bool false)), .d (.val (.slice none 0 0)), .d (.val (.int .i64 0))] ++ (dDy false q.1 q.2).map C.d)) := by with_unfolding_all exact rfl) : RV P F H (.cell t ty) (aIw false ((0, 0), q)) := by
  obtain ⟨⟨dd, hu, hd⟩, hz⟩ := hk
  have e : dDy false 0 0 = [.val (.bool false), .row false 1 0 [], .val (.int .i64 0)] := A.agg.inj dy_zero
  refine .cellA hF hH hu hd (by rw [hz, ← hi]; rfl) ?_
  show LRel _ _ (dDy false 0 0 ++ dDy false q.1 q.2)
  rw [e]
  refine .app (.cons_ (.d fun _ => .val _) (.cons_ .nil (.cons_ (.d fun _ => .val _) .nil_))) (LRel.map_l.2 ⟨rfl, fun j x y hx hy => ?_⟩)
  rw [hx] at hy
  cases hy
  exact .d fun _ => dy_free _ _ x (List.mem_of_getElem? hx)
theorem piabs_cv (a : Iq) (h : IwS a 20000 20000) : CV Tryz.prog TabAt 105 [aIw false a] [aIw false (iAbs a)] := by
  refine cvz Tryz.func105 Tryz.ntmps105 ?_
  have h1 := h.s1
  have h2 := h.s2
  have hl := h1.l4
  have hm := h2.l4
  have AR := piarg_s a h
  have A1 := pdabs_cv a.1.1 a.1.2 h1.ok hl
  have A2 := pdabs_cv a.2.1 a.2.2 h2.ok hm
  have s1 : Sm (qAbs a.1) 40064 40000 := h1.abs.more (by decide) (by decide)
  have s2 : Sm (qAbs a.2) 40064 40000 := h2.abs.more (by decide) (by decide)
  have SP := pispan_cv true [qAbs a.1, qAbs a.2] (by simp) (fun p hp => by simp only [List.mem_cons, List.not_mem_nil, or_false] at hp; rcases hp with rfl | rfl <;> assumption) (Nat.le_of_ble_eq_true rfl)
  have G1 := pdsign_cv a.1.1 a.1.2 h1.ok hl
  have G2 := pdsign_cv a.2.1 a.2.2 h2.ok hm
  by_cases c1 : a.1.1 < 0
  case pos =>
    by_cases c2 : 0 < a.2.1
    case pos =>
      rw [show sgI a.1.1 = -1 by unfold sgI; (repeat' split) <;> omega] at G1
      rw [show sgI a.2.1 = 1 by unfold sgI; (repeat' split) <;> omega] at G2
      have e : iAbs a = ((0, 0), (spanL [qAbs a.1, qAbs a.2]).2) := if_pos ⟨c1, c2⟩
      rw [e]
      repeat' (with_reducible first | apply qa | apply qb | apply qc | apply qd | apply qe | apply qf | apply qg | apply qh | apply qi | apply qj | apply qk | apply ql rfl | apply qm rfl | apply qn rfl | apply Je | (refine Tx 0 ?_; refine Jn xBo ?_; refine Jn (xAl tz_Interval) ?_) | (refine Tx 1 ?_; refine Jo (xLa tk_Interval) ?_; refine Jo (xCl Tryz.func70 (AR)) ?_; refine Js (xSk tk_Interval) ?_) | (refine cw_part (id := 2) 9 mixed (by kernel_rfl) ?_; dsimp only [List.take, List.drop]; refine Ko (xFa tf_Interval0 tk_Dyadic) ?_; refine Ko (xLa tk_Dyadic) ?_; refine Ko (by first | exact xCl Tryz.func141 (A1) | exact xCl Tryz.func141 (A2)) ?_; refine Ko (xFa tf_Interval1 tk_Dyadic) ?_; refine Ko (xLa tk_Dyadic) ?_; refine Ko (by first | exact xCl Tryz.func141 (A1) | exact xCl Tryz.func141 (A2)) ?_; refine Kn (by exact ok_build2 rfl ts_s_Dyadic tz_Dyadic rfl rfl rfl rfl (by decide) (by decide)) ?_; refine Ko (xCl Tryz.func96 (SP)) ?_; refine Kn (xAl tz_Interval) ?_; refine Ke ?_; refine Js (xSk tk_Interval) ?_) | (refine Tx 3 ?_; refine Jo (xFa tf_Interval0 tk_Dyadic) ?_; refine Jo (xLa tk_Dyadic) ?_; refine Jo (by first | exact xCl Tryz.func126 (G1) | exact xCl Tryz.func126 (G2)) ?_; refine Jo xLt ?_; refine Jm ?_; (first | iterate 4 refine Jd ?_ | (refine Jy (xFa tf_Interval1 tk_Dyadic) ?_; refine Jy (xLa tk_Dyadic) ?_; refine Jy (by first | exact xCl Tryz.func126 (G1) | exact xCl Tryz.func126 (G2)) ?_; refine Jy xGt ?_)); refine Jo xPk ?_) | (refine Tx 4 ?_; refine Jo (by exact ok_build rfl tb_Dyadic rfl rfl) ?_; refine Jo (xFa tf_Interval0 tk_Dyadic) ?_; refine Js (xSk tk_Dyadic) ?_) | (refine Tx 5 ?_; refine Jo (xLa tk_Interval) ?_; refine Js (xSk tk_Interval) ?_))
      exact ret_q rfl (.cons_ (rvJ0 tk_Interval rfl) .nil_)
    rw [show sgI a.1.1 = -1 by unfold sgI; (repeat' split) <;> omega] at G1
    have g2 : sgI a.2.1 ≤ 0 := by unfold sgI; (repeat' split) <;> omega
    generalize sgI a.2.1 = g at *
    rw [show iAbs a = spanL [qAbs a.1, qAbs a.2] from if_neg (fun h => c2 h.2)]
    repeat' (with_reducible first | apply qa | apply qb | apply qc | apply qd | apply qe | apply qf | apply qg | apply qh | apply qi | apply qj | apply qk | apply ql rfl | apply qm rfl | apply qn rfl | apply Je | (refine Tx 0 ?_; refine Jn xBo ?_; refine Jn (xAl tz_Interval) ?_) | (refine Tx 1 ?_; refine Jo (xLa tk_Interval) ?_; refine Jo (xCl Tryz.func70 (AR)) ?_; refine Js (xSk tk_Interval) ?_) | (refine cw_part (id := 2) 9 mixed (by kernel_rfl) ?_; dsimp only [List.take, List.drop]; refine Ko (xFa tf_Interval0 tk_Dyadic) ?_; refine Ko (xLa tk_Dyadic) ?_; refine Ko (by first | exact xCl Tryz.func141 (A1) | exact xCl Tryz.func141 (A2)) ?_; refine Ko (xFa tf_Interval1 tk_Dyadic) ?_; refine Ko (xLa tk_Dyadic) ?_; refine Ko (by first | exact xCl Tryz.func141 (A1) | exact xCl Tryz.func141 (A2)) ?_; refine Kn (by exact ok_build2 rfl ts_s_Dyadic tz_Dyadic rfl rfl rfl rfl (by decide) (by decide)) ?_; refine Ko (xCl Tryz.func96 (SP)) ?_; refine Kn (xAl tz_Interval) ?_; refine Ke ?_; refine Js (xSk tk_Interval) ?_) | (refine Tx 3 ?_; refine Jo (xFa tf_Interval0 tk_Dyadic) ?_; refine Jo (xLa tk_Dyadic) ?_; refine Jo (by first | exact xCl Tryz.func126 (G1) | exact xCl Tryz.func126 (G2)) ?_; refine Jo xLt ?_; refine Jm ?_; (first | iterate 4 refine Jd ?_ | (refine Jy (xFa tf_Interval1 tk_Dyadic) ?_; refine Jy (xLa tk_Dyadic) ?_; refine Jy (by first | exact xCl Tryz.func126 (G1) | exact xCl Tryz.func126 (G2)) ?_; refine Jy xGt ?_)); refine Jo xPk ?_) | (refine Tx 5 ?_; refine Jo (xLa tk_Interval) ?_; refine Js (xSk tk_Interval) ?_))
    exact ret_q rfl (.cons_ (rvJ tk_Interval rfl) .nil_)
  have g1 : 0 ≤ sgI a.1.1 := by unfold sgI; (repeat' split) <;> omega
  generalize sgI a.1.1 = g at *
  rw [show iAbs a = spanL [qAbs a.1, qAbs a.2] from if_neg (fun h => c1 h.1)]
  repeat' (with_reducible first | apply qa | apply qb | apply qc | apply qd | apply qe | apply qf | apply qg | apply qh | apply qi | apply qj | apply qk | apply ql rfl | apply qm rfl | apply qn rfl | apply Je | (refine Tx 0 ?_; refine Jn xBo ?_; refine Jn (xAl tz_Interval) ?_) | (refine Tx 1 ?_; refine Jo (xLa tk_Interval) ?_; refine Jo (xCl Tryz.func70 (AR)) ?_; refine Js (xSk tk_Interval) ?_) | (refine cw_part (id := 2) 9 mixed (by kernel_rfl) ?_; dsimp only [List.take, List.drop]; refine Ko (xFa tf_Interval0 tk_Dyadic) ?_; refine Ko (xLa tk_Dyadic) ?_; refine Ko (by first | exact xCl Tryz.func141 (A1) | exact xCl Tryz.func141 (A2)) ?_; refine Ko (xFa tf_Interval1 tk_Dyadic) ?_; refine Ko (xLa tk_Dyadic) ?_; refine Ko (by first | exact xCl Tryz.func141 (A1) | exact xCl Tryz.func141 (A2)) ?_; refine Kn (by exact ok_build2 rfl ts_s_Dyadic tz_Dyadic rfl rfl rfl rfl (by decide) (by decide)) ?_; refine Ko (xCl Tryz.func96 (SP)) ?_; refine Kn (xAl tz_Interval) ?_; refine Ke ?_; refine Js (xSk tk_Interval) ?_) | (refine Tx 3 ?_; refine Jo (xFa tf_Interval0 tk_Dyadic) ?_; refine Jo (xLa tk_Dyadic) ?_; refine Jo (by first | exact xCl Tryz.func126 (G1) | exact xCl Tryz.func126 (G2)) ?_; refine Jo xLt ?_; refine Jm ?_; (first | iterate 4 refine Jd ?_ | (refine Jy (xFa tf_Interval1 tk_Dyadic) ?_; refine Jy (xLa tk_Dyadic) ?_; refine Jy (by first | exact xCl Tryz.func126 (G1) | exact xCl Tryz.func126 (G2)) ?_; refine Jy xGt ?_)); refine Jo xPk ?_) | (refine Tx 5 ?_; refine Jo (xLa tk_Interval) ?_; refine Js (xSk tk_Interval) ?_))
  exact ret_q rfl (.cons_ (rvJ tk_Interval rfl) .nil_)
theorem piclip_cv (a : Iq) (v u : Pq) (h : IwS a 20000 20000) (hv : Sm v 20000 20000) (hu : Sm u 20000 20000) (hvu : qCmp v u ≤ 0) : CV Tryz.prog TabAt 108 [aIw false a, aDy false v.1 v.2, aDy false u.1 u.2] [aIw false (iClip a v u), aE 0] := by
  refine cvz Tryz.func108 Tryz.ntmps108 ?_
  have CM := pdcmp_cv v.1 v.2 u.1 u.2 hv.ok hu.ok (Nat.le_trans (hv.lenN 625 (by decide)) (by decide)) (Nat.le_trans (hu.lenN 625 (by decide)) (by decide))
  have PV := pipoint_cv v hv.ok (Nat.le_trans (hv.lenN 625 (by decide)) (by decide))
  have PU := pipoint_cv u hu.ok (Nat.le_trans (hu.lenN 625 (by decide)) (by decide))
  have MX := pimax_cv a (v, v) h (.pt hv)
  have MN := pimin_cv (iMax a (v, v)) (u, u) (h.max (.pt hv)) (.pt hu)
  have hle : qCmp v u ≤ 0 := hvu
  unfold qCmp at hle
  repeat' (with_reducible first | apply qa | apply qb | apply qc | apply qd | apply qe | apply qf | apply qg | apply qh | apply qi | apply qj | apply qk | apply ql rfl | apply qm rfl | apply qn rfl | apply Je | (refine Tx 0 ?_; refine Jn xBo ?_; refine Jn xBo ?_; refine Jn xBo ?_; refine Jn (xAl tz_Interval) ?_; refine Ja ?_) | (refine Tx 1 ?_; refine Jo (xLa tk_Dyadic) ?_; refine Jo (xLa tk_Dyadic) ?_; refine Jo (xCl Tryz.func60 (CM)) ?_; refine Jo xGt ?_) | (refine cw_part (id := 3) 7 mixed (by kernel_rfl) ?_; dsimp only [List.take, List.drop]; refine Ko (xLa tk_Interval) ?_; refine Ko (xLa tk_Dyadic) ?_; refine Ko (by first | exact xCl Tryz.func57 (PV) | exact xCl Tryz.func57 (PU)) ?_; refine Ko (xCl Tryz.func107 (MX)) ?_; refine Ko (xLa tk_Dyadic) ?_; refine Ko (by first | exact xCl Tryz.func57 (PV) | exact xCl Tryz.func57 (PU)) ?_; refine Ko (xCl Tryz.func106 (MN)) ?_; refine Ke ?_; refine Js (xSk tk_Interval) ?_; refine Ja ?_))
  exact ret_q rfl (.cons_ (rvJ tk_Interval rfl) (.cons_ (rv_e0 rfl rfl) .nil_))
theorem piround_cv (a : Iq) (den : Nat) (h : IwS a 20000 20000) (hd : den ≤ 65536) : CV Tryz.prog TabAt 59 [aIw false a, aI (den : Int)] [aIw false (iRound a den), aE 0] := by
  refine cvz Tryz.func59 Tryz.ntmps59 ?_
  have h1 := h.s1
  have h2 := h.s2
  have hl := h1.l4
  have hm := h2.l4
  have AR := piarg_s a h
  have FL := (pdfloor_cv a.1.1 a.1.2 den h1.ok hl hd).cv
  have CE := pdceil_cv a.2.1 a.2.2 den h2.ok hm hd
  repeat' (with_reducible first | apply qa | apply qb | apply qc | apply qd | apply qe | apply qf | apply qg | apply qh | apply qi | apply qj | apply qk | apply ql rfl | apply qm rfl | apply qn rfl | apply Je | (refine Tx 0 ?_; refine Jn xBo ?_; refine Jn (xAl tz_Interval) ?_; refine Ja ?_) | (refine Tx 1 ?_; refine Jo (xLa tk_Interval) ?_; refine Jo (xCl Tryz.func70 (AR)) ?_; refine Js (xSk tk_Interval) ?_) | (refine Tx 2 ?_; refine Jo (xFa tf_Interval0 tk_Dyadic) ?_; refine Jo (xLa tk_Dyadic) ?_; refine Jm ?_; refine Jo (xCl Tryz.func124 (FL)) ?_; refine Jo xMt ?_; refine Jo (by exact ok_exA rfl rfl rfl) ?_; refine Jo xEx ?_; refine Jn (xAl tz_Dyadic) ?_; refine Js (xSk tk_Dyadic) ?_; refine Ja ?_) | (refine Tx 3 ?_; refine Jm ?_; refine Jo (xNE ti_error) ?_) | (refine Tx 5 ?_; refine Jo (xFa tf_Interval1 tk_Dyadic) ?_; refine Jo (xLa tk_Dyadic) ?_; refine Jm ?_; refine Jo (xCl Tryz.func125 (CE)) ?_; refine Jo xMt ?_; refine Jo (by exact ok_exA rfl rfl rfl) ?_; refine Jo xEx ?_; refine Jn (xAl tz_Dyadic) ?_; refine Js (xSk tk_Dyadic) ?_; refine Ja ?_) | (refine Tx 6 ?_; refine Jm ?_; refine Jo (xNE ti_error) ?_) | (refine Tx 8 ?_; refine Jo (xLa tk_Dyadic) ?_; refine Jo (xLa tk_Dyadic) ?_; refine Jo (by exact ok_build rfl tb_Interval rfl rfl) ?_; refine Js (xSk tk_Interval) ?_; refine Ja ?_))
  exact ret_q rfl (.cons_ (rvJ tk_Interval rfl) (.cons_ (rv_e0 rfl rfl) .nil_))
theorem piinside_cv (a b : Iq) (h : IwS a 20000 20000) (k : IwS b 20000 20000) : CV Tryz.prog TabAt 25 [aIw false a, aIw false b] [aB (iIn a b)] := by
  refine cvz Tryz.func25 Tryz.ntmps25 ?_
  have h1 := h.s1
  have h2 := h.s2
  have hl := h1.l4
  have hm := h2.l4
  have k1 := k.s1
  have k2 := k.s2
  have kl := k1.l4
  have km := k2.l4
  have AA := piarg_s a h
  have AB := piarg_s b k
  have C1 := pdcmp_cv b.1.1 b.1.2 a.1.1 a.1.2 k1.ok h1.ok kl hl
  have C2 := pdcmp_cv a.2.1 a.2.2 b.2.1 b.2.2 h2.ok k2.ok hm km
  by_cases c1 : dyCmp b.1.1 b.1.2 a.1.1 a.1.2 ≤ 0
  case neg =>
    repeat' (with_reducible first | apply qa | apply qb | apply qc | apply qd | apply qe | apply qf | apply qg | apply qh | apply qi | apply qj | apply qk | apply ql rfl | apply qm rfl | apply qn rfl | apply Je | (refine Tx 0 ?_; refine Jn xBo ?_; refine Jn xBo ?_; refine Ja ?_) | (refine cw_part (id := 1) 4 mixed (by kernel_rfl) ?_; dsimp only [List.take, List.drop]; refine Ko (xLa tk_Interval) ?_; refine Ko (by first | exact xCl Tryz.func70 (AA) | exact xCl Tryz.func70 (AB)) ?_; refine Ko (xLa tk_Interval) ?_; refine Ko (by first | exact xCl Tryz.func70 (AA) | exact xCl Tryz.func70 (AB)) ?_; refine Ke ?_; refine Js (xSk tk_Interval) ?_; refine Js (xSk tk_Interval) ?_) | (refine Tx 2 ?_; refine Jo (xFa tf_Interval0 tk_Dyadic) ?_; refine Jo (xLa tk_Dyadic) ?_; refine Jo (xFa tf_Interval0 tk_Dyadic) ?_; refine Jo (xLa tk_Dyadic) ?_; refine Jo (by first | exact xCl Tryz.func60 (C1) | exact xCl Tryz.func60 (C2)) ?_; refine Jo xLe ?_; refine Jm ?_; (first | iterate 6 refine Jd ?_ | (refine Jy (xFa tf_Interval1 tk_Dyadic) ?_; refine Jy (xLa tk_Dyadic) ?_; refine Jy (xFa tf_Interval1 tk_Dyadic) ?_; refine Jy (xLa tk_Dyadic) ?_; refine Jy (by first | exact xCl Tryz.func60 (C1) | exact xCl Tryz.func60 (C2)) ?_; refine Jy xLe ?_)); refine Jo xPk ?_; refine Ja ?_))
    exact ret_q rfl (.cons_ (rv_b rfl (by unfold iIn; rw [decide_eq_false c1]; rfl)) .nil_)
  by_cases c2 : dyCmp a.2.1 a.2.2 b.2.1 b.2.2 ≤ 0
  case pos =>
    repeat' (with_reducible first | apply qa | apply qb | apply qc | apply qd | apply qe | apply qf | apply qg | apply qh | apply qi | apply qj | apply qk | apply ql rfl | apply qm rfl | apply qn rfl | apply Je | (refine Tx 0 ?_; refine Jn xBo ?_; refine Jn xBo ?_; refine Ja ?_) | (refine cw_part (id := 1) 4 mixed (by kernel_rfl) ?_; dsimp only [List.take, List.drop]; refine Ko (xLa tk_Interval) ?_; refine Ko (by first | exact xCl Tryz.func70 (AA) | exact xCl Tryz.func70 (AB)) ?_; refine Ko (xLa tk_Interval) ?_; refine Ko (by first | exact xCl Tryz.func70 (AA) | exact xCl Tryz.func70 (AB)) ?_; refine Ke ?_; refine Js (xSk tk_Interval) ?_; refine Js (xSk tk_Interval) ?_) | (refine Tx 2 ?_; refine Jo (xFa tf_Interval0 tk_Dyadic) ?_; refine Jo (xLa tk_Dyadic) ?_; refine Jo (xFa tf_Interval0 tk_Dyadic) ?_; refine Jo (xLa tk_Dyadic) ?_; refine Jo (by first | exact xCl Tryz.func60 (C1) | exact xCl Tryz.func60 (C2)) ?_; refine Jo xLe ?_; refine Jm ?_; (first | iterate 6 refine Jd ?_ | (refine Jy (xFa tf_Interval1 tk_Dyadic) ?_; refine Jy (xLa tk_Dyadic) ?_; refine Jy (xFa tf_Interval1 tk_Dyadic) ?_; refine Jy (xLa tk_Dyadic) ?_; refine Jy (by first | exact xCl Tryz.func60 (C1) | exact xCl Tryz.func60 (C2)) ?_; refine Jy xLe ?_)); refine Jo xPk ?_; refine Ja ?_))
    exact ret_q rfl (.cons_ (rv_b rfl (by unfold iIn; rw [decide_eq_true c1, decide_eq_true c2]; rfl)) .nil_)
  case neg =>
    repeat' (with_reducible first | apply qa | apply qb | apply qc | apply qd | apply qe | apply qf | apply qg | apply qh | apply qi | apply qj | apply qk | apply ql rfl | apply qm rfl | apply qn rfl | apply Je | (refine Tx 0 ?_; refine Jn xBo ?_; refine Jn xBo ?_; refine Ja ?_) | (refine cw_part (id := 1) 4 mixed (by kernel_rfl) ?_; dsimp only [List.take, List.drop]; refine Ko (xLa tk_Interval) ?_; refine Ko (by first | exact xCl Tryz.func70 (AA) | exact xCl Tryz.func70 (AB)) ?_; refine Ko (xLa tk_Interval) ?_; refine Ko (by first | exact xCl Tryz.func70 (AA) | exact xCl Tryz.func70 (AB)) ?_; refine Ke ?_; refine Js (xSk tk_Interval) ?_; refine Js (xSk tk_Interval) ?_) | (refine Tx 2 ?_; refine Jo (xFa tf_Interval0 tk_Dyadic) ?_; refine Jo (xLa tk_Dyadic) ?_; refine Jo (xFa tf_Interval0 tk_Dyadic) ?_; refine Jo (xLa tk_Dyadic) ?_; refine Jo (by first | exact xCl Tryz.func60 (C1) | exact xCl Tryz.func60 (C2)) ?_; refine Jo xLe ?_; refine Jm ?_; (first | iterate 6 refine Jd ?_ | (refine Jy (xFa tf_Interval1 tk_Dyadic) ?_; refine Jy (xLa tk_Dyadic) ?_; refine Jy (xFa tf_Interval1 tk_Dyadic) ?_; refine Jy (xLa tk_Dyadic) ?_; refine Jy (by first | exact xCl Tryz.func60 (C1) | exact xCl Tryz.func60 (C2)) ?_; refine Jy xLe ?_)); refine Jo xPk ?_; refine Ja ?_))
    exact ret_q rfl (.cons_ (rv_b rfl (by unfold iIn; rw [decide_eq_true c1, decide_eq_false c2]; rfl)) .nil_)
theorem picontains_cv (a : Iq) (p : Pq) (h : IwS a 20000 20000) (hp : Sm p 20000 20000) : CV Tryz.prog TabAt 37 [aIw false a, aDy false p.1 p.2] [aB (iIn (p, p) a)] := by
  refine cvz Tryz.func37 Tryz.ntmps37 ?_
  have PT := pipoint_cv p hp.ok (Nat.le_trans (hp.lenN 625 (by decide)) (by decide))
  have IN := piinside_cv (p, p) a (.pt hp) h
  repeat' (with_reducible first | apply qa | apply qb | apply qc | apply qd | apply qe | apply qf | apply qg | apply qh | apply qi | apply qj | apply qk | apply ql rfl | apply qm rfl | apply qn rfl | apply Je | (refine Tx 0 ?_; refine Jn xBo ?_; refine Jn xBo ?_; refine Ja ?_) | (refine cw_any (id := 1) mixed (by kernel_rfl) ?_; refine Ko (xLa tk_Dyadic) ?_; refine Ko (xCl Tryz.func57 (PT)) ?_; refine Ko (xLa tk_Interval) ?_; refine Ko (xCl Tryz.func25 (IN)) ?_; refine Ka ?_; refine Ke ?_))
  exact ret_q rfl (.cons_ (rv_b rfl rfl) .nil_)
theorem pimag_cv (a : Iq) (h : IwS a 20000 20000) : CV Tryz.prog TabAt 122 [aIw false a] [aDy false (iMag a).1 (iMag a).2] := by
  refine cvz Tryz.func122 Tryz.ntmps122 ?_
  have AB := piabs_cv a h
  repeat' (with_reducible first | apply qa | apply qb | apply qc | apply qd | apply qe | apply qf | apply qg | apply qh | apply qi | apply qj | apply qk | apply ql rfl | apply qm rfl | apply qn rfl | apply Je | (refine Tx 0 ?_; refine Jn xBo ?_; refine Jn (xAl tz_Dyadic) ?_) | (refine Tx 1 ?_; refine Jo (xLa tk_Interval) ?_; refine Jo (xCl Tryz.func105 (AB)) ?_; refine Jo (by exact ok_fieldA rfl rfl tf_Interval1 tk_Dyadic rfl) ?_; refine Js (xSk tk_Dyadic) ?_))
  exact ret_q rfl (.cons_ (rvW tk_Dyadic rfl) .nil_)
def nrmR (r s : Rv) : Iq := if ivR r s = true then (rvP r, rvP s) else ((0, 0), (0, 0))
theorem iw_ext {a b : Iq} {n d n' d' : Nat} (h : IwS a n d) (k : IwS b n' d') (e1 : gv a.1 = gv b.1) (e2 : gv a.2 = gv b.2) : a = b := Prod.ext (gv_inj h.s1.ok k.s1.ok e1) (gv_inj h.s2.ok k.s2.ok e2)
section
variable {a b : Iq} {n d : Nat}
theorem add_span (h : IwS a n d) (k : IwS b n d) (hd : d ≤ 65536) : spanL [qSum a.1 b.1, qSum a.2 b.2] = iAdd a b := by
  have s := h.add k hd
  obtain ⟨e1, e2, e3⟩ := spanL_two s.s1 s.s2
  have hle := s.le
  refine iw_ext e3 s ?_ ?_
  · rw [show gv (spanL [qSum a.1 b.1, qSum a.2 b.2]).1 = _ from e1]; omega
  · rw [show gv (spanL [qSum a.1 b.1, qSum a.2 b.2]).2 = _ from e2]; omega
end
theorem raw_ok {r s : Rv} (hr : RvL r) (hs : RvL s) (h : ivR r s = true) : dIr false (r, s) = dIw false (rvP r, rvP s) ∧ Nf (rvP r).1 (rvP r).2 ∧ Nf (rvP s).1 (rvP s).2 ∧ gv (rvP r) ≤ gv (rvP s) ∧ (canon (rvP r).1.natAbs).length = r.ws.length ∧ (canon (rvP s).1.natAbs).length = s.ws.length := by
  unfold ivR at h
  rw [Bool.and_eq_true, Bool.and_eq_true] at h
  obtain ⟨⟨h1, h2⟩, h3⟩ := h
  obtain ⟨e1, n1, k1⟩ := rv_dy (t := false) hr.1 h1
  obtain ⟨e2, n2, k2⟩ := rv_dy (t := false) hs.1 h2
  refine ⟨?_, n1, n2, (cmp_le (p := rvP r) (q := rvP s) n1.le n2.le).1 (of_decide_eq_true h3), k1, k2⟩
  show dRv false r ++ dRv false s = _
  rw [e1, e2]
  rfl
theorem nrm_of {a : Iq} {n d : Nat} (h : IwS a n d) : nrmR (rvOf a.1) (rvOf a.2) = a := by unfold nrmR; rw [if_pos (iv_of h), rvOf_P, rvOf_P]
theorem dsign_cv (x : Int) (dx : Nat) (hnx : Nf x dx) (lx : (canon x.natAbs).length ≤ 40000) : CV Tryz.prog TabAt 63 [aDy false x dx] [aI (sgI x)] := by
  refine cvz Tryz.func63 Tryz.ntmps63 ?_
  have PX := norm_cv TabAt x dx hnx (Nat.le_trans lx (by decide))
  by_cases c0 : x = 0
  case pos =>
    have l0 : ((canon x.natAbs).length : Int) = 0 := by rw [show x.natAbs = 0 by omega, canon_zero]; rfl
    have hdx : decide (x < 0) = false := decide_eq_false (by omega)
    unfold aDy dDy at PX ⊢
    rw [hdx] at PX ⊢
    rw [show sgI x = 0 by unfold sgI; (repeat' split) <;> omega]
    repeat' (with_reducible first | apply qa | apply qb | apply qc | apply qd | apply qe | apply qf | apply qg | apply qh | apply qi | apply qj | apply qk | apply ql rfl | apply qm rfl | apply qn rfl | apply Je | (refine Tx 0 ?_; refine Jn xBo ?_; refine Ja ?_) | (refine Tx 1 ?_; refine Jo (xLa tk_Dyadic) ?_; refine Jo (xCl Tryz.func67 (PX)) ?_; refine Js (xSk tk_Dyadic) ?_) | (refine Tx 2 ?_; refine Jo (xFa tf_Dyadic1 tk_s_uint32) ?_; refine Jo (xLd tk_s_uint32) ?_; refine Jo (xLn ts_s_uint32) ?_; refine Jo xEq ?_) | (refine Tx 3 ?_; refine Ja ?_))
    exact ret_q rfl (.cons_ (rv_i rfl rfl) .nil_)
  by_cases cm1 : x < 0
  case pos =>
    have l0 : ¬ ((canon x.natAbs).length : Int) = 0 := fun hc => by have := canon_ne (n := x.natAbs) (by omega); omega
    have hdx : decide (x < 0) = true := decide_eq_true (by omega)
    unfold aDy dDy at PX ⊢
    rw [hdx] at PX ⊢
    rw [show sgI x = -1 by unfold sgI; (repeat' split) <;> omega]
    repeat' (with_reducible first | apply qa | apply qb | apply qc | apply qd | apply qe | apply qf | apply qg | apply qh | apply qi | apply qj | apply qk | apply ql rfl | apply qm rfl | apply qn rfl | apply Je | (refine Tx 0 ?_; refine Jn xBo ?_; refine Ja ?_) | (refine Tx 1 ?_; refine Jo (xLa tk_Dyadic) ?_; refine Jo (xCl Tryz.func67 (PX)) ?_; refine Js (xSk tk_Dyadic) ?_) | (refine Tx 2 ?_; refine Jo (xFa tf_Dyadic1 tk_s_uint32) ?_; refine Jo (xLd tk_s_uint32) ?_; refine Jo (xLn ts_s_uint32) ?_; refine Jo xEq ?_) | (refine Tx 4 ?_; refine Jo (xFa tf_Dyadic0 tk_bool) ?_; refine Jo (xLd tk_bool) ?_) | (refine Tx 5 ?_; refine Ja ?_))
    exact ret_q rfl (.cons_ (rv_i rfl rfl) .nil_)
  have l0 : ¬ ((canon x.natAbs).length : Int) = 0 := fun hc => by have := canon_ne (n := x.natAbs) (by omega); omega
  have hdx : decide (x < 0) = false := decide_eq_false (by omega)
  unfold aDy dDy at PX ⊢
  rw [hdx] at PX ⊢
  rw [show sgI x = 1 by unfold sgI; (repeat' split) <;> omega]
  repeat' (with_reducible first | apply qa | apply qb | apply qc | apply qd | apply qe | apply qf | apply qg | apply qh | apply qi | apply qj | apply qk | apply ql rfl | apply qm rfl | apply qn rfl | apply Je | (refine Tx 0 ?_; refine Jn xBo ?_; refine Ja ?_) | (refine Tx 1 ?_; refine Jo (xLa tk_Dyadic) ?_; refine Jo (xCl Tryz.func67 (PX)) ?_; refine Js (xSk tk_Dyadic) ?_) | (refine Tx 2 ?_; refine Jo (xFa tf_Dyadic1 tk_s_uint32) ?_; refine Jo (xLd tk_s_uint32) ?_; refine Jo (xLn ts_s_uint32) ?_; refine Jo xEq ?_) | (refine Tx 4 ?_; refine Jo (xFa tf_Dyadic0 tk_bool) ?_; refine Jo (xLd tk_bool) ?_) | (refine Tx 6 ?_; refine Ja ?_))
  exact ret_q rfl (.cons_ (rv_i rfl rfl) .nil_)
theorem rivalid_cv (r s : Rv) (hr : RvL r) (hs : RvL s) : CV Tryz.prog TabAt 52 [.agg (dIr false (r, s))] [aB (ivR r s)] := by
  refine cvz Tryz.func52 Tryz.ntmps52 ?_
  have V1 := (dvalid_cv (G := TabAt) false r hr.1 (Nat.le_trans hr.2 (by decide))).cv
  have V2 := (dvalid_cv (G := TabAt) false s hs.1 (Nat.le_trans hs.2 (by decide))).cv
  by_cases c1 : vdB r.rw = true
  case neg =>
    rw [Bool.not_eq_true] at c1
    rw [c1] at V1
    repeat' (with_reducible first | apply qa | apply qb | apply qc | apply qd | apply qe | apply qf | apply qg | apply qh | apply qi | apply qj | apply qk | apply ql rfl | apply qm rfl | apply qn rfl | apply Je | (refine Tx 0 ?_; refine Jn xBo ?_; refine Ja ?_) | (refine Tx 1 ?_; refine Jo (xFa tf_Interval0 tk_Dyadic) ?_; refine Jo (xLa tk_Dyadic) ?_; refine Jo (xCl Tryz.func115 (V1)) ?_; refine Jm ?_; (first | iterate 3 refine Jd ?_ | (refine Jy (xFa tf_Interval1 tk_Dyadic) ?_; refine Jy (xLa tk_Dyadic) ?_; refine Jy (xCl Tryz.func115 (V1)) ?_)); refine Jo xPk ?_; refine Jm ?_; (first | iterate 4 refine Jd ?_ | (refine Jy (xFa tf_Interval0 tk_Dyadic) ?_; refine Jy (xLa tk_Dyadic) ?_; refine Jy (xFa tf_Interval1 tk_Dyadic) ?_; refine Jy (xLa tk_Dyadic) ?_)); refine Jd ?_; (first | refine Jd ?_ | refine Jy xLe ?_); refine Jo xPk ?_; refine Ja ?_))
    exact ret_q rfl (.cons_ (rv_b rfl (by unfold ivR; rw [c1]; rfl)) .nil_)
  by_cases c2 : vdB s.rw = true
  case neg =>
    rw [Bool.not_eq_true] at c2
    rw [c1] at V1
    rw [c2] at V2
    repeat' (with_reducible first | apply qa | apply qb | apply qc | apply qd | apply qe | apply qf | apply qg | apply qh | apply qi | apply qj | apply qk | apply ql rfl | apply qm rfl | apply qn rfl | apply Je | (refine Tx 0 ?_; refine Jn xBo ?_; refine Ja ?_) | (refine Tx 1 ?_; refine Jo (xFa tf_Interval0 tk_Dyadic) ?_; refine Jo (xLa tk_Dyadic) ?_; refine Jo (xCl Tryz.func115 (V1)) ?_; refine Jm ?_; (first | iterate 3 refine Jd ?_ | (refine Jy (xFa tf_Interval1 tk_Dyadic) ?_; refine Jy (xLa tk_Dyadic) ?_; refine Jy (xCl Tryz.func115 (V2)) ?_)); refine Jo xPk ?_; refine Jm ?_; (first | iterate 4 refine Jd ?_ | (refine Jy (xFa tf_Interval0 tk_Dyadic) ?_; refine Jy (xLa tk_Dyadic) ?_; refine Jy (xFa tf_Interval1 tk_Dyadic) ?_; refine Jy (xLa tk_Dyadic) ?_)); refine Jd ?_; (first | refine Jd ?_ | refine Jy xLe ?_); refine Jo xPk ?_; refine Ja ?_))
    exact ret_q rfl (.cons_ (rv_b rfl (by unfold ivR; rw [c1, c2]; rfl)) .nil_)
  rw [c1] at V1
  rw [c2] at V2
  obtain ⟨e1, n1, k1⟩ := rv_dy (t := false) hr.1 c1
  obtain ⟨e2, n2, k2⟩ := rv_dy (t := false) hs.1 c2
  have CM := (dcmp_cv (G := TabAt) false false r.rw.x r.rw.d s.rw.x s.rw.d n1 n2 (Nat.le_trans (Nat.le_of_eq k1) (Nat.le_trans hr.2 (by decide))) (Nat.le_trans (Nat.le_of_eq k2) (Nat.le_trans hs.2 (by decide)))).cv
  unfold aDy at CM
  rw [← e1, ← e2] at CM
  by_cases c3 : dyCmp r.rw.x r.rw.d s.rw.x s.rw.d ≤ 0
  case pos =>
    repeat' (with_reducible first | apply qa | apply qb | apply qc | apply qd | apply qe | apply qf | apply qg | apply qh | apply qi | apply qj | apply qk | apply ql rfl | apply qm rfl | apply qn rfl | apply Je | (refine Tx 0 ?_; refine Jn xBo ?_; refine Ja ?_) | (refine Tx 1 ?_; refine Jo (xFa tf_Interval0 tk_Dyadic) ?_; refine Jo (xLa tk_Dyadic) ?_; refine Jo (xCl Tryz.func115 (V1)) ?_; refine Jm ?_; (first | iterate 3 refine Jd ?_ | (refine Jy (xFa tf_Interval1 tk_Dyadic) ?_; refine Jy (xLa tk_Dyadic) ?_; refine Jy (xCl Tryz.func115 (V2)) ?_)); refine Jo xPk ?_; refine Jm ?_; (first | iterate 6 refine Jd ?_ | (refine Jy (xFa tf_Interval0 tk_Dyadic) ?_; refine Jy (xLa tk_Dyadic) ?_; refine Jy (xFa tf_Interval1 tk_Dyadic) ?_; refine Jy (xLa tk_Dyadic) ?_; refine Jy (xCl Tryz.func73 (CM)) ?_; refine Jy xLe ?_)); refine Jo xPk ?_; refine Ja ?_))
    exact ret_q rfl (.cons_ (rv_b rfl (by unfold ivR; rw [c1, c2, decide_eq_true c3]; rfl)) .nil_)
  case neg =>
    repeat' (with_reducible first | apply qa | apply qb | apply qc | apply qd | apply qe | apply qf | apply qg | apply qh | apply qi | apply qj | apply qk | apply ql rfl | apply qm rfl | apply qn rfl | apply Je | (refine Tx 0 ?_; refine Jn xBo ?_; refine Ja ?_) | (refine Tx 1 ?_; refine Jo (xFa tf_Interval0 tk_Dyadic) ?_; refine Jo (xLa tk_Dyadic) ?_; refine Jo (xCl Tryz.func115 (V1)) ?_; refine Jm ?_; (first | iterate 3 refine Jd ?_ | (refine Jy (xFa tf_Interval1 tk_Dyadic) ?_; refine Jy (xLa tk_Dyadic) ?_; refine Jy (xCl Tryz.func115 (V2)) ?_)); refine Jo xPk ?_; refine Jm ?_; (first | iterate 6 refine Jd ?_ | (refine Jy (xFa tf_Interval0 tk_Dyadic) ?_; refine Jy (xLa tk_Dyadic) ?_; refine Jy (xFa tf_Interval1 tk_Dyadic) ?_; refine Jy (xLa tk_Dyadic) ?_; refine Jy (xCl Tryz.func73 (CM)) ?_; refine Jy xLe ?_)); refine Jo xPk ?_; refine Ja ?_))
    exact ret_q rfl (.cons_ (rv_b rfl (by unfold ivR; rw [c1, c2, decide_eq_false c3]; rfl)) .nil_)
theorem rvJ1 {P : Program} {F : Frm} {H : List Ob} {t : Tmp} {ty ty' id k : Nat} (hk : TyK P ty true k) (hi : 6 = k) (hF : F t = .one (.ref id 0 none) := by with_unfolding_all exact rfl) (hH : H[id]? = some (.box ty' [.d (.val (.bool false)), .d (.val (.slice none 0 0)), .d (.val (.int .i64 0)), .d (.val (.bool false)), .d (.val (.slice none 0 0)), .d (.val (.int .i64 0))]) := by with_unfolding_all exact rfl) : RV P F H (.cell t ty) (.agg [.val (.bool false), .row false 1 0 [], .val (.int .i64 0), .val (.bool false), .row false 1 0 [], .val (.int .i64 0)]) := by
  obtain ⟨⟨dd, hu, hd⟩, hz⟩ := hk
  exact .cellA hF hH hu hd (by rw [hz, ← hi]; rfl) (.cons_ (.d fun _ => .val _) (.cons_ .nil (.cons_ (.d fun _ => .val _) (.cons_ (.d fun _ => .val _) (.cons_ .nil (.cons_ (.d fun _ => .val _) .nil_))))))
theorem rinorm_cv (r s : Rv) (hr : RvL r) (hs : RvL s) : CV Tryz.prog TabAt 72 [.agg (dIr false (r, s))] [aIw false (nrmR r s)] := by
  refine cvz Tryz.func72 Tryz.ntmps72 ?_
  have V := rivalid_cv r s hr hs
  by_cases c : ivR r s = true
  case pos =>
    rw [show nrmR r s = (rvP r, rvP s) from if_pos c]
    rw [c, (raw_ok hr hs c).1] at V
    rw [(raw_ok hr hs c).1]
    repeat' (with_reducible first | apply qa | apply qb | apply qc | apply qd | apply qe | apply qf | apply qg | apply qh | apply qi | apply qj | apply qk | apply ql rfl | apply qm rfl | apply qn rfl | apply Je | (refine Tx 0 ?_; refine Jn xBo ?_; refine Jn (xAl tz_Interval) ?_) | (refine Tx 1 ?_; refine Jo (xLa tk_Interval) ?_; refine Jo (xCl Tryz.func52 (V)) ?_) | (refine Tx 2 ?_; refine Jo (xLa tk_Interval) ?_; refine Js (xSk tk_Interval) ?_))
    exact ret_q rfl (.cons_ (rvJ tk_Interval rfl) .nil_)
  rw [show nrmR r s = ((0, 0), (0, 0)) from if_neg c]
  rw [Bool.not_eq_true] at c
  rw [c] at V
  unfold aIw
  rw [iw_zero]
  repeat' (with_reducible first | apply qa | apply qb | apply qc | apply qd | apply qe | apply qf | apply qg | apply qh | apply qi | apply qj | apply qk | apply ql rfl | apply qm rfl | apply qn rfl | apply Je | (refine Tx 0 ?_; refine Jn xBo ?_; refine Jn (xAl tz_Interval) ?_) | (refine Tx 1 ?_; refine Jo (xLa tk_Interval) ?_; refine Jo (xCl Tryz.func52 (V)) ?_) | (refine Tx 3 ?_; refine Jo (by exact ok_build rfl tb_Interval rfl rfl) ?_; refine Js (xSk tk_Interval) ?_))
  exact ret_q rfl (.cons_ (rvJ1 tk_Interval rfl) .nil_)
theorem rinorm_iw (a : Iq) {n d : Nat} (h : IwS a n d) (hn : n ≤ 1280000) : CV Tryz.prog TabAt 72 [aIw false a] [aIw false a] := by
  have := rinorm_cv (rvOf a.1) (rvOf a.2) (rvOf_L h.s1 hn) (rvOf_L h.s2 hn)
  rw [nrm_of h] at this
  unfold dIr at this
  rwa [rvOf_D, rvOf_D] at this
def IwL (a : Iq) : Prop := (canon a.1.1.natAbs).length ≤ 1000000 ∧ (canon a.2.1.natAbs).length ≤ 1000000
theorem IwS.L {a : Iq} {n d : Nat} (h : IwS a n d) (hn : n ≤ 1280000) : IwL a := ⟨Nat.le_trans (h.s1.lenN 40000 (by omega)) (by decide), Nat.le_trans (h.s2.lenN 40000 (by omega)) (by decide)⟩
theorem risame_cv (a b : Iq) (ha : IwL a) (hb : IwL b) : CV Tryz.prog TabAt 31 [aIw false a, aIw false b] [aB (decide (a = b))] := by
  refine cvz Tryz.func31 Tryz.ntmps31 ?_
  have S1 := dsame_cv false false a.1 b.1 ha.1 hb.1
  have S2 := dsame_cv false false a.2 b.2 ha.2 hb.2
  by_cases c1 : a.1 = b.1
  case neg =>
    rw [decide_eq_false c1] at S1
    repeat' (with_reducible first | apply qa | apply qb | apply qc | apply qd | apply qe | apply qf | apply qg | apply qh | apply qi | apply qj | apply qk | apply ql rfl | apply qm rfl | apply qn rfl | apply Je | (refine Tx 0 ?_; refine Jn xBo ?_; refine Jn xBo ?_; refine Ja ?_) | (refine Tx 1 ?_; refine Jo (xFa tf_Interval0 tk_Dyadic) ?_; refine Jo (xLa tk_Dyadic) ?_; refine Jo (xFa tf_Interval0 tk_Dyadic) ?_; refine Jo (xLa tk_Dyadic) ?_; refine Jo (xCl Tryz.func83 (S1)) ?_; refine Jm ?_; (first | iterate 4 refine Jd ?_ | (refine Jy (xFa tf_Interval1 tk_Dyadic) ?_; refine Jy (xLa tk_Dyadic) ?_; refine Jy (xFa tf_Interval1 tk_Dyadic) ?_; refine Jy (xLa tk_Dyadic) ?_)); refine Jd ?_; refine Jo xPk ?_; refine Ja ?_))
    exact ret_q rfl (.cons_ (rv_b rfl ((decide_eq_false fun h => c1 (by rw [h])).symm)) .nil_)
  rw [decide_eq_true c1] at S1
  by_cases c2 : a.2 = b.2
  case pos =>
    rw [decide_eq_true c2] at S2
    repeat' (with_reducible first | apply qa | apply qb | apply qc | apply qd | apply qe | apply qf | apply qg | apply qh | apply qi | apply qj | apply qk | apply ql rfl | apply qm rfl | apply qn rfl | apply Je | (refine Tx 0 ?_; refine Jn xBo ?_; refine Jn xBo ?_; refine Ja ?_) | (refine Tx 1 ?_; refine Jo (xFa tf_Interval0 tk_Dyadic) ?_; refine Jo (xLa tk_Dyadic) ?_; refine Jo (xFa tf_Interval0 tk_Dyadic) ?_; refine Jo (xLa tk_Dyadic) ?_; refine Jo (xCl Tryz.func83 (S1)) ?_; refine Jm ?_; (first | iterate 5 refine Jd ?_ | (refine Jy (xFa tf_Interval1 tk_Dyadic) ?_; refine Jy (xLa tk_Dyadic) ?_; refine Jy (xFa tf_Interval1 tk_Dyadic) ?_; refine Jy (xLa tk_Dyadic) ?_; refine Jy (xCl Tryz.func83 (S2)) ?_)); refine Jo xPk ?_; refine Ja ?_))
    exact ret_q rfl (.cons_ (rv_b rfl ((decide_eq_true (Prod.ext c1 c2)).symm)) .nil_)
  case neg =>
    rw [decide_eq_false c2] at S2
    repeat' (with_reducible first | apply qa | apply qb | apply qc | apply qd | apply qe | apply qf | apply qg | apply qh | apply qi | apply qj | apply qk | apply ql rfl | apply qm rfl | apply qn rfl | apply Je | (refine Tx 0 ?_; refine Jn xBo ?_; refine Jn xBo ?_; refine Ja ?_) | (refine Tx 1 ?_; refine Jo (xFa tf_Interval0 tk_Dyadic) ?_; refine Jo (xLa tk_Dyadic) ?_; refine Jo (xFa tf_Interval0 tk_Dyadic) ?_; refine Jo (xLa tk_Dyadic) ?_; refine Jo (xCl Tryz.func83 (S1)) ?_; refine Jm ?_; (first | iterate 5 refine Jd ?_ | (refine Jy (xFa tf_Interval1 tk_Dyadic) ?_; refine Jy (xLa tk_Dyadic) ?_; refine Jy (xFa tf_Interval1 tk_Dyadic) ?_; refine Jy (xLa tk_Dyadic) ?_; refine Jy (xCl Tryz.func83 (S2)) ?_)); refine Jo xPk ?_; refine Ja ?_))
    exact ret_q rfl (.cons_ (rv_b rfl ((decide_eq_false fun h => c2 (by rw [h])).symm)) .nil_)
theorem ripoint_cv (p : Pq) (hn : Nf p.1 p.2) (hl : (canon p.1.natAbs).length ≤ 40000) : CV Tryz.prog TabAt 74 [aDy false p.1 p.2] [aIw false (p, p)] := by
  refine cvz Tryz.func74 Tryz.ntmps74 ?_
  have NM := norm_cv TabAt p.1 p.2 hn (Nat.le_trans hl (by decide))
  repeat' (with_reducible first | apply qa | apply qb | apply qc | apply qd | apply qe | apply qf | apply qg | apply qh | apply qi | apply qj | apply qk | apply ql rfl | apply qm rfl | apply qn rfl | apply Je | (refine Tx 0 ?_; refine Jn xBo ?_; refine Jn (xAl tz_Interval) ?_) | (refine Tx 1 ?_; refine Jo (xLa tk_Dyadic) ?_; refine Jo (xCl Tryz.func67 (NM)) ?_; refine Js (xSk tk_Dyadic) ?_) | (refine Tx 2 ?_; refine Jo (xLa tk_Dyadic) ?_; refine Jo (xLa tk_Dyadic) ?_; refine Jo (by exact ok_build rfl tb_Interval rfl rfl) ?_; refine Js (xSk tk_Interval) ?_))
  exact ret_q rfl (.cons_ (rvJ tk_Interval rfl) .nil_)
theorem rispan_cv (t : Bool) (L : List Pq) (hne : L ≠ []) (hs : ∀ p ∈ L, Sm p 40064 40000) (hL : L.length ≤ 100) : CV Tryz.prog TabAt 65 [.one (.row t 3 L.length (flatD dyP L))] [aIw false (spanL L)] := by
  refine cvz Tryz.func65 Tryz.ntmps65 ?_
  obtain ⟨p, l, rfl⟩ : ∃ p l, L = p :: l := by cases L with | nil => exact absurd rfl hne | cons p l => exact ⟨p, l, rfl⟩
  have hp := hs p (List.mem_cons_self ..)
  have hpl := Nat.le_trans (hp.lenN 1252 (by decide)) (show 1252 ≤ 40000 by decide)
  have PT := ripoint_cv p hp.ok hpl
  have hlen : (p :: l).length = l.length + 1 := List.length_cons
  repeat' (with_reducible first | apply qa | apply qb | apply qc | apply qd | apply qe | apply qf | apply qg | apply qh | apply qi | apply qj | apply qk | apply ql rfl | apply qm rfl | apply qn rfl | apply Je | (refine Tx 0 ?_; refine Jn (xAl tz_Interval) ?_) | (refine Tx 1 ?_; refine Jm ?_; refine Jo (by exact ok_ixR (i := 0) rfl rfl rfl rfl ts_s_Dyadic (by omega) (by decide) (dyP_at (l := p :: l) (k := 0) rfl)) ?_; refine Jo (xLa tk_Dyadic) ?_; refine Jo (xCl Tryz.func74 (PT)) ?_; refine Jn (xAl tz_Interval) ?_; refine Js (xSk tk_Interval) ?_) | (refine Tx 2 ?_; refine Jm ?_; refine Jo (by exact ok_sliceD (lo := 1) rfl rfl rfl rfl ts_s_Dyadic (by omega)) ?_; refine Jo (xLn ts_s_Dyadic) ?_; refine Jm ?_))
  refine cw_wk (F' := ofL [(2, vr 0), (3, vr 1), (11, vd (.row t 3 ((p :: l).length - 1) ((flatD dyP (p :: l)).drop (1 * 3)))), (12, vi (((p :: l).length - 1 : Nat))), (13, vi ((0 : Nat)))]) (H' := [.box 55 [.d (.val (.bool false)), .d (.val (.slice none 0 0)), .d (.val (.int .i64 0)), .d (.val (.bool false)), .d (.val (.slice none 0 0)), .d (.val (.int .i64 0))], .box 55 ((dIw false ((l.take (0)).foldl spanS (p, p))).map C.d)]) (wk_go _ 2 ?_ ?_ ?_) ?_
  · rfl
  · exact mB rfl rfl
  · exact ⟨bel_lit rfl, bel_D, trivial⟩
  refine cw_loopW (fun n Fr H => ∃ k : Nat, k ≤ l.length ∧ n = l.length - k ∧ IwS ((l.take (k)).foldl spanS (p, p)) 40064 40000 ∧ Fr = ofL [(2, vr 0), (3, vr 1), (11, vd (.row t 3 ((p :: l).length - 1) ((flatD dyP (p :: l)).drop (1 * 3)))), (12, vi (((p :: l).length - 1 : Nat))), (13, vi ((k : Nat)))] ∧ H = [.box 55 [.d (.val (.bool false)), .d (.val (.slice none 0 0)), .d (.val (.int .i64 0)), .d (.val (.bool false)), .d (.val (.slice none 0 0)), .d (.val (.int .i64 0))], .box 55 ((dIw false ((l.take (k)).foldl spanS (p, p))).map C.d)]) (n0 := l.length) ⟨0, Nat.zero_le _, rfl, .pt hp, rfl, rfl⟩ ?_
  rintro n Fr H ⟨k, hk, rfl, hS, rfl, rfl⟩
  by_cases hlt : k < l.length
  case pos =>
    obtain ⟨x, hx⟩ : ∃ x, l[k]? = some x := ⟨_, List.getElem?_eq_getElem hlt⟩
    have hxs := hs x (List.mem_cons_of_mem _ (List.mem_of_getElem? hx))
    have hxl := Nat.le_trans (Nat.le_trans (hxs.lenN 1252 (by decide)) (show 1252 ≤ 40000 by decide)) (show 40000 ≤ 50000 by decide)
    have a1 := hS.s1
    have a2 := hS.s2
    have a1l := Nat.le_trans (Nat.le_trans (a1.lenN 1252 (by decide)) (show 1252 ≤ 40000 by decide)) (show 40000 ≤ 50000 by decide)
    have a2l := Nat.le_trans (Nat.le_trans (a2.lenN 1252 (by decide)) (show 1252 ≤ 40000 by decide)) (show 40000 ≤ 50000 by decide)
    have hnx : spanS ((l.take (k)).foldl spanS (p, p)) x = ((l.take (k + 1)).foldl spanS (p, p)) := by rw [List.take_add_one, hx, Option.toList_some, List.foldl_append]; rfl
    have hIS : IwS (spanS ((l.take (k)).foldl spanS (p, p)) x) 40064 40000 := ⟨Sm.min a1 hxs, Sm.max a2 hxs, by show gv (qMin _ x) ≤ gv (qMax _ x); rw [gv_min a1.le hxs.le, gv_max a2.le hxs.le]; have := hS.le; omega⟩
    rw [hnx] at hIS
    have hxd : (((flatD dyP (p :: l)).drop (1 * 3)).drop (k * 3)).take 3 = dyP x := by rw [List.drop_drop, show 1 * 3 + k * 3 = (k + 1) * 3 by omega]; exact dyP_at (l := p :: l) (k := k + 1) (by rw [List.getElem?_cons_succ]; exact hx)
    generalize hT : ((l.take (k)).foldl spanS (p, p)) = T at *
    have MN := (dmin_cv TabAt false false T.1.1 T.1.2 x.1 x.2 a1.ok hxs.ok a1l hxl).cv
    have MX := (dmax_cv TabAt false false T.2.1 T.2.2 x.1 x.2 a2.ok hxs.ok a2l hxl).cv
    repeat' (with_reducible first | apply qa | apply qb | apply qc | apply qd | apply qe | apply qf | apply qg | apply qh | apply qi | apply qj | apply qk | apply ql rfl | apply qm rfl | apply qn rfl | apply Je | (refine Tx 3 ?_; refine Jo xLt ?_) | (refine Tx 4 ?_; refine Jo (xIr ts_s_Dyadic (hxd)) ?_; refine Jo (xLa tk_Dyadic) ?_; refine Jn (xAl tz_Dyadic) ?_; refine Js (xSk tk_Dyadic) ?_) | (refine cw_part (id := 5) 9 mixed (by kernel_rfl) ?_; dsimp only [List.take, List.drop]; refine Ko (xFa tf_Interval0 tk_Dyadic) ?_; refine Ko (xLa tk_Dyadic) ?_; refine Ko (xLa tk_Dyadic) ?_; refine Ko (xCl Tryz.func131 (MN)) ?_; refine Ko (xFa tf_Interval1 tk_Dyadic) ?_; refine Ko (xLa tk_Dyadic) ?_; refine Ko (xLa tk_Dyadic) ?_; refine Ko (xCl Tryz.func132 (MX)) ?_; refine Ko (xFa tf_Interval0 tk_Dyadic) ?_; refine Ke ?_; refine Js (xSk tk_Dyadic) ?_; refine Jo (xFa tf_Interval1 tk_Dyadic) ?_; refine Js (xSk tk_Dyadic) ?_) | (refine Tx 6 ?_; refine Jo xAd ?_; refine Jm ?_))
    refine ⟨_, _, wk_go _ 2 ?_ ?_ ?_, _, ?_, k + 1, by omega, rfl, hIS, rfl, rfl⟩
    · rw [← hnx]; rfl
    · exact mB rfl rfl
    · exact ⟨bel_lit rfl, bel_D, trivial⟩
    · omega
  obtain rfl : k = l.length := by omega
  clear hlt hk
  rw [List.take_length]
  repeat' (with_reducible first | apply qa | apply qb | apply qc | apply qd | apply qe | apply qf | apply qg | apply qh | apply qi | apply qj | apply qk | apply ql rfl | apply qm rfl | apply qn rfl | apply Je | (refine Tx 3 ?_; refine Jo xLt ?_) | (refine Tx 7 ?_; refine Jo (xLa tk_Interval) ?_; refine Js (xSk tk_Interval) ?_))
  exact ret_q rfl (.cons_ (rvJ tk_Interval rfl) .nil_)
theorem riints_cv (x y : Int) (hx : -9223372036854775807 ≤ x ∧ x < 9223372036854775808) (hy : -9223372036854775807 ≤ y ∧ y < 9223372036854775808) : CV Tryz.prog TabAt 40 [aI x, aI y] [aIw false (spanL [(x, 0), (y, 0)])] := by
  refine cvz Tryz.func40 Tryz.ntmps40 ?_
  have O1 := (of_cv (G := TabAt) x (by omega) (by omega)).cv
  have O2 := (of_cv (G := TabAt) y (by omega) (by omega)).cv
  have s1 : Sm (x, 0) 40064 40000 := sm_int x (by omega)
  have s2 : Sm (y, 0) 40064 40000 := sm_int y (by omega)
  have SP := rispan_cv true [(x, 0), (y, 0)] (by simp) (fun p hp => by simp only [List.mem_cons, List.not_mem_nil, or_false] at hp; rcases hp with rfl | rfl <;> assumption) (Nat.le_of_ble_eq_true rfl)
  repeat' (with_reducible first | apply qa | apply qb | apply qc | apply qd | apply qe | apply qf | apply qg | apply qh | apply qi | apply qj | apply qk | apply ql rfl | apply qm rfl | apply qn rfl | apply Je | (refine Tx 0 ?_; refine Jn (xAl tz_Interval) ?_) | (refine Tx 1 ?_; refine Jm ?_; refine Jo (by first | exact xCl Tryz.func24 (O1) | exact xCl Tryz.func24 (O2)) ?_; refine Jm ?_; refine Jo (by first | exact xCl Tryz.func24 (O1) | exact xCl Tryz.func24 (O2)) ?_; refine Jn (by exact ok_build2 rfl ts_s_Dyadic tz_Dyadic rfl rfl rfl rfl (by decide) (by decide)) ?_; refine Jo (xCl Tryz.func65 (SP)) ?_; refine Js (xSk tk_Interval) ?_))
  exact ret_q rfl (.cons_ (rvJ tk_Interval rfl) .nil_)
theorem riaddR_cv (r s : Rv) (b : Iq) (hr : RvL r) (hs : RvL s) (h : IwS (nrmR r s) 20000 20000) (k : IwS b 20000 20000) : CV Tryz.prog TabAt 64 [.agg (dIr false (r, s)), aIw false b] [aIw false (iAdd (nrmR r s) b)] := by
  refine cvz Tryz.func64 Tryz.ntmps64 ?_
  have NR := rinorm_cv r s hr hs
  have h1 := h.s1
  have h2 := h.s2
  have hl := Nat.le_trans (h1.l4) (show 40000 ≤ 50000 by decide)
  have hm := Nat.le_trans (h2.l4) (show 40000 ≤ 50000 by decide)
  have k1 := k.s1
  have k2 := k.s2
  have kl := Nat.le_trans (k1.l4) (show 40000 ≤ 50000 by decide)
  have km := Nat.le_trans (k2.l4) (show 40000 ≤ 50000 by decide)
  generalize nrmR r s = a at *
  have AB := rinorm_iw b k (by decide)
  have C1 := (dadd_cv TabAt false false a.1.1 a.1.2 b.1.1 b.1.2 h1.ok k1.ok hl kl).cv
  have C2 := (dadd_cv TabAt false false a.2.1 a.2.2 b.2.1 b.2.2 h2.ok k2.ok hm km).cv
  have hs := h.add k (by decide)
  have s1 := Sm.more (n' := 40064) (d' := 40000) hs.s1 (by decide) (by decide)
  have s2 := Sm.more (n' := 40064) (d' := 40000) hs.s2 (by decide) (by decide)
  have SP := rispan_cv true [qSum a.1 b.1, qSum a.2 b.2] (by simp) (fun p hp => by simp only [List.mem_cons, List.not_mem_nil, or_false] at hp; rcases hp with rfl | rfl <;> assumption) (Nat.le_of_ble_eq_true rfl)
  rw [add_span h k (by decide)] at SP
  repeat' (with_reducible first | apply qa | apply qb | apply qc | apply qd | apply qe | apply qf | apply qg | apply qh | apply qi | apply qj | apply qk | apply ql rfl | apply qm rfl | apply qn rfl | apply Je | (refine Tx 0 ?_; refine Jn xBo ?_; refine Jn xBo ?_; refine Jn (xAl tz_Interval) ?_) | (refine cw_part (id := 1) 4 mixed (by kernel_rfl) ?_; dsimp only [List.take, List.drop]; refine Ko (xLa tk_Interval) ?_; refine Ko (xCl Tryz.func72 (NR)) ?_; refine Ko (xLa tk_Interval) ?_; refine Ko (xCl Tryz.func72 (AB)) ?_; refine Ke ?_; refine Js (xSk tk_Interval) ?_; refine Js (xSk tk_Interval) ?_) | (refine cw_part (id := 2) 12 mixed (by kernel_rfl) ?_; dsimp only [List.take, List.drop]; refine Ko (xFa tf_Interval0 tk_Dyadic) ?_; refine Ko (xLa tk_Dyadic) ?_; refine Ko (xFa tf_Interval0 tk_Dyadic) ?_; refine Ko (xLa tk_Dyadic) ?_; refine Ko (by first | exact xCl Tryz.func34 (C1) | exact xCl Tryz.func34 (C2)) ?_; refine Ko (xFa tf_Interval1 tk_Dyadic) ?_; refine Ko (xLa tk_Dyadic) ?_; refine Ko (xFa tf_Interval1 tk_Dyadic) ?_; refine Ko (xLa tk_Dyadic) ?_; refine Ko (by first | exact xCl Tryz.func34 (C1) | exact xCl Tryz.func34 (C2)) ?_; refine Kn (by exact ok_build2 rfl ts_s_Dyadic tz_Dyadic rfl rfl rfl rfl (by decide) (by decide)) ?_; refine Ko (xCl Tryz.func65 (SP)) ?_; refine Ke ?_; refine Js (xSk tk_Interval) ?_))
  exact ret_q rfl (.cons_ (rvJ tk_Interval rfl) .nil_)
theorem riwiden_cv (r s : Rv) (w : Pq) (hr : RvL r) (hs : RvL s) (h : IwS (nrmR r s) 20000 20000) (hw : Sm w 20000 20000) (w0 : 0 ≤ w.1) : CV Tryz.prog TabAt 22 [.agg (dIr false (r, s)), aDy false w.1 w.2] [aIw false (iAdd (nrmR r s) (spanL [w, qNeg w])), aI 0] := by
  refine cvz Tryz.func22 Tryz.ntmps22 ?_
  have hwl := hw.l4
  have SG := dsign_cv w.1 w.2 hw.ok hwl
  have g0 : ¬ sgI w.1 < 0 := by unfold sgI; (repeat' split) <;> omega
  generalize sgI w.1 = g at *
  have NG := (dneg_cv TabAt false w.1 w.2 hw.ok (Nat.le_trans hwl (by decide))).cv
  have s1 := Sm.more (n' := 40064) (d' := 40000) hw (by decide) (by decide)
  have s2 : Sm (qNeg w) 40064 40000 := hw.neg.more (by decide) (by decide)
  have SP := rispan_cv true [w, qNeg w] (by simp) (fun p hp => by simp only [List.mem_cons, List.not_mem_nil, or_false] at hp; rcases hp with rfl | rfl <;> assumption) (Nat.le_of_ble_eq_true rfl)
  obtain ⟨e1, e2, e3⟩ := spanL_two hw hw.neg
  have AD := riaddR_cv r s (spanL [w, qNeg w]) hr hs h e3
  repeat' (with_reducible first | apply qa | apply qb | apply qc | apply qd | apply qe | apply qf | apply qg | apply qh | apply qi | apply qj | apply qk | apply ql rfl | apply qm rfl | apply qn rfl | apply Je | (refine Tx 0 ?_; refine Jn xBo ?_; refine Jn xBo ?_; refine Jn (xAl tz_Interval) ?_; refine Ja ?_) | (refine Tx 1 ?_; refine Jo (xLa tk_Dyadic) ?_; refine Jo (xCl Tryz.func63 (SG)) ?_; refine Jo xLt ?_) | (refine cw_part (id := 3) 7 mixed (by kernel_rfl) ?_; dsimp only [List.take, List.drop]; refine Ko (xLa tk_Interval) ?_; refine Ko (xLa tk_Dyadic) ?_; refine Ko (xLa tk_Dyadic) ?_; refine Ko (xCl Tryz.func66 (NG)) ?_; refine Kn (by exact ok_build2 rfl ts_s_Dyadic tz_Dyadic rfl rfl rfl rfl (by decide) (by decide)) ?_; refine Ko (xCl Tryz.func65 (SP)) ?_; refine Ko (xCl Tryz.func64 (AD)) ?_; refine Ke ?_; refine Js (xSk tk_Interval) ?_; refine Ja ?_))
  exact ret_q rfl (.cons_ (rvJ tk_Interval rfl) (.cons_ (rv_i rfl rfl) .nil_))
end Go.Proofs.YtilbehepmkpdbaaGreatDoor
