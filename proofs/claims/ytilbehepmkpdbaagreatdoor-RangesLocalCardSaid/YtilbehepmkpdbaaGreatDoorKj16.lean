/- What the proofs of this claim share, part 16. No conditions. -/
import Derived.Test.YtilbehepmkpdbaaGreatDoorKj15
import Derived.Test.YtilbehepmkpdbaaGreatDoorKj6
import Derived.Test.YtilbehepmkpdbaaGreatDoorKj12
import Derived.Test.YtilbehepmkpdbaaGreatDoorKj14
import Derived.Test.YtilbehepmkpdbaaGreatDoorKj11
import Derived.Test.YtilbehepmkpdbaaGreatDoorKj10
import Derived.Test.YtilbehepmkpdbaaGreatDoorKj8
import Derived.Tactics2
import Derived.Deep.RegionHeld3
set_option maxRecDepth 100000
set_option maxHeartbeats 8000000
set_option linter.unusedVariables false
set_option linter.unusedSimpArgs false
set_option linter.unusedSectionVars false
namespace Go.Proofs.YtilbehepmkpdbaaGreatDoor
open Go.RowKit
theorem nf_uniq {p q : Int × Nat} {X : Int} {Q : Nat} (h1 : Nf p.1 p.2) (h2 : Nf q.1 q.2) (e1 : p.1 * 2 ^ Q = X * 2 ^ p.2) (e2 : q.1 * 2 ^ Q = X * 2 ^ q.2) : p = q := by
  have key : ∀ p q : Int × Nat, Nf q.1 q.2 → p.1 * 2 ^ Q = X * 2 ^ p.2 → q.1 * 2 ^ Q = X * 2 ^ q.2 → p.2 ≤ q.2 → q.1 = p.1 * 2 ^ (q.2 - p.2) := fun p q _ e1 e2 hle => by
    have pw : (2 : Int) ^ Q ≠ 0 := Int.ne_of_gt (Int.pow_pos (by decide))
    refine Int.eq_of_mul_eq_mul_right pw ?_
    rw [e2, Int.mul_right_comm, e1, Int.mul_assoc, ← Int.pow_add]
    congr 2; omega
  have fin : ∀ p q : Int × Nat, Nf q.1 q.2 → p.1 * 2 ^ Q = X * 2 ^ p.2 → q.1 * 2 ^ Q = X * 2 ^ q.2 → p.2 ≤ q.2 → p = q := fun p q hq e1 e2 hle => by
    have h := key p q hq e1 e2 hle
    by_cases hd : p.2 = q.2
    · rw [hd, Nat.sub_self] at h
      refine Prod.ext ?_ hd
      rw [h]; show p.1 = p.1 * 1; omega
    · exfalso
      have ho := hq.2 (by omega)
      obtain ⟨k, hk⟩ : ∃ k, q.2 - p.2 = k + 1 := ⟨q.2 - p.2 - 1, by omega⟩
      rw [hk, Int.pow_succ, ← Int.mul_assoc] at h
      omega
  rcases Nat.le_total p.2 q.2 with h | h
  · exact fin p q h2 e1 e2 h
  · exact (fin q p h1 e2 e1 h).symm
theorem at_grid (p : Int × Nat) {Q : Nat} (h : p.2 ≤ Q) : p.1 * 2 ^ Q = p.1 * 2 ^ (Q - p.2) * 2 ^ p.2 := by
  rw [Int.mul_assoc, ← Int.pow_add]
  congr 2; omega
theorem dy_zero : aDy false 0 0 = .agg [.val (.bool false), .row false 1 0 [], .val (.int .i64 0)] := by
  unfold aDy dDy wds
  rw [show (0 : Int).natAbs = 0 from rfl, canon_zero]
  rfl
theorem rv_z {P : Program} {F : Frm} {H : List Ob} {t : Tmp} {ty ty' id k : Nat} (hk : TyK P ty true k) (hi : 3 = k) (hF : F t = .one (.ref id 0 none) := by with_unfolding_all exact rfl) (hH : H[id]? = some (.box ty' [.d (.val (.bool false)), .d (.val (.slice none 0 0)), .d (.val (.int .i64 0))]) := by with_unfolding_all exact rfl) : RV P F H (.cell t ty) (.agg [.val (.bool false), .row false 1 0 [], .val (.int .i64 0)]) := by
  obtain ⟨⟨dd, hu, hd⟩, hz⟩ := hk
  exact .cellA hF hH hu hd (by rw [hz, ← hi]; rfl) (.cons_ (.d fun _ => .val _) (.cons_ .nil (.cons_ (.d fun _ => .val _) .nil_)))
def tickV (y : Bk) (l : List (Int × Nat)) (ps : List Prt) (ins : List Int) : Int × Nat :=
  if y.kind = 0 then dyShift (ins[((y.args[0]?).getD 0).toNat]?.getD 0) 0 (-((ps[((y.args[0]?).getD 0).toNat]?.map Prt.fr).getD 0)) else blkD y l
theorem value_cv (n e : Int) : CV Tryz.prog TabAt 109 [.agg [dI n, dI e]] [aDy false (if scOk n e then dyShift n 0 e else (0, 0)).1 (if scOk n e then dyShift n 0 e else (0, 0)).2, aE (if scOk n e then 0 else 3)] := by
  refine cvz Tryz.func109 Tryz.ntmps109 ?_
  by_cases hs : scOk n e
  case pos =>
    rw [if_pos hs, if_pos hs]
    obtain ⟨s1, s2, s3, s4⟩ := hs
    have OF := pdof_cv n (by omega) (by omega)
    have SH := pdshift_cv n 0 e ⟨by decide, fun h => absurd rfl h⟩ (Nat.le_trans (canon_len_le (k := 2) (by omega)) (by decide)) (by omega)
    repeat' (with_reducible first | apply qa | apply qb | apply qc | apply qd | apply qe | apply qf | apply qg | apply qh | apply qi | apply qj | apply qk | apply ql rfl | apply qm rfl | apply qn rfl | apply Je | (refine Tx 0 ?_; refine Jn xBo ?_; refine Jn (xAl tz_Dyadic) ?_; refine Ja ?_) | (refine Tx 1 ?_; refine Jo (xFa tf_Scalar0 tk_int) ?_; refine Jo (xLd tk_int) ?_; refine Jo xLe ?_; refine Jm ?_; (first | iterate 3 refine Jd ?_ | (refine Jy (xFa tf_Scalar0 tk_int) ?_; refine Jy (xLd tk_int) ?_; refine Jy xGe ?_)); refine Jo xPk ?_; refine Jm ?_; (first | iterate 3 refine Jd ?_ | (refine Jy (xFa tf_Scalar1 tk_int) ?_; refine Jy (xLd tk_int) ?_; refine Jy xLt ?_)); refine Jo xPk ?_; refine Jm ?_; (first | iterate 3 refine Jd ?_ | (refine Jy (xFa tf_Scalar1 tk_int) ?_; refine Jy (xLd tk_int) ?_; refine Jy xGt ?_)); refine Jo xPk ?_) | (refine cw_part (id := 3) 6 mixed (by kernel_rfl) ?_; dsimp only [List.take, List.drop]; refine Ko (xFa tf_Scalar0 tk_int) ?_; refine Ko (xLd tk_int) ?_; refine Ko (xCl Tryz.func100 (OF)) ?_; refine Ko (xFa tf_Scalar1 tk_int) ?_; refine Ko (xLd tk_int) ?_; refine Ko (xCl Tryz.func90 (SH)) ?_; refine Ke ?_; refine Js (xSk tk_Dyadic) ?_; refine Ja ?_))
    exact ret_q rfl (.cons_ (rvW tk_Dyadic rfl) (.cons_ (rv_e0 rfl rfl) .nil_))
  rw [if_neg hs, if_neg hs, dy_zero]
  unfold scOk at hs
  by_cases c : n ≤ -2147483648
  case pos =>
    repeat' (with_reducible first | apply qa | apply qb | apply qc | apply qd | apply qe | apply qf | apply qg | apply qh | apply qi | apply qj | apply qk | apply ql rfl | apply qm rfl | apply qn rfl | apply Je | (refine Tx 0 ?_; refine Jn xBo ?_; refine Jn (xAl tz_Dyadic) ?_; refine Ja ?_) | (refine Tx 1 ?_; refine Jo (xFa tf_Scalar0 tk_int) ?_; refine Jo (xLd tk_int) ?_; refine Jo xLe ?_; refine Jm ?_; (first | iterate 3 refine Jd ?_ | (refine Jy (xFa tf_Scalar0 tk_int) ?_; refine Jy (xLd tk_int) ?_; refine Jy xGe ?_)); refine Jo xPk ?_; refine Jm ?_; (first | iterate 3 refine Jd ?_ | (refine Jy (xFa tf_Scalar1 tk_int) ?_; refine Jy (xLd tk_int) ?_; refine Jy xLt ?_)); refine Jo xPk ?_; refine Jm ?_; (first | iterate 3 refine Jd ?_ | (refine Jy (xFa tf_Scalar1 tk_int) ?_; refine Jy (xLd tk_int) ?_; refine Jy xGt ?_)); refine Jo xPk ?_) | (refine Tx 2 ?_; refine Jo (by exact ok_build rfl tb_Dyadic rfl rfl) ?_; refine Jo (xMi Tryz.underlying48) ?_; refine Js (xSk tk_Dyadic) ?_; refine Ja ?_))
    exact ret_q rfl (.cons_ (rv_z tk_Dyadic rfl) (.cons_ (.tmp (.one (cexp_d rfl fun _ => .val _))) .nil_))
  have ca := c
  clear c
  by_cases c : 2147483648 ≤ n
  case pos =>
    repeat' (with_reducible first | apply qa | apply qb | apply qc | apply qd | apply qe | apply qf | apply qg | apply qh | apply qi | apply qj | apply qk | apply ql rfl | apply qm rfl | apply qn rfl | apply Je | (refine Tx 0 ?_; refine Jn xBo ?_; refine Jn (xAl tz_Dyadic) ?_; refine Ja ?_) | (refine Tx 1 ?_; refine Jo (xFa tf_Scalar0 tk_int) ?_; refine Jo (xLd tk_int) ?_; refine Jo xLe ?_; refine Jm ?_; (first | iterate 3 refine Jd ?_ | (refine Jy (xFa tf_Scalar0 tk_int) ?_; refine Jy (xLd tk_int) ?_; refine Jy xGe ?_)); refine Jo xPk ?_; refine Jm ?_; (first | iterate 3 refine Jd ?_ | (refine Jy (xFa tf_Scalar1 tk_int) ?_; refine Jy (xLd tk_int) ?_; refine Jy xLt ?_)); refine Jo xPk ?_; refine Jm ?_; (first | iterate 3 refine Jd ?_ | (refine Jy (xFa tf_Scalar1 tk_int) ?_; refine Jy (xLd tk_int) ?_; refine Jy xGt ?_)); refine Jo xPk ?_) | (refine Tx 2 ?_; refine Jo (by exact ok_build rfl tb_Dyadic rfl rfl) ?_; refine Jo (xMi Tryz.underlying48) ?_; refine Js (xSk tk_Dyadic) ?_; refine Ja ?_))
    exact ret_q rfl (.cons_ (rv_z tk_Dyadic rfl) (.cons_ (.tmp (.one (cexp_d rfl fun _ => .val _))) .nil_))
  have cb := c
  clear c
  by_cases c : e < -62
  case pos =>
    repeat' (with_reducible first | apply qa | apply qb | apply qc | apply qd | apply qe | apply qf | apply qg | apply qh | apply qi | apply qj | apply qk | apply ql rfl | apply qm rfl | apply qn rfl | apply Je | (refine Tx 0 ?_; refine Jn xBo ?_; refine Jn (xAl tz_Dyadic) ?_; refine Ja ?_) | (refine Tx 1 ?_; refine Jo (xFa tf_Scalar0 tk_int) ?_; refine Jo (xLd tk_int) ?_; refine Jo xLe ?_; refine Jm ?_; (first | iterate 3 refine Jd ?_ | (refine Jy (xFa tf_Scalar0 tk_int) ?_; refine Jy (xLd tk_int) ?_; refine Jy xGe ?_)); refine Jo xPk ?_; refine Jm ?_; (first | iterate 3 refine Jd ?_ | (refine Jy (xFa tf_Scalar1 tk_int) ?_; refine Jy (xLd tk_int) ?_; refine Jy xLt ?_)); refine Jo xPk ?_; refine Jm ?_; (first | iterate 3 refine Jd ?_ | (refine Jy (xFa tf_Scalar1 tk_int) ?_; refine Jy (xLd tk_int) ?_; refine Jy xGt ?_)); refine Jo xPk ?_) | (refine Tx 2 ?_; refine Jo (by exact ok_build rfl tb_Dyadic rfl rfl) ?_; refine Jo (xMi Tryz.underlying48) ?_; refine Js (xSk tk_Dyadic) ?_; refine Ja ?_))
    exact ret_q rfl (.cons_ (rv_z tk_Dyadic rfl) (.cons_ (.tmp (.one (cexp_d rfl fun _ => .val _))) .nil_))
  have cc := c
  clear c
  have cd : 30 < e := by omega
  repeat' (with_reducible first | apply qa | apply qb | apply qc | apply qd | apply qe | apply qf | apply qg | apply qh | apply qi | apply qj | apply qk | apply ql rfl | apply qm rfl | apply qn rfl | apply Je | (refine Tx 0 ?_; refine Jn xBo ?_; refine Jn (xAl tz_Dyadic) ?_; refine Ja ?_) | (refine Tx 1 ?_; refine Jo (xFa tf_Scalar0 tk_int) ?_; refine Jo (xLd tk_int) ?_; refine Jo xLe ?_; refine Jm ?_; (first | iterate 3 refine Jd ?_ | (refine Jy (xFa tf_Scalar0 tk_int) ?_; refine Jy (xLd tk_int) ?_; refine Jy xGe ?_)); refine Jo xPk ?_; refine Jm ?_; (first | iterate 3 refine Jd ?_ | (refine Jy (xFa tf_Scalar1 tk_int) ?_; refine Jy (xLd tk_int) ?_; refine Jy xLt ?_)); refine Jo xPk ?_; refine Jm ?_; (first | iterate 3 refine Jd ?_ | (refine Jy (xFa tf_Scalar1 tk_int) ?_; refine Jy (xLd tk_int) ?_; refine Jy xGt ?_)); refine Jo xPk ?_) | (refine Tx 2 ?_; refine Jo (by exact ok_build rfl tb_Dyadic rfl rfl) ?_; refine Jo (xMi Tryz.underlying48) ?_; refine Js (xSk tk_Dyadic) ?_; refine Ja ?_))
  exact ret_q rfl (.cons_ (rv_z tk_Dyadic rfl) (.cons_ (.tmp (.one (cexp_d rfl fun _ => .val _))) .nil_))
theorem number_cv2 (n e : Int) (hs : scOk n e) : CV Tryz.prog TabAt 94 [.agg [dI n, dI e]] [aDy false (dyShift n 0 e).1 (dyShift n 0 e).2] := by
  refine cvz Tryz.func94 Tryz.ntmps94 ?_
  have VA := value_cv n e
  rw [if_pos hs, if_pos hs] at VA
  repeat' (with_reducible first | apply qa | apply qb | apply qc | apply qd | apply qe | apply qf | apply qg | apply qh | apply qi | apply qj | apply qk | apply ql rfl | apply qm rfl | apply qn rfl | apply Je | (refine Tx 0 ?_; refine Jn xBo ?_; refine Jn (xAl tz_Dyadic) ?_) | (refine Tx 1 ?_; refine Jo (xLa tk_Scalar) ?_; refine Jo (xCl Tryz.func109 (VA)) ?_; refine Jo xMt ?_; refine Jo (by exact ok_exA rfl rfl rfl) ?_; refine Jo xEx ?_; refine Jn (xAl tz_Dyadic) ?_; refine Js (xSk tk_Dyadic) ?_; refine Ja ?_) | (refine Tx 2 ?_; refine Jo (xLa tk_Dyadic) ?_; refine Js (xSk tk_Dyadic) ?_))
  exact ret_q rfl (.cons_ (rvW tk_Dyadic rfl) .nil_)
def GQ : Nat := 65536
def gv (p : Int × Nat) : Int := p.1 * 2 ^ (GQ - p.2)
theorem two_ne (n : Nat) : (2 : Int) ^ n ≠ 0 := Int.ne_of_gt (Int.pow_pos (by decide))
theorem two_pos (n : Nat) : (0 : Int) < 2 ^ n := Int.pow_pos (by decide)
theorem gv_grid {p : Int × Nat} (h : p.2 ≤ GQ) : p.1 * 2 ^ GQ = gv p * 2 ^ p.2 := at_grid p h
theorem Nf.le {x : Int} {d : Nat} (h : Nf x d) : d ≤ GQ := h.1
theorem gv_nf {m : Int} {d : Nat} (h : d ≤ GQ) : gv (nf m d) = m * 2 ^ (GQ - d) := by
  have e := nf_eq m d
  have l := nf_le m d
  refine Int.eq_of_mul_eq_mul_right (two_ne d) ?_
  unfold gv
  rw [Int.mul_right_comm, e, Int.mul_assoc, Int.mul_assoc, ← Int.pow_add, ← Int.pow_add]
  congr 2
  omega
theorem gv_neg (p : Int × Nat) : gv (-p.1, p.2) = -gv p := Int.neg_mul ..
theorem gv_zero : gv (0, 0) = 0 := Int.zero_mul _
theorem gv_abs (p : Int × Nat) : gv (((p.1.natAbs : Nat) : Int), p.2) = ((gv p).natAbs : Int) := by
  unfold gv
  rw [Int.natAbs_mul, Int.natCast_mul, Int.natAbs_pow]
  congr 1
theorem gv_sum {p q : Int × Nat} (hp : p.2 ≤ GQ) (hq : q.2 ≤ GQ) : gv (dySum p.1 p.2 q.1 q.2) = gv p + gv q := by
  unfold dySum
  rw [gv_nf (by omega), Int.add_mul, Int.mul_assoc, Int.mul_assoc, ← Int.pow_add, ← Int.pow_add, show max p.2 q.2 - p.2 + (GQ - max p.2 q.2) = GQ - p.2 by omega, show max p.2 q.2 - q.2 + (GQ - max p.2 q.2) = GQ - q.2 by omega]
  rfl
theorem gv_mul {p q : Int × Nat} (h : p.2 + q.2 ≤ GQ) : gv (dyMul p.1 p.2 q.1 q.2) * 2 ^ GQ = gv p * gv q := by
  unfold dyMul
  rw [gv_nf h]
  unfold gv
  have e1 : p.1 * q.1 * 2 ^ (GQ - (p.2 + q.2)) * 2 ^ GQ = p.1 * q.1 * 2 ^ (GQ - (p.2 + q.2) + GQ) := by rw [Int.mul_assoc, ← Int.pow_add]
  have e2 : p.1 * 2 ^ (GQ - p.2) * (q.1 * 2 ^ (GQ - q.2)) = p.1 * q.1 * 2 ^ (GQ - p.2 + (GQ - q.2)) := by rw [Int.pow_add]; simp only [Int.mul_assoc, Int.mul_left_comm, Int.mul_comm]
  rw [e1, e2]
  congr 2
  omega
theorem gv_cmp {p q : Int × Nat} (hp : p.2 ≤ GQ) (hq : q.2 ≤ GQ) : dyCmp p.1 p.2 q.1 q.2 = sgI (gv p - gv q) := cmp_sgn (gv_grid hp) (gv_grid hq)
theorem gv_inj {p q : Int × Nat} (hp : Nf p.1 p.2) (hq : Nf q.1 q.2) (h : gv p = gv q) : p = q := nf_uniq hp hq (gv_grid hp.le) (by rw [h]; exact gv_grid hq.le)
theorem cmp_le {p q : Int × Nat} (hp : p.2 ≤ GQ) (hq : q.2 ≤ GQ) : dyCmp p.1 p.2 q.1 q.2 ≤ 0 ↔ gv p ≤ gv q := by
  rw [gv_cmp hp hq, sgI_three]
  by_cases h1 : gv p < gv q
  · rw [if_pos h1]; exact ⟨fun _ => Int.le_of_lt h1, fun _ => by decide⟩
  · rw [if_neg h1]
    by_cases h2 : gv q < gv p
    · rw [if_pos h2]; exact ⟨fun h => absurd h (by decide), fun h => by omega⟩
    · rw [if_neg h2]; exact ⟨fun _ => by omega, fun _ => by decide⟩
theorem cmp_eq {p q : Int × Nat} (hp : p.2 ≤ GQ) (hq : q.2 ≤ GQ) : dyCmp p.1 p.2 q.1 q.2 = 0 ↔ gv p = gv q := by
  rw [gv_cmp hp hq, sgI_three]
  by_cases h1 : gv p < gv q
  · rw [if_pos h1]; exact ⟨fun h => absurd h (by decide), fun h => by omega⟩
  · rw [if_neg h1]
    by_cases h2 : gv q < gv p
    · rw [if_pos h2]; exact ⟨fun h => absurd h (by decide), fun h => by omega⟩
    · rw [if_neg h2]; exact ⟨fun _ => by omega, fun _ => rfl⟩
theorem cmp_ge {p q : Int × Nat} (hp : p.2 ≤ GQ) (hq : q.2 ≤ GQ) : 0 ≤ dyCmp p.1 p.2 q.1 q.2 ↔ gv q ≤ gv p := by
  rw [gv_cmp hp hq, sgI_three]
  by_cases h1 : gv p < gv q
  · rw [if_pos h1]; exact ⟨fun h => absurd h (by decide), fun h => by omega⟩
  · rw [if_neg h1]
    by_cases h2 : gv q < gv p
    · rw [if_pos h2]; exact ⟨fun _ => by omega, fun _ => by decide⟩
    · rw [if_neg h2]; exact ⟨fun _ => by omega, fun _ => by decide⟩
theorem min_is {p q : Int × Nat} (hp : p.2 ≤ GQ) (hq : q.2 ≤ GQ) : dyMin p.1 p.2 q.1 q.2 = if gv q < gv p then q else p := by
  unfold dyMin
  by_cases h : gv q < gv p
  · rw [if_pos h, if_pos (Int.not_le.1 fun hc => by have := (cmp_le hp hq).1 hc; omega)]
  · rw [if_neg h, if_neg (by have := (cmp_le hp hq).2 (by omega); omega)]
theorem max_is {p q : Int × Nat} (hp : p.2 ≤ GQ) (hq : q.2 ≤ GQ) : dyMax p.1 p.2 q.1 q.2 = if gv p < gv q then q else p := by
  unfold dyMax
  by_cases h : gv p < gv q
  · rw [if_pos h, if_pos (Int.not_le.1 fun hc => by have := (cmp_ge hp hq).1 hc; omega)]
  · rw [if_neg h, if_neg (by have := (cmp_ge hp hq).2 (by omega); omega)]
theorem gv_min {p q : Int × Nat} (hp : p.2 ≤ GQ) (hq : q.2 ≤ GQ) : gv (dyMin p.1 p.2 q.1 q.2) = min (gv p) (gv q) := by
  rw [min_is hp hq]
  split <;> omega
theorem gv_max {p q : Int × Nat} (hp : p.2 ≤ GQ) (hq : q.2 ≤ GQ) : gv (dyMax p.1 p.2 q.1 q.2) = max (gv p) (gv q) := by
  rw [max_is hp hq]
  split <;> omega
theorem gv_shiftU {p : Int × Nat} {n : Nat} (hp : p.2 ≤ GQ) (hn : n ≤ 65536) : gv (dyShift p.1 p.2 (n : Int)) = gv p * 2 ^ n := by
  unfold dyShift
  rw [if_neg (by omega), gv_nf hp, show (max (-65536) (min ((n : Nat) : Int) 65536)).toNat = n by omega]
  exact Int.mul_right_comm ..
theorem gv_shiftD {p : Int × Nat} {n : Nat} (hp : p.2 + n ≤ GQ) (hn : n ≤ 65536) : gv (dyShift p.1 p.2 (-(n : Int))) * 2 ^ n = gv p := by
  unfold dyShift
  by_cases h0 : n = 0
  · subst h0
    rw [if_neg (by omega), gv_nf (by omega)]
    show p.1 * 2 ^ (max (-65536) (min (-((0 : Nat) : Int)) 65536)).toNat * 2 ^ (GQ - p.2) * 2 ^ 0 = gv p
    rw [show (max (-65536) (min (-((0 : Nat) : Int)) 65536)).toNat = 0 by omega, Int.pow_zero, Int.mul_one, Int.mul_one]
    rfl
  · rw [if_pos (by omega), gv_nf (by omega), show (-(max (-65536) (min (-(n : Int)) 65536))).toNat = n by omega, Int.mul_assoc, ← Int.pow_add]
    unfold gv
    congr 2
    omega
theorem gv_int (n : Int) : gv (n, 0) = n * 2 ^ GQ := rfl
theorem gv_floor {p : Int × Nat} {den : Nat} (hp : p.2 ≤ GQ) (hd : den ≤ GQ) : gv (dyFloor p.1 p.2 den) ≤ gv p ∧ gv p < gv (dyFloor p.1 p.2 den) + 2 ^ (GQ - den) ∧ ∃ k : Int, gv (dyFloor p.1 p.2 den) = k * 2 ^ (GQ - den) := by
  unfold dyFloor
  by_cases h : p.2 ≤ den
  · rw [if_pos h]
    show gv p ≤ gv p ∧ gv p < gv p + 2 ^ (GQ - den) ∧ ∃ k : Int, gv p = k * 2 ^ (GQ - den)
    refine ⟨Int.le_refl _, by have := two_pos (GQ - den); omega, p.1 * 2 ^ (den - p.2), ?_⟩
    unfold gv
    rw [Int.mul_assoc, ← Int.pow_add]
    congr 2
    omega
  · rw [if_neg h, gv_nf hd]
    have e : gv p = p.1 * 2 ^ (GQ - p.2) := rfl
    have hk : (2 : Int) ^ (GQ - den) = 2 ^ (p.2 - den) * 2 ^ (GQ - p.2) := by rw [← Int.pow_add]; congr 1; omega
    have h1 := Int.mul_ediv_add_emod p.1 (2 ^ (p.2 - den))
    have h2 := Int.emod_nonneg p.1 (two_ne (p.2 - den))
    have h3 := Int.emod_lt_of_pos p.1 (two_pos (p.2 - den))
    have e2 : p.1 / 2 ^ (p.2 - den) * 2 ^ (GQ - den) = p.1 / 2 ^ (p.2 - den) * 2 ^ (p.2 - den) * 2 ^ (GQ - p.2) := by rw [hk, Int.mul_assoc]
    refine ⟨?_, ?_, _, rfl⟩
    · rw [e2, e]
      refine Int.mul_le_mul_of_nonneg_right ?_ (Int.le_of_lt (two_pos _))
      rw [Int.mul_comm]; omega
    · rw [e2, e, hk, ← Int.add_mul]
      refine Int.mul_lt_mul_of_pos_right ?_ (two_pos _)
      rw [Int.mul_comm (p.1 / _)]; omega
def blkA (bs : List Bk) (j : Nat) : Bk := bs[j]?.getD bk0
def scA (F : List Int) (j : Nat) : Int := F[j]?.getD 0
def portFr (ps : List Prt) (a : Int) : Int := (ps[a.toNat]?.getD ⟨0, 0, 0⟩).fr
def rawVv (bs : List Bk) (F : List Int) (j : Nat) : Int := rawV (blkA bs j).vn (blkA bs j).ve (scA F j)
def rawUu (bs : List Bk) (F : List Int) (j : Nat) : Int := rawV (blkA bs j).un (blkA bs j).ue (scA F j)
def errVv (bs : List Bk) (F : List Int) (j : Nat) : Int := rawErr (blkA bs j).vn (blkA bs j).ve (scA F j)
def errUu (bs : List Bk) (F : List Int) (j : Nat) : Int := rawErr (blkA bs j).un (blkA bs j).ue (scA F j)
def conE (bs : List Bk) (F : List Int) (j : Nat) : Int :=
  if kindAt bs j = 1 ∨ kindAt bs j = 2 then errVv bs F j else if kindAt bs j = 11 then (if errVv bs F j = 0 then errUu bs F j else errVv bs F j) else 0
def conV (bs : List Bk) (F : List Int) (j : Nat) : Int := if kindAt bs j = 1 ∨ kindAt bs j = 2 ∨ kindAt bs j = 11 then rawVv bs F j else 0
def conU (bs : List Bk) (F : List Int) (j : Nat) : Int := if kindAt bs j = 11 then rawUu bs F j else 0
def tab (n : Nat) (f : Nat → Int) : List Int := (List.range n).map f
def rank (p : Nat → Bool) (j : Nat) : Nat := ((List.range j).filter p).length
def dlB (bs : List Bk) (i : Nat) : Bool := kindAt bs i == 2
def cpB (bs : List Bk) (i : Nat) : Bool := kindAt bs i == 11
def dlK (bs : List Bk) (k : Nat) : List Nat := (List.range k).filter (dlB bs)
def cpK (bs : List Bk) (k : Nat) : List Nat := (List.range k).filter (cpB bs)
theorem delL_is (bs : List Bk) : delL bs = dlK bs bs.length := rfl
theorem dlK_succ (bs : List Bk) (k : Nat) : dlK bs (k + 1) = if kindAt bs k = 2 then dlK bs k ++ [k] else dlK bs k := by
  unfold dlK
  rw [List.range_succ, List.filter_append]
  by_cases h : kindAt bs k = 2
  · rw [if_pos h]; simp [dlB, h]
  · rw [if_neg h]; simp [dlB, h]
theorem dlK_len (bs : List Bk) (k : Nat) : (dlK bs k).length ≤ k := by
  have := List.length_filter_le (dlB bs) (List.range k)
  simpa [dlK] using this
def cellF (bs : List Bk) (j : Nat) : Int :=
  if kindAt bs j = 2 then (bs.length : Int) + (rank (dlB bs) j : Int) else if kindAt bs j = 11 then (bs.length : Int) + ((dlK bs bs.length).length : Int) + 2 * (rank (cpB bs) j : Int) else 0
def opM (k : Int) : Int := if k = 3 then 3 else if k = 4 then 4 else if k = 8 then 8 else if k = 9 then 9 else if k = 5 then 5 else 10
def arg0 (b : Bk) : Int := b.args[0]?.getD 0
def arg1 (b : Bk) : Int := b.args[1]?.getD 0
def blkC (ps : List Prt) (bs : List Bk) (F : List Int) (j : Nat) (c : Int) : List Ins :=
  let b := blkA bs j
  let s := scA F j
  let s0 := scA F (arg0 b).toNat
  let s1 := scA F (arg1 b).toNat
  if b.kind = 0 then [⟨0, j, arg0 b, 0, s - portFr ps (arg0 b), 0, 0⟩]
  else if b.kind = 1 then [⟨1, j, 0, 0, 0, 0, rawVv bs F j⟩]
  else if b.kind = 6 then [⟨6, j, arg0 b, 0, s - s0 + b.ve, 0, b.vn⟩]
  else if b.kind = 7 then [⟨7, j, arg0 b, arg1 b, s - s0 - s1, 0, 0⟩]
  else if b.kind = 11 then [⟨9, j, arg0 b, c, s - s0, 0, 0⟩, ⟨8, j, j, c + 1, 0, 0, 0⟩]
  else if b.args.length = 2 then [⟨opM b.kind, j, arg0 b, arg1 b, s - s0, s - s1, 0⟩]
  else [⟨opM b.kind, j, arg0 b, 0, s - s0, 0, 0⟩]
def mv1 (bs : List Bk) (F : List Int) (j : Nat) : Ins := ⟨2, cellF bs j, arg0 (blkA bs j), 0, scA F j - scA F (arg0 (blkA bs j)).toNat, 0, 0⟩
def mv2 (bs : List Bk) (j : Nat) : Ins := ⟨2, j, cellF bs j, 0, 0, 0, 0⟩
def codeM (ps : List Prt) (bs : List Bk) (F : List Int) : List Ins :=
  (ordM bs).flatMap (fun j => blkC ps bs F j (cellF bs j)) ++ (delL bs).map (mv1 bs F) ++ (delL bs).map (mv2 bs)
def initM (bs : List Bk) (F : List Int) : List Int :=
  tab bs.length (fun j => if kindAt bs j = 2 then conV bs F j else 0) ++ List.replicate (delL bs).length 0 ++ (cpK bs bs.length).flatMap (fun j => [conV bs F j, conU bs F j])
def shOk (x : Ins) : Bool := decide (-62 ≤ x.sa ∧ x.sa ≤ 30 ∧ -62 ≤ x.sb ∧ x.sb ≤ 30)
def scOk30 (z : Int) : Bool := decide (0 ≤ z ∧ z ≤ 30)
def cpErr (ps : List Prt) (bs : List Bk) (F : List Int) : Int :=
  if ¬ F.length = bs.length then 11 else if ¬ F.all scOk30 = true then 3 else if ¬ firstErr ((List.range bs.length).map (conE bs F)) = 0 then firstErr ((List.range bs.length).map (conE bs F))
  else if (codeM ps bs F).all shOk = true then 0 else 3
def cpE (d : Dg) (F : List Int) : Int := if dgErr d.ps d.bs d.os = 0 then cpErr d.ps d.bs F else dgErr d.ps d.bs d.os
end Go.Proofs.YtilbehepmkpdbaaGreatDoor
namespace Go.Proofs.YtilbehepmkpdbaaGreatDoor
open Go.RowKit
section
variable {ps : List Prt} {bs : List Bk} {os : List Int}
theorem acc_blk (h : dgErr ps bs os = 0) {i : Nat} {y : Bk} (hy : bs[i]? = some y) : blkErr ps.length bs.length y = 0 :=
  firstErr_zero (pre_blk (pre_of h).2.1) _ (List.mem_map.2 ⟨y, List.mem_of_getElem? hy, rfl⟩)
theorem acc_args (h : dgErr ps bs os = 0) {i : Nat} {y : Bk} (hy : bs[i]? = some y) : 0 ≤ arityM y.kind ∧ ((y.args.length : Nat) : Int) = arityM y.kind ∧ ∀ a ∈ y.args, 0 ≤ a ∧ a < (mostM ps.length bs.length y.kind : Int) := blk_args (acc_blk h hy)
theorem acc_sc (h : dgErr ps bs os = 0) {i : Nat} {y : Bk} (hy : bs[i]? = some y) (hv : valU y.kind = true) : scOk y.vn y.ve := by
  have h1 := acc_blk h hy
  have ha := acc_args h hy
  unfold blkErr at h1
  rw [if_neg (by omega), if_neg (not_not_intro ha.2.1)] at h1
  by_cases h3 : firstErr (y.args.map (outE (mostM ps.length bs.length y.kind))) = 0
  · rw [if_neg (not_not_intro h3)] at h1
    by_cases h4 : scalE y.vn y.ve (valU y.kind) = 0
    · rw [hv] at h4
      unfold scalE at h4
      rw [if_pos rfl] at h4
      by_cases h5 : scOk y.vn y.ve
      · exact h5
      · rw [if_neg h5] at h4; cases h4
    · rw [if_pos h4] at h1
      exact absurd h1 h4
  · rw [if_pos h3] at h1
    cases h1
theorem acc_port (h : dgErr ps bs os = 0) {i : Nat} {p : Prt} (hp : ps[i]? = some p) : portE p = 0 := by
  have h1 := (pre_of h).2.1
  unfold preErr at h1
  rw [firstErr_append] at h1
  by_cases h2 : firstErr (ps.map portE) = 0
  · exact firstErr_zero h2 _ (List.mem_map.2 ⟨p, List.mem_of_getElem? hp, rfl⟩)
  · rw [if_neg h2] at h1
    exact absurd h1 h2
theorem ord_at {u i : Nat} (h : (ordM bs)[u]? = some i) : i < bs.length ∧ kindAt bs i ≠ 2 := (ordN_ok bs.length (OutOk.nil bs)).mem i (List.mem_of_getElem? h)
theorem ord_len : (ordM bs).length ≤ bs.length := Nat.le_trans (ordN_ok bs.length (OutOk.nil bs)).le (nonDel_le bs)
end
end Go.Proofs.YtilbehepmkpdbaaGreatDoor
namespace Go.Proofs.YtilbehepmkpdbaaGreatDoor
open Go.RowKit
end Go.Proofs.YtilbehepmkpdbaaGreatDoor
namespace Go.Proofs.YtilbehepmkpdbaaGreatDoor
open Go.RowKit
abbrev longP (p : Int × Nat) : Bool := longB p.1.natAbs p.2
def tlV : Value := .iface 119 (.agg #[])
def tlC : List PanicEntry := [{ v := tlV, recovered := false }]
def cV : Option (Int × Nat) → List C
  | none => [.d (.val (.bool false)), .d (.val (.slice none 0 0)), .d (.val (.int .i64 0))]
  | some p => (dDy false p.1 p.2).map C.d
def cVs (l : List (Option (Int × Nat))) : List C := (l.map cV).flatten
def gV (l : List (Option (Int × Nat))) : List (Int × Nat) := l.map (·.getD (0, 0))
theorem dy_free (x : Int) (d : Nat) : ∀ u ∈ dDy false x d, DFree u := fun u hu => by
  simp only [dDy, List.mem_cons, List.not_mem_nil, or_false] at hu
  rcases hu with rfl | rfl | rfl
  · exact .val _
  · refine .row fun u hu => ?_
    obtain ⟨v, _, rfl⟩ := List.mem_map.1 hu
    exact .val _
  · exact .val _
theorem cexp_oD {t : Bool} {H : List Ob} {id ty n : Nat} {c : C} {y : D} {l : List (Int × Nat)} (hc : c = .own id n) (hH : H[id]? = some (.row ty 3 n ((flatD dyP l).map C.d))) (hy : y = .row t 3 n (flatD dyP l)) : CExp t H c y :=
  cexp_o hc hH hy (LRel.map_l.2 ⟨rfl, fun j a b ha hb => by
    rw [ha] at hb
    cases hb
    exact .d fun _ => flatD_free (f := dyP) (fun p => dy_free _ _) l a (List.mem_of_getElem? ha)⟩)
def LB : Nat := 4096
def LC : Nat := 9000
theorem lb_c : LB ≤ LC := by decide
theorem sm_of {p : Int × Nat} (hn : Nf p.1 p.2) (h : longP p = false) : Sm p LB LB := by
  have h1 : ¬ 4096 < max (bitsN p.1.natAbs) p.2 := of_decide_eq_false h
  exact ⟨hn, bitsN_le.1 (by unfold LB; omega), by unfold LB; omega⟩
def argsV (vs : List (Option (Int × Nat))) (y : Bk) : List (Int × Nat) := if y.kind = 0 then [] else y.args.map fun a => (vs[a.toNat]?.getD none).getD (0, 0)
def tkV (ps : List Prt) (bs : List Bk) (ins : List Int) (vs : List (Option (Int × Nat))) (i : Nat) : Int × Nat := match bs[i]? with
  | some y => tickV y (argsV vs y) ps ins
  | none => (0, 0)
def ordV (ps : List Prt) (bs : List Bk) (ins : List Int) (vs : List (Option (Int × Nat))) (l : List Nat) : List (Option (Int × Nat)) := l.foldl (fun v i => v.set i (some (tkV ps bs ins v i))) vs
def delV (dl : List Nat) (st : List (Int × Nat)) (vs : List (Option (Int × Nat))) : List (Option (Int × Nat)) := (dl.zip st).foldl (fun v p => v.set p.1 (some p.2)) vs
def valS (ps : List Prt) (bs : List Bk) (st : List (Int × Nat)) (ins : List Int) (t : Nat) : List (Option (Int × Nat)) := ordV ps bs ins (delV (delL bs) st (List.replicate bs.length none)) ((ordM bs).take t)
def valN (ps : List Prt) (bs : List Bk) (st : List (Int × Nat)) (ins : List Int) (t : Nat) : Int × Nat := tkV ps bs ins (valS ps bs st ins t) ((ordM bs)[t]?.getD 0)
def stepBad (ps : List Prt) (bs : List Bk) (st : List (Int × Nat)) (ins : List Int) : Bool := st.any longP || (List.range (ordM bs).length).any fun t => longP (valN ps bs st ins t)
def valE (ps : List Prt) (bs : List Bk) (st : List (Int × Nat)) (ins : List Int) : List (Int × Nat) := gV (valS ps bs st ins (ordM bs).length)
def argZ (bs : List Bk) (i : Nat) : Nat := (((bs[i]?.map Bk.args).getD [])[0]?.getD 0).toNat
def nextE (ps : List Prt) (bs : List Bk) (st : List (Int × Nat)) (ins : List Int) : List (Int × Nat) := (delL bs).map fun i => ((valE ps bs st ins)[argZ bs i]?).getD (0, 0)
structure Has (vs : List (Option (Int × Nat))) (D : Nat → Prop) : Prop where
  at_ : ∀ i, D i → ∃ p, vs[i]? = some (some p) ∧ Sm p LB LB
theorem Sm.zero (n d : Nat) : Sm (0, 0) n d := ⟨⟨by decide, fun h => absurd rfl h⟩, Nat.two_pow_pos n, Nat.zero_le d⟩
theorem getD_sm {l : List (Int × Nat)} {n d : Nat} (h : ∀ p ∈ l, Sm p n d) (k : Nat) : Sm (l[k]?.getD (0, 0)) n d := by
  cases hk : l[k]? with
  | none => exact Sm.zero n d
  | some p => exact h p (List.mem_of_getElem? hk)
theorem acc_clip {ps : List Prt} {bs : List Bk} {os : List Int} (h : dgErr ps bs os = 0) {i : Nat} {y : Bk} (hy : bs[i]? = some y) (hk : y.kind = 11) : scOk y.vn y.ve ∧ scOk y.un y.ue ∧ dyCmp (dyShift y.vn 0 y.ve).1 (dyShift y.vn 0 y.ve).2 (dyShift y.un 0 y.ue).1 (dyShift y.un 0 y.ue).2 ≤ 0 := by
  have h1 := acc_blk h hy
  have ha := acc_args h hy
  have hv := acc_sc h hy (by unfold valU; rw [hk]; rfl)
  unfold blkErr at h1
  rw [if_neg (by omega), if_neg (not_not_intro ha.2.1)] at h1
  by_cases h3 : firstErr (y.args.map (outE (mostM ps.length bs.length y.kind))) = 0
  · rw [if_neg (not_not_intro h3)] at h1
    by_cases h4 : scalE y.vn y.ve (valU y.kind) = 0
    · rw [if_neg (not_not_intro h4)] at h1
      by_cases h5 : scalE y.un y.ue (clipU y.kind) = 0
      · rw [if_neg (not_not_intro h5)] at h1
        have hc : clipU y.kind = true := by unfold clipU; rw [hk]; rfl
        rw [hc] at h5
        have hu := scOk_of h5
        refine ⟨hv, hu, ?_⟩
        rw [cmp_sgn (sc62_shift hv.2.2.1 hv.2.2.2) (sc62_shift hu.2.2.1 hu.2.2.2)]
        by_cases h6 : 0 < scCmp y.vn y.ve y.un y.ue
        · rw [if_pos ⟨hc, h6⟩] at h1; cases h1
        · exact Int.not_lt.1 h6
      · rw [if_pos h5] at h1; exact absurd h1 h5
    · rw [if_pos h4] at h1; exact absurd h1 h4
  · rw [if_pos h3] at h1; cases h1
theorem acc_kind {ps : List Prt} {bs : List Bk} {os : List Int} (h : dgErr ps bs os = 0) {i : Nat} {y : Bk} (hy : bs[i]? = some y) : y.kind = 0 ∨ y.kind = 1 ∨ y.kind = 2 ∨ y.kind = 3 ∨ y.kind = 4 ∨ y.kind = 5 ∨ y.kind = 6 ∨ y.kind = 7 ∨ y.kind = 8 ∨ y.kind = 9 ∨ y.kind = 10 ∨ y.kind = 11 := by
  have := (acc_args h hy).1
  unfold arityM at this
  (repeat' split at this) <;> omega
theorem kind_at {bs : List Bk} {i : Nat} {y : Bk} (h : bs[i]? = some y) : kindAt bs i = y.kind := by unfold kindAt; rw [h]; rfl
theorem preds_at {bs : List Bk} {i : Nat} {y : Bk} (h : bs[i]? = some y) (h0 : y.kind ≠ 0) : preds bs i = y.args := by
  unfold preds argsAt
  rw [kind_at h, if_neg h0, h]
  rfl
def rngB (ps : List Prt) (ins : List Int) (i : Nat) : Bool := match ps[i]?, ins[i]? with
  | some p, some z => decide (p.lo ≤ z ∧ z ≤ p.hi)
  | _, _ => true
def inOk (ps : List Prt) (ins : List Int) : Bool := (List.range ins.length).all (rngB ps ins)
def stdS (bs : List Bk) (t : Nat) (i : Nat) : Prop := (i < bs.length ∧ kindAt bs i = 2) ∨ i ∈ (ordM bs).take t
structure Tick (ps : List Prt) (bs : List Bk) (ins : List Int) (vs : List (Option (Int × Nat))) (y : Bk) : Prop where
  hk : y.kind = 0 ∨ y.kind = 1 ∨ y.kind = 3 ∨ y.kind = 4 ∨ y.kind = 5 ∨ y.kind = 6 ∨ y.kind = 7 ∨ y.kind = 8 ∨ y.kind = 9 ∨ y.kind = 10 ∨ y.kind = 11
  args : y.kind ≠ 0 → ∀ (k : Nat) (a : Int), y.args[k]? = some a → ∃ p, 0 ≤ a ∧ a.toNat < bs.length ∧ vs[a.toNat]? = some (some p) ∧ (argsV vs y)[k]? = some p
  len : y.args.length ≤ 2
  hl : ∀ k : Nat, (k = 0 ∧ y.kind ≠ 0 ∧ y.kind ≠ 1 ∨ k = 1 ∧ (y.kind = 3 ∨ y.kind = 4 ∨ y.kind = 7 ∨ y.kind = 8 ∨ y.kind = 9)) → ∃ p i, (argsV vs y)[k]? = some p ∧ y.args[k]? = some ((i : Nat) : Int) ∧ (gV vs)[i]? = some p
  hs : ∀ p ∈ argsV vs y, Sm p LB LB
  hin : y.kind = 0 → ∃ (i : Nat) (z : Int) (pp : Prt), y.args[0]? = some (i : Int) ∧ ins[i]? = some z ∧ ps[i]? = some pp ∧ -9223372036854775808 ≤ z ∧ z < 9223372036854775808 ∧ -100 ≤ pp.fr ∧ pp.fr ≤ 100
  hsv : (y.kind = 1 ∨ y.kind = 6 ∨ y.kind = 11) → scOk y.vn y.ve
  hsu : y.kind = 11 → scOk y.un y.ue
  hcl : y.kind = 11 → dyCmp (dyShift y.vn 0 y.ve).1 (dyShift y.vn 0 y.ve).2 (dyShift y.un 0 y.ue).1 (dyShift y.un 0 y.ue).2 ≤ 0
  sm : Sm (tickV y (argsV vs y) ps ins) LC LC
abbrev Pq := Int × Nat
abbrev qSum (p q : Pq) : Pq := dySum p.1 p.2 q.1 q.2
abbrev qNeg (p : Pq) : Pq := (-p.1, p.2)
abbrev qAbs (p : Pq) : Pq := (((p.1.natAbs : Nat) : Int), p.2)
abbrev qMul (p q : Pq) : Pq := dyMul p.1 p.2 q.1 q.2
abbrev qMin (p q : Pq) : Pq := dyMin p.1 p.2 q.1 q.2
abbrev qMax (p q : Pq) : Pq := dyMax p.1 p.2 q.1 q.2
abbrev qCmp (p q : Pq) : Int := dyCmp p.1 p.2 q.1 q.2
abbrev qShift (p : Pq) (n : Int) : Pq := dyShift p.1 p.2 n
abbrev qFloor (p : Pq) (n : Nat) : Pq := dyFloor p.1 p.2 n
abbrev qCeil (p : Pq) (n : Nat) : Pq := qNeg (qFloor (qNeg p) n)
abbrev Iq := Pq × Pq
def dIw (t : Bool) (a : Iq) : List D := dDy t a.1.1 a.1.2 ++ dDy t a.2.1 a.2.2
def aIw (t : Bool) (a : Iq) : A := .agg (dIw t a)
structure IwS (a : Iq) (n d : Nat) : Prop where
  s1 : Sm a.1 n d
  s2 : Sm a.2 n d
  le : gv a.1 ≤ gv a.2
theorem IwS.more {a : Iq} {n d n' d' : Nat} (h : IwS a n d) (h1 : n ≤ n') (h2 : d ≤ d') : IwS a n' d' := ⟨h.s1.more h1 h2, h.s2.more h1 h2, h.le⟩
def spanS (a : Iq) (x : Pq) : Iq := (qMin a.1 x, qMax a.2 x)
def spanL : List Pq → Iq
  | [] => ((0, 0), (0, 0))
  | p :: l => l.foldl spanS (p, p)
def iNeg (a : Iq) : Iq := (qNeg a.2, qNeg a.1)
def iAdd (a b : Iq) : Iq := (qSum a.1 b.1, qSum a.2 b.2)
def iSub (a b : Iq) : Iq := iAdd a (iNeg b)
def iMul (a b : Iq) : Iq := spanL [qMul a.1 b.1, qMul a.1 b.2, qMul a.2 b.1, qMul a.2 b.2]
def iScale (a : Iq) (f : Pq) : Iq := iMul a (f, f)
def iMin (a b : Iq) : Iq := (qMin a.1 b.1, qMin a.2 b.2)
def iMax (a b : Iq) : Iq := (qMax a.1 b.1, qMax a.2 b.2)
def iHull (a b : Iq) : Iq := spanL [a.1, a.2, b.1, b.2]
def iAbs (a : Iq) : Iq := if a.1.1 < 0 ∧ 0 < a.2.1 then ((0, 0), (spanL [qAbs a.1, qAbs a.2]).2) else spanL [qAbs a.1, qAbs a.2]
def iClip (a : Iq) (v u : Pq) : Iq := iMin (iMax a (v, v)) (u, u)
def iRound (a : Iq) (den : Nat) : Iq := (qFloor a.1 den, qCeil a.2 den)
def iIn (a b : Iq) : Bool := decide (qCmp b.1 a.1 ≤ 0) && decide (qCmp a.2 b.2 ≤ 0)
def iMag (a : Iq) : Pq := (iAbs a).2
theorem Sm.le {p : Pq} {n d : Nat} (h : Sm p n d) : p.2 ≤ GQ := h.ok.le
section
variable {a b : Iq} {n d : Nat}
theorem spanL_two {p q : Pq} (hp : Sm p n d) (hq : Sm q n d) : gv (spanL [p, q]).1 = min (gv p) (gv q) ∧ gv (spanL [p, q]).2 = max (gv p) (gv q) ∧ IwS (spanL [p, q]) n d := by
  have e1 : gv (qMin p q) = min (gv p) (gv q) := gv_min hp.le hq.le
  have e2 : gv (qMax p q) = max (gv p) (gv q) := gv_max hp.le hq.le
  refine ⟨e1, e2, Sm.min hp hq, Sm.max hp hq, ?_⟩
  show gv (qMin p q) ≤ gv (qMax p q)
  omega
theorem spanL_four {p q r s : Pq} (hp : Sm p n d) (hq : Sm q n d) (hr : Sm r n d) (hs : Sm s n d) : gv (spanL [p, q, r, s]).1 = min (min (min (gv p) (gv q)) (gv r)) (gv s) ∧ gv (spanL [p, q, r, s]).2 = max (max (max (gv p) (gv q)) (gv r)) (gv s) ∧ IwS (spanL [p, q, r, s]) n d := by
  have m1 : Sm (qMin p q) n d := Sm.min hp hq
  have m2 : Sm (qMin (qMin p q) r) n d := Sm.min m1 hr
  have x1 : Sm (qMax p q) n d := Sm.max hp hq
  have x2 : Sm (qMax (qMax p q) r) n d := Sm.max x1 hr
  have e1 : gv (qMin (qMin (qMin p q) r) s) = min (min (min (gv p) (gv q)) (gv r)) (gv s) := by rw [gv_min m2.le hs.le, gv_min m1.le hr.le, gv_min hp.le hq.le]
  have e2 : gv (qMax (qMax (qMax p q) r) s) = max (max (max (gv p) (gv q)) (gv r)) (gv s) := by rw [gv_max x2.le hs.le, gv_max x1.le hr.le, gv_max hp.le hq.le]
  refine ⟨e1, e2, Sm.min m2 hs, Sm.max x2 hs, ?_⟩
  show gv (qMin (qMin (qMin p q) r) s) ≤ gv (qMax (qMax (qMax p q) r) s)
  omega
theorem IwS.neg (h : IwS a n d) : IwS (iNeg a) n d := ⟨h.s2.neg, h.s1.neg, by show gv (qNeg a.2) ≤ gv (qNeg a.1); rw [gv_neg, gv_neg]; have := h.le; omega⟩
theorem IwS.add (h : IwS a n d) (k : IwS b n d) (hd : d ≤ 65536) : IwS (iAdd a b) (n + d + 1) d := ⟨Sm.sum h.s1 k.s1 hd, Sm.sum h.s2 k.s2 hd, by
  show gv (qSum a.1 b.1) ≤ gv (qSum a.2 b.2)
  rw [gv_sum h.s1.le k.s1.le, gv_sum h.s2.le k.s2.le]
  have := h.le; have := k.le; omega⟩
theorem IwS.sub (h : IwS a n d) (k : IwS b n d) (hd : d ≤ 65536) : IwS (iSub a b) (n + d + 1) d := h.add k.neg hd
theorem IwS.min (h : IwS a n d) (k : IwS b n d) : IwS (iMin a b) n d := ⟨Sm.min h.s1 k.s1, Sm.min h.s2 k.s2, by
  show gv (qMin a.1 b.1) ≤ gv (qMin a.2 b.2)
  rw [gv_min h.s1.le k.s1.le, gv_min h.s2.le k.s2.le]
  have := h.le; have := k.le; omega⟩
theorem IwS.max (h : IwS a n d) (k : IwS b n d) : IwS (iMax a b) n d := ⟨Sm.max h.s1 k.s1, Sm.max h.s2 k.s2, by
  show gv (qMax a.1 b.1) ≤ gv (qMax a.2 b.2)
  rw [gv_max h.s1.le k.s1.le, gv_max h.s2.le k.s2.le]
  have := h.le; have := k.le; omega⟩
theorem IwS.pt {p : Pq} (h : Sm p n d) : IwS (p, p) n d := ⟨h, h, Int.le_refl _⟩
theorem IwS.mul (h : IwS a n d) (k : IwS b n d) (hd : d ≤ 30000) : IwS (iMul a b) (n + n) (d + d) := (spanL_four (Sm.mul h.s1 k.s1 hd) (Sm.mul h.s1 k.s2 hd) (Sm.mul h.s2 k.s1 hd) (Sm.mul h.s2 k.s2 hd)).2.2
theorem IwS.hull (h : IwS a n d) (k : IwS b n d) : IwS (iHull a b) n d := (spanL_four h.s1 h.s2 k.s1 k.s2).2.2
theorem IwS.clip {v u : Pq} (h : IwS a n d) (hv : Sm v n d) (hu : Sm u n d) : IwS (iClip a v u) n d := (h.max (.pt hv)).min (.pt hu)
theorem sgn_lt {p : Pq} : p.1 < 0 ↔ gv p < 0 := by
  unfold gv
  exact ⟨fun h => Int.mul_neg_of_neg_of_pos h (two_pos _), fun h => Int.not_le.1 fun hc => by have := Int.mul_nonneg hc (Int.le_of_lt (two_pos (GQ - p.2))); omega⟩
theorem sgn_gt {p : Pq} : 0 < p.1 ↔ 0 < gv p := by
  unfold gv
  exact ⟨fun h => Int.mul_pos h (two_pos _), fun h => Int.not_le.1 fun hc => by have := Int.mul_nonpos_of_nonpos_of_nonneg hc (Int.le_of_lt (two_pos (GQ - p.2))); omega⟩
theorem IwS.abs (h : IwS a n d) : IwS (iAbs a) n d := by
  obtain ⟨h1, h2, h3⟩ := spanL_two h.s1.abs h.s2.abs
  unfold iAbs
  split
  · refine ⟨Sm.zero n d, h3.s2, ?_⟩
    show gv (0, 0) ≤ gv (spanL [qAbs a.1, qAbs a.2]).2
    rw [gv_zero, h2, gv_abs, gv_abs]
    omega
  · exact h3
theorem iAbs_gv (h : IwS a n d) : gv (iAbs a).1 = (if gv a.1 < 0 ∧ 0 < gv a.2 then 0 else min ((gv a.1).natAbs : Int) (gv a.2).natAbs) ∧ gv (iAbs a).2 = max ((gv a.1).natAbs : Int) (gv a.2).natAbs := by
  obtain ⟨h1, h2, h3⟩ := spanL_two h.s1.abs h.s2.abs
  rw [gv_abs, gv_abs] at h1 h2
  unfold iAbs
  by_cases hc : a.1.1 < 0 ∧ 0 < a.2.1
  · rw [if_pos hc, if_pos ⟨sgn_lt.1 hc.1, sgn_gt.1 hc.2⟩]
    exact ⟨gv_zero, h2⟩
  · rw [if_neg hc, if_neg (fun h => hc ⟨sgn_lt.2 h.1, sgn_gt.2 h.2⟩)]
    exact ⟨h1, h2⟩
theorem iIn_is (h : IwS a n d) (k : IwS b n d) : iIn a b = decide (gv b.1 ≤ gv a.1 ∧ gv a.2 ≤ gv b.2) := by
  unfold iIn
  rw [Bool.eq_iff_iff, Bool.and_eq_true, decide_eq_true_eq, decide_eq_true_eq, decide_eq_true_eq, cmp_le k.s1.le h.s1.le, cmp_le h.s2.le k.s2.le]
end
theorem iw_free (a : Iq) : ∀ u ∈ dIw false a, DFree u := fun u hu => by
  rcases List.mem_append.1 hu with h | h <;> exact dy_free _ _ u h
theorem rvJ {P : Program} {F : Frm} {H : List Ob} {t : Tmp} {ty ty' id k : Nat} {a : Iq} (hk : TyK P ty true k) (hi : 6 = k) (hF : F t = .one (.ref id 0 none) := by with_unfolding_all exact rfl) (hH : H[id]? = some (.box ty' ((dIw false a).map C.d)) := by with_unfolding_all exact rfl) : RV P F H (.cell t ty) (aIw false a) := by
  obtain ⟨⟨dd, hu, hd⟩, hz⟩ := hk
  refine .cellA hF hH hu hd (by rw [hz, ← hi]; rfl) (LRel.map_l.2 ⟨rfl, fun j x y hx hy => ?_⟩)
  rw [hx] at hy
  cases hy
  exact .d fun _ => iw_free a x (List.mem_of_getElem? hx)
theorem iw_zero : dIw false ((0, 0), (0, 0)) = [.val (.bool false), .row false 1 0 [], .val (.int .i64 0), .val (.bool false), .row false 1 0 [], .val (.int .i64 0)] := by
  have e : dDy false 0 0 = [.val (.bool false), .row false 1 0 [], .val (.int .i64 0)] := A.agg.inj dy_zero
  show dDy false 0 0 ++ dDy false 0 0 = _
  rw [e]
  rfl
theorem natI_at {l : List Nat} {t j : Nat} (h : l[t]? = some j) : (natI l)[t]? = some (j : Int) := by simp [natI, h]
def okQ {α : Type} (e : Int) (l : List α) : List α := if e = 0 then l else []
theorem okQ_n {α : Type} {e : Int} (h : e ≠ 0) (l : List α) : okQ e l = [] := if_neg h
theorem okQ_z {α : Type} {e : Int} (h : e = 0) (l : List α) : okQ e l = l := if_pos h
def aDys (l : List (Int × Nat)) : A := .one (.row false 3 l.length (flatD dyP l))
def rvP (r : Rv) : Int × Nat := (r.rw.x, r.rw.d)
def rowR (rs : List Rv) : D := .row false 3 rs.length (flatD (dRv false) rs)
def stE (ps : List Prt) (bs : List Bk) (os : List Int) (rs : List Rv) (ins : List Int) : Int :=
  if dgErr ps bs os ≠ 0 then dgErr ps bs os else if rs.length ≠ (delL bs).length then 11 else if rs.all (fun r => vdB r.rw) = false then 2
  else if ins.length ≠ ps.length then 11 else if inOk ps ins = false then 3 else if stepBad ps bs (rs.map rvP) ins = true then 4 else 0
theorem take_all1 {α : Type} {p : α → Prop} {l : List α} {k : Nat} {x : α} (h : ∀ q ∈ l.take k, p q) (hx : l[k]? = some x) (hp : p x) : ∀ q ∈ l.take (k + 1), p q := fun q hq => by
  rw [List.take_add_one, hx] at hq
  rcases List.mem_append.1 hq with hq | hq
  · exact h q hq
  · simp only [Option.toList_some, List.mem_cons, List.not_mem_nil, or_false] at hq
    rw [hq]; exact hp
theorem lt_step {p : Nat → Prop} {k : Nat} (h : ∀ i, i < k → p i) (hk : p k) : ∀ i, i < k + 1 → p i := fun i hi => by
  by_cases hik : i = k
  · rw [hik]; exact hk
  · exact h i (by omega)
theorem del_at {bs : List Bk} {k i : Nat} (h : (delL bs)[k]? = some i) : i < bs.length ∧ kindAt bs i = 2 := by
  have := List.mem_of_getElem? h
  unfold delL at this
  rw [List.mem_filter, List.mem_range] at this
  exact ⟨this.1, by simpa using this.2⟩
theorem del_arg {ps : List Prt} {bs : List Bk} {os : List Int} (h : dgErr ps bs os = 0) {i : Nat} {y : Bk} (hy : bs[i]? = some y) (hk : y.kind = 2) : ∃ b : Nat, y.args[0]? = some (b : Int) ∧ b < bs.length := by
  have hA := acc_args h hy
  have h1 := hA.2.1
  rw [hk] at h1
  have hl1 : y.args.length = 1 := by unfold arityM at h1; (repeat' split at h1) <;> omega
  obtain ⟨a, ha⟩ : ∃ a, y.args[0]? = some a := ⟨_, List.getElem?_eq_getElem (by omega)⟩
  have hb := hA.2.2 a (List.mem_of_getElem? ha)
  rw [show mostM ps.length bs.length y.kind = bs.length from if_neg (by omega)] at hb
  exact ⟨a.toNat, by rw [ha]; congr 1; omega, by omega⟩
theorem argZ_at {bs : List Bk} {i b : Nat} {y : Bk} (hy : bs[i]? = some y) (ha : y.args[0]? = some (b : Int)) : argZ bs i = b := by
  unfold argZ
  rw [hy, Option.map_some, Option.getD_some, ha]
  rfl
def tickE (ps : List Prt) (bs : List Bk) (st : List (Int × Nat)) (ins : List Int) : Int :=
  if ins.length ≠ ps.length then 11 else if inOk ps ins = false then 3 else if stepBad ps bs st ins = true then 4 else 0
structure StOk (bs : List Bk) (st : List (Int × Nat)) : Prop where
  len : st.length = (delL bs).length
  sm : ∀ p ∈ st, Sm p LB LB
section
variable {ps : List Prt} {bs : List Bk} {os : List Int} {st : List (Int × Nat)} {ins : List Int}
theorem delL_nodup (bs : List Bk) : (delL bs).Nodup := List.Pairwise.filter _ List.nodup_range
theorem ord_nodup (bs : List Bk) : (ordM bs).Nodup := (ordN_ok bs.length (OutOk.nil bs)).nodup
theorem nodup_at {l : List Nat} (h : l.Nodup) {i j x : Nat} (hi : l[i]? = some x) (hj : l[j]? = some x) : i = j := by
  obtain ⟨h1, e1⟩ := List.getElem?_eq_some_iff.1 hi
  obtain ⟨h2, e2⟩ := List.getElem?_eq_some_iff.1 hj
  exact (List.getElem_inj (h₀ := h1) (h₁ := h2) h).1 (e1.trans e2.symm)
def argsE (V : List (Int × Nat)) (y : Bk) : List (Int × Nat) := if y.kind = 0 then [] else y.args.map fun a => V[a.toNat]?.getD (0, 0)
theorem del_lt {i : Nat} (h : i ∈ delL bs) : i < bs.length ∧ kindAt bs i = 2 := by
  obtain ⟨k, hk⟩ := List.mem_iff_getElem?.1 h
  exact del_at hk
end
def vnAt (bs : List Bk) (i : Nat) : Int := (bs[i]?.getD bk0).vn
def veAt (bs : List Bk) (i : Nat) : Int := (bs[i]?.getD bk0).ve
def startM (bs : List Bk) : List (Int × Nat) := (delL bs).map fun i => dyShift (vnAt bs i) 0 (veAt bs i)
theorem start_ok {ps : List Prt} {bs : List Bk} {os : List Int} (he : dgErr ps bs os = 0) : StOk bs (startM bs) := ⟨by unfold startM; rw [List.length_map], fun p hp => by
  obtain ⟨i, hi, rfl⟩ := List.mem_map.1 hp
  obtain ⟨h1, h2⟩ := del_lt hi
  obtain ⟨y, hy⟩ : ∃ y, bs[i]? = some y := ⟨_, List.getElem?_eq_getElem h1⟩
  rw [kind_at hy] at h2
  obtain ⟨s1, s2, s3, s4⟩ := acc_sc he hy (by unfold valU; rw [h2]; rfl)
  unfold vnAt veAt
  rw [hy]
  exact (Sm.shift (n := 32) (by simp only [Option.getD_some]; omega) (by simp only [Option.getD_some]; omega) (by simp only [Option.getD_some]; omega)).more (by decide) (by decide)⟩
def outV (ps : List Prt) (bs : List Bk) (os : List Int) (st : List (Int × Nat)) (ins : List Int) : List (Int × Nat) := os.map fun o => ((valE ps bs st ins)[o.toNat]?).getD (0, 0)
def stN (ps : List Prt) (bs : List Bk) (st : List (Int × Nat)) (ls : List (List Int)) : List (Int × Nat) := ls.foldl (fun s ins => nextE ps bs s ins) st
def runE (ps : List Prt) (bs : List Bk) (st : List (Int × Nat)) : List (List Int) → Int
  | [] => 0
  | ins :: l => if tickE ps bs st ins = 0 then runE ps bs (nextE ps bs st ins) l else tickE ps bs st ins
def runO (ps : List Prt) (bs : List Bk) (os : List Int) (st : List (Int × Nat)) : List (List Int) → List (List (Int × Nat))
  | [] => []
  | ins :: l => outV ps bs os st ins :: runO ps bs os (nextE ps bs st ins) l
section
variable {ps : List Prt} {bs : List Bk} {os : List Int}
def AllT (ps : List Prt) (bs : List Bk) (st : List (Int × Nat)) (ls : List (List Int)) : Prop := ∀ (k : Nat) (ins : List Int), ls[k]? = some ins → tickE ps bs (stN ps bs st (ls.take k)) ins = 0
end
def rvOf (p : Int × Nat) : Rv := ⟨decide (p.1 < 0), canon p.1.natAbs, p.2⟩
theorem rvOf_x (p : Int × Nat) : (rvOf p).rw.x = p.1 := by
  show sg (decide (p.1 < 0)) (wval (canon p.1.natAbs)) = p.1
  rw [wval_canon]
  unfold sg
  split <;> rename_i h
  · have := of_decide_eq_true h; omega
  · have : ¬ p.1 < 0 := by simpa using h
    omega
theorem rvOf_P (p : Int × Nat) : rvP (rvOf p) = p := by
  unfold rvP
  rw [rvOf_x]
  show (p.1, ((p.2 : Nat) : Int).toNat) = p
  rw [Int.toNat_natCast]
theorem rvOf_D (t : Bool) (p : Int × Nat) : dRv t (rvOf p) = dDy t p.1 p.2 := by
  unfold dRv dDy wds
  rw [w32_D]
  rfl
theorem rvOf_ok {p : Int × Nat} (h : Nf p.1 p.2) : vdB (rvOf p).rw = true := by
  refine decide_eq_true ?_
  by_cases h0 : (canon p.1.natAbs).length = 0
  · refine (vdP_0 (r := (rvOf p).rw) h0).2 ?_
    have hz : p.1.natAbs = 0 := by
      have := wval_canon p.1.natAbs
      rw [List.eq_nil_of_length_eq_zero h0] at this
      exact this.symm
    have hd : p.2 = 0 := Classical.byContradiction fun hne => by have := h.2 hne; omega
    exact ⟨decide_eq_false (by omega), by show ((p.2 : Nat) : Int) = 0; omega⟩
  · refine (vdP_n (r := (rvOf p).rw) h0).2 ⟨?_, by show (0 : Int) ≤ (p.2 : Nat); omega, by have := h.1; show ((p.2 : Nat) : Int) ≤ 65536; omega, ?_⟩
    · have hne : p.1.natAbs ≠ 0 := fun hz => h0 (by rw [hz, canon_zero]; rfl)
      obtain ⟨q, L, hL, hq, q0, _, _⟩ := canon_last hne
      show _ ≠ _
      simp only [rvOf, Rv.rw]
      first | (rw [hL]; simpa [hq] using q0) | simp_all
    · by_cases hd : p.2 = 0
      · left; show ((p.2 : Nat) : Int) = 0; omega
      · right
        have := h.2 hd
        have hb := wval_bit (canon_ok p.1.natAbs) 0
        rw [wval_canon] at hb
        simp only [Nat.pow_zero, Nat.div_one, Nat.zero_div, Nat.zero_mod] at hb
        show (canon p.1.natAbs)[0]?.getD 0 % 2 = 1
        omega
theorem delL_le (bs : List Bk) : (delL bs).length ≤ bs.length := by unfold delL; exact Nat.le_trans (List.length_filter_le _ _) (Nat.le_of_eq List.length_range)
theorem start_at {bs : List Bk} {k i : Nat} {y : Bk} (hi : (delL bs)[k]? = some i) (hy : bs[i]? = some y) : (startM bs)[k]? = some (dyShift y.vn 0 y.ve) := by
  unfold startM vnAt veAt
  rw [List.getElem?_map, hi, Option.map_some, hy]
  rfl
theorem flat_next {l : List (Int × Nat)} {k : Nat} {p : Int × Nat} (h : l[k]? = some p) : (flatD dyP (l.take k)).map C.d ++ (dDy false p.1 p.2).map C.d = (flatD dyP (l.take (k + 1))).map C.d ∧ (l.take k).length + 1 = (l.take (k + 1)).length ∧ (l.take k).length ≤ k := by
  refine ⟨?_, ?_, by rw [List.length_take]; omega⟩
  · rw [List.take_add_one, h, Option.toList_some, flatD_app, List.map_append]; rfl
  · rw [List.take_add_one, h, List.length_append]; rfl
def rowLI (u : Bool) (ls : List (List Int)) : D := .row u 1 ls.length (ls.map (rowI u))
def dRw (l : List (Int × Nat)) : D := .row false 3 l.length (flatD dyP l)
def rowLJ (u v : Bool) (ls : List (List Int)) : D := .row u 1 ls.length (ls.map (rowI v))
def rowLD (rows : List (List (Int × Nat))) : D := .row false 1 rows.length (rows.map dRw)
def runQE (ps : List Prt) (bs : List Bk) (os : List Int) (ls : List (List Int)) : Int := if dgErr ps bs os ≠ 0 then dgErr ps bs os else if 256 < ls.length then 4 else runE ps bs (startM bs) ls
theorem pstart_cv (t : Bool) {ps : List Prt} {bs : List Bk} {os : List Int} (hl : DgLen ps bs os) : CV Tryz.prog TabAt 38 [aDg t ps bs os] [aDys (okQ (dgErr ps bs os) (startM bs)), aE (dgErr ps bs os)] := by
  refine cvz Tryz.func38 Tryz.ntmps38 ?_
  have DL := (delays_cv t hl (ps := ps) (bs := bs) (os := os)).cv
  have hnl := natI_len (delL bs)
  by_cases h0 : dgErr ps bs os = 0
  case neg =>
    rw [if_neg h0] at DL
    rw [okQ_n h0]
    repeat' (with_reducible first | apply qa | apply qb | apply qc | apply qd | apply qe | apply qf | apply qg | apply qh | apply qi | apply qj | apply qk | apply ql rfl | apply qm rfl | apply qn rfl | apply Je | (refine Tx 0 ?_; refine Jn xBo ?_; refine Ja ?_; refine Ja ?_) | (refine Tx 1 ?_; refine Jo (xLa tk_Diagram) ?_; refine Jo (xCl Tryz.func41 (DL)) ?_; refine Jo xMt ?_; refine Jo xEx ?_; refine Jo xEx ?_; refine Ja ?_; refine Ja ?_) | (refine Tx 2 ?_; refine Jm ?_; refine Jo (xNE ti_error) ?_) | (refine Tx 3 ?_; refine Jm ?_; refine Ja ?_; refine Ja ?_))
    exact ret_q rfl (.cons_ (.tmp (.one (cexp_n rfl rfl))) (.cons_ (rv_e rfl rfl) .nil_))
  rw [if_pos h0, h0] at DL
  rw [h0, okQ_z rfl]
  repeat' (with_reducible first | apply qa | apply qb | apply qc | apply qd | apply qe | apply qf | apply qg | apply qh | apply qi | apply qj | apply qk | apply ql rfl | apply qm rfl | apply qn rfl | apply Je | (refine Tx 0 ?_; refine Jn xBo ?_; refine Ja ?_; refine Ja ?_) | (refine Tx 1 ?_; refine Jo (xLa tk_Diagram) ?_; refine Jo (xCl Tryz.func41 (DL)) ?_; refine Jo xMt ?_; refine Jo xEx ?_; refine Jo xEx ?_; refine Ja ?_; refine Ja ?_) | (refine Tx 2 ?_; refine Jm ?_; refine Jo (xNE ti_error) ?_) | (refine Tx 4 ?_; refine Ja ?_) | (refine Tx 5 ?_; refine Jm ?_; refine Jo (xLn ts_s_int) ?_; refine Jm ?_))
  refine cw_wk (wk_nil 6 53 3 rfl) ?_
  have hl2 := hl.l2
  have hdb := delL_le bs
  have hsl : (startM bs).length = (delL bs).length := (start_ok h0).len
  refine cw_wk (F' := ofL [(1, vr 0), (6, vo 1 (((startM bs).take 0).length)), (17, vd (rowI false (natI (delL bs)))), (18, vi ((natI (delL bs)).length)), (19, vi ((0 : Nat)))]) (H' := [.box 26 [.d (rowP t ps), .d (rowB t bs), .d (rowI t os)], .row 53 3 ((startM bs).take (0)).length ((flatD dyP ((startM bs).take (0))).map C.d)]) (wk_go _ 2 ?_ ?_ ?_) ?_
  · rfl
  · exact mB rfl rfl
  · exact ⟨bel_lit rfl, bel_D, trivial⟩
  refine cw_loopW (fun n Fr H => ∃ k : Nat, k ≤ (delL bs).length ∧ n = (delL bs).length - k ∧ Fr = ofL [(1, vr 0), (6, vo 1 (((startM bs).take k).length)), (17, vd (rowI false (natI (delL bs)))), (18, vi ((natI (delL bs)).length)), (19, vi ((k : Nat)))] ∧ H = [.box 26 [.d (rowP t ps), .d (rowB t bs), .d (rowI t os)], .row 53 3 ((startM bs).take (k)).length ((flatD dyP ((startM bs).take (k))).map C.d)]) (n0 := (delL bs).length) ⟨0, Nat.zero_le _, rfl, rfl, rfl⟩ ?_
  rintro n Fr H ⟨k, hk, rfl, rfl, rfl⟩
  by_cases hlt : k < (delL bs).length
  case pos =>
    obtain ⟨i, hi⟩ : ∃ i, (delL bs)[k]? = some i := ⟨_, List.getElem?_eq_getElem hlt⟩
    have hid := del_at hi
    have hil := hid.1
    obtain ⟨y, hy⟩ : ∃ y, bs[i]? = some y := ⟨_, List.getElem?_eq_getElem hil⟩
    have hk2 := hid.2
    rw [kind_at hy] at hk2
    have hsc := acc_sc h0 hy (by unfold valU; rw [hk2]; rfl)
    have NU := number_cv2 y.vn y.ve hsc
    obtain ⟨hap, hap2, hoL⟩ := flat_next (start_at hi hy)
    repeat' (with_reducible first | apply qa | apply qb | apply qc | apply qd | apply qe | apply qf | apply qg | apply qh | apply qi | apply qj | apply qk | apply ql rfl | apply qm rfl | apply qn rfl | apply Je | (refine Tx 6 ?_; refine Jo xLt ?_) | (refine Tx 7 ?_; refine Jo (xIr ts_s_int (int_at (natI_at hi))) ?_; refine Jo (xLd tk_int) ?_; refine Ja ?_) | (refine Tx 8 ?_; refine Jm ?_; refine Jo (xFa tf_Diagram1 tk_s_Block) ?_; refine Jo (xLd tk_s_Block) ?_; refine Jm ?_; refine Jo (xIr ts_s_Block (bk_at hy)) ?_; refine Jo (xFa tf_Block2 tk_Scalar) ?_; refine Jo (xLa tk_Scalar) ?_; refine Jo (xCl Tryz.func94 (NU)) ?_; refine Jn (by exact ok_build1 rfl ts_s_Dyadic tz_Dyadic rfl rfl (by decide) (by decide)) ?_; refine Jt (by exact to_apD rfl rfl rfl rfl rfl rfl ts_s_Dyadic tz_Dyadic (by omega) (by decide) (by decide) rfl hap hap2) ?_; refine Ja ?_) | (refine Tx 9 ?_; refine Jo xAd ?_; refine Jm ?_))
    refine ⟨_, _, wk_go _ 2 ?_ ?_ ?_, _, ?_, k + 1, by omega, rfl, rfl, rfl⟩
    · rfl
    · exact mB rfl rfl
    · exact ⟨bel_lit rfl, bel_D, trivial⟩
    · omega
  obtain rfl : k = (delL bs).length := by omega
  clear hlt hk
  rw [← hsl, List.take_length]
  unfold aDys
  repeat' (with_reducible first | apply qa | apply qb | apply qc | apply qd | apply qe | apply qf | apply qg | apply qh | apply qi | apply qj | apply qk | apply ql rfl | apply qm rfl | apply qn rfl | apply Je | (refine Tx 6 ?_; refine Jo xLt ?_) | (refine Tx 10 ?_; refine Jm ?_; refine Ja ?_; refine Ja ?_))
  exact ret_q rfl (.cons_ (.tmp (.one (cexp_oD rfl rfl rfl))) (.cons_ (rv_e0 rfl rfl) .nil_))
theorem block_bad (d : Dg) (b : Bk) (w : World) (h : ¬ (0 ≤ arityM b.kind ∧ ((b.args.length : Nat) : Int) = arityM b.kind)) (hl : b.args.length ≤ 1000000) :
    Calls Tryz.prog 49 #[d.val, b.val] w fun e w' => e = .returned (.int .i64 (blkErr d.ps.length d.bs.length b)) ∧ Below w.heap.size w w' := by
  obtain ⟨A1, ps, c1, A2, bs, c2, A3, os, c3⟩ := d
  obtain ⟨kind, A, args, cap, vn, ve, un, ue⟩ := b
  dsimp only at h hl
  simp only [Dg.val, Bk.val]
  have b0 : Below w.heap.size w ((w.alloc (.cells #[.slice A1 ps.length c1, .slice A2 bs.length c2, .slice A3 os.length c3] 26)).alloc (.cells #[.int .i64 kind, .slice A args.length cap, .int .i64 vn, .int .i64 ve, .int .i64 un, .int .i64 ue] 65)) := ext_alloc (al_ _ _) _
  obtain ⟨K, hK⟩ : ∃ K, arityM kind = K := ⟨_, rfl⟩
  have HKK := Lib.hid hK
  by_cases hk0 : K < 0
  · have HE := Lib.hid (be1 (np := ps.length) (nb := bs.length) (b := ⟨kind, A, args, cap, vn, ve, un, ue⟩) (by show arityM kind < 0; omega))
    clear h hK
    go_enter Tryz.func49, Tryz.ntmps49
    go_wp2_with (go_at_call 110; refine (rArity_any _ _).mono ?_; rintro e w1 ⟨rfl, rfl⟩; rw [HKK.out])
    go_ret
    exact ⟨ar_eq HE.out.symm, b0⟩
  · have HE := Lib.hid (be2 (np := ps.length) (nb := bs.length) (b := ⟨kind, A, args, cap, vn, ve, un, ue⟩) (by show ¬ arityM kind < 0; omega) (fun h2 => h ⟨by omega, h2⟩))
    have hne : (((args.length : Nat) : Int) != K) = true := by
      rw [bne_iff_ne]
      intro h2
      exact h ⟨by omega, by omega⟩
    have hk1 : 0 ≤ K := by omega
    clear h hK hk0
    go_enter Tryz.func49, Tryz.ntmps49
    go_wp2_with (go_at_call 110; refine (rArity_any _ _).mono ?_; rintro e w1 ⟨rfl, rfl⟩; rw [HKK.out])
    go_ret
    exact ⟨ar_eq HE.out.symm, b0⟩
theorem block_0 (A1 : Option Addr) (ps : List Prt) (c1 : Nat) (A2 : Option Addr) (bs : List Bk) (c2 : Nat) (A3 : Option Addr) (os : List Int) (c3 : Nat) (A : Option Addr) (args : List Int) (cap : Nat) (vn ve un ue : Int) (m : Nat) (w : World)
    (hk0 : ¬ arityM 0 < 0) (hk1 : ((args.length : Nat) : Int) = arityM 0) (hl : args.length ≤ 1000000) (hl1 : ps.length ≤ 1000000) (hl2 : bs.length ≤ 1000000) (hm : m ≤ w.heap.size) (ha : CellsAt w m A (ints args)) :
    Calls Tryz.prog 49 #[.agg #[.slice A1 ps.length c1, .slice A2 bs.length c2, .slice A3 os.length c3], .agg #[.int .i64 0, .slice A args.length cap, .int .i64 vn, .int .i64 ve, .int .i64 un, .int .i64 ue]] w fun e w' => e = .returned (.int .i64 (blkErr ps.length bs.length ⟨0, A, args, cap, vn, ve, un, ue⟩)) ∧ Below w.heap.size w w' := by
  have b0 : Below w.heap.size w ((w.alloc (.cells #[.slice A1 ps.length c1, .slice A2 bs.length c2, .slice A3 os.length c3] 26)).alloc (.cells #[.int .i64 0, .slice A args.length cap, .int .i64 vn, .int .i64 ve, .int .i64 un, .int .i64 ue] 65)) := ext_alloc (al_ _ _) _
  have r0 := (RowD.new_ w [.slice A1 ps.length c1, .slice A2 bs.length c2, .slice A3 os.length c3] 26).call (al_ _ (.cells #[.int .i64 0, .slice A args.length cap, .int .i64 vn, .int .i64 ve, .int .i64 un, .int .i64 ue] 65))
  have r1 := RowD.new_ (w.alloc (.cells #[.slice A1 ps.length c1, .slice A2 bs.length c2, .slice A3 os.length c3] 26)) [.int .i64 0, .slice A args.length cap, .int .i64 vn, .int .i64 ve, .int .i64 un, .int .i64 ue] 65
  rw [show (w.alloc (.cells #[.slice A1 ps.length c1, .slice A2 bs.length c2, .slice A3 os.length c3] 26)).heap.size = w.heap.size + 1 by simp] at r1
  have HA := Lib.hid ha
  have HK0 := Lib.hid hk0
  have HK1 := Lib.hid hk1
  obtain ⟨K, hK⟩ : ∃ K, arityM 0 = K := ⟨_, rfl⟩
  have HKK := Lib.hid hK
  have hne : (((args.length : Nat) : Int) != K) = false := by rw [hk1, hK]; simp
  have hkk : 0 ≤ K := by omega
  clear ha hk0 hk1 hK
  go_enter Tryz.func49, Tryz.ntmps49
  have HM : Hid (mostM ps.length bs.length 0 = ps.length) := Lib.hid (rfl)
  have HV : Hid (valU 0 = false) := Lib.hid (by decide)
  have HU : Hid (clipU 0 = false) := Lib.hid (by decide)
  go_wp2_with (go_at_call 110; refine (rArity_any _ _).mono ?_; rintro e w1 ⟨rfl, rfl⟩; rw [HKK.out])
  obtain ⟨W, hW⟩ : ∃ W, W = ((w.alloc (.cells #[.slice A1 ps.length c1, .slice A2 bs.length c2, .slice A3 os.length c3] 26)).alloc (.cells #[.int .i64 0, .slice A args.length cap, .int .i64 vn, .int .i64 ve, .int .i64 un, .int .i64 ue] 65)) := ⟨_, rfl⟩
  rw [← hW]
  rw [← hW] at r0 r1 b0
  have hWs : W.heap.size = w.heap.size + 2 := by rw [hW]; simp
  clear hW
  have q0 : W.cell? ⟨w.heap.size + 1, 0, none⟩ = some (.int .i64 0) := r1.cell 0
  have q2 : W.cell? ⟨w.heap.size + 1, 2, none⟩ = some (.int .i64 vn) := r1.cell 2
  have q3 : W.cell? ⟨w.heap.size + 1, 3, none⟩ = some (.int .i64 ve) := r1.cell 3
  have HB0 := Lib.hid b0
  have R1 := Lib.hid r1
  have HA2 := Lib.hid (HA.out.below b0 hm)
  have hbs1 : (W.heap.size : Int) = w.heap.size + 2 := by omega
  clear r0 r1 b0
  go_loopw [34] (fun i wr => argRel args ps.length W i wr) (fun i _ => args.length - (intOf i).toNat)
  case atStart => exact ⟨0, Nat.zero_le _, rfl, rfl, rfl⟩
  case round =>
    as_aux_lemma =>
      obtain ⟨t, ht, rfl, hf, rfl⟩ := hrel
      have HF := Lib.hid hf
      clear hf
      by_cases hlt : t < args.length
      · obtain ⟨ab, ao, z, rfl, hab, hab2, hz, hzc⟩ := HA2.out.int_ hlt
        have HZ := Lib.hid hz
        clear hz
        by_cases h0 : 0 ≤ z ∧ z < (ps.length : Int)
        · have HZ2 := Lib.hid (out_step HZ.out h0 HF.out)
          have HWB := Lib.hid (show withinB z 0 ((ps.length : Int) - 1) = true from decide_eq_true ⟨h0.1, by have := h0.2; omega⟩)
          clear h0
          go_wp2_with (go_at_call 48; refine (within_any _ _ _ _).mono ?_; rintro e w1 ⟨rfl, rfl⟩; rw [HWB.out])
          exact ⟨⟨t + 1, by omega, by go_num, HZ2.out, rfl⟩, by simp [intOf]; omega⟩
        · have hE := Lib.hid (be3 (np := ps.length) (nb := bs.length) (b := ⟨0, some ⟨ab, ao, none⟩, args, cap, vn, ve, un, ue⟩) (Int.not_lt.2 HK0.out) HK1.out HM.out (out_hit HZ.out h0 HF.out))
          have HWB := Lib.hid (show withinB z 0 ((ps.length : Int) - 1) = false from decide_eq_false (fun h => h0 ⟨h.1, by have := h.2; omega⟩))
          clear h0
          go_wp2_with (go_at_call 48; refine (within_any _ _ _ _).mono ?_; rintro e w1 ⟨rfl, rfl⟩; rw [HWB.out])
          go_ret
          exact ⟨ar_eq hE.out.symm, HB0.out⟩
      · have P1 := Lib.hid (fe_all (k := t) (by rw [List.length_map]; omega) HF.out)
        clear HF
        have hE4 := fun h => be4 (np := ps.length) (nb := bs.length) (b := ⟨0, A, args, cap, vn, ve, un, ue⟩) (Int.not_lt.2 HK0.out) HK1.out HM.out P1.out HV.out h
        have hE5 := fun h4 h => be5 (np := ps.length) (nb := bs.length) (b := ⟨0, A, args, cap, vn, ve, un, ue⟩) (Int.not_lt.2 HK0.out) HK1.out HM.out P1.out HV.out h4 HU.out h
        have hE6 := fun h4 h5 h => be6 (np := ps.length) (nb := bs.length) (b := ⟨0, A, args, cap, vn, ve, un, ue⟩) (Int.not_lt.2 HK0.out) HK1.out HM.out P1.out HV.out h4 HU.out h5 h
        have hE7 := fun h4 h5 h => be7 (np := ps.length) (nb := bs.length) (b := ⟨0, A, args, cap, vn, ve, un, ue⟩) (Int.not_lt.2 HK0.out) HK1.out HM.out P1.out HV.out h4 HU.out h5 h
        dsimp only at hE4 hE5 hE6 hE7
        have HE4 := Lib.hid hE4
        have HE5 := Lib.hid hE5
        have HE6 := Lib.hid hE6
        have HE7 := Lib.hid hE7
        clear hE4 hE5 hE6 hE7
        go_wp2_with fail
        go_at_call 111
        refine (rScalar_any vn ve false wr).mono ?_
        rintro e w5 ⟨rfl, hb5⟩
        have N5 := Lib.hid (HB0.out.trans (hb5.mono (by omega)))
        have r5 := R1.out.call hb5
        have hz5 := hb5.size
        have z5 : w.heap.size + 1 < w5.heap.size := by omega
        have q4 : w5.cell? ⟨w.heap.size + 1, 4, none⟩ = some (.int .i64 un) := r5.cell 4
        have q5 : w5.cell? ⟨w.heap.size + 1, 5, none⟩ = some (.int .i64 ue) := r5.cell 5
        have R5 := Lib.hid r5
        clear r5 hb5 q0 q2 q3 hlt hbs1
        by_cases h4 : scalE vn ve false = 0
        · rw [h4]
          have H4 := Lib.hid h4
          clear h4
          go_wp2_with fail
          go_at_call 111
          refine (rScalar_any un ue false w5).mono ?_
          rintro e w6 ⟨rfl, hb6⟩
          have N6 := Lib.hid (N5.out.trans (hb6.mono (by omega)))
          have r6 := R5.out.call hb6
          have hz6 := hb6.size
          have z6 : w.heap.size + 1 < w6.heap.size := by omega
          have q2 : w6.cell? ⟨w.heap.size + 1, 2, none⟩ = some (.int .i64 vn) := r6.cell 2
          have q3 : w6.cell? ⟨w.heap.size + 1, 3, none⟩ = some (.int .i64 ve) := r6.cell 3
          have q6 : w6.cell? ⟨w.heap.size + 1, 4, none⟩ = some (.int .i64 un) := r6.cell 4
          have q7 : w6.cell? ⟨w.heap.size + 1, 5, none⟩ = some (.int .i64 ue) := r6.cell 5
          clear r6 hb6 q4 q5 z5
          by_cases h5 : scalE un ue false = 0
          · rw [h5]
            have H5 := Lib.hid h5
            clear h5
            go_wp2_with fail
            go_ret
            exact ⟨ar_eq (HE7.out H4.out H5.out (fun h => by cases h.1)).symm, N6.out⟩
          · have HE := Lib.hid (HE5.out H4.out h5)
            obtain ⟨q, hq⟩ : ∃ q, scalE un ue false = q := ⟨_, rfl⟩
            rw [hq] at h5 HE
            rw [hq]
            have hqb : (q != 0) = true := by simpa using h5
            clear hq h5
            go_wp2_with fail
            go_ret
            exact ⟨ar_eq HE.out.symm, N6.out⟩
        · have HE := Lib.hid (HE4.out h4)
          obtain ⟨q, hq⟩ : ∃ q, scalE vn ve false = q := ⟨_, rfl⟩
          rw [hq] at h4 HE
          rw [hq]
          have hqb : (q != 0) = true := by simpa using h4
          clear hq h4
          go_wp2_with fail
          go_ret
          exact ⟨ar_eq HE.out.symm, N5.out⟩
theorem block_11 (A1 : Option Addr) (ps : List Prt) (c1 : Nat) (A2 : Option Addr) (bs : List Bk) (c2 : Nat) (A3 : Option Addr) (os : List Int) (c3 : Nat) (A : Option Addr) (args : List Int) (cap : Nat) (vn ve un ue : Int) (m : Nat) (w : World)
    (hk0 : ¬ arityM 11 < 0) (hk1 : ((args.length : Nat) : Int) = arityM 11) (hl : args.length ≤ 1000000) (hl1 : ps.length ≤ 1000000) (hl2 : bs.length ≤ 1000000) (hm : m ≤ w.heap.size) (ha : CellsAt w m A (ints args)) :
    Calls Tryz.prog 49 #[.agg #[.slice A1 ps.length c1, .slice A2 bs.length c2, .slice A3 os.length c3], .agg #[.int .i64 11, .slice A args.length cap, .int .i64 vn, .int .i64 ve, .int .i64 un, .int .i64 ue]] w fun e w' => e = .returned (.int .i64 (blkErr ps.length bs.length ⟨11, A, args, cap, vn, ve, un, ue⟩)) ∧ Below w.heap.size w w' := by
  have b0 : Below w.heap.size w ((w.alloc (.cells #[.slice A1 ps.length c1, .slice A2 bs.length c2, .slice A3 os.length c3] 26)).alloc (.cells #[.int .i64 11, .slice A args.length cap, .int .i64 vn, .int .i64 ve, .int .i64 un, .int .i64 ue] 65)) := ext_alloc (al_ _ _) _
  have r0 := (RowD.new_ w [.slice A1 ps.length c1, .slice A2 bs.length c2, .slice A3 os.length c3] 26).call (al_ _ (.cells #[.int .i64 11, .slice A args.length cap, .int .i64 vn, .int .i64 ve, .int .i64 un, .int .i64 ue] 65))
  have r1 := RowD.new_ (w.alloc (.cells #[.slice A1 ps.length c1, .slice A2 bs.length c2, .slice A3 os.length c3] 26)) [.int .i64 11, .slice A args.length cap, .int .i64 vn, .int .i64 ve, .int .i64 un, .int .i64 ue] 65
  rw [show (w.alloc (.cells #[.slice A1 ps.length c1, .slice A2 bs.length c2, .slice A3 os.length c3] 26)).heap.size = w.heap.size + 1 by simp] at r1
  have HA := Lib.hid ha
  have HK0 := Lib.hid hk0
  have HK1 := Lib.hid hk1
  obtain ⟨K, hK⟩ : ∃ K, arityM 11 = K := ⟨_, rfl⟩
  have HKK := Lib.hid hK
  have hne : (((args.length : Nat) : Int) != K) = false := by rw [hk1, hK]; simp
  have hkk : 0 ≤ K := by omega
  clear ha hk0 hk1 hK
  go_enter Tryz.func49, Tryz.ntmps49
  have HM : Hid (mostM ps.length bs.length 11 = bs.length) := Lib.hid (rfl)
  have HV : Hid (valU 11 = true) := Lib.hid (by decide)
  have HU : Hid (clipU 11 = true) := Lib.hid (by decide)
  go_wp2_with (go_at_call 110; refine (rArity_any _ _).mono ?_; rintro e w1 ⟨rfl, rfl⟩; rw [HKK.out])
  obtain ⟨W, hW⟩ : ∃ W, W = ((w.alloc (.cells #[.slice A1 ps.length c1, .slice A2 bs.length c2, .slice A3 os.length c3] 26)).alloc (.cells #[.int .i64 11, .slice A args.length cap, .int .i64 vn, .int .i64 ve, .int .i64 un, .int .i64 ue] 65)) := ⟨_, rfl⟩
  rw [← hW]
  rw [← hW] at r0 r1 b0
  have hWs : W.heap.size = w.heap.size + 2 := by rw [hW]; simp
  clear hW
  have q0 : W.cell? ⟨w.heap.size + 1, 0, none⟩ = some (.int .i64 11) := r1.cell 0
  have q2 : W.cell? ⟨w.heap.size + 1, 2, none⟩ = some (.int .i64 vn) := r1.cell 2
  have q3 : W.cell? ⟨w.heap.size + 1, 3, none⟩ = some (.int .i64 ve) := r1.cell 3
  have HB0 := Lib.hid b0
  have R1 := Lib.hid r1
  have HA2 := Lib.hid (HA.out.below b0 hm)
  have hbs1 : (W.heap.size : Int) = w.heap.size + 2 := by omega
  clear r0 r1 b0
  go_loopw [34] (fun i wr => argRel args bs.length W i wr) (fun i _ => args.length - (intOf i).toNat)
  case atStart => exact ⟨0, Nat.zero_le _, rfl, rfl, rfl⟩
  case round =>
    as_aux_lemma =>
      obtain ⟨t, ht, rfl, hf, rfl⟩ := hrel
      have HF := Lib.hid hf
      clear hf
      by_cases hlt : t < args.length
      · obtain ⟨ab, ao, z, rfl, hab, hab2, hz, hzc⟩ := HA2.out.int_ hlt
        have HZ := Lib.hid hz
        clear hz
        by_cases h0 : 0 ≤ z ∧ z < (bs.length : Int)
        · have HZ2 := Lib.hid (out_step HZ.out h0 HF.out)
          have HWB := Lib.hid (show withinB z 0 ((bs.length : Int) - 1) = true from decide_eq_true ⟨h0.1, by have := h0.2; omega⟩)
          clear h0
          go_wp2_with (go_at_call 48; refine (within_any _ _ _ _).mono ?_; rintro e w1 ⟨rfl, rfl⟩; rw [HWB.out])
          exact ⟨⟨t + 1, by omega, by go_num, HZ2.out, rfl⟩, by simp [intOf]; omega⟩
        · have hE := Lib.hid (be3 (np := ps.length) (nb := bs.length) (b := ⟨11, some ⟨ab, ao, none⟩, args, cap, vn, ve, un, ue⟩) (Int.not_lt.2 HK0.out) HK1.out HM.out (out_hit HZ.out h0 HF.out))
          have HWB := Lib.hid (show withinB z 0 ((bs.length : Int) - 1) = false from decide_eq_false (fun h => h0 ⟨h.1, by have := h.2; omega⟩))
          clear h0
          go_wp2_with (go_at_call 48; refine (within_any _ _ _ _).mono ?_; rintro e w1 ⟨rfl, rfl⟩; rw [HWB.out])
          go_ret
          exact ⟨ar_eq hE.out.symm, HB0.out⟩
      · have P1 := Lib.hid (fe_all (k := t) (by rw [List.length_map]; omega) HF.out)
        clear HF
        have hE4 := fun h => be4 (np := ps.length) (nb := bs.length) (b := ⟨11, A, args, cap, vn, ve, un, ue⟩) (Int.not_lt.2 HK0.out) HK1.out HM.out P1.out HV.out h
        have hE5 := fun h4 h => be5 (np := ps.length) (nb := bs.length) (b := ⟨11, A, args, cap, vn, ve, un, ue⟩) (Int.not_lt.2 HK0.out) HK1.out HM.out P1.out HV.out h4 HU.out h
        have hE6 := fun h4 h5 h => be6 (np := ps.length) (nb := bs.length) (b := ⟨11, A, args, cap, vn, ve, un, ue⟩) (Int.not_lt.2 HK0.out) HK1.out HM.out P1.out HV.out h4 HU.out h5 h
        have hE7 := fun h4 h5 h => be7 (np := ps.length) (nb := bs.length) (b := ⟨11, A, args, cap, vn, ve, un, ue⟩) (Int.not_lt.2 HK0.out) HK1.out HM.out P1.out HV.out h4 HU.out h5 h
        dsimp only at hE4 hE5 hE6 hE7
        have HE4 := Lib.hid hE4
        have HE5 := Lib.hid hE5
        have HE6 := Lib.hid hE6
        have HE7 := Lib.hid hE7
        clear hE4 hE5 hE6 hE7
        go_wp2_with fail
        go_at_call 111
        refine (rScalar_any vn ve true wr).mono ?_
        rintro e w5 ⟨rfl, hb5⟩
        have N5 := Lib.hid (HB0.out.trans (hb5.mono (by omega)))
        have r5 := R1.out.call hb5
        have hz5 := hb5.size
        have z5 : w.heap.size + 1 < w5.heap.size := by omega
        have q4 : w5.cell? ⟨w.heap.size + 1, 4, none⟩ = some (.int .i64 un) := r5.cell 4
        have q5 : w5.cell? ⟨w.heap.size + 1, 5, none⟩ = some (.int .i64 ue) := r5.cell 5
        have R5 := Lib.hid r5
        clear r5 hb5 q0 q2 q3 hlt hbs1
        by_cases h4 : scalE vn ve true = 0
        · rw [h4]
          have H4 := Lib.hid h4
          clear h4
          go_wp2_with fail
          go_at_call 111
          refine (rScalar_any un ue true w5).mono ?_
          rintro e w6 ⟨rfl, hb6⟩
          have N6 := Lib.hid (N5.out.trans (hb6.mono (by omega)))
          have r6 := R5.out.call hb6
          have hz6 := hb6.size
          have z6 : w.heap.size + 1 < w6.heap.size := by omega
          have q2 : w6.cell? ⟨w.heap.size + 1, 2, none⟩ = some (.int .i64 vn) := r6.cell 2
          have q3 : w6.cell? ⟨w.heap.size + 1, 3, none⟩ = some (.int .i64 ve) := r6.cell 3
          have q6 : w6.cell? ⟨w.heap.size + 1, 4, none⟩ = some (.int .i64 un) := r6.cell 4
          have q7 : w6.cell? ⟨w.heap.size + 1, 5, none⟩ = some (.int .i64 ue) := r6.cell 5
          clear r6 hb6 q4 q5 z5
          by_cases h5 : scalE un ue true = 0
          · rw [h5]
            have H5 := Lib.hid h5
            clear h5
            go_wp2_with fail
            go_at_call 112
            refine (scmp_any vn ve un ue w6 (scOk_of H4.out) (scOk_of H5.out)).mono ?_
            rintro e w9 ⟨rfl, hb9⟩
            have N9 := Lib.hid (N6.out.trans (hb9.mono (by omega)))
            clear hb9
            obtain ⟨C, hC⟩ : ∃ C, scCmp vn ve un ue = C := ⟨_, rfl⟩
            have HC := Lib.hid hC
            rw [hC]
            clear hC
            by_cases hc : 0 < C
            · have HE := Lib.hid (HE6.out H4.out H5.out ⟨by trivial, by rw [HC.out]; exact hc⟩)
              go_wp2_with fail
              go_ret
              exact ⟨ar_eq HE.out.symm, N9.out⟩
            · have HE := Lib.hid (HE7.out H4.out H5.out (fun h => hc (by rw [← HC.out]; exact h.2)))
              go_wp2_with fail
              go_ret
              exact ⟨ar_eq HE.out.symm, N9.out⟩
          · have HE := Lib.hid (HE5.out H4.out h5)
            obtain ⟨q, hq⟩ : ∃ q, scalE un ue true = q := ⟨_, rfl⟩
            rw [hq] at h5 HE
            rw [hq]
            have hqb : (q != 0) = true := by simpa using h5
            clear hq h5
            go_wp2_with fail
            go_ret
            exact ⟨ar_eq HE.out.symm, N6.out⟩
        · have HE := Lib.hid (HE4.out h4)
          obtain ⟨q, hq⟩ : ∃ q, scalE vn ve true = q := ⟨_, rfl⟩
          rw [hq] at h4 HE
          rw [hq]
          have hqb : (q != 0) = true := by simpa using h4
          clear hq h4
          go_wp2_with fail
          go_ret
          exact ⟨ar_eq HE.out.symm, N5.out⟩
theorem block_1 (A1 : Option Addr) (ps : List Prt) (c1 : Nat) (A2 : Option Addr) (bs : List Bk) (c2 : Nat) (A3 : Option Addr) (os : List Int) (c3 : Nat) (A : Option Addr) (args : List Int) (cap : Nat) (vn ve un ue : Int) (m : Nat) (w : World)
    (hk0 : ¬ arityM 1 < 0) (hk1 : ((args.length : Nat) : Int) = arityM 1) (hl : args.length ≤ 1000000) (hl1 : ps.length ≤ 1000000) (hl2 : bs.length ≤ 1000000) (hm : m ≤ w.heap.size) (ha : CellsAt w m A (ints args)) :
    Calls Tryz.prog 49 #[.agg #[.slice A1 ps.length c1, .slice A2 bs.length c2, .slice A3 os.length c3], .agg #[.int .i64 1, .slice A args.length cap, .int .i64 vn, .int .i64 ve, .int .i64 un, .int .i64 ue]] w fun e w' => e = .returned (.int .i64 (blkErr ps.length bs.length ⟨1, A, args, cap, vn, ve, un, ue⟩)) ∧ Below w.heap.size w w' := by
  have b0 : Below w.heap.size w ((w.alloc (.cells #[.slice A1 ps.length c1, .slice A2 bs.length c2, .slice A3 os.length c3] 26)).alloc (.cells #[.int .i64 1, .slice A args.length cap, .int .i64 vn, .int .i64 ve, .int .i64 un, .int .i64 ue] 65)) := ext_alloc (al_ _ _) _
  have r0 := (RowD.new_ w [.slice A1 ps.length c1, .slice A2 bs.length c2, .slice A3 os.length c3] 26).call (al_ _ (.cells #[.int .i64 1, .slice A args.length cap, .int .i64 vn, .int .i64 ve, .int .i64 un, .int .i64 ue] 65))
  have r1 := RowD.new_ (w.alloc (.cells #[.slice A1 ps.length c1, .slice A2 bs.length c2, .slice A3 os.length c3] 26)) [.int .i64 1, .slice A args.length cap, .int .i64 vn, .int .i64 ve, .int .i64 un, .int .i64 ue] 65
  rw [show (w.alloc (.cells #[.slice A1 ps.length c1, .slice A2 bs.length c2, .slice A3 os.length c3] 26)).heap.size = w.heap.size + 1 by simp] at r1
  have HA := Lib.hid ha
  have HK0 := Lib.hid hk0
  have HK1 := Lib.hid hk1
  obtain ⟨K, hK⟩ : ∃ K, arityM 1 = K := ⟨_, rfl⟩
  have HKK := Lib.hid hK
  have hne : (((args.length : Nat) : Int) != K) = false := by rw [hk1, hK]; simp
  have hkk : 0 ≤ K := by omega
  clear ha hk0 hk1 hK
  go_enter Tryz.func49, Tryz.ntmps49
  have HM : Hid (mostM ps.length bs.length 1 = bs.length) := Lib.hid (rfl)
  have HV : Hid (valU 1 = true) := Lib.hid (by decide)
  have HU : Hid (clipU 1 = false) := Lib.hid (by decide)
  go_wp2_with (go_at_call 110; refine (rArity_any _ _).mono ?_; rintro e w1 ⟨rfl, rfl⟩; rw [HKK.out])
  obtain ⟨W, hW⟩ : ∃ W, W = ((w.alloc (.cells #[.slice A1 ps.length c1, .slice A2 bs.length c2, .slice A3 os.length c3] 26)).alloc (.cells #[.int .i64 1, .slice A args.length cap, .int .i64 vn, .int .i64 ve, .int .i64 un, .int .i64 ue] 65)) := ⟨_, rfl⟩
  rw [← hW]
  rw [← hW] at r0 r1 b0
  have hWs : W.heap.size = w.heap.size + 2 := by rw [hW]; simp
  clear hW
  have q0 : W.cell? ⟨w.heap.size + 1, 0, none⟩ = some (.int .i64 1) := r1.cell 0
  have q2 : W.cell? ⟨w.heap.size + 1, 2, none⟩ = some (.int .i64 vn) := r1.cell 2
  have q3 : W.cell? ⟨w.heap.size + 1, 3, none⟩ = some (.int .i64 ve) := r1.cell 3
  have HB0 := Lib.hid b0
  have R1 := Lib.hid r1
  have HA2 := Lib.hid (HA.out.below b0 hm)
  have hbs1 : (W.heap.size : Int) = w.heap.size + 2 := by omega
  clear r0 r1 b0
  go_loopw [34] (fun i wr => argRel args bs.length W i wr) (fun i _ => args.length - (intOf i).toNat)
  case atStart => exact ⟨0, Nat.zero_le _, rfl, rfl, rfl⟩
  case round =>
    as_aux_lemma =>
      obtain ⟨t, ht, rfl, hf, rfl⟩ := hrel
      have HF := Lib.hid hf
      clear hf
      by_cases hlt : t < args.length
      · obtain ⟨ab, ao, z, rfl, hab, hab2, hz, hzc⟩ := HA2.out.int_ hlt
        have HZ := Lib.hid hz
        clear hz
        by_cases h0 : 0 ≤ z ∧ z < (bs.length : Int)
        · have HZ2 := Lib.hid (out_step HZ.out h0 HF.out)
          have HWB := Lib.hid (show withinB z 0 ((bs.length : Int) - 1) = true from decide_eq_true ⟨h0.1, by have := h0.2; omega⟩)
          clear h0
          go_wp2_with (go_at_call 48; refine (within_any _ _ _ _).mono ?_; rintro e w1 ⟨rfl, rfl⟩; rw [HWB.out])
          exact ⟨⟨t + 1, by omega, by go_num, HZ2.out, rfl⟩, by simp [intOf]; omega⟩
        · have hE := Lib.hid (be3 (np := ps.length) (nb := bs.length) (b := ⟨1, some ⟨ab, ao, none⟩, args, cap, vn, ve, un, ue⟩) (Int.not_lt.2 HK0.out) HK1.out HM.out (out_hit HZ.out h0 HF.out))
          have HWB := Lib.hid (show withinB z 0 ((bs.length : Int) - 1) = false from decide_eq_false (fun h => h0 ⟨h.1, by have := h.2; omega⟩))
          clear h0
          go_wp2_with (go_at_call 48; refine (within_any _ _ _ _).mono ?_; rintro e w1 ⟨rfl, rfl⟩; rw [HWB.out])
          go_ret
          exact ⟨ar_eq hE.out.symm, HB0.out⟩
      · have P1 := Lib.hid (fe_all (k := t) (by rw [List.length_map]; omega) HF.out)
        clear HF
        have hE4 := fun h => be4 (np := ps.length) (nb := bs.length) (b := ⟨1, A, args, cap, vn, ve, un, ue⟩) (Int.not_lt.2 HK0.out) HK1.out HM.out P1.out HV.out h
        have hE5 := fun h4 h => be5 (np := ps.length) (nb := bs.length) (b := ⟨1, A, args, cap, vn, ve, un, ue⟩) (Int.not_lt.2 HK0.out) HK1.out HM.out P1.out HV.out h4 HU.out h
        have hE6 := fun h4 h5 h => be6 (np := ps.length) (nb := bs.length) (b := ⟨1, A, args, cap, vn, ve, un, ue⟩) (Int.not_lt.2 HK0.out) HK1.out HM.out P1.out HV.out h4 HU.out h5 h
        have hE7 := fun h4 h5 h => be7 (np := ps.length) (nb := bs.length) (b := ⟨1, A, args, cap, vn, ve, un, ue⟩) (Int.not_lt.2 HK0.out) HK1.out HM.out P1.out HV.out h4 HU.out h5 h
        dsimp only at hE4 hE5 hE6 hE7
        have HE4 := Lib.hid hE4
        have HE5 := Lib.hid hE5
        have HE6 := Lib.hid hE6
        have HE7 := Lib.hid hE7
        clear hE4 hE5 hE6 hE7
        go_wp2_with fail
        go_at_call 111
        refine (rScalar_any vn ve true wr).mono ?_
        rintro e w5 ⟨rfl, hb5⟩
        have N5 := Lib.hid (HB0.out.trans (hb5.mono (by omega)))
        have r5 := R1.out.call hb5
        have hz5 := hb5.size
        have z5 : w.heap.size + 1 < w5.heap.size := by omega
        have q4 : w5.cell? ⟨w.heap.size + 1, 4, none⟩ = some (.int .i64 un) := r5.cell 4
        have q5 : w5.cell? ⟨w.heap.size + 1, 5, none⟩ = some (.int .i64 ue) := r5.cell 5
        have R5 := Lib.hid r5
        clear r5 hb5 q0 q2 q3 hlt hbs1
        by_cases h4 : scalE vn ve true = 0
        · rw [h4]
          have H4 := Lib.hid h4
          clear h4
          go_wp2_with fail
          go_at_call 111
          refine (rScalar_any un ue false w5).mono ?_
          rintro e w6 ⟨rfl, hb6⟩
          have N6 := Lib.hid (N5.out.trans (hb6.mono (by omega)))
          have r6 := R5.out.call hb6
          have hz6 := hb6.size
          have z6 : w.heap.size + 1 < w6.heap.size := by omega
          have q2 : w6.cell? ⟨w.heap.size + 1, 2, none⟩ = some (.int .i64 vn) := r6.cell 2
          have q3 : w6.cell? ⟨w.heap.size + 1, 3, none⟩ = some (.int .i64 ve) := r6.cell 3
          have q6 : w6.cell? ⟨w.heap.size + 1, 4, none⟩ = some (.int .i64 un) := r6.cell 4
          have q7 : w6.cell? ⟨w.heap.size + 1, 5, none⟩ = some (.int .i64 ue) := r6.cell 5
          clear r6 hb6 q4 q5 z5
          by_cases h5 : scalE un ue false = 0
          · rw [h5]
            have H5 := Lib.hid h5
            clear h5
            go_wp2_with fail
            go_ret
            exact ⟨ar_eq (HE7.out H4.out H5.out (fun h => by cases h.1)).symm, N6.out⟩
          · have HE := Lib.hid (HE5.out H4.out h5)
            obtain ⟨q, hq⟩ : ∃ q, scalE un ue false = q := ⟨_, rfl⟩
            rw [hq] at h5 HE
            rw [hq]
            have hqb : (q != 0) = true := by simpa using h5
            clear hq h5
            go_wp2_with fail
            go_ret
            exact ⟨ar_eq HE.out.symm, N6.out⟩
        · have HE := Lib.hid (HE4.out h4)
          obtain ⟨q, hq⟩ : ∃ q, scalE vn ve true = q := ⟨_, rfl⟩
          rw [hq] at h4 HE
          rw [hq]
          have hqb : (q != 0) = true := by simpa using h4
          clear hq h4
          go_wp2_with fail
          go_ret
          exact ⟨ar_eq HE.out.symm, N5.out⟩
theorem block_2 (A1 : Option Addr) (ps : List Prt) (c1 : Nat) (A2 : Option Addr) (bs : List Bk) (c2 : Nat) (A3 : Option Addr) (os : List Int) (c3 : Nat) (A : Option Addr) (args : List Int) (cap : Nat) (vn ve un ue : Int) (m : Nat) (w : World)
    (hk0 : ¬ arityM 2 < 0) (hk1 : ((args.length : Nat) : Int) = arityM 2) (hl : args.length ≤ 1000000) (hl1 : ps.length ≤ 1000000) (hl2 : bs.length ≤ 1000000) (hm : m ≤ w.heap.size) (ha : CellsAt w m A (ints args)) :
    Calls Tryz.prog 49 #[.agg #[.slice A1 ps.length c1, .slice A2 bs.length c2, .slice A3 os.length c3], .agg #[.int .i64 2, .slice A args.length cap, .int .i64 vn, .int .i64 ve, .int .i64 un, .int .i64 ue]] w fun e w' => e = .returned (.int .i64 (blkErr ps.length bs.length ⟨2, A, args, cap, vn, ve, un, ue⟩)) ∧ Below w.heap.size w w' := by
  have b0 : Below w.heap.size w ((w.alloc (.cells #[.slice A1 ps.length c1, .slice A2 bs.length c2, .slice A3 os.length c3] 26)).alloc (.cells #[.int .i64 2, .slice A args.length cap, .int .i64 vn, .int .i64 ve, .int .i64 un, .int .i64 ue] 65)) := ext_alloc (al_ _ _) _
  have r0 := (RowD.new_ w [.slice A1 ps.length c1, .slice A2 bs.length c2, .slice A3 os.length c3] 26).call (al_ _ (.cells #[.int .i64 2, .slice A args.length cap, .int .i64 vn, .int .i64 ve, .int .i64 un, .int .i64 ue] 65))
  have r1 := RowD.new_ (w.alloc (.cells #[.slice A1 ps.length c1, .slice A2 bs.length c2, .slice A3 os.length c3] 26)) [.int .i64 2, .slice A args.length cap, .int .i64 vn, .int .i64 ve, .int .i64 un, .int .i64 ue] 65
  rw [show (w.alloc (.cells #[.slice A1 ps.length c1, .slice A2 bs.length c2, .slice A3 os.length c3] 26)).heap.size = w.heap.size + 1 by simp] at r1
  have HA := Lib.hid ha
  have HK0 := Lib.hid hk0
  have HK1 := Lib.hid hk1
  obtain ⟨K, hK⟩ : ∃ K, arityM 2 = K := ⟨_, rfl⟩
  have HKK := Lib.hid hK
  have hne : (((args.length : Nat) : Int) != K) = false := by rw [hk1, hK]; simp
  have hkk : 0 ≤ K := by omega
  clear ha hk0 hk1 hK
  go_enter Tryz.func49, Tryz.ntmps49
  have HM : Hid (mostM ps.length bs.length 2 = bs.length) := Lib.hid (rfl)
  have HV : Hid (valU 2 = true) := Lib.hid (by decide)
  have HU : Hid (clipU 2 = false) := Lib.hid (by decide)
  go_wp2_with (go_at_call 110; refine (rArity_any _ _).mono ?_; rintro e w1 ⟨rfl, rfl⟩; rw [HKK.out])
  obtain ⟨W, hW⟩ : ∃ W, W = ((w.alloc (.cells #[.slice A1 ps.length c1, .slice A2 bs.length c2, .slice A3 os.length c3] 26)).alloc (.cells #[.int .i64 2, .slice A args.length cap, .int .i64 vn, .int .i64 ve, .int .i64 un, .int .i64 ue] 65)) := ⟨_, rfl⟩
  rw [← hW]
  rw [← hW] at r0 r1 b0
  have hWs : W.heap.size = w.heap.size + 2 := by rw [hW]; simp
  clear hW
  have q0 : W.cell? ⟨w.heap.size + 1, 0, none⟩ = some (.int .i64 2) := r1.cell 0
  have q2 : W.cell? ⟨w.heap.size + 1, 2, none⟩ = some (.int .i64 vn) := r1.cell 2
  have q3 : W.cell? ⟨w.heap.size + 1, 3, none⟩ = some (.int .i64 ve) := r1.cell 3
  have HB0 := Lib.hid b0
  have R1 := Lib.hid r1
  have HA2 := Lib.hid (HA.out.below b0 hm)
  have hbs1 : (W.heap.size : Int) = w.heap.size + 2 := by omega
  clear r0 r1 b0
  go_loopw [34] (fun i wr => argRel args bs.length W i wr) (fun i _ => args.length - (intOf i).toNat)
  case atStart => exact ⟨0, Nat.zero_le _, rfl, rfl, rfl⟩
  case round =>
    as_aux_lemma =>
      obtain ⟨t, ht, rfl, hf, rfl⟩ := hrel
      have HF := Lib.hid hf
      clear hf
      by_cases hlt : t < args.length
      · obtain ⟨ab, ao, z, rfl, hab, hab2, hz, hzc⟩ := HA2.out.int_ hlt
        have HZ := Lib.hid hz
        clear hz
        by_cases h0 : 0 ≤ z ∧ z < (bs.length : Int)
        · have HZ2 := Lib.hid (out_step HZ.out h0 HF.out)
          have HWB := Lib.hid (show withinB z 0 ((bs.length : Int) - 1) = true from decide_eq_true ⟨h0.1, by have := h0.2; omega⟩)
          clear h0
          go_wp2_with (go_at_call 48; refine (within_any _ _ _ _).mono ?_; rintro e w1 ⟨rfl, rfl⟩; rw [HWB.out])
          exact ⟨⟨t + 1, by omega, by go_num, HZ2.out, rfl⟩, by simp [intOf]; omega⟩
        · have hE := Lib.hid (be3 (np := ps.length) (nb := bs.length) (b := ⟨2, some ⟨ab, ao, none⟩, args, cap, vn, ve, un, ue⟩) (Int.not_lt.2 HK0.out) HK1.out HM.out (out_hit HZ.out h0 HF.out))
          have HWB := Lib.hid (show withinB z 0 ((bs.length : Int) - 1) = false from decide_eq_false (fun h => h0 ⟨h.1, by have := h.2; omega⟩))
          clear h0
          go_wp2_with (go_at_call 48; refine (within_any _ _ _ _).mono ?_; rintro e w1 ⟨rfl, rfl⟩; rw [HWB.out])
          go_ret
          exact ⟨ar_eq hE.out.symm, HB0.out⟩
      · have P1 := Lib.hid (fe_all (k := t) (by rw [List.length_map]; omega) HF.out)
        clear HF
        have hE4 := fun h => be4 (np := ps.length) (nb := bs.length) (b := ⟨2, A, args, cap, vn, ve, un, ue⟩) (Int.not_lt.2 HK0.out) HK1.out HM.out P1.out HV.out h
        have hE5 := fun h4 h => be5 (np := ps.length) (nb := bs.length) (b := ⟨2, A, args, cap, vn, ve, un, ue⟩) (Int.not_lt.2 HK0.out) HK1.out HM.out P1.out HV.out h4 HU.out h
        have hE6 := fun h4 h5 h => be6 (np := ps.length) (nb := bs.length) (b := ⟨2, A, args, cap, vn, ve, un, ue⟩) (Int.not_lt.2 HK0.out) HK1.out HM.out P1.out HV.out h4 HU.out h5 h
        have hE7 := fun h4 h5 h => be7 (np := ps.length) (nb := bs.length) (b := ⟨2, A, args, cap, vn, ve, un, ue⟩) (Int.not_lt.2 HK0.out) HK1.out HM.out P1.out HV.out h4 HU.out h5 h
        dsimp only at hE4 hE5 hE6 hE7
        have HE4 := Lib.hid hE4
        have HE5 := Lib.hid hE5
        have HE6 := Lib.hid hE6
        have HE7 := Lib.hid hE7
        clear hE4 hE5 hE6 hE7
        go_wp2_with fail
        go_at_call 111
        refine (rScalar_any vn ve true wr).mono ?_
        rintro e w5 ⟨rfl, hb5⟩
        have N5 := Lib.hid (HB0.out.trans (hb5.mono (by omega)))
        have r5 := R1.out.call hb5
        have hz5 := hb5.size
        have z5 : w.heap.size + 1 < w5.heap.size := by omega
        have q4 : w5.cell? ⟨w.heap.size + 1, 4, none⟩ = some (.int .i64 un) := r5.cell 4
        have q5 : w5.cell? ⟨w.heap.size + 1, 5, none⟩ = some (.int .i64 ue) := r5.cell 5
        have R5 := Lib.hid r5
        clear r5 hb5 q0 q2 q3 hlt hbs1
        by_cases h4 : scalE vn ve true = 0
        · rw [h4]
          have H4 := Lib.hid h4
          clear h4
          go_wp2_with fail
          go_at_call 111
          refine (rScalar_any un ue false w5).mono ?_
          rintro e w6 ⟨rfl, hb6⟩
          have N6 := Lib.hid (N5.out.trans (hb6.mono (by omega)))
          have r6 := R5.out.call hb6
          have hz6 := hb6.size
          have z6 : w.heap.size + 1 < w6.heap.size := by omega
          have q2 : w6.cell? ⟨w.heap.size + 1, 2, none⟩ = some (.int .i64 vn) := r6.cell 2
          have q3 : w6.cell? ⟨w.heap.size + 1, 3, none⟩ = some (.int .i64 ve) := r6.cell 3
          have q6 : w6.cell? ⟨w.heap.size + 1, 4, none⟩ = some (.int .i64 un) := r6.cell 4
          have q7 : w6.cell? ⟨w.heap.size + 1, 5, none⟩ = some (.int .i64 ue) := r6.cell 5
          clear r6 hb6 q4 q5 z5
          by_cases h5 : scalE un ue false = 0
          · rw [h5]
            have H5 := Lib.hid h5
            clear h5
            go_wp2_with fail
            go_ret
            exact ⟨ar_eq (HE7.out H4.out H5.out (fun h => by cases h.1)).symm, N6.out⟩
          · have HE := Lib.hid (HE5.out H4.out h5)
            obtain ⟨q, hq⟩ : ∃ q, scalE un ue false = q := ⟨_, rfl⟩
            rw [hq] at h5 HE
            rw [hq]
            have hqb : (q != 0) = true := by simpa using h5
            clear hq h5
            go_wp2_with fail
            go_ret
            exact ⟨ar_eq HE.out.symm, N6.out⟩
        · have HE := Lib.hid (HE4.out h4)
          obtain ⟨q, hq⟩ : ∃ q, scalE vn ve true = q := ⟨_, rfl⟩
          rw [hq] at h4 HE
          rw [hq]
          have hqb : (q != 0) = true := by simpa using h4
          clear hq h4
          go_wp2_with fail
          go_ret
          exact ⟨ar_eq HE.out.symm, N5.out⟩
theorem block_6 (A1 : Option Addr) (ps : List Prt) (c1 : Nat) (A2 : Option Addr) (bs : List Bk) (c2 : Nat) (A3 : Option Addr) (os : List Int) (c3 : Nat) (A : Option Addr) (args : List Int) (cap : Nat) (vn ve un ue : Int) (m : Nat) (w : World)
    (hk0 : ¬ arityM 6 < 0) (hk1 : ((args.length : Nat) : Int) = arityM 6) (hl : args.length ≤ 1000000) (hl1 : ps.length ≤ 1000000) (hl2 : bs.length ≤ 1000000) (hm : m ≤ w.heap.size) (ha : CellsAt w m A (ints args)) :
    Calls Tryz.prog 49 #[.agg #[.slice A1 ps.length c1, .slice A2 bs.length c2, .slice A3 os.length c3], .agg #[.int .i64 6, .slice A args.length cap, .int .i64 vn, .int .i64 ve, .int .i64 un, .int .i64 ue]] w fun e w' => e = .returned (.int .i64 (blkErr ps.length bs.length ⟨6, A, args, cap, vn, ve, un, ue⟩)) ∧ Below w.heap.size w w' := by
  have b0 : Below w.heap.size w ((w.alloc (.cells #[.slice A1 ps.length c1, .slice A2 bs.length c2, .slice A3 os.length c3] 26)).alloc (.cells #[.int .i64 6, .slice A args.length cap, .int .i64 vn, .int .i64 ve, .int .i64 un, .int .i64 ue] 65)) := ext_alloc (al_ _ _) _
  have r0 := (RowD.new_ w [.slice A1 ps.length c1, .slice A2 bs.length c2, .slice A3 os.length c3] 26).call (al_ _ (.cells #[.int .i64 6, .slice A args.length cap, .int .i64 vn, .int .i64 ve, .int .i64 un, .int .i64 ue] 65))
  have r1 := RowD.new_ (w.alloc (.cells #[.slice A1 ps.length c1, .slice A2 bs.length c2, .slice A3 os.length c3] 26)) [.int .i64 6, .slice A args.length cap, .int .i64 vn, .int .i64 ve, .int .i64 un, .int .i64 ue] 65
  rw [show (w.alloc (.cells #[.slice A1 ps.length c1, .slice A2 bs.length c2, .slice A3 os.length c3] 26)).heap.size = w.heap.size + 1 by simp] at r1
  have HA := Lib.hid ha
  have HK0 := Lib.hid hk0
  have HK1 := Lib.hid hk1
  obtain ⟨K, hK⟩ : ∃ K, arityM 6 = K := ⟨_, rfl⟩
  have HKK := Lib.hid hK
  have hne : (((args.length : Nat) : Int) != K) = false := by rw [hk1, hK]; simp
  have hkk : 0 ≤ K := by omega
  clear ha hk0 hk1 hK
  go_enter Tryz.func49, Tryz.ntmps49
  have HM : Hid (mostM ps.length bs.length 6 = bs.length) := Lib.hid (rfl)
  have HV : Hid (valU 6 = true) := Lib.hid (by decide)
  have HU : Hid (clipU 6 = false) := Lib.hid (by decide)
  go_wp2_with (go_at_call 110; refine (rArity_any _ _).mono ?_; rintro e w1 ⟨rfl, rfl⟩; rw [HKK.out])
  obtain ⟨W, hW⟩ : ∃ W, W = ((w.alloc (.cells #[.slice A1 ps.length c1, .slice A2 bs.length c2, .slice A3 os.length c3] 26)).alloc (.cells #[.int .i64 6, .slice A args.length cap, .int .i64 vn, .int .i64 ve, .int .i64 un, .int .i64 ue] 65)) := ⟨_, rfl⟩
  rw [← hW]
  rw [← hW] at r0 r1 b0
  have hWs : W.heap.size = w.heap.size + 2 := by rw [hW]; simp
  clear hW
  have q0 : W.cell? ⟨w.heap.size + 1, 0, none⟩ = some (.int .i64 6) := r1.cell 0
  have q2 : W.cell? ⟨w.heap.size + 1, 2, none⟩ = some (.int .i64 vn) := r1.cell 2
  have q3 : W.cell? ⟨w.heap.size + 1, 3, none⟩ = some (.int .i64 ve) := r1.cell 3
  have HB0 := Lib.hid b0
  have R1 := Lib.hid r1
  have HA2 := Lib.hid (HA.out.below b0 hm)
  have hbs1 : (W.heap.size : Int) = w.heap.size + 2 := by omega
  clear r0 r1 b0
  go_loopw [34] (fun i wr => argRel args bs.length W i wr) (fun i _ => args.length - (intOf i).toNat)
  case atStart => exact ⟨0, Nat.zero_le _, rfl, rfl, rfl⟩
  case round =>
    as_aux_lemma =>
      obtain ⟨t, ht, rfl, hf, rfl⟩ := hrel
      have HF := Lib.hid hf
      clear hf
      by_cases hlt : t < args.length
      · obtain ⟨ab, ao, z, rfl, hab, hab2, hz, hzc⟩ := HA2.out.int_ hlt
        have HZ := Lib.hid hz
        clear hz
        by_cases h0 : 0 ≤ z ∧ z < (bs.length : Int)
        · have HZ2 := Lib.hid (out_step HZ.out h0 HF.out)
          have HWB := Lib.hid (show withinB z 0 ((bs.length : Int) - 1) = true from decide_eq_true ⟨h0.1, by have := h0.2; omega⟩)
          clear h0
          go_wp2_with (go_at_call 48; refine (within_any _ _ _ _).mono ?_; rintro e w1 ⟨rfl, rfl⟩; rw [HWB.out])
          exact ⟨⟨t + 1, by omega, by go_num, HZ2.out, rfl⟩, by simp [intOf]; omega⟩
        · have hE := Lib.hid (be3 (np := ps.length) (nb := bs.length) (b := ⟨6, some ⟨ab, ao, none⟩, args, cap, vn, ve, un, ue⟩) (Int.not_lt.2 HK0.out) HK1.out HM.out (out_hit HZ.out h0 HF.out))
          have HWB := Lib.hid (show withinB z 0 ((bs.length : Int) - 1) = false from decide_eq_false (fun h => h0 ⟨h.1, by have := h.2; omega⟩))
          clear h0
          go_wp2_with (go_at_call 48; refine (within_any _ _ _ _).mono ?_; rintro e w1 ⟨rfl, rfl⟩; rw [HWB.out])
          go_ret
          exact ⟨ar_eq hE.out.symm, HB0.out⟩
      · have P1 := Lib.hid (fe_all (k := t) (by rw [List.length_map]; omega) HF.out)
        clear HF
        have hE4 := fun h => be4 (np := ps.length) (nb := bs.length) (b := ⟨6, A, args, cap, vn, ve, un, ue⟩) (Int.not_lt.2 HK0.out) HK1.out HM.out P1.out HV.out h
        have hE5 := fun h4 h => be5 (np := ps.length) (nb := bs.length) (b := ⟨6, A, args, cap, vn, ve, un, ue⟩) (Int.not_lt.2 HK0.out) HK1.out HM.out P1.out HV.out h4 HU.out h
        have hE6 := fun h4 h5 h => be6 (np := ps.length) (nb := bs.length) (b := ⟨6, A, args, cap, vn, ve, un, ue⟩) (Int.not_lt.2 HK0.out) HK1.out HM.out P1.out HV.out h4 HU.out h5 h
        have hE7 := fun h4 h5 h => be7 (np := ps.length) (nb := bs.length) (b := ⟨6, A, args, cap, vn, ve, un, ue⟩) (Int.not_lt.2 HK0.out) HK1.out HM.out P1.out HV.out h4 HU.out h5 h
        dsimp only at hE4 hE5 hE6 hE7
        have HE4 := Lib.hid hE4
        have HE5 := Lib.hid hE5
        have HE6 := Lib.hid hE6
        have HE7 := Lib.hid hE7
        clear hE4 hE5 hE6 hE7
        go_wp2_with fail
        go_at_call 111
        refine (rScalar_any vn ve true wr).mono ?_
        rintro e w5 ⟨rfl, hb5⟩
        have N5 := Lib.hid (HB0.out.trans (hb5.mono (by omega)))
        have r5 := R1.out.call hb5
        have hz5 := hb5.size
        have z5 : w.heap.size + 1 < w5.heap.size := by omega
        have q4 : w5.cell? ⟨w.heap.size + 1, 4, none⟩ = some (.int .i64 un) := r5.cell 4
        have q5 : w5.cell? ⟨w.heap.size + 1, 5, none⟩ = some (.int .i64 ue) := r5.cell 5
        have R5 := Lib.hid r5
        clear r5 hb5 q0 q2 q3 hlt hbs1
        by_cases h4 : scalE vn ve true = 0
        · rw [h4]
          have H4 := Lib.hid h4
          clear h4
          go_wp2_with fail
          go_at_call 111
          refine (rScalar_any un ue false w5).mono ?_
          rintro e w6 ⟨rfl, hb6⟩
          have N6 := Lib.hid (N5.out.trans (hb6.mono (by omega)))
          have r6 := R5.out.call hb6
          have hz6 := hb6.size
          have z6 : w.heap.size + 1 < w6.heap.size := by omega
          have q2 : w6.cell? ⟨w.heap.size + 1, 2, none⟩ = some (.int .i64 vn) := r6.cell 2
          have q3 : w6.cell? ⟨w.heap.size + 1, 3, none⟩ = some (.int .i64 ve) := r6.cell 3
          have q6 : w6.cell? ⟨w.heap.size + 1, 4, none⟩ = some (.int .i64 un) := r6.cell 4
          have q7 : w6.cell? ⟨w.heap.size + 1, 5, none⟩ = some (.int .i64 ue) := r6.cell 5
          clear r6 hb6 q4 q5 z5
          by_cases h5 : scalE un ue false = 0
          · rw [h5]
            have H5 := Lib.hid h5
            clear h5
            go_wp2_with fail
            go_ret
            exact ⟨ar_eq (HE7.out H4.out H5.out (fun h => by cases h.1)).symm, N6.out⟩
          · have HE := Lib.hid (HE5.out H4.out h5)
            obtain ⟨q, hq⟩ : ∃ q, scalE un ue false = q := ⟨_, rfl⟩
            rw [hq] at h5 HE
            rw [hq]
            have hqb : (q != 0) = true := by simpa using h5
            clear hq h5
            go_wp2_with fail
            go_ret
            exact ⟨ar_eq HE.out.symm, N6.out⟩
        · have HE := Lib.hid (HE4.out h4)
          obtain ⟨q, hq⟩ : ∃ q, scalE vn ve true = q := ⟨_, rfl⟩
          rw [hq] at h4 HE
          rw [hq]
          have hqb : (q != 0) = true := by simpa using h4
          clear hq h4
          go_wp2_with fail
          go_ret
          exact ⟨ar_eq HE.out.symm, N5.out⟩
theorem block_x (A1 : Option Addr) (ps : List Prt) (c1 : Nat) (A2 : Option Addr) (bs : List Bk) (c2 : Nat) (A3 : Option Addr) (os : List Int) (c3 : Nat) (kind : Int) (A : Option Addr) (args : List Int) (cap : Nat) (vn ve un ue : Int) (m : Nat) (w : World) (h0 : ¬ kind = 0) (h1 : ¬ kind = 1) (h2 : ¬ kind = 2) (h6 : ¬ kind = 6) (h11 : ¬ kind = 11)
    (hk0 : ¬ arityM kind < 0) (hk1 : ((args.length : Nat) : Int) = arityM kind) (hl : args.length ≤ 1000000) (hl1 : ps.length ≤ 1000000) (hl2 : bs.length ≤ 1000000) (hm : m ≤ w.heap.size) (ha : CellsAt w m A (ints args)) :
    Calls Tryz.prog 49 #[.agg #[.slice A1 ps.length c1, .slice A2 bs.length c2, .slice A3 os.length c3], .agg #[.int .i64 kind, .slice A args.length cap, .int .i64 vn, .int .i64 ve, .int .i64 un, .int .i64 ue]] w fun e w' => e = .returned (.int .i64 (blkErr ps.length bs.length ⟨kind, A, args, cap, vn, ve, un, ue⟩)) ∧ Below w.heap.size w w' := by
  have b0 : Below w.heap.size w ((w.alloc (.cells #[.slice A1 ps.length c1, .slice A2 bs.length c2, .slice A3 os.length c3] 26)).alloc (.cells #[.int .i64 kind, .slice A args.length cap, .int .i64 vn, .int .i64 ve, .int .i64 un, .int .i64 ue] 65)) := ext_alloc (al_ _ _) _
  have r0 := (RowD.new_ w [.slice A1 ps.length c1, .slice A2 bs.length c2, .slice A3 os.length c3] 26).call (al_ _ (.cells #[.int .i64 kind, .slice A args.length cap, .int .i64 vn, .int .i64 ve, .int .i64 un, .int .i64 ue] 65))
  have r1 := RowD.new_ (w.alloc (.cells #[.slice A1 ps.length c1, .slice A2 bs.length c2, .slice A3 os.length c3] 26)) [.int .i64 kind, .slice A args.length cap, .int .i64 vn, .int .i64 ve, .int .i64 un, .int .i64 ue] 65
  rw [show (w.alloc (.cells #[.slice A1 ps.length c1, .slice A2 bs.length c2, .slice A3 os.length c3] 26)).heap.size = w.heap.size + 1 by simp] at r1
  have HA := Lib.hid ha
  have HK0 := Lib.hid hk0
  have HK1 := Lib.hid hk1
  obtain ⟨K, hK⟩ : ∃ K, arityM kind = K := ⟨_, rfl⟩
  have HKK := Lib.hid hK
  have hne : (((args.length : Nat) : Int) != K) = false := by rw [hk1, hK]; simp
  have hkk : 0 ≤ K := by omega
  clear ha hk0 hk1 hK
  have e0 : (kind == 0) = false := by simpa using h0
  have e1 : (kind == 1) = false := by simpa using h1
  have e2 : (kind == 2) = false := by simpa using h2
  have e6 : (kind == 6) = false := by simpa using h6
  have e11 : (kind == 11) = false := by simpa using h11
  go_enter Tryz.func49, Tryz.ntmps49
  have HM : Hid (mostM ps.length bs.length kind = bs.length) := Lib.hid (if_neg h0)
  have HV : Hid (valU kind = false) := Lib.hid (by unfold valU; rw [e11, e1, e2, e6]; rfl)
  have HU : Hid (clipU kind = false) := Lib.hid (e11)
  clear h0 h1 h2 h6 h11
  go_wp2_with (go_at_call 110; refine (rArity_any _ _).mono ?_; rintro e w1 ⟨rfl, rfl⟩; rw [HKK.out])
  obtain ⟨W, hW⟩ : ∃ W, W = ((w.alloc (.cells #[.slice A1 ps.length c1, .slice A2 bs.length c2, .slice A3 os.length c3] 26)).alloc (.cells #[.int .i64 kind, .slice A args.length cap, .int .i64 vn, .int .i64 ve, .int .i64 un, .int .i64 ue] 65)) := ⟨_, rfl⟩
  rw [← hW]
  rw [← hW] at r0 r1 b0
  have hWs : W.heap.size = w.heap.size + 2 := by rw [hW]; simp
  clear hW
  have q0 : W.cell? ⟨w.heap.size + 1, 0, none⟩ = some (.int .i64 kind) := r1.cell 0
  have q2 : W.cell? ⟨w.heap.size + 1, 2, none⟩ = some (.int .i64 vn) := r1.cell 2
  have q3 : W.cell? ⟨w.heap.size + 1, 3, none⟩ = some (.int .i64 ve) := r1.cell 3
  have HB0 := Lib.hid b0
  have R1 := Lib.hid r1
  have HA2 := Lib.hid (HA.out.below b0 hm)
  have hbs1 : (W.heap.size : Int) = w.heap.size + 2 := by omega
  clear r0 r1 b0
  go_loopw [34] (fun i wr => argRel args bs.length W i wr) (fun i _ => args.length - (intOf i).toNat)
  case atStart => exact ⟨0, Nat.zero_le _, rfl, rfl, rfl⟩
  case round =>
    as_aux_lemma =>
      obtain ⟨t, ht, rfl, hf, rfl⟩ := hrel
      have HF := Lib.hid hf
      clear hf
      by_cases hlt : t < args.length
      · obtain ⟨ab, ao, z, rfl, hab, hab2, hz, hzc⟩ := HA2.out.int_ hlt
        have HZ := Lib.hid hz
        clear hz
        by_cases h0 : 0 ≤ z ∧ z < (bs.length : Int)
        · have HZ2 := Lib.hid (out_step HZ.out h0 HF.out)
          have HWB := Lib.hid (show withinB z 0 ((bs.length : Int) - 1) = true from decide_eq_true ⟨h0.1, by have := h0.2; omega⟩)
          clear h0
          go_wp2_with (go_at_call 48; refine (within_any _ _ _ _).mono ?_; rintro e w1 ⟨rfl, rfl⟩; rw [HWB.out])
          exact ⟨⟨t + 1, by omega, by go_num, HZ2.out, rfl⟩, by simp [intOf]; omega⟩
        · have hE := Lib.hid (be3 (np := ps.length) (nb := bs.length) (b := ⟨kind, some ⟨ab, ao, none⟩, args, cap, vn, ve, un, ue⟩) (Int.not_lt.2 HK0.out) HK1.out HM.out (out_hit HZ.out h0 HF.out))
          have HWB := Lib.hid (show withinB z 0 ((bs.length : Int) - 1) = false from decide_eq_false (fun h => h0 ⟨h.1, by have := h.2; omega⟩))
          clear h0
          go_wp2_with (go_at_call 48; refine (within_any _ _ _ _).mono ?_; rintro e w1 ⟨rfl, rfl⟩; rw [HWB.out])
          go_ret
          exact ⟨ar_eq hE.out.symm, HB0.out⟩
      · have P1 := Lib.hid (fe_all (k := t) (by rw [List.length_map]; omega) HF.out)
        clear HF
        have hE4 := fun h => be4 (np := ps.length) (nb := bs.length) (b := ⟨kind, A, args, cap, vn, ve, un, ue⟩) (Int.not_lt.2 HK0.out) HK1.out HM.out P1.out HV.out h
        have hE5 := fun h4 h => be5 (np := ps.length) (nb := bs.length) (b := ⟨kind, A, args, cap, vn, ve, un, ue⟩) (Int.not_lt.2 HK0.out) HK1.out HM.out P1.out HV.out h4 HU.out h
        have hE6 := fun h4 h5 h => be6 (np := ps.length) (nb := bs.length) (b := ⟨kind, A, args, cap, vn, ve, un, ue⟩) (Int.not_lt.2 HK0.out) HK1.out HM.out P1.out HV.out h4 HU.out h5 h
        have hE7 := fun h4 h5 h => be7 (np := ps.length) (nb := bs.length) (b := ⟨kind, A, args, cap, vn, ve, un, ue⟩) (Int.not_lt.2 HK0.out) HK1.out HM.out P1.out HV.out h4 HU.out h5 h
        dsimp only at hE4 hE5 hE6 hE7
        have HE4 := Lib.hid hE4
        have HE5 := Lib.hid hE5
        have HE6 := Lib.hid hE6
        have HE7 := Lib.hid hE7
        clear hE4 hE5 hE6 hE7
        go_wp2_with fail
        go_at_call 111
        refine (rScalar_any vn ve false wr).mono ?_
        rintro e w5 ⟨rfl, hb5⟩
        have N5 := Lib.hid (HB0.out.trans (hb5.mono (by omega)))
        have r5 := R1.out.call hb5
        have hz5 := hb5.size
        have z5 : w.heap.size + 1 < w5.heap.size := by omega
        have q4 : w5.cell? ⟨w.heap.size + 1, 4, none⟩ = some (.int .i64 un) := r5.cell 4
        have q5 : w5.cell? ⟨w.heap.size + 1, 5, none⟩ = some (.int .i64 ue) := r5.cell 5
        have R5 := Lib.hid r5
        clear r5 hb5 q0 q2 q3 hlt hbs1
        by_cases h4 : scalE vn ve false = 0
        · rw [h4]
          have H4 := Lib.hid h4
          clear h4
          go_wp2_with fail
          go_at_call 111
          refine (rScalar_any un ue false w5).mono ?_
          rintro e w6 ⟨rfl, hb6⟩
          have N6 := Lib.hid (N5.out.trans (hb6.mono (by omega)))
          have r6 := R5.out.call hb6
          have hz6 := hb6.size
          have z6 : w.heap.size + 1 < w6.heap.size := by omega
          have q2 : w6.cell? ⟨w.heap.size + 1, 2, none⟩ = some (.int .i64 vn) := r6.cell 2
          have q3 : w6.cell? ⟨w.heap.size + 1, 3, none⟩ = some (.int .i64 ve) := r6.cell 3
          have q6 : w6.cell? ⟨w.heap.size + 1, 4, none⟩ = some (.int .i64 un) := r6.cell 4
          have q7 : w6.cell? ⟨w.heap.size + 1, 5, none⟩ = some (.int .i64 ue) := r6.cell 5
          clear r6 hb6 q4 q5 z5
          by_cases h5 : scalE un ue false = 0
          · rw [h5]
            have H5 := Lib.hid h5
            clear h5
            go_wp2_with fail
            go_ret
            exact ⟨ar_eq (HE7.out H4.out H5.out (fun h => by cases h.1)).symm, N6.out⟩
          · have HE := Lib.hid (HE5.out H4.out h5)
            obtain ⟨q, hq⟩ : ∃ q, scalE un ue false = q := ⟨_, rfl⟩
            rw [hq] at h5 HE
            rw [hq]
            have hqb : (q != 0) = true := by simpa using h5
            clear hq h5
            go_wp2_with fail
            go_ret
            exact ⟨ar_eq HE.out.symm, N6.out⟩
        · have HE := Lib.hid (HE4.out h4)
          obtain ⟨q, hq⟩ : ∃ q, scalE vn ve false = q := ⟨_, rfl⟩
          rw [hq] at h4 HE
          rw [hq]
          have hqb : (q != 0) = true := by simpa using h4
          clear hq h4
          go_wp2_with fail
          go_ret
          exact ⟨ar_eq HE.out.symm, N5.out⟩
theorem block_any (d : Dg) (b : Bk) (m : Nat) (w : World) (hm : m ≤ w.heap.size) (hb : CellsAt w m b.A (ints b.args)) (hl : b.args.length ≤ 1000000) (hl1 : d.ps.length ≤ 1000000) (hl2 : d.bs.length ≤ 1000000) :
    Calls Tryz.prog 49 #[d.val, b.val] w fun e w' => e = .returned (.int .i64 (blkErr d.ps.length d.bs.length b)) ∧ Below w.heap.size w w' := by
  by_cases h : 0 ≤ arityM b.kind ∧ ((b.args.length : Nat) : Int) = arityM b.kind
  · obtain ⟨A1, ps, c1, A2, bs, c2, A3, os, c3⟩ := d
    obtain ⟨kind, A, args, cap, vn, ve, un, ue⟩ := b
    dsimp only at h hb hl hl1 hl2
    have hk0 : ¬ arityM kind < 0 := by omega
    by_cases h0 : kind = 0
    · subst h0; exact block_0 A1 ps c1 A2 bs c2 A3 os c3 A args cap vn ve un ue m w hk0 h.2 hl hl1 hl2 hm hb
    · by_cases h1 : kind = 1
      · subst h1; exact block_1 A1 ps c1 A2 bs c2 A3 os c3 A args cap vn ve un ue m w hk0 h.2 hl hl1 hl2 hm hb
      · by_cases h2 : kind = 2
        · subst h2; exact block_2 A1 ps c1 A2 bs c2 A3 os c3 A args cap vn ve un ue m w hk0 h.2 hl hl1 hl2 hm hb
        · by_cases h6 : kind = 6
          · subst h6; exact block_6 A1 ps c1 A2 bs c2 A3 os c3 A args cap vn ve un ue m w hk0 h.2 hl hl1 hl2 hm hb
          · by_cases h11 : kind = 11
            · subst h11; exact block_11 A1 ps c1 A2 bs c2 A3 os c3 A args cap vn ve un ue m w hk0 h.2 hl hl1 hl2 hm hb
            · exact block_x A1 ps c1 A2 bs c2 A3 os c3 kind A args cap vn ve un ue m w h0 h1 h2 h6 h11 hk0 h.2 hl hl1 hl2 hm hb
  · exact block_bad d b w h hl
theorem rport_ok {p q r : Int} (h : portE ⟨p, q, r⟩ = 0) : -2147483648 ≤ p ∧ p ≤ q ∧ q < 2147483648 ∧ 0 ≤ r ∧ r ≤ 30 := by
  unfold portE at h
  by_cases h2 : -2147483648 ≤ p ∧ p ≤ q ∧ q < 2147483648 ∧ 0 ≤ r ∧ r ≤ 30
  · exact h2
  · rw [if_neg h2] at h; cases h
theorem rport_bad {p q r : Int} (h : ¬ portE ⟨p, q, r⟩ = 0) : portE ⟨p, q, r⟩ = 3 := by
  unfold portE at h ⊢
  by_cases h2 : -2147483648 ≤ p ∧ p ≤ q ∧ q < 2147483648 ∧ 0 ≤ r ∧ r ≤ 30
  · exact absurd (if_pos h2) h
  · exact if_neg h2
theorem port_of {p q r : Int} (h : -2147483648 ≤ p ∧ p ≤ q ∧ q < 2147483648 ∧ withinB r 0 30 = true) : portE ⟨p, q, r⟩ = 0 := by
  have h5 : 0 ≤ r ∧ r ≤ 30 := of_decide_eq_true h.2.2.2
  exact if_pos ⟨h.1, h.2.1, h.2.2.1, h5.1, h5.2⟩
theorem ord_le (bs : List Bk) : (ordM bs).length ≤ nonDel bs := (ordN_ok bs.length (OutOk.nil bs)).le
theorem rCheck_any (d : Dg) (m : Nat) (w : World) (hm : m ≤ w.heap.size) (hd : DgAt w m d) :
    Calls Tryz.prog 14 #[d.val] w fun e w' => e = .returned (.int .i64 (dgErr d.ps d.bs d.os)) ∧ Below w.heap.size w w' := by
  have hl1 := hd.l1
  have hl2 := hd.l2
  have hl3 := hd.l3
  have HD := Lib.hid hd
  clear hd
  obtain ⟨A1, ps, c1, A2, bs, c2, A3, os, c3⟩ := d
  dsimp only at hl1 hl2 hl3
  simp only [Dg.val]
  by_cases hsz : sizeOk ps bs os
  · have HSZ := Lib.hid hsz
    clear hsz
    have l1' : (ps.length : Int) ≤ 16 := by have := HSZ.out.1; omega
    have l2' : (bs.length : Int) ≤ 64 := by have := HSZ.out.2.1; omega
    have l3' : (os.length : Int) ≤ 16 := by have := HSZ.out.2.2; omega
    have r0 := RowD.new_ w [.slice A1 ps.length c1, .slice A2 bs.length c2, .slice A3 os.length c3] 26
    have b0 := al_ w (.cells #[.slice A1 ps.length c1, .slice A2 bs.length c2, .slice A3 os.length c3] 26)
    go_enter Tryz.func14, Tryz.ntmps14
    go_wp2_with fail
    all_goals try (exfalso; omega)
    go_loopw [29] (fun i wr => cqRel w [.slice A1 ps.length c1, .slice A2 bs.length c2, .slice A3 os.length c3] (ps.map portE) i wr) (fun i _ => ps.length - (intOf i).toNat)
    case atStart => exact ⟨0, Nat.zero_le _, rfl, rfl, r0, b0⟩
    case round =>
      as_aux_lemma =>
        clear r0 b0
        obtain ⟨k, hk, rfl, hf, hbox, hb⟩ := hrel
        have HF := Lib.hid hf
        have HB := Lib.hid hbox
        have z0 := hbox.lt
        have q1 : wr.cell? ⟨w.heap.size, 1, none⟩ = some (.slice A2 bs.length c2) := hbox.cell 1
        clear hf hbox
        rw [List.length_map] at hk
        by_cases hlt : k < ps.length
        · obtain ⟨b, off, x, rfl, hbm, hbs, hx, hc⟩ := (HD.out.below hb hm).ps.row (s := 3) (fun _ => rfl) (by omega) hlt
          obtain ⟨plo, phi, pfr⟩ := x
          have g0 : wr.cell? ⟨b, off + k * 3, none⟩ = some (.int .i64 plo) := hc 0 _ rfl
          have g1 := hc 1 _ rfl
          have g2 := hc 2 _ rfl
          dsimp only at g1 g2
          have HX := Lib.hid hx
          clear hc hx
          by_cases hp : portE ⟨plo, phi, pfr⟩ = 0
          · have HPE := Lib.hid hp
            have hp2 : -2147483648 ≤ plo ∧ plo ≤ phi ∧ phi < 2147483648 ∧ 0 ≤ pfr ∧ pfr ≤ 30 := rport_ok hp
            obtain ⟨p1, p2, p3, p4, p5⟩ := hp2
            have HWB := Lib.hid (show withinB pfr 0 30 = true from decide_eq_true ⟨p4, p5⟩)
            clear hp
            go_wp2_with (go_at_call 48; refine (within_any _ _ _ _).mono ?_; rintro e w1 ⟨rfl, rfl⟩; rw [HWB.out])
            exact ⟨⟨k + 1, by rw [List.length_map]; omega, by go_num, fs1 HX.out HPE.out HF.out, HB.out.call (al_ _ _), ext_alloc hb _⟩, by simp [intOf]; omega⟩
          · have h3 : portE ⟨plo, phi, pfr⟩ = 3 := rport_bad hp
            have HE := Lib.hid (de1 HSZ.out (pe1 (bs := bs) (os := os) HX.out h3 (by decide) HF.out) (by decide))
            cases hwb : withinB pfr 0 30 with
            | true =>
              have hp2 : ¬ (-2147483648 ≤ plo ∧ plo ≤ phi ∧ phi < 2147483648) := fun h => hp (port_of ⟨h.1, h.2.1, h.2.2, hwb⟩)
              have HP2 := Lib.hid hp2
              have HWB := Lib.hid hwb
              clear hp h3 hp2 hwb
              go_wp2_with (go_at_call 48; refine (within_any _ _ _ _).mono ?_; rintro e w1 ⟨rfl, rfl⟩; rw [HWB.out])
              all_goals first
                | (go_ret
                   exact ⟨ar_eq (HE.out).symm, ext_alloc hb _⟩)
                | (exfalso; exact HP2.out ⟨by omega, by omega, by omega⟩)
            | false =>
              have HWB := Lib.hid hwb
              clear hp h3 hwb
              go_wp2_with (go_at_call 48; refine (within_any _ _ _ _).mono ?_; rintro e w1 ⟨rfl, rfl⟩; rw [HWB.out])
              all_goals
                go_ret
                exact ⟨ar_eq (HE.out).symm, ext_alloc hb _⟩
        · have P1 := Lib.hid (fe_all (k := k) (by rw [List.length_map]; omega) HF.out)
          clear HF
          go_wp2_with fail
          clear q1 hk hlt
          obtain ⟨w2, hw2⟩ : ∃ w2, w2 = wr := ⟨_, rfl⟩
          rw [← hw2] at HB hb
          rw [← hw2]
          clear hw2 z0
          go_loopw [58] (fun i wr => cqRel w [.slice A1 ps.length c1, .slice A2 bs.length c2, .slice A3 os.length c3] (bs.map (blkErr ps.length bs.length)) i wr) (fun i _ => bs.length - (intOf i).toNat)
          case atStart => exact ⟨0, Nat.zero_le _, rfl, rfl, HB.out, hb⟩
          case round =>
            as_aux_lemma =>
              clear HB hb
              obtain ⟨k, hk, rfl, hf, hbox, hb⟩ := hrel
              have HF := Lib.hid hf
              have HB := Lib.hid hbox
              have z0 := hbox.lt
              have q0 : wr.cell? ⟨w.heap.size, 0, none⟩ = some (.slice A1 ps.length c1) := hbox.cell 0
              have q1 : wr.cell? ⟨w.heap.size, 1, none⟩ = some (.slice A2 bs.length c2) := hbox.cell 1
              have q2 : wr.cell? ⟨w.heap.size, 2, none⟩ = some (.slice A3 os.length c3) := hbox.cell 2
              clear hf hbox
              rw [List.length_map] at hk
              by_cases hlt : k < bs.length
              · obtain ⟨b, off, kind, KA, args, cap, vn, ve, un, ue, hA, hbm, hbs, hx, g0, g1, g2, g3, g4, g5, ha, hal⟩ := (HD.out.below hb hm).blk hlt
                dsimp only at hA hx
                subst hA
                have HX := Lib.hid hx
                have HA := Lib.hid ha
                clear hx ha
                go_wp2_with fail
                go_at_call 49
                refine (block_any ⟨A1, ps, c1, some ⟨b, off, none⟩, bs, c2, A3, os, c3⟩ ⟨kind, KA, args, cap, vn, ve, un, ue⟩ m _ (by have := hb.size; simp; omega) (HA.out.below (al_ _ _) (by have := hb.size; omega)) hal hl1 hl2).mono ?_
                rintro e w5 ⟨rfl, hb5⟩
                dsimp only at hb5 ⊢
                have HB5 := Lib.hid ((HB.out.call (al_ _ _)).call hb5)
                have N5 := Lib.hid ((ext_alloc hb (.cells #[.int .i64 kind, .slice KA args.length cap, .int .i64 vn, .int .i64 ve, .int .i64 un, .int .i64 ue] 65)).trans (hb5.mono (by have := hb.size; simp; omega)))
                clear hb5 g0 g1 g2 g3 g4 g5 q0 q1 q2
                obtain ⟨E, hE⟩ : ∃ E, blkErr ps.length bs.length ⟨kind, KA, args, cap, vn, ve, un, ue⟩ = E := ⟨_, rfl⟩
                have HEE := Lib.hid hE
                rw [hE]
                clear hE
                by_cases he0 : E = 0
                · have HE0 := Lib.hid (HEE.out.trans he0)
                  rw [he0]
                  clear he0
                  go_wp2_with fail
                  exact ⟨⟨k + 1, by rw [List.length_map]; omega, by go_num, fs1 HX.out HE0.out HF.out, HB5.out, N5.out⟩, by simp [intOf]; omega⟩
                · have HE := Lib.hid (de1 HSZ.out (pe2 (os := os) P1.out HX.out HEE.out he0 HF.out) he0)
                  obtain ⟨q, hq⟩ : ∃ q, E = q := ⟨_, rfl⟩
                  rw [hq] at he0 HE
                  rw [hq]
                  have hqb : (q != 0) = true := by simpa using he0
                  clear hq he0
                  go_wp2_with fail
                  go_ret
                  exact ⟨ar_eq HE.out.symm, N5.out⟩
              · have P2 := Lib.hid (fe_all (k := k) (by rw [List.length_map]; omega) HF.out)
                clear HF
                go_wp2_with fail
                clear q0 q1 q2 hk hlt
                obtain ⟨w3, hw3⟩ : ∃ w3, w3 = wr := ⟨_, rfl⟩
                rw [← hw3] at HB hb
                rw [← hw3]
                clear hw3 z0
                go_loopw [72] (fun i wr => cqRel w [.slice A1 ps.length c1, .slice A2 bs.length c2, .slice A3 os.length c3] (os.map (outE bs.length)) i wr) (fun i _ => os.length - (intOf i).toNat)
                case atStart => exact ⟨0, Nat.zero_le _, rfl, rfl, HB.out, hb⟩
                case round =>
                  as_aux_lemma =>
                    clear HB hb
                    obtain ⟨k, hk, rfl, hf, hbox, hb⟩ := hrel
                    have HF := Lib.hid hf
                    have HB := Lib.hid hbox
                    have z0 := hbox.lt
                    have q0 : wr.cell? ⟨w.heap.size, 0, none⟩ = some (.slice A1 ps.length c1) := hbox.cell 0
                    have q1 : wr.cell? ⟨w.heap.size, 1, none⟩ = some (.slice A2 bs.length c2) := hbox.cell 1
                    have q2 : wr.cell? ⟨w.heap.size, 2, none⟩ = some (.slice A3 os.length c3) := hbox.cell 2
                    clear hf hbox
                    rw [List.length_map] at hk
                    by_cases hlt : k < os.length
                    · obtain ⟨b, off, z, rfl, hbm, hbs, hx, hc⟩ := (HD.out.below hb hm).os.int_ hlt
                      have HX := Lib.hid hx
                      clear hx
                      by_cases ho : 0 ≤ z ∧ z < (bs.length : Int)
                      · have HOE := Lib.hid (show outE bs.length z = 0 from if_pos ho)
                        have HWB := Lib.hid (show withinB z 0 ((bs.length : Int) - 1) = true from decide_eq_true ⟨ho.1, by have := ho.2; omega⟩)
                        clear ho
                        go_wp2_with (go_at_call 48; refine (within_any _ _ _ _).mono ?_; rintro e w1 ⟨rfl, rfl⟩; rw [HWB.out])
                        exact ⟨⟨k + 1, by rw [List.length_map]; omega, by go_num, fs1 HX.out HOE.out HF.out, HB.out, hb⟩, by simp [intOf]; omega⟩
                      · have HE := Lib.hid (de1 HSZ.out (pe3 P1.out P2.out HX.out (if_neg ho) (by decide) HF.out) (by decide))
                        have HWB := Lib.hid (show withinB z 0 ((bs.length : Int) - 1) = false from decide_eq_false (fun h => ho ⟨h.1, by have := h.2; omega⟩))
                        clear ho
                        go_wp2_with (go_at_call 48; refine (within_any _ _ _ _).mono ?_; rintro e w1 ⟨rfl, rfl⟩; rw [HWB.out])
                        go_ret
                        exact ⟨ar_eq (HE.out).symm, hb⟩
                    · have P3 := Lib.hid (fe_all (k := k) (by rw [List.length_map]; omega) HF.out)
                      have HE := Lib.hid (de2 HSZ.out (pe4 P1.out P2.out P3.out))
                      have HSO := Lib.hid (succ_ok P2.out)
                      clear HF
                      go_wp2_with fail
                      obtain ⟨w4, hw4⟩ : ∃ w4, w4 = wr := ⟨_, rfl⟩
                      rw [← hw4] at z0 q0 q1 q2 hb
                      rw [← hw4]
                      have HB4 := Lib.hid hb
                      clear hw4 HB hb hlt hk
                      have hk : KP w4 (w.heap.size + 1) w4 := ⟨Below.refl _ _, by omega⟩
                      have hmw : m ≤ w4.heap.size := by omega
                      have HD4 := Lib.hid (HD.out.below HB4.out hm)
                      go_region_held3 (fun w' => (∀ b o, b < w.heap.size + 1 → w'.cell? ⟨b, o, none⟩ = w4.cell? ⟨b, o, none⟩) ∧ KP w4 (w.heap.size + 1) w')
                        (first
                          | (refine KP.all ?_
                             first
                               | assumption
                               | exact hk
                               | exact hk.drew))
                        (first
                          | (go_at_call 50; refine (rOrder_any ⟨A1, ps, c1, A2, bs, c2, A3, os, c3⟩ m _ (by have := hk.drew.fits; omega) (HD4.out.below hk.drew.is (by omega)) HSO.out).mono ?_; (rintro e w7 ⟨v7, rfl, D7, hb7⟩; have hk7 := hk.drew.call hb7; obtain ⟨A7, c7, rfl, _, _⟩ := D7.view; have hz7 := hk7.fits))
                          | (go_at_call 51; refine (delays_any ⟨A1, ps, c1, A2, bs, c2, A3, os, c3⟩ m _ (by have := hk7.fits; omega) (HD4.out.below hk7.is (by omega))).mono ?_; (rintro e w8 ⟨v8, rfl, D8, hb8⟩; have hk8 := hk7.call hb8; obtain ⟨A8, c8, rfl, _, _⟩ := D8.view; have hz8 := hk8.fits)))
                      have N9 := Lib.hid (HB4.out.trans (hk8.is.mono (by omega)))
                      try dsimp only
                      have e7 : (natI (ordM bs)).length = (ordM bs).length := natI_len _
                      have e8 : (natI (delL bs)).length = (delL bs).length := natI_len _
                      have e9 := del_len bs
                      have e10 := ord_le bs
                      have hs7 : ((natI (ordM bs)).length : Int) ≤ 64 := by omega
                      have hs8 : ((natI (delL bs)).length : Int) ≤ 64 := by omega
                      have ew : IntKind.i64.wrap (((natI (ordM bs)).length : Int) + ((natI (delL bs)).length : Int)) = ((natI (ordM bs)).length : Int) + ((natI (delL bs)).length : Int) := IntWalk.i64_in _ ⟨by omega, by omega⟩
                      rw [ew]
                      clear ew
                      by_cases hor : (ordM bs).length = nonDel bs
                      · have HE2 := Lib.hid (HE.out.trans (if_pos hor))
                        have et : (((natI (ordM bs)).length : Int) + ((natI (delL bs)).length : Int) != (bs.length : Int)) = false := by
                          rw [bne_eq_false_iff_eq]; omega
                        clear hor e7 e8 e9 e10 D7 D8 hb7 hb8 hk7 hk8
                        go_wp2_with fail
                        go_ret
                        exact ⟨ar_eq (HE2.out).symm, N9.out⟩
                      · have HE2 := Lib.hid (HE.out.trans (if_neg hor))
                        have et : (((natI (ordM bs)).length : Int) + ((natI (delL bs)).length : Int) != (bs.length : Int)) = true := by
                          rw [bne_iff_ne]; omega
                        clear hor e7 e8 e9 e10 D7 D8 hb7 hb8 hk7 hk8
                        go_wp2_with fail
                        go_ret
                        exact ⟨ar_eq (HE2.out).symm, N9.out⟩
  · have HE := Lib.hid (de0 hsz)
    have b0 := al_ w (.cells #[.slice A1 ps.length c1, .slice A2 bs.length c2, .slice A3 os.length c3] 26)
    have key : 16 < (ps.length : Int) ∨ ((ps.length : Int) ≤ 16 ∧ 64 < (bs.length : Int)) ∨ ((ps.length : Int) ≤ 16 ∧ (bs.length : Int) ≤ 64 ∧ 16 < (os.length : Int)) := by
      unfold sizeOk at hsz
      omega
    clear hsz
    rcases key with k1 | ⟨k1, k2⟩ | ⟨k1, k2, k3⟩
    all_goals
      go_enter Tryz.func14, Tryz.ntmps14
      go_wp2_with fail
      all_goals try (exfalso; omega)
      go_ret
      exact ⟨ar_eq (HE.out).symm, b0⟩
def lightB (ps : List Prt) (bs : List Bk) (os : List Int) : Bool := decide (ps.length ≤ 40 ∧ bs.length ≤ 80 ∧ os.length ≤ 40) && bs.all fun b => decide (b.args.length ≤ 10)
theorem light_cvT (t : Bool) (ps : List Prt) (bs : List Bk) (os : List Int) : CV Tryz.prog TabAt 10 [aDg t ps bs os] [aB (lightB ps bs os)] := by
  refine cvz Tryz.func10 Tryz.ntmps10 ?_
  by_cases cp : 40 < ps.length
  case pos =>
    repeat' (with_reducible first | apply qa | apply qb | apply qc | apply qd | apply qe | apply qf | apply qg | apply qh | apply qi | apply qj | apply qk | apply ql rfl | apply qm rfl | apply qn rfl | apply Je | (refine Tx 0 ?_; refine Jn xBo ?_; refine Ja ?_) | (refine Tx 1 ?_; refine Jo (xFa tf_Diagram0 tk_s_Port) ?_; refine Jo (xLd tk_s_Port) ?_; refine Jo (xLn ts_s_Port) ?_; refine Jo xGt ?_; refine Jm ?_; (first | iterate 4 refine Jd ?_ | (refine Jy (xFa tf_Diagram1 tk_s_Block) ?_; refine Jy (xLd tk_s_Block) ?_; refine Jy (xLn ts_s_Block) ?_; refine Jy xGt ?_)); refine Jo xPk ?_; refine Jm ?_; (first | iterate 4 refine Jd ?_ | (refine Jy (xFa tf_Diagram2 tk_s_int) ?_; refine Jy (xLd tk_s_int) ?_; refine Jy (xLn ts_s_int) ?_; refine Jy xGt ?_)); refine Jo xPk ?_) | (refine Tx 2 ?_; refine Ja ?_))
    exact ret_q rfl (.cons_ (rv_b rfl (by unfold lightB; rw [decide_eq_false (by omega)]; rfl)) .nil_)
  by_cases cb : 80 < bs.length
  case pos =>
    repeat' (with_reducible first | apply qa | apply qb | apply qc | apply qd | apply qe | apply qf | apply qg | apply qh | apply qi | apply qj | apply qk | apply ql rfl | apply qm rfl | apply qn rfl | apply Je | (refine Tx 0 ?_; refine Jn xBo ?_; refine Ja ?_) | (refine Tx 1 ?_; refine Jo (xFa tf_Diagram0 tk_s_Port) ?_; refine Jo (xLd tk_s_Port) ?_; refine Jo (xLn ts_s_Port) ?_; refine Jo xGt ?_; refine Jm ?_; (first | iterate 4 refine Jd ?_ | (refine Jy (xFa tf_Diagram1 tk_s_Block) ?_; refine Jy (xLd tk_s_Block) ?_; refine Jy (xLn ts_s_Block) ?_; refine Jy xGt ?_)); refine Jo xPk ?_; refine Jm ?_; (first | iterate 4 refine Jd ?_ | (refine Jy (xFa tf_Diagram2 tk_s_int) ?_; refine Jy (xLd tk_s_int) ?_; refine Jy (xLn ts_s_int) ?_; refine Jy xGt ?_)); refine Jo xPk ?_) | (refine Tx 2 ?_; refine Ja ?_))
    exact ret_q rfl (.cons_ (rv_b rfl (by unfold lightB; rw [decide_eq_false (by omega)]; rfl)) .nil_)
  by_cases co : 40 < os.length
  case pos =>
    repeat' (with_reducible first | apply qa | apply qb | apply qc | apply qd | apply qe | apply qf | apply qg | apply qh | apply qi | apply qj | apply qk | apply ql rfl | apply qm rfl | apply qn rfl | apply Je | (refine Tx 0 ?_; refine Jn xBo ?_; refine Ja ?_) | (refine Tx 1 ?_; refine Jo (xFa tf_Diagram0 tk_s_Port) ?_; refine Jo (xLd tk_s_Port) ?_; refine Jo (xLn ts_s_Port) ?_; refine Jo xGt ?_; refine Jm ?_; (first | iterate 4 refine Jd ?_ | (refine Jy (xFa tf_Diagram1 tk_s_Block) ?_; refine Jy (xLd tk_s_Block) ?_; refine Jy (xLn ts_s_Block) ?_; refine Jy xGt ?_)); refine Jo xPk ?_; refine Jm ?_; (first | iterate 4 refine Jd ?_ | (refine Jy (xFa tf_Diagram2 tk_s_int) ?_; refine Jy (xLd tk_s_int) ?_; refine Jy (xLn ts_s_int) ?_; refine Jy xGt ?_)); refine Jo xPk ?_) | (refine Tx 2 ?_; refine Ja ?_))
    exact ret_q rfl (.cons_ (rv_b rfl (by unfold lightB; rw [decide_eq_false (by omega)]; rfl)) .nil_)
  repeat' (with_reducible first | apply qa | apply qb | apply qc | apply qd | apply qe | apply qf | apply qg | apply qh | apply qi | apply qj | apply qk | apply ql rfl | apply qm rfl | apply qn rfl | apply Je | (refine Tx 0 ?_; refine Jn xBo ?_; refine Ja ?_) | (refine Tx 1 ?_; refine Jo (xFa tf_Diagram0 tk_s_Port) ?_; refine Jo (xLd tk_s_Port) ?_; refine Jo (xLn ts_s_Port) ?_; refine Jo xGt ?_; refine Jm ?_; (first | iterate 4 refine Jd ?_ | (refine Jy (xFa tf_Diagram1 tk_s_Block) ?_; refine Jy (xLd tk_s_Block) ?_; refine Jy (xLn ts_s_Block) ?_; refine Jy xGt ?_)); refine Jo xPk ?_; refine Jm ?_; (first | iterate 4 refine Jd ?_ | (refine Jy (xFa tf_Diagram2 tk_s_int) ?_; refine Jy (xLd tk_s_int) ?_; refine Jy (xLn ts_s_int) ?_; refine Jy xGt ?_)); refine Jo xPk ?_) | (refine Tx 3 ?_; refine Jo (xFa tf_Diagram1 tk_s_Block) ?_; refine Jo (xLd tk_s_Block) ?_; refine Jo (xLn ts_s_Block) ?_; refine Jm ?_))
  refine cw_wk (F' := ofL [(1, vr 0), (22, vd (rowB t bs)), (23, vi bs.length), (24, vi ((0 : Nat)))]) (H' := [.box 26 [.d (rowP t ps), .d (rowB t bs), .d (rowI t os)]]) (wk_go _ 1 ?_ ?_ ?_) ?_
  · rfl
  · exact mB rfl rfl
  · exact ⟨bel_lit rfl, trivial⟩
  refine cw_loopW (fun n Fr H => ∃ k : Nat, k ≤ bs.length ∧ n = bs.length - k ∧ (bs.take k).all (fun b : Bk => decide (b.args.length ≤ 10)) = true ∧ Fr = ofL [(1, vr 0), (22, vd (rowB t bs)), (23, vi bs.length), (24, vi ((k : Nat)))] ∧ H = [.box 26 [.d (rowP t ps), .d (rowB t bs), .d (rowI t os)]]) (n0 := bs.length) ⟨0, Nat.zero_le _, rfl, rfl, rfl, rfl⟩ ?_
  rintro n Fr H ⟨k, hk, rfl, hall, rfl, rfl⟩
  by_cases hlt : k < bs.length
  case pos =>
    obtain ⟨y, hy⟩ : ∃ y, bs[k]? = some y := ⟨_, List.getElem?_eq_getElem hlt⟩
    by_cases hy10 : y.args.length ≤ 10
    case pos =>
      repeat' (with_reducible first | apply qa | apply qb | apply qc | apply qd | apply qe | apply qf | apply qg | apply qh | apply qi | apply qj | apply qk | apply ql rfl | apply qm rfl | apply qn rfl | apply Je | (refine Tx 4 ?_; refine Jo xLt ?_) | (refine Tx 5 ?_; refine Jo (xIr ts_s_Block (bk_at hy)) ?_; refine Jo (xLa tk_Block) ?_; refine Jn (xAl tz_Block) ?_; refine Js (xSk tk_Block) ?_) | (refine Tx 6 ?_; refine Jo (xFa tf_Block1 tk_s_int) ?_; refine Jo (xLd tk_s_int) ?_; refine Jo (xLn ts_s_int) ?_; refine Jo xGt ?_) | (refine Tx 8 ?_; refine Jo xAd ?_; refine Jm ?_))
      refine ⟨_, _, wk_go _ 1 ?_ ?_ ?_, _, ?_, k + 1, by omega, rfl, all_take hy hall (decide_eq_true hy10), rfl, rfl⟩
      · rfl
      · exact mB rfl rfl
      · exact ⟨bel_lit rfl, trivial⟩
      · omega
    case neg =>
      repeat' (with_reducible first | apply qa | apply qb | apply qc | apply qd | apply qe | apply qf | apply qg | apply qh | apply qi | apply qj | apply qk | apply ql rfl | apply qm rfl | apply qn rfl | apply Je | (refine Tx 4 ?_; refine Jo xLt ?_) | (refine Tx 5 ?_; refine Jo (xIr ts_s_Block (bk_at hy)) ?_; refine Jo (xLa tk_Block) ?_; refine Jn (xAl tz_Block) ?_; refine Js (xSk tk_Block) ?_) | (refine Tx 6 ?_; refine Jo (xFa tf_Block1 tk_s_int) ?_; refine Jo (xLd tk_s_int) ?_; refine Jo (xLn ts_s_int) ?_; refine Jo xGt ?_) | (refine Tx 7 ?_; refine Ja ?_))
      exact ret_q rfl (.cons_ (rv_b rfl (by unfold lightB; rw [show bs.all (fun b : Bk => decide (b.args.length ≤ 10)) = false from List.all_eq_false.2 ⟨y, List.mem_of_getElem? hy, by rw [decide_eq_false hy10]; exact Bool.false_ne_true⟩, Bool.and_false])) .nil_)
  obtain rfl : k = bs.length := by omega
  rw [List.take_length] at hall
  repeat' (with_reducible first | apply qa | apply qb | apply qc | apply qd | apply qe | apply qf | apply qg | apply qh | apply qi | apply qj | apply qk | apply ql rfl | apply qm rfl | apply qn rfl | apply Je | (refine Tx 4 ?_; refine Jo xLt ?_) | (refine Tx 9 ?_; refine Ja ?_))
  exact ret_q rfl (.cons_ (rv_b rfl (by unfold lightB; rw [hall, decide_eq_true (by omega)]; rfl)) .nil_)
theorem rcheck_cv (t : Bool) {ps : List Prt} {bs : List Bk} {os : List Int} (hl : DgLen ps bs os) : CVF Tryz.prog TabAt 14 [aDg t ps bs os] [aI (dgErr ps bs os)] := fun w S vs hg hlt ha => by
  obtain ⟨v, rfl, hv⟩ := one_arg ha
  obtain ⟨d, rfl, hd, rfl, hz, rfl, _, _⟩ := dg_open hlt hv hl
  refine (rCheck_any d _ w (Nat.le_refl _) hd).mono fun e w' ⟨he, hb⟩ => ?_
  rw [show dgErr d.ps d.bs d.os = dgErr d.ps bs d.os by rw [← dgErr_z, hz, dgErr_z]] at he
  exact ⟨_, he, DRel.val rfl, hb⟩
theorem light_len {ps : List Prt} {bs : List Bk} {os : List Int} (h : lightB ps bs os = true) : DgLen ps bs os ∧ bs.length ≤ 80 := by
  unfold lightB at h
  rw [Bool.and_eq_true] at h
  have h1 := of_decide_eq_true h.1
  exact ⟨⟨by omega, by omega, by omega, fun b hb => by have := of_decide_eq_true (List.all_eq_true.1 h.2 b hb); omega⟩, h1.2.1⟩
def prtD : Prt := ⟨0, 0, 0⟩
def inpV (ps : List Prt) (inn : List Int) (n : Nat) : List Int := (List.range n).map fun i => clipI (inn[i]?.getD 0) (ps[i]?.getD prtD).lo (ps[i]?.getD prtD).hi
structure HasB (vs : List (Option (Int × Nat))) (D : Nat → Prop) (B : Bool) : Prop where
  at_ : ∀ i, D i → ∃ p, vs[i]? = some (some p) ∧ Sm p 32000 65536 ∧ (longP p = true → B = true)
theorem sm_lenN {p : Int × Nat} {n k : Nat} (h : Nf p.1 p.2) (hl : (canon p.1.natAbs).length ≤ k) (hn : 32 * k ≤ n) : Sm p n 65536 := by
  refine ⟨h, ?_, h.1⟩
  have hlt : p.1.natAbs < 2 ^ (32 * (canon p.1.natAbs).length) := by have := wval_lt (canon_ok p.1.natAbs); rw [wval_canon] at this; rw [Nat.pow_mul]; exact this
  exact Nat.lt_of_lt_of_le hlt (Nat.pow_le_pow_right (by decide) (by omega))
def sameB (r s : Rv) : Bool := decide (r.nb = s.nb ∧ r.den = s.den ∧ r.ws = s.ws)
theorem same_p {p q : Int × Nat} : sameB (rvOf p) (rvOf q) = decide (p = q) := by
  unfold sameB
  refine decide_eq_decide.2 ⟨fun ⟨h1, h2, h3⟩ => ?_, fun h => by rw [h]; exact ⟨rfl, rfl, rfl⟩⟩
  have : rvOf p = rvOf q := by
    cases hp : rvOf p; cases hq : rvOf q
    simp_all
  rw [← rvOf_P p, this, rvOf_P]
section
variable {P : Program} {G : World → Prop} {o : Oper} {F : Frm} {H : List Ob}
theorem ok_neqBT {t t' : TypeId} {x y : Operand} {p q : Bool} (ho : o.op = .binOp .neq t x y t') (ht : P.underlying t = some .bool) (hx : F.ev x = .one (.d (.val (.bool p)))) (hy : F.ev y = .one (.d (.val (.bool q)))) (h : ¬ p = q) : OpOk P G o F H (.one (.d (.val (.bool true)))) [] := by
  have := ok_neqB (P := P) (G := G) (H := H) ho ht hx hy
  rwa [show (p != q) = true by cases p <;> cases q <;> simp_all] at this
theorem ok_neqBF {t t' : TypeId} {x y : Operand} {p q : Bool} (ho : o.op = .binOp .neq t x y t') (ht : P.underlying t = some .bool) (hx : F.ev x = .one (.d (.val (.bool p)))) (hy : F.ev y = .one (.d (.val (.bool q)))) (h : p = q) : OpOk P G o F H (.one (.d (.val (.bool false)))) [] := by
  have := ok_neqB (P := P) (G := G) (H := H) ho ht hx hy
  rwa [show (p != q) = false by subst h; cases p <;> rfl] at this
end
theorem take_ext {α : Type} {l m : List α} {k : Nat} {x : α} (h : l.take k = m.take k) (h1 : l[k]? = some x) (h2 : m[k]? = some x) : l.take (k + 1) = m.take (k + 1) := by rw [List.take_add_one, List.take_add_one, h, h1, h2]
theorem ne_at {α : Type} {l m : List α} {k : Nat} {x y : α} (h1 : l[k]? = some x) (h2 : m[k]? = some y) (h : x ≠ y) : l ≠ m := fun e => h (by subst e; rw [h1] at h2; exact Option.some.inj h2)
theorem rvsame_cv (t u : Bool) (r s : Rv) (hr : r.ws.length ≤ 1000000) (hs : s.ws.length ≤ 1000000) : CV Tryz.prog TabAt 83 [aRv t r, aRv u s] [aB (sameB r s)] := by
  refine cvz Tryz.func83 Tryz.ntmps83 ?_
  have l1 : r.ws.length ≤ 1000000 := hr
  have l2 : s.ws.length ≤ 1000000 := hs
  by_cases hb : r.nb = s.nb
  case neg =>
    repeat' (with_reducible first | apply qa | apply qb | apply qc | apply qd | apply qe | apply qf | apply qg | apply qh | apply qi | apply qj | apply qk | apply ql rfl | apply qm rfl | apply qn rfl | apply Je | (refine Tx 0 ?_; refine Jn xBo ?_; refine Jn xBo ?_; refine Ja ?_) | (refine Tx 1 ?_; refine Jo (xFa tf_Dyadic0 tk_bool) ?_; refine Jo (xLd tk_bool) ?_; refine Jo (xFa tf_Dyadic0 tk_bool) ?_; refine Jo (xLd tk_bool) ?_; refine Jo (by first | exact ok_neqBT rfl Tryz.underlying4 rfl rfl hb | exact xNe) ?_; refine Jm ?_; (first | iterate 5 refine Jd ?_ | (refine Jy (xFa tf_Dyadic2 tk_int) ?_; refine Jy (xLd tk_int) ?_; refine Jy (xFa tf_Dyadic2 tk_int) ?_; refine Jy (xLd tk_int) ?_; refine Jy xNe ?_)); refine Jo xPk ?_; refine Jm ?_; (first | iterate 7 refine Jd ?_ | (refine Jy (xFa tf_Dyadic1 tk_s_uint32) ?_; refine Jy (xLd tk_s_uint32) ?_; refine Jy (xLn ts_s_uint32) ?_; refine Jy (xFa tf_Dyadic1 tk_s_uint32) ?_; refine Jy (xLd tk_s_uint32) ?_; refine Jy (xLn ts_s_uint32) ?_; refine Jy xNe ?_)); refine Jo xPk ?_) | (refine Tx 2 ?_; refine Ja ?_))
    exact ret_q rfl (.cons_ (rv_b rfl (by unfold sameB; rw [decide_eq_false (fun h => hb h.1)])) .nil_)
  by_cases hd : r.den = s.den
  case neg =>
    repeat' (with_reducible first | apply qa | apply qb | apply qc | apply qd | apply qe | apply qf | apply qg | apply qh | apply qi | apply qj | apply qk | apply ql rfl | apply qm rfl | apply qn rfl | apply Je | (refine Tx 0 ?_; refine Jn xBo ?_; refine Jn xBo ?_; refine Ja ?_) | (refine Tx 1 ?_; refine Jo (xFa tf_Dyadic0 tk_bool) ?_; refine Jo (xLd tk_bool) ?_; refine Jo (xFa tf_Dyadic0 tk_bool) ?_; refine Jo (xLd tk_bool) ?_; refine Jo (by first | exact ok_neqBF rfl Tryz.underlying4 rfl rfl hb | exact xNe) ?_; refine Jm ?_; (first | iterate 5 refine Jd ?_ | (refine Jy (xFa tf_Dyadic2 tk_int) ?_; refine Jy (xLd tk_int) ?_; refine Jy (xFa tf_Dyadic2 tk_int) ?_; refine Jy (xLd tk_int) ?_; refine Jy xNe ?_)); refine Jo xPk ?_; refine Jm ?_; (first | iterate 7 refine Jd ?_ | (refine Jy (xFa tf_Dyadic1 tk_s_uint32) ?_; refine Jy (xLd tk_s_uint32) ?_; refine Jy (xLn ts_s_uint32) ?_; refine Jy (xFa tf_Dyadic1 tk_s_uint32) ?_; refine Jy (xLd tk_s_uint32) ?_; refine Jy (xLn ts_s_uint32) ?_; refine Jy xNe ?_)); refine Jo xPk ?_) | (refine Tx 2 ?_; refine Ja ?_))
    exact ret_q rfl (.cons_ (rv_b rfl (by unfold sameB; rw [decide_eq_false (fun h => hd h.2.1)])) .nil_)
  by_cases hl : r.ws.length = s.ws.length
  case neg =>
    repeat' (with_reducible first | apply qa | apply qb | apply qc | apply qd | apply qe | apply qf | apply qg | apply qh | apply qi | apply qj | apply qk | apply ql rfl | apply qm rfl | apply qn rfl | apply Je | (refine Tx 0 ?_; refine Jn xBo ?_; refine Jn xBo ?_; refine Ja ?_) | (refine Tx 1 ?_; refine Jo (xFa tf_Dyadic0 tk_bool) ?_; refine Jo (xLd tk_bool) ?_; refine Jo (xFa tf_Dyadic0 tk_bool) ?_; refine Jo (xLd tk_bool) ?_; refine Jo (by first | exact ok_neqBF rfl Tryz.underlying4 rfl rfl hb | exact xNe) ?_; refine Jm ?_; (first | iterate 5 refine Jd ?_ | (refine Jy (xFa tf_Dyadic2 tk_int) ?_; refine Jy (xLd tk_int) ?_; refine Jy (xFa tf_Dyadic2 tk_int) ?_; refine Jy (xLd tk_int) ?_; refine Jy xNe ?_)); refine Jo xPk ?_; refine Jm ?_; (first | iterate 7 refine Jd ?_ | (refine Jy (xFa tf_Dyadic1 tk_s_uint32) ?_; refine Jy (xLd tk_s_uint32) ?_; refine Jy (xLn ts_s_uint32) ?_; refine Jy (xFa tf_Dyadic1 tk_s_uint32) ?_; refine Jy (xLd tk_s_uint32) ?_; refine Jy (xLn ts_s_uint32) ?_; refine Jy xNe ?_)); refine Jo xPk ?_) | (refine Tx 2 ?_; refine Ja ?_))
    exact ret_q rfl (.cons_ (rv_b rfl (by unfold sameB; rw [decide_eq_false (fun h => hl (by rw [h.2.2]))])) .nil_)
  repeat' (with_reducible first | apply qa | apply qb | apply qc | apply qd | apply qe | apply qf | apply qg | apply qh | apply qi | apply qj | apply qk | apply ql rfl | apply qm rfl | apply qn rfl | apply Je | (refine Tx 0 ?_; refine Jn xBo ?_; refine Jn xBo ?_; refine Ja ?_) | (refine Tx 1 ?_; refine Jo (xFa tf_Dyadic0 tk_bool) ?_; refine Jo (xLd tk_bool) ?_; refine Jo (xFa tf_Dyadic0 tk_bool) ?_; refine Jo (xLd tk_bool) ?_; refine Jo (by first | exact ok_neqBF rfl Tryz.underlying4 rfl rfl hb | exact xNe) ?_; refine Jm ?_; (first | iterate 5 refine Jd ?_ | (refine Jy (xFa tf_Dyadic2 tk_int) ?_; refine Jy (xLd tk_int) ?_; refine Jy (xFa tf_Dyadic2 tk_int) ?_; refine Jy (xLd tk_int) ?_; refine Jy xNe ?_)); refine Jo xPk ?_; refine Jm ?_; (first | iterate 7 refine Jd ?_ | (refine Jy (xFa tf_Dyadic1 tk_s_uint32) ?_; refine Jy (xLd tk_s_uint32) ?_; refine Jy (xLn ts_s_uint32) ?_; refine Jy (xFa tf_Dyadic1 tk_s_uint32) ?_; refine Jy (xLd tk_s_uint32) ?_; refine Jy (xLn ts_s_uint32) ?_; refine Jy xNe ?_)); refine Jo xPk ?_) | (refine Tx 3 ?_; refine Jo (xFa tf_Dyadic1 tk_s_uint32) ?_; refine Jo (xLd tk_s_uint32) ?_; refine Jo (xLn ts_s_uint32) ?_; refine Jm ?_))
  refine cw_wk (F' := ofL [(2, vr 0), (3, vr 1), (29, vi r.ws.length), (30, vi ((0 : Nat)))]) (H' := [.box 53 ((dRv t r).map C.d), .box 53 ((dRv u s).map C.d)]) (wk_go _ 2 ?_ ?_ ?_) ?_
  · rfl
  · exact mB rfl rfl
  · exact ⟨bel_D, bel_D, trivial⟩
  refine cw_loopW (fun n Fr H => ∃ k : Nat, k ≤ r.ws.length ∧ n = r.ws.length - k ∧ r.ws.take k = s.ws.take k ∧ Fr = ofL [(2, vr 0), (3, vr 1), (29, vi r.ws.length), (30, vi ((k : Nat)))] ∧ H = [.box 53 ((dRv t r).map C.d), .box 53 ((dRv u s).map C.d)]) (n0 := r.ws.length) ⟨0, Nat.zero_le _, rfl, rfl, rfl, rfl⟩ ?_
  rintro n Fr H ⟨k, hk, rfl, he, rfl, rfl⟩
  by_cases hlt : k < r.ws.length
  case pos =>
    obtain ⟨p, hp⟩ : ∃ p, r.ws[k]? = some p := ⟨_, List.getElem?_eq_getElem hlt⟩
    obtain ⟨q, hq⟩ : ∃ q, s.ws[k]? = some q := ⟨_, List.getElem?_eq_getElem (by omega)⟩
    by_cases e : p = q
    case neg =>
      repeat' (with_reducible first | apply qa | apply qb | apply qc | apply qd | apply qe | apply qf | apply qg | apply qh | apply qi | apply qj | apply qk | apply ql rfl | apply qm rfl | apply qn rfl | apply Je | (refine Tx 4 ?_; refine Jo xLt ?_) | (refine Tx 5 ?_; refine Jm ?_; refine Ja ?_) | (refine cw_any (id := 6) mixed (by kernel_rfl) ?_; refine Ko (xFa tf_Dyadic1 tk_s_uint32) ?_; refine Ko (xLd tk_s_uint32) ?_; refine Km ?_; refine Ko (by first | exact xIr ts_s_uint32 (word_at hp) | exact xIr ts_s_uint32 (word_at hq)) ?_; refine Ko (xLd tk_uint32) ?_; refine Ko (xFa tf_Dyadic1 tk_s_uint32) ?_; refine Ko (xLd tk_s_uint32) ?_; refine Km ?_; refine Ko (by first | exact xIr ts_s_uint32 (word_at hp) | exact xIr ts_s_uint32 (word_at hq)) ?_; refine Ko (xLd tk_uint32) ?_; refine Ko xNe ?_; refine Ke ?_) | (refine Tx 7 ?_; refine Ja ?_))
      exact ret_q rfl (.cons_ (rv_b rfl (by unfold sameB; rw [decide_eq_false (fun h => ne_at hp hq e h.2.2)])) .nil_)
    subst e
    repeat' (with_reducible first | apply qa | apply qb | apply qc | apply qd | apply qe | apply qf | apply qg | apply qh | apply qi | apply qj | apply qk | apply ql rfl | apply qm rfl | apply qn rfl | apply Je | (refine Tx 4 ?_; refine Jo xLt ?_) | (refine Tx 5 ?_; refine Jm ?_; refine Ja ?_) | (refine cw_any (id := 6) mixed (by kernel_rfl) ?_; refine Ko (xFa tf_Dyadic1 tk_s_uint32) ?_; refine Ko (xLd tk_s_uint32) ?_; refine Km ?_; refine Ko (by first | exact xIr ts_s_uint32 (word_at hp) | exact xIr ts_s_uint32 (word_at hq)) ?_; refine Ko (xLd tk_uint32) ?_; refine Ko (xFa tf_Dyadic1 tk_s_uint32) ?_; refine Ko (xLd tk_s_uint32) ?_; refine Km ?_; refine Ko (by first | exact xIr ts_s_uint32 (word_at hp) | exact xIr ts_s_uint32 (word_at hq)) ?_; refine Ko (xLd tk_uint32) ?_; refine Ko xNe ?_; refine Ke ?_) | (refine Tx 8 ?_; refine Jo xAd ?_; refine Jm ?_))
    refine ⟨_, _, wk_go _ 2 ?_ ?_ ?_, _, by omega, k + 1, by omega, rfl, take_ext he hp hq, rfl, rfl⟩
    · rfl
    · exact mB rfl rfl
    · exact ⟨bel_D, bel_D, trivial⟩
  obtain rfl : k = r.ws.length := by omega
  clear hlt hk
  rw [List.take_length, hl, List.take_length] at he
  repeat' (with_reducible first | apply qa | apply qb | apply qc | apply qd | apply qe | apply qf | apply qg | apply qh | apply qi | apply qj | apply qk | apply ql rfl | apply qm rfl | apply qn rfl | apply Je | (refine Tx 4 ?_; refine Jo xLt ?_) | (refine Tx 9 ?_; refine Ja ?_))
  exact ret_q rfl (.cons_ (rv_b rfl (by unfold sameB; rw [decide_eq_true ⟨hb, hd, he⟩])) .nil_)
theorem dsame_cv (t u : Bool) (p q : Int × Nat) (l1 : (canon p.1.natAbs).length ≤ 1000000) (l2 : (canon q.1.natAbs).length ≤ 1000000) : CV Tryz.prog TabAt 83 [aDy t p.1 p.2, aDy u q.1 q.2] [aB (decide (p = q))] := by
  have := rvsame_cv t u (rvOf p) (rvOf q) l1 l2
  rw [same_p] at this
  unfold aRv at this
  rwa [rvOf_D, rvOf_D] at this
def LenOk (l : List (Int × Nat)) : Prop := ∀ p ∈ l, (canon p.1.natAbs).length ≤ 1000000
end Go.Proofs.YtilbehepmkpdbaaGreatDoor
