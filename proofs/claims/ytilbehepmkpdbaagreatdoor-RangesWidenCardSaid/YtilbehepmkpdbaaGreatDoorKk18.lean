/- What the proofs of this claim share, part 18. No conditions. -/
import Derived.Test.YtilbehepmkpdbaaGreatDoorKk17
set_option maxRecDepth 100000
set_option maxHeartbeats 4000000
set_option linter.unusedVariables false
set_option linter.unusedSimpArgs false
set_option linter.unusedSectionVars false
namespace Go.Proofs.YtilbehepmkpdbaaGreatDoor
open Go.RowKit
def lean12B (qs : List (Rv × Rv)) : Bool := (qs.all fun q => decide (q.1.ws.length ≤ 140 ∧ q.2.ws.length ≤ 140 ∧ q.1.den ≤ 9000 ∧ q.2.den ≤ 9000)) && decide (qs.length ≤ 100)
theorem lean12_len {qs : List (Rv × Rv)} (h : lean12B qs = true) (hw : ∀ q ∈ qs, wordsOk q.1.ws ∧ wordsOk q.2.ws) : (∀ q ∈ qs, RvL q.1 ∧ RvL q.2) ∧ qs.length ≤ 100 ∧ ∀ q ∈ qs, q.1.ws.length ≤ 140 ∧ q.2.ws.length ≤ 140 := by
  unfold lean12B at h
  rw [Bool.and_eq_true] at h
  have key : ∀ q ∈ qs, q.1.ws.length ≤ 140 ∧ q.2.ws.length ≤ 140 := fun q hq => by
    have := of_decide_eq_true (List.all_eq_true.1 h.1 q hq)
    exact ⟨this.1, this.2.1⟩
  exact ⟨fun q hq => ⟨⟨(hw q hq).1, by have := (key q hq).1; omega⟩, (hw q hq).2, by have := (key q hq).2; omega⟩, of_decide_eq_true h.2, key⟩
theorem lean12_cv (qs : List (Rv × Rv)) (hrl : (qs.length : Int) ≤ 9223372036854775807) : CV Tryz.prog TabAt 11 [.one (rowV qs)] [aB (lean12B qs)] := by
  refine cvz Tryz.func11 Tryz.ntmps11 ?_
  repeat' (with_reducible first | apply qa | apply qb | apply qc | apply qd | apply qe | apply qf | apply qg | apply qh | apply qi | apply qj | apply qk | apply ql rfl | apply qm rfl | apply qn rfl | apply Je | (refine Tx 0 ?_; refine Ja ?_) | (refine Tx 1 ?_; refine Jm ?_; refine Jo (xLn ts_s_Interval) ?_; refine Jm ?_))
  refine cw_wk (F' := ofL [(0, vd (rowV qs)), (5, vd (rowV qs)), (6, vi qs.length), (7, vi ((0 : Nat)))]) (H' := []) (wk_go _ 0 ?_ ?_ ?_) ?_
  · rfl
  · exact mB rfl rfl
  · exact trivial
  refine cw_loopW (fun n Fr H => ∃ k : Nat, k ≤ qs.length ∧ n = qs.length - k ∧ (qs.take k).all (fun q : Rv × Rv => decide (q.1.ws.length ≤ 140 ∧ q.2.ws.length ≤ 140 ∧ q.1.den ≤ 9000 ∧ q.2.den ≤ 9000)) = true ∧ Fr = ofL [(0, vd (rowV qs)), (5, vd (rowV qs)), (6, vi qs.length), (7, vi ((k : Nat)))] ∧ H = []) (n0 := qs.length) ⟨0, Nat.zero_le _, rfl, rfl, rfl, rfl⟩ ?_
  rintro n Fr H ⟨k, hk, rfl, hall, rfl, rfl⟩
  by_cases hlt : k < qs.length
  case pos =>
    obtain ⟨q, hq⟩ : ∃ q, qs[k]? = some q := ⟨_, List.getElem?_eq_getElem hlt⟩
    by_cases c1 : q.1.ws.length ≤ 140
    case neg =>
      repeat' (with_reducible first | apply qa | apply qb | apply qc | apply qd | apply qe | apply qf | apply qg | apply qh | apply qi | apply qj | apply qk | apply ql rfl | apply qm rfl | apply qn rfl | apply Je | (refine Tx 2 ?_; refine Jo xLt ?_) | (refine Tx 3 ?_; refine Jo (xIr ts_s_Interval (iv_at hq)) ?_; refine Jo (xLa tk_Interval) ?_; refine Jn (xAl tz_Interval) ?_; refine Js (xSk tk_Interval) ?_) | (refine Tx 4 ?_; refine Jo (xFa tf_Interval0 tk_Dyadic) ?_; refine Jo (xFa tf_Dyadic1 tk_s_uint32) ?_; refine Jo (xLd tk_s_uint32) ?_; refine Jo (xLn ts_s_uint32) ?_; refine Jo xGt ?_; refine Jm ?_; (first | iterate 5 refine Jd ?_ | (refine Jy (xFa tf_Interval1 tk_Dyadic) ?_; refine Jy (xFa tf_Dyadic1 tk_s_uint32) ?_; refine Jy (xLd tk_s_uint32) ?_; refine Jy (xLn ts_s_uint32) ?_; refine Jy xGt ?_)); refine Jo xPk ?_; refine Jm ?_; (first | iterate 4 refine Jd ?_ | (refine Jy (xFa tf_Interval0 tk_Dyadic) ?_; refine Jy (xFa tf_Dyadic2 tk_int) ?_; refine Jy (xLd tk_int) ?_; refine Jy xGt ?_)); refine Jo xPk ?_; refine Jm ?_; (first | iterate 4 refine Jd ?_ | (refine Jy (xFa tf_Interval1 tk_Dyadic) ?_; refine Jy (xFa tf_Dyadic2 tk_int) ?_; refine Jy (xLd tk_int) ?_; refine Jy xGt ?_)); refine Jo xPk ?_) | (refine Tx 5 ?_; refine Ja ?_))
      exact ret_q rfl (.cons_ (rv_b rfl (by unfold lean12B; rw [all_no hq (decide_eq_false (by omega)), Bool.false_and])) .nil_)
    by_cases c2 : q.2.ws.length ≤ 140
    case neg =>
      repeat' (with_reducible first | apply qa | apply qb | apply qc | apply qd | apply qe | apply qf | apply qg | apply qh | apply qi | apply qj | apply qk | apply ql rfl | apply qm rfl | apply qn rfl | apply Je | (refine Tx 2 ?_; refine Jo xLt ?_) | (refine Tx 3 ?_; refine Jo (xIr ts_s_Interval (iv_at hq)) ?_; refine Jo (xLa tk_Interval) ?_; refine Jn (xAl tz_Interval) ?_; refine Js (xSk tk_Interval) ?_) | (refine Tx 4 ?_; refine Jo (xFa tf_Interval0 tk_Dyadic) ?_; refine Jo (xFa tf_Dyadic1 tk_s_uint32) ?_; refine Jo (xLd tk_s_uint32) ?_; refine Jo (xLn ts_s_uint32) ?_; refine Jo xGt ?_; refine Jm ?_; (first | iterate 5 refine Jd ?_ | (refine Jy (xFa tf_Interval1 tk_Dyadic) ?_; refine Jy (xFa tf_Dyadic1 tk_s_uint32) ?_; refine Jy (xLd tk_s_uint32) ?_; refine Jy (xLn ts_s_uint32) ?_; refine Jy xGt ?_)); refine Jo xPk ?_; refine Jm ?_; (first | iterate 4 refine Jd ?_ | (refine Jy (xFa tf_Interval0 tk_Dyadic) ?_; refine Jy (xFa tf_Dyadic2 tk_int) ?_; refine Jy (xLd tk_int) ?_; refine Jy xGt ?_)); refine Jo xPk ?_; refine Jm ?_; (first | iterate 4 refine Jd ?_ | (refine Jy (xFa tf_Interval1 tk_Dyadic) ?_; refine Jy (xFa tf_Dyadic2 tk_int) ?_; refine Jy (xLd tk_int) ?_; refine Jy xGt ?_)); refine Jo xPk ?_) | (refine Tx 5 ?_; refine Ja ?_))
      exact ret_q rfl (.cons_ (rv_b rfl (by unfold lean12B; rw [all_no hq (decide_eq_false (by omega)), Bool.false_and])) .nil_)
    by_cases c3 : q.1.den ≤ 9000
    case neg =>
      repeat' (with_reducible first | apply qa | apply qb | apply qc | apply qd | apply qe | apply qf | apply qg | apply qh | apply qi | apply qj | apply qk | apply ql rfl | apply qm rfl | apply qn rfl | apply Je | (refine Tx 2 ?_; refine Jo xLt ?_) | (refine Tx 3 ?_; refine Jo (xIr ts_s_Interval (iv_at hq)) ?_; refine Jo (xLa tk_Interval) ?_; refine Jn (xAl tz_Interval) ?_; refine Js (xSk tk_Interval) ?_) | (refine Tx 4 ?_; refine Jo (xFa tf_Interval0 tk_Dyadic) ?_; refine Jo (xFa tf_Dyadic1 tk_s_uint32) ?_; refine Jo (xLd tk_s_uint32) ?_; refine Jo (xLn ts_s_uint32) ?_; refine Jo xGt ?_; refine Jm ?_; (first | iterate 5 refine Jd ?_ | (refine Jy (xFa tf_Interval1 tk_Dyadic) ?_; refine Jy (xFa tf_Dyadic1 tk_s_uint32) ?_; refine Jy (xLd tk_s_uint32) ?_; refine Jy (xLn ts_s_uint32) ?_; refine Jy xGt ?_)); refine Jo xPk ?_; refine Jm ?_; (first | iterate 4 refine Jd ?_ | (refine Jy (xFa tf_Interval0 tk_Dyadic) ?_; refine Jy (xFa tf_Dyadic2 tk_int) ?_; refine Jy (xLd tk_int) ?_; refine Jy xGt ?_)); refine Jo xPk ?_; refine Jm ?_; (first | iterate 4 refine Jd ?_ | (refine Jy (xFa tf_Interval1 tk_Dyadic) ?_; refine Jy (xFa tf_Dyadic2 tk_int) ?_; refine Jy (xLd tk_int) ?_; refine Jy xGt ?_)); refine Jo xPk ?_) | (refine Tx 5 ?_; refine Ja ?_))
      exact ret_q rfl (.cons_ (rv_b rfl (by unfold lean12B; rw [all_no hq (decide_eq_false (by omega)), Bool.false_and])) .nil_)
    by_cases c4 : q.2.den ≤ 9000
    case neg =>
      repeat' (with_reducible first | apply qa | apply qb | apply qc | apply qd | apply qe | apply qf | apply qg | apply qh | apply qi | apply qj | apply qk | apply ql rfl | apply qm rfl | apply qn rfl | apply Je | (refine Tx 2 ?_; refine Jo xLt ?_) | (refine Tx 3 ?_; refine Jo (xIr ts_s_Interval (iv_at hq)) ?_; refine Jo (xLa tk_Interval) ?_; refine Jn (xAl tz_Interval) ?_; refine Js (xSk tk_Interval) ?_) | (refine Tx 4 ?_; refine Jo (xFa tf_Interval0 tk_Dyadic) ?_; refine Jo (xFa tf_Dyadic1 tk_s_uint32) ?_; refine Jo (xLd tk_s_uint32) ?_; refine Jo (xLn ts_s_uint32) ?_; refine Jo xGt ?_; refine Jm ?_; (first | iterate 5 refine Jd ?_ | (refine Jy (xFa tf_Interval1 tk_Dyadic) ?_; refine Jy (xFa tf_Dyadic1 tk_s_uint32) ?_; refine Jy (xLd tk_s_uint32) ?_; refine Jy (xLn ts_s_uint32) ?_; refine Jy xGt ?_)); refine Jo xPk ?_; refine Jm ?_; (first | iterate 4 refine Jd ?_ | (refine Jy (xFa tf_Interval0 tk_Dyadic) ?_; refine Jy (xFa tf_Dyadic2 tk_int) ?_; refine Jy (xLd tk_int) ?_; refine Jy xGt ?_)); refine Jo xPk ?_; refine Jm ?_; (first | iterate 4 refine Jd ?_ | (refine Jy (xFa tf_Interval1 tk_Dyadic) ?_; refine Jy (xFa tf_Dyadic2 tk_int) ?_; refine Jy (xLd tk_int) ?_; refine Jy xGt ?_)); refine Jo xPk ?_) | (refine Tx 5 ?_; refine Ja ?_))
      exact ret_q rfl (.cons_ (rv_b rfl (by unfold lean12B; rw [all_no hq (decide_eq_false (by omega)), Bool.false_and])) .nil_)
    repeat' (with_reducible first | apply qa | apply qb | apply qc | apply qd | apply qe | apply qf | apply qg | apply qh | apply qi | apply qj | apply qk | apply ql rfl | apply qm rfl | apply qn rfl | apply Je | (refine Tx 2 ?_; refine Jo xLt ?_) | (refine Tx 3 ?_; refine Jo (xIr ts_s_Interval (iv_at hq)) ?_; refine Jo (xLa tk_Interval) ?_; refine Jn (xAl tz_Interval) ?_; refine Js (xSk tk_Interval) ?_) | (refine Tx 4 ?_; refine Jo (xFa tf_Interval0 tk_Dyadic) ?_; refine Jo (xFa tf_Dyadic1 tk_s_uint32) ?_; refine Jo (xLd tk_s_uint32) ?_; refine Jo (xLn ts_s_uint32) ?_; refine Jo xGt ?_; refine Jm ?_; (first | iterate 5 refine Jd ?_ | (refine Jy (xFa tf_Interval1 tk_Dyadic) ?_; refine Jy (xFa tf_Dyadic1 tk_s_uint32) ?_; refine Jy (xLd tk_s_uint32) ?_; refine Jy (xLn ts_s_uint32) ?_; refine Jy xGt ?_)); refine Jo xPk ?_; refine Jm ?_; (first | iterate 4 refine Jd ?_ | (refine Jy (xFa tf_Interval0 tk_Dyadic) ?_; refine Jy (xFa tf_Dyadic2 tk_int) ?_; refine Jy (xLd tk_int) ?_; refine Jy xGt ?_)); refine Jo xPk ?_; refine Jm ?_; (first | iterate 4 refine Jd ?_ | (refine Jy (xFa tf_Interval1 tk_Dyadic) ?_; refine Jy (xFa tf_Dyadic2 tk_int) ?_; refine Jy (xLd tk_int) ?_; refine Jy xGt ?_)); refine Jo xPk ?_) | (refine Tx 6 ?_; refine Jo xAd ?_; refine Jm ?_))
    refine ⟨_, _, wk_go _ 0 ?_ ?_ ?_, _, by omega, k + 1, by omega, rfl, all_take hq hall (decide_eq_true ⟨c1, c2, c3, c4⟩), rfl, rfl⟩
    · rfl
    · exact mB rfl rfl
    · exact trivial
  obtain rfl : k = qs.length := by omega
  rw [List.take_length] at hall
  by_cases c3 : qs.length ≤ 100
  case pos =>
    repeat' (with_reducible first | apply qa | apply qb | apply qc | apply qd | apply qe | apply qf | apply qg | apply qh | apply qi | apply qj | apply qk | apply ql rfl | apply qm rfl | apply qn rfl | apply Je | (refine Tx 2 ?_; refine Jo xLt ?_) | (refine Tx 7 ?_; refine Jm ?_; refine Jo (xLn ts_s_Interval) ?_; refine Jo xLe ?_; refine Ja ?_))
    exact ret_q rfl (.cons_ (rv_b rfl (by unfold lean12B; rw [hall, decide_eq_true c3]; rfl)) .nil_)
  case neg =>
    repeat' (with_reducible first | apply qa | apply qb | apply qc | apply qd | apply qe | apply qf | apply qg | apply qh | apply qi | apply qj | apply qk | apply ql rfl | apply qm rfl | apply qn rfl | apply Je | (refine Tx 2 ?_; refine Jo xLt ?_) | (refine Tx 7 ?_; refine Jm ?_; refine Jo (xLn ts_s_Interval) ?_; refine Jo xLe ?_; refine Ja ?_))
    exact ret_q rfl (.cons_ (rv_b rfl (by unfold lean12B; rw [hall, decide_eq_false c3]; rfl)) .nil_)
def rowU8 (zs : List Int) : D := .row true 1 zs.length (zs.map fun z => .val (.int .u8 z))
abbrev wdBy (n : Int) : Pq := dyShift n 0 (-4)
theorem wd_sm {n : Int} (h0 : 0 ≤ n) (h1 : n < 256) : Sm (wdBy n) 264 200 ∧ 0 ≤ gv (wdBy n) ∧ 0 ≤ (wdBy n).1 := by
  have s : Sm (wdBy n) 264 200 := Sm.shift (n := 64) (by omega) (by omega) (by omega)
  have e : gv (wdBy n) * 2 ^ (4 : Int).toNat = n * 2 ^ GQ := port_gv (z := n) (f := 4) (by decide) (by decide)
  have p1 := two_pos GQ
  have h2 : 0 ≤ n * 2 ^ GQ := Int.mul_nonneg h0 (Int.le_of_lt p1)
  have g : 0 ≤ gv (wdBy n) := Int.not_lt.1 fun hc => by
    have := Int.mul_neg_of_neg_of_pos hc (two_pos (4 : Int).toNat)
    omega
  exact ⟨s, g, Int.not_lt.1 fun hc => by have := sgn_lt.1 hc; omega⟩
def wideI (q : Rv × Rv) (n : Int) : Iq := iAdd (nrmR q.1 q.2) (spanL [wdBy n, qNeg (wdBy n)])
theorem nrm_lean {q : Rv × Rv} (hr : RvL q.1) (hs : RvL q.2) (h1 : q.1.ws.length ≤ 140) (h2 : q.2.ws.length ≤ 140) (d1 : q.1.den ≤ 9000) (d2 : q.2.den ≤ 9000) : IwS (nrmR q.1 q.2) 9000 9000 := by
  unfold nrmR
  by_cases h : ivR q.1 q.2 = true
  · rw [if_pos h]
    obtain ⟨_, n1, n2, g, k1, k2⟩ := raw_ok hr hs h
    have s1 := sm_lenN (p := rvP q.1) (k := 140) (n := 9000) n1 (by rw [k1]; exact h1) (by decide)
    have s2 := sm_lenN (p := rvP q.2) (k := 140) (n := 9000) n2 (by rw [k2]; exact h2) (by decide)
    exact ⟨⟨n1, s1.n, by show q.1.den.toNat ≤ 9000; omega⟩, ⟨n2, s2.n, by show q.2.den.toNat ≤ 9000; omega⟩, g⟩
  · rw [if_neg h]
    exact .pt (Sm.zero _ _)
theorem wide_iw {q : Rv × Rv} {n : Int} (h : IwS (nrmR q.1 q.2) 9000 9000) (h0 : 0 ≤ n) (h1 : n < 256) : IwS (wideI q n) 20000 20000 ∧ gIn (nrmR q.1 q.2) (wideI q n) := by
  obtain ⟨s, g, _⟩ := wd_sm h0 h1
  have s' := s.more (show 264 ≤ 9000 by decide) (show 200 ≤ 9000 by decide)
  obtain ⟨e1, e2, e3⟩ := spanL_two s' s'.neg
  rw [show gv (qNeg (wdBy n)) = -gv (wdBy n) from gv_neg _] at e1 e2
  refine ⟨(h.add e3 (by decide)).more (by decide) (by decide), ?_, ?_⟩
  · show gv (qSum (nrmR q.1 q.2).1 (spanL [wdBy n, qNeg (wdBy n)]).1) ≤ _
    rw [gv_sum h.s1.le e3.s1.le, e1]; omega
  · show _ ≤ gv (qSum (nrmR q.1 q.2).2 (spanL [wdBy n, qNeg (wdBy n)]).2)
    rw [gv_sum h.s2.le e3.s2.le, e2]; omega
def wideL (qs : List (Rv × Rv)) (zs : List Int) : List Iq := (List.range qs.length).map fun k => wideI (qs[k]?.getD (⟨false, [], 0⟩, ⟨false, [], 0⟩)) (zs[k]?.getD 0)
theorem wideL_len {qs : List (Rv × Rv)} {zs : List Int} : (wideL qs zs).length = qs.length := by unfold wideL; rw [List.length_map, List.length_range]
theorem wideL_at {qs : List (Rv × Rv)} {zs : List Int} {k : Nat} {q : Rv × Rv} (h : qs[k]? = some q) : (wideL qs zs)[k]? = some (wideI q (zs[k]?.getD 0)) := by
  have hk := (List.getElem?_eq_some_iff.1 h).1
  unfold wideL
  rw [List.getElem?_map, List.getElem?_range hk, Option.map_some, h, Option.getD_some]
theorem byte_at {zs : List Int} (hz : ∀ z ∈ zs, 0 ≤ z ∧ z < 256) (k : Nat) : 0 ≤ zs[k]?.getD 0 ∧ zs[k]?.getD 0 < 256 := by
  cases h : zs[k]? with
  | none => exact ⟨by decide, by decide⟩
  | some z => exact hz z (List.mem_of_getElem? h)
theorem wideL_iw {qs : List (Rv × Rv)} {zs : List Int} (hn : ∀ q ∈ qs, IwS (nrmR q.1 q.2) 9000 9000) (hz : ∀ z ∈ zs, 0 ≤ z ∧ z < 256) : ∀ a ∈ wideL qs zs, IwS a 20000 20000 := fun a ha => by
  obtain ⟨k, hk⟩ := List.mem_iff_getElem?.1 ha
  have hkl := (List.getElem?_eq_some_iff.1 hk).1
  rw [wideL_len] at hkl
  obtain ⟨q, hq⟩ : ∃ q, qs[k]? = some q := ⟨_, List.getElem?_eq_getElem hkl⟩
  rw [wideL_at hq] at hk
  cases hk
  exact (wide_iw (hn q (List.mem_of_getElem? hq)) (byte_at hz k).1 (byte_at hz k).2).1
theorem rgE_cases {ps : List Prt} {bs : List Bk} {os : List Int} {qs : List (Rv × Rv)} (h0 : dgErr ps bs os = 0) (h : rgE ps bs os qs ≠ 0) : rgE ps bs os qs = 11 ∨ rgE ps bs os qs = 2 ∨ rgE ps bs os qs = 4 := by
  by_cases h1 : qs.length = (delL bs).length
  · by_cases h2 : qs.all ivC = false
    · exact .inr (.inl (rgE3 h0 h1 h2))
    · rw [rgE4 h0 h1 h2] at h ⊢
      by_cases h3 : rgBad ps bs (qs.map ivQ) = true
      · rw [if_pos h3]; exact .inr (.inr rfl)
      · rw [if_neg h3] at h; exact absurd rfl h
  · exact .inl (rgE2 h0 h1)
theorem rangesWiden_cv (ps : List Prt) (bs : List Bk) (os : List Int) (qs : List (Rv × Rv)) (hws : ∀ q ∈ qs, wordsOk q.1.ws ∧ wordsOk q.2.ws) (hrn : (qs.length : Int) ≤ 9223372036854775807) (zs : List Int) (hz : ∀ z ∈ zs, 0 ≤ z ∧ z < 256) (hzn : (zs.length : Int) ≤ 9223372036854775807) : CV Tryz.prog TabAt 5 [aDg true ps bs os, .one (rowV qs), .one (rowU8 zs)] [aB true] := by
  refine cvz Tryz.func5 Tryz.ntmps5 ?_
  have LT := light_cvT true ps bs os
  have LE := lean12_cv qs hrn
  by_cases h1 : lightB ps bs os = true
  case neg =>
    rw [Bool.not_eq_true] at h1
    rw [h1] at LT
    repeat' (with_reducible first | apply qa | apply qb | apply qc | apply qd | apply qe | apply qf | apply qg | apply qh | apply qi | apply qj | apply qk | apply ql rfl | apply qm rfl | apply qn rfl | apply Je | (refine Tx 0 ?_; refine Jn xBo ?_; refine Ja ?_) | (refine Tx 1 ?_; refine Jo (xCl Tryz.func9 (awake12_cv)) ?_; refine Jo (by first | exact xNt | exact xNg) ?_; refine Jm ?_; (first | iterate 3 refine Jd ?_ | (refine Jy (xLa tk_Diagram) ?_; refine Jy (xCl Tryz.func10 (LT)) ?_; refine Jy (by first | exact xNt | exact xNg) ?_)); refine Jo xPk ?_; refine Jm ?_; (first | iterate 3 refine Jd ?_ | (refine Jy xM1 ?_; refine Jy (xCl Tryz.func11 (LE)) ?_; refine Jy (by first | exact xNt | exact xNg) ?_)); refine Jo xPk ?_; refine Jm ?_; (first | iterate 3 refine Jd ?_ | (refine Jy xM1 ?_; refine Jy (xLn ts_s_uint8) ?_; refine Jy xGt ?_)); refine Jo xPk ?_; refine Jm ?_; (first | iterate 3 refine Jd ?_ | (refine Jy (xLa tk_Diagram) ?_; refine Jy (xCl Tryz.func19 (PC)) ?_; refine Jy (xNE ti_error) ?_)); refine Jo xPk ?_) | (refine Tx 2 ?_; refine Jo (xCl Tryz.func9 (awake12_cv)) ?_; refine Ja ?_))
    exact ret_q rfl (.cons_ (rv_b rfl (rfl)) .nil_)
  rw [h1] at LT
  by_cases h2 : lean12B qs = true
  case neg =>
    rw [Bool.not_eq_true] at h2
    rw [h2] at LE
    repeat' (with_reducible first | apply qa | apply qb | apply qc | apply qd | apply qe | apply qf | apply qg | apply qh | apply qi | apply qj | apply qk | apply ql rfl | apply qm rfl | apply qn rfl | apply Je | (refine Tx 0 ?_; refine Jn xBo ?_; refine Ja ?_) | (refine Tx 1 ?_; refine Jo (xCl Tryz.func9 (awake12_cv)) ?_; refine Jo (by first | exact xNt | exact xNg) ?_; refine Jm ?_; (first | iterate 3 refine Jd ?_ | (refine Jy (xLa tk_Diagram) ?_; refine Jy (xCl Tryz.func10 (LT)) ?_; refine Jy (by first | exact xNt | exact xNg) ?_)); refine Jo xPk ?_; refine Jm ?_; (first | iterate 3 refine Jd ?_ | (refine Jy xM1 ?_; refine Jy (xCl Tryz.func11 (LE)) ?_; refine Jy (by first | exact xNt | exact xNg) ?_)); refine Jo xPk ?_; refine Jm ?_; (first | iterate 3 refine Jd ?_ | (refine Jy xM1 ?_; refine Jy (xLn ts_s_uint8) ?_; refine Jy xGt ?_)); refine Jo xPk ?_; refine Jm ?_; (first | iterate 3 refine Jd ?_ | (refine Jy (xLa tk_Diagram) ?_; refine Jy (xCl Tryz.func19 (PC)) ?_; refine Jy (xNE ti_error) ?_)); refine Jo xPk ?_) | (refine Tx 2 ?_; refine Jo (xCl Tryz.func9 (awake12_cv)) ?_; refine Ja ?_))
    exact ret_q rfl (.cons_ (rv_b rfl (rfl)) .nil_)
  rw [h2] at LE
  by_cases h3 : 100 < zs.length
  case pos =>
    repeat' (with_reducible first | apply qa | apply qb | apply qc | apply qd | apply qe | apply qf | apply qg | apply qh | apply qi | apply qj | apply qk | apply ql rfl | apply qm rfl | apply qn rfl | apply Je | (refine Tx 0 ?_; refine Jn xBo ?_; refine Ja ?_) | (refine Tx 1 ?_; refine Jo (xCl Tryz.func9 (awake12_cv)) ?_; refine Jo (by first | exact xNt | exact xNg) ?_; refine Jm ?_; (first | iterate 3 refine Jd ?_ | (refine Jy (xLa tk_Diagram) ?_; refine Jy (xCl Tryz.func10 (LT)) ?_; refine Jy (by first | exact xNt | exact xNg) ?_)); refine Jo xPk ?_; refine Jm ?_; (first | iterate 3 refine Jd ?_ | (refine Jy xM1 ?_; refine Jy (xCl Tryz.func11 (LE)) ?_; refine Jy (by first | exact xNt | exact xNg) ?_)); refine Jo xPk ?_; refine Jm ?_; (first | iterate 3 refine Jd ?_ | (refine Jy xM1 ?_; refine Jy (xLn ts_s_uint8) ?_; refine Jy xGt ?_)); refine Jo xPk ?_; refine Jm ?_; (first | iterate 3 refine Jd ?_ | (refine Jy (xLa tk_Diagram) ?_; refine Jy (xCl Tryz.func19 (PC)) ?_; refine Jy (xNE ti_error) ?_)); refine Jo xPk ?_) | (refine Tx 2 ?_; refine Jo (xCl Tryz.func9 (awake12_cv)) ?_; refine Ja ?_))
    exact ret_q rfl (.cons_ (rv_b rfl (rfl)) .nil_)
  have hl := (light_len h1).1
  obtain ⟨hwl, hql, hq140⟩ := lean12_len h2 hws
  have PC := (pcheck_cv true hl).cv
  by_cases h0 : dgErr ps bs os = 0
  case neg =>
    repeat' (with_reducible first | apply qa | apply qb | apply qc | apply qd | apply qe | apply qf | apply qg | apply qh | apply qi | apply qj | apply qk | apply ql rfl | apply qm rfl | apply qn rfl | apply Je | (refine Tx 0 ?_; refine Jn xBo ?_; refine Ja ?_) | (refine Tx 1 ?_; refine Jo (xCl Tryz.func9 (awake12_cv)) ?_; refine Jo (by first | exact xNt | exact xNg) ?_; refine Jm ?_; (first | iterate 3 refine Jd ?_ | (refine Jy (xLa tk_Diagram) ?_; refine Jy (xCl Tryz.func10 (LT)) ?_; refine Jy (by first | exact xNt | exact xNg) ?_)); refine Jo xPk ?_; refine Jm ?_; (first | iterate 3 refine Jd ?_ | (refine Jy xM1 ?_; refine Jy (xCl Tryz.func11 (LE)) ?_; refine Jy (by first | exact xNt | exact xNg) ?_)); refine Jo xPk ?_; refine Jm ?_; (first | iterate 3 refine Jd ?_ | (refine Jy xM1 ?_; refine Jy (xLn ts_s_uint8) ?_; refine Jy xGt ?_)); refine Jo xPk ?_; refine Jm ?_; (first | iterate 3 refine Jd ?_ | (refine Jy (xLa tk_Diagram) ?_; refine Jy (xCl Tryz.func19 (PC)) ?_; refine Jy (by first | exact ok_neqE rfl ti_error rfl (bne_t h0) | exact ok_neqE rfl ti_error rfl (bne_f (by first | rfl | omega)) | exact ok_neqE rfl ti_error rfl (bne_t (by first | assumption | omega)) | exact ok_neqE rfl ti_error rfl rfl) ?_)); refine Jo xPk ?_) | (refine Tx 2 ?_; refine Jo (xCl Tryz.func9 (awake12_cv)) ?_; refine Ja ?_))
    exact ret_q rfl (.cons_ (rv_b rfl (rfl)) .nil_)
  rw [h0] at PC
  have hnr : ∀ q ∈ qs, IwS (nrmR q.1 q.2) 9000 9000 := fun q hq => by
    have h2' := h2
    unfold lean12B at h2'
    rw [Bool.and_eq_true] at h2'
    have hd := of_decide_eq_true (List.all_eq_true.1 h2'.1 q hq)
    exact nrm_lean (hwl q hq).1 (hwl q hq).2 hd.1 hd.2.1 hd.2.2.1 hd.2.2.2
  repeat' (with_reducible first | apply qa | apply qb | apply qc | apply qd | apply qe | apply qf | apply qg | apply qh | apply qi | apply qj | apply qk | apply ql rfl | apply qm rfl | apply qn rfl | apply Je | (refine Tx 0 ?_; refine Jn xBo ?_; refine Ja ?_) | (refine Tx 1 ?_; refine Jo (xCl Tryz.func9 (awake12_cv)) ?_; refine Jo (by first | exact xNt | exact xNg) ?_; refine Jm ?_; (first | iterate 3 refine Jd ?_ | (refine Jy (xLa tk_Diagram) ?_; refine Jy (xCl Tryz.func10 (LT)) ?_; refine Jy (by first | exact xNt | exact xNg) ?_)); refine Jo xPk ?_; refine Jm ?_; (first | iterate 3 refine Jd ?_ | (refine Jy xM1 ?_; refine Jy (xCl Tryz.func11 (LE)) ?_; refine Jy (by first | exact xNt | exact xNg) ?_)); refine Jo xPk ?_; refine Jm ?_; (first | iterate 3 refine Jd ?_ | (refine Jy xM1 ?_; refine Jy (xLn ts_s_uint8) ?_; refine Jy xGt ?_)); refine Jo xPk ?_; refine Jm ?_; (first | iterate 3 refine Jd ?_ | (refine Jy (xLa tk_Diagram) ?_; refine Jy (xCl Tryz.func19 (PC)) ?_; refine Jy (xNE ti_error) ?_)); refine Jo xPk ?_) | (refine Tx 3 ?_; refine Ja ?_) | (refine Tx 4 ?_; refine Jm ?_; refine Jo (xLn ts_s_Interval) ?_; refine Jm ?_))
  refine cw_wk (wk_nil 7 55 6 rfl) ?_
  refine cw_wk (F' := ofL [(1, vd (rowV qs)), (2, vd (rowU8 zs)), (3, vr 0), (7, vo 1 (((wideL qs zs).take 0).length)), (41, vd (rowV qs)), (42, vi qs.length), (43, vi ((0 : Nat)))]) (H' := [.box 26 [.d (rowP true ps), .d (rowB true bs), .d (rowI true os)], .row 55 6 ((wideL qs zs).take (0)).length ((flatD (dIw false) ((wideL qs zs).take (0))).map C.d)]) (wk_go _ 2 ?_ ?_ ?_) ?_
  · rfl
  · exact mB rfl rfl
  · exact ⟨bel_lit rfl, bel_D, trivial⟩
  refine cw_loopW (fun n Fr H => ∃ k : Nat, k ≤ qs.length ∧ n = qs.length - k ∧ Fr = ofL [(1, vd (rowV qs)), (2, vd (rowU8 zs)), (3, vr 0), (7, vo 1 (((wideL qs zs).take k).length)), (41, vd (rowV qs)), (42, vi qs.length), (43, vi ((k : Nat)))] ∧ H = [.box 26 [.d (rowP true ps), .d (rowB true bs), .d (rowI true os)], .row 55 6 ((wideL qs zs).take (k)).length ((flatD (dIw false) ((wideL qs zs).take (k))).map C.d)]) (n0 := qs.length) ⟨0, Nat.zero_le _, rfl, rfl, rfl⟩ ?_
  rintro n Fr H ⟨k, hk, rfl, rfl, rfl⟩
  by_cases hlt : k < qs.length
  case pos =>
    obtain ⟨q, hq⟩ : ∃ q, qs[k]? = some q := ⟨_, List.getElem?_eq_getElem hlt⟩
    have hqm := List.mem_of_getElem? hq
    have hb := byte_at hz k
    have hwa := wideL_at (zs := zs) hq
    have hnq := hnr q hqm
    by_cases hby : k < zs.length
    case pos =>
      obtain ⟨z, hzk⟩ : ∃ z, zs[k]? = some z := ⟨_, List.getElem?_eq_getElem hby⟩
      rw [hzk, Option.getD_some] at hb hwa
      have hwr : IntKind.i64.wrap z = z := IntWalk.i64_in z (by omega)
      obtain ⟨hap, hap2, hoL⟩ := flatI_next hwa
      obtain ⟨s, _, w0⟩ := wd_sm hb.1 hb.2
      have OF := (of_cv (G := TabAt) z (by omega) (by omega)).cv
      have SH := (dshift_cv (G := TabAt) false z 0 (-4) ⟨by decide, fun h => absurd rfl h⟩ (Nat.le_trans (canon_len_le (k := 2) (by omega)) (by decide)) (by decide)).cv
      have WI : CV Tryz.prog TabAt 22 [.agg (dIr false q), aDy false (wdBy z).1 (wdBy z).2] [aIw false (wideI q z), aI 0] := riwiden_cv q.1 q.2 (wdBy z) (hwl q hqm).1 (hwl q hqm).2 (hnq.more (by decide) (by decide)) (s.more (by decide) (by decide)) w0
      repeat' (with_reducible first | apply qa | apply qb | apply qc | apply qd | apply qe | apply qf | apply qg | apply qh | apply qi | apply qj | apply qk | apply ql rfl | apply qm rfl | apply qn rfl | apply Je | (refine Tx 5 ?_; refine Jo xLt ?_) | (refine Tx 6 ?_; refine Jm ?_; refine Jo (xIr ts_s_Interval (iv_at hq)) ?_; refine Jo (xLa tk_Interval) ?_; refine Jn (xAl tz_Interval) ?_; refine Ja ?_; refine Js (xSk tk_Interval) ?_) | (refine Tx 7 ?_; refine Ja ?_) | (refine Tx 8 ?_; refine Jm ?_; refine Jm ?_; refine Jo (xLn ts_s_uint8) ?_; refine Jo xLt ?_) | (refine Tx 9 ?_; refine Jm ?_; refine Jm ?_; refine Jo (by first | exact xIr ts_s_uint8 (map_at hzk) | exact xIr ts_s_uint8 (iv_at hq)) ?_; refine Jo (xLd tk_uint8) ?_; refine Jo (by first | exact ok_convR rfl Tryz.underlying5 Tryz.underlying3 rfl hwr | exact ok_conv rfl Tryz.underlying5 Tryz.underlying3 rfl) ?_; refine Ja ?_) | (refine cw_partE (id := 10) 9 [(9, 7)] mixed (by kernel_rfl) ?_; dsimp only [List.take, List.drop]; refine Ko (xLa tk_Interval) ?_; refine Km ?_; refine Ko (xCl Tryz.func24 (OF)) ?_; refine Ko (xCl Tryz.func23 (SH)) ?_; refine Ko (xCl Tryz.func22 (WI)) ?_; refine Ko xMt ?_; refine Ko (by exact ok_exA rfl rfl rfl) ?_; refine Ko xEx ?_; refine Kn (xAl tz_Interval) ?_; refine Ke ?_; refine Js (xSk tk_Interval) ?_; refine Ja ?_) | (refine Tx 11 ?_; refine Jm ?_; refine Jo (xLa tk_Interval) ?_; refine Jn (by exact ok_build1 rfl ts_s_Interval tz_Interval rfl rfl (by decide) (by decide)) ?_; refine Jt (by exact to_apD rfl rfl rfl rfl rfl rfl ts_s_Interval tz_Interval (by omega) (by decide) (by decide) rfl hap hap2) ?_; refine Ja ?_) | (refine Tx 12 ?_; refine Jo xAd ?_; refine Jm ?_))
      refine ⟨_, _, wk_go _ 2 ?_ ?_ ?_, _, ?_, k + 1, by omega, rfl, rfl, rfl⟩
      · rfl
      · exact mB rfl rfl
      · exact ⟨bel_lit rfl, bel_D, trivial⟩
      · omega
    have hzn : zs[k]?.getD 0 = 0 := by rw [List.getElem?_eq_none (by omega)]; rfl
    rw [hzn] at hb hwa
    skip
    obtain ⟨hap, hap2, hoL⟩ := flatI_next hwa
    obtain ⟨s, _, w0⟩ := wd_sm hb.1 hb.2
    have OF := (of_cv (G := TabAt) 0 (by omega) (by omega)).cv
    have SH := (dshift_cv (G := TabAt) false 0 0 (-4) ⟨by decide, fun h => absurd rfl h⟩ (Nat.le_trans (canon_len_le (k := 2) (by omega)) (by decide)) (by decide)).cv
    have WI : CV Tryz.prog TabAt 22 [.agg (dIr false q), aDy false (wdBy 0).1 (wdBy 0).2] [aIw false (wideI q 0), aI 0] := riwiden_cv q.1 q.2 (wdBy 0) (hwl q hqm).1 (hwl q hqm).2 (hnq.more (by decide) (by decide)) (s.more (by decide) (by decide)) w0
    repeat' (with_reducible first | apply qa | apply qb | apply qc | apply qd | apply qe | apply qf | apply qg | apply qh | apply qi | apply qj | apply qk | apply ql rfl | apply qm rfl | apply qn rfl | apply Je | (refine Tx 5 ?_; refine Jo xLt ?_) | (refine Tx 6 ?_; refine Jm ?_; refine Jo (xIr ts_s_Interval (iv_at hq)) ?_; refine Jo (xLa tk_Interval) ?_; refine Jn (xAl tz_Interval) ?_; refine Ja ?_; refine Js (xSk tk_Interval) ?_) | (refine Tx 7 ?_; refine Ja ?_) | (refine Tx 8 ?_; refine Jm ?_; refine Jm ?_; refine Jo (xLn ts_s_uint8) ?_; refine Jo xLt ?_) | (refine cw_partE (id := 10) 9 [(9, 7)] mixed (by kernel_rfl) ?_; dsimp only [List.take, List.drop]; refine Ko (xLa tk_Interval) ?_; refine Km ?_; refine Ko (xCl Tryz.func24 (OF)) ?_; refine Ko (xCl Tryz.func23 (SH)) ?_; refine Ko (xCl Tryz.func22 (WI)) ?_; refine Ko xMt ?_; refine Ko (by exact ok_exA rfl rfl rfl) ?_; refine Ko xEx ?_; refine Kn (xAl tz_Interval) ?_; refine Ke ?_; refine Js (xSk tk_Interval) ?_; refine Ja ?_) | (refine Tx 11 ?_; refine Jm ?_; refine Jo (xLa tk_Interval) ?_; refine Jn (by exact ok_build1 rfl ts_s_Interval tz_Interval rfl rfl (by decide) (by decide)) ?_; refine Jt (by exact to_apD rfl rfl rfl rfl rfl rfl ts_s_Interval tz_Interval (by omega) (by decide) (by decide) rfl hap hap2) ?_; refine Ja ?_) | (refine Tx 12 ?_; refine Jo xAd ?_; refine Jm ?_))
    refine ⟨_, _, wk_go _ 2 ?_ ?_ ?_, _, ?_, k + 1, by omega, rfl, rfl, rfl⟩
    · rfl
    · exact mB rfl rfl
    · exact ⟨bel_lit rfl, bel_D, trivial⟩
    · omega
  obtain rfl : k = qs.length := by omega
  clear hlt hk
  have htk : (wideL qs zs).take qs.length = wideL qs zs := by rw [← wideL_len (qs := qs) (zs := zs), List.take_length]
  rw [htk]
  repeat' (with_reducible first | apply qa | apply qb | apply qc | apply qd | apply qe | apply qf | apply qg | apply qh | apply qi | apply qj | apply qk | apply ql rfl | apply qm rfl | apply qn rfl | apply Je | (refine Tx 5 ?_; refine Jo xLt ?_))
  refine cw_wk (wk_freeze (ds := flatD (dIw false) (wideL qs zs)) 7 1 rfl rfl) ?_
  refine cw_wk (F' := ofL [(1, vd (rowV qs)), (3, vr 0), (7, vd (.row false 6 (wideL qs zs).length (flatD (dIw false) (wideL qs zs))))]) (H' := [.box 26 [.d (rowP true ps), .d (rowB true bs), .d (rowI true os)]]) (wk_go _ 1 ?_ ?_ ?_) ?_
  · rfl
  · exact mB rfl rfl
  · exact ⟨bel_lit rfl, trivial⟩
  have hwi := wideL_iw (qs := qs) (zs := zs) hnr hz
  have EV := rgeval_cv true hl qs hwl (by omega)
  have EW := rgeval_cv true hl ((wideL qs zs).map rvI2) (rvI2_L hwi (by decide)) (by rw [List.length_map, wideL_len]; omega)
  rw [rowV_of, rvI2_map] at EW
  unfold aIws at EV EW
  by_cases hE : rgE ps bs os qs = 0
  case neg =>
    rw [okQ_n hE] at EV
    rcases rgE_cases h0 hE with e | e | e
    ·
      rw [e] at EV
      have B0 := (bis_cv 11 11).cv
      rw [show isB 11 11 = true from rfl] at B0
      have B1 := (bis_cv 11 2).cv
      rw [show isB 11 2 = false from rfl] at B1
      have B2 := (bis_cv 11 4).cv
      rw [show isB 11 4 = false from rfl] at B2
      repeat' (with_reducible first | apply qa | apply qb | apply qc | apply qd | apply qe | apply qf | apply qg | apply qh | apply qi | apply qj | apply qk | apply ql rfl | apply qm rfl | apply qn rfl | apply Je | (refine Tx 13 ?_; refine Jo (xLa tk_Diagram) ?_; refine Jm ?_; refine Jo (xCl Tryz.func12 (EV)) ?_; refine Jo xMt ?_; refine Jo xEx ?_; refine Jo xEx ?_; refine Ja ?_; refine Ja ?_) | (refine Tx 14 ?_; refine Jo (xLa tk_Diagram) ?_; refine Jm ?_; refine Jo (xCl Tryz.func12 (EW)) ?_; refine Jo xMt ?_; refine Jo xEx ?_; refine Jo xEx ?_; refine Ja ?_; refine Ja ?_) | (refine Tx 15 ?_; refine Jm ?_; refine Jo (by first | exact ok_neqE rfl ti_error rfl (bne_t (by decide)) | exact ok_neqE rfl ti_error rfl (bne_f (by first | rfl | omega)) | exact ok_neqE rfl ti_error rfl (bne_t (by first | assumption | omega)) | exact ok_neqE rfl ti_error rfl rfl) ?_; refine Jm ?_; (first | iterate 2 refine Jd ?_ | (refine Jy xM1 ?_; refine Jy (by first | exact ok_neqE rfl ti_error rfl (bne_t (by decide)) | exact ok_neqE rfl ti_error rfl (bne_f (by first | rfl | omega)) | exact ok_neqE rfl ti_error rfl (bne_t (by first | assumption | omega)) | exact ok_neqE rfl ti_error rfl rfl) ?_)); refine Jo xPk ?_) | (refine Tx 16 ?_; refine Jm ?_; refine Jo (xCl Tryz.func21 (B0)) ?_; refine Jm ?_; (first | iterate 2 refine Jd ?_ | (refine Jy xM1 ?_; refine Jy (xCl Tryz.func21 (B1)) ?_)); refine Jo xPk ?_; refine Jm ?_; (first | iterate 2 refine Jd ?_ | (refine Jy xM1 ?_; refine Jy (xCl Tryz.func21 (B2)) ?_)); refine Jo xPk ?_; refine Jm ?_; (first | iterate 2 refine Jd ?_ | (refine Jy xM1 ?_; refine Jy (xCl Tryz.func21 (B2)) ?_)); refine Jo xPk ?_; refine Ja ?_))
      exact ret_q rfl (.cons_ (rv_b rfl (rfl)) .nil_)
    ·
      rw [e] at EV
      have B0 := (bis_cv 2 11).cv
      rw [show isB 2 11 = false from rfl] at B0
      have B1 := (bis_cv 2 2).cv
      rw [show isB 2 2 = true from rfl] at B1
      have B2 := (bis_cv 2 4).cv
      rw [show isB 2 4 = false from rfl] at B2
      repeat' (with_reducible first | apply qa | apply qb | apply qc | apply qd | apply qe | apply qf | apply qg | apply qh | apply qi | apply qj | apply qk | apply ql rfl | apply qm rfl | apply qn rfl | apply Je | (refine Tx 13 ?_; refine Jo (xLa tk_Diagram) ?_; refine Jm ?_; refine Jo (xCl Tryz.func12 (EV)) ?_; refine Jo xMt ?_; refine Jo xEx ?_; refine Jo xEx ?_; refine Ja ?_; refine Ja ?_) | (refine Tx 14 ?_; refine Jo (xLa tk_Diagram) ?_; refine Jm ?_; refine Jo (xCl Tryz.func12 (EW)) ?_; refine Jo xMt ?_; refine Jo xEx ?_; refine Jo xEx ?_; refine Ja ?_; refine Ja ?_) | (refine Tx 15 ?_; refine Jm ?_; refine Jo (by first | exact ok_neqE rfl ti_error rfl (bne_t (by decide)) | exact ok_neqE rfl ti_error rfl (bne_f (by first | rfl | omega)) | exact ok_neqE rfl ti_error rfl (bne_t (by first | assumption | omega)) | exact ok_neqE rfl ti_error rfl rfl) ?_; refine Jm ?_; (first | iterate 2 refine Jd ?_ | (refine Jy xM1 ?_; refine Jy (by first | exact ok_neqE rfl ti_error rfl (bne_t (by decide)) | exact ok_neqE rfl ti_error rfl (bne_f (by first | rfl | omega)) | exact ok_neqE rfl ti_error rfl (bne_t (by first | assumption | omega)) | exact ok_neqE rfl ti_error rfl rfl) ?_)); refine Jo xPk ?_) | (refine Tx 16 ?_; refine Jm ?_; refine Jo (xCl Tryz.func21 (B0)) ?_; refine Jm ?_; (first | iterate 2 refine Jd ?_ | (refine Jy xM1 ?_; refine Jy (xCl Tryz.func21 (B1)) ?_)); refine Jo xPk ?_; refine Jm ?_; (first | iterate 2 refine Jd ?_ | (refine Jy xM1 ?_; refine Jy (xCl Tryz.func21 (B2)) ?_)); refine Jo xPk ?_; refine Jm ?_; (first | iterate 2 refine Jd ?_ | (refine Jy xM1 ?_; refine Jy (xCl Tryz.func21 (B2)) ?_)); refine Jo xPk ?_; refine Ja ?_))
      exact ret_q rfl (.cons_ (rv_b rfl (rfl)) .nil_)
    ·
      rw [e] at EV
      have B0 := (bis_cv 4 11).cv
      rw [show isB 4 11 = false from rfl] at B0
      have B1 := (bis_cv 4 2).cv
      rw [show isB 4 2 = false from rfl] at B1
      have B2 := (bis_cv 4 4).cv
      rw [show isB 4 4 = true from rfl] at B2
      repeat' (with_reducible first | apply qa | apply qb | apply qc | apply qd | apply qe | apply qf | apply qg | apply qh | apply qi | apply qj | apply qk | apply ql rfl | apply qm rfl | apply qn rfl | apply Je | (refine Tx 13 ?_; refine Jo (xLa tk_Diagram) ?_; refine Jm ?_; refine Jo (xCl Tryz.func12 (EV)) ?_; refine Jo xMt ?_; refine Jo xEx ?_; refine Jo xEx ?_; refine Ja ?_; refine Ja ?_) | (refine Tx 14 ?_; refine Jo (xLa tk_Diagram) ?_; refine Jm ?_; refine Jo (xCl Tryz.func12 (EW)) ?_; refine Jo xMt ?_; refine Jo xEx ?_; refine Jo xEx ?_; refine Ja ?_; refine Ja ?_) | (refine Tx 15 ?_; refine Jm ?_; refine Jo (by first | exact ok_neqE rfl ti_error rfl (bne_t (by decide)) | exact ok_neqE rfl ti_error rfl (bne_f (by first | rfl | omega)) | exact ok_neqE rfl ti_error rfl (bne_t (by first | assumption | omega)) | exact ok_neqE rfl ti_error rfl rfl) ?_; refine Jm ?_; (first | iterate 2 refine Jd ?_ | (refine Jy xM1 ?_; refine Jy (by first | exact ok_neqE rfl ti_error rfl (bne_t (by decide)) | exact ok_neqE rfl ti_error rfl (bne_f (by first | rfl | omega)) | exact ok_neqE rfl ti_error rfl (bne_t (by first | assumption | omega)) | exact ok_neqE rfl ti_error rfl rfl) ?_)); refine Jo xPk ?_) | (refine Tx 16 ?_; refine Jm ?_; refine Jo (xCl Tryz.func21 (B0)) ?_; refine Jm ?_; (first | iterate 2 refine Jd ?_ | (refine Jy xM1 ?_; refine Jy (xCl Tryz.func21 (B1)) ?_)); refine Jo xPk ?_; refine Jm ?_; (first | iterate 2 refine Jd ?_ | (refine Jy xM1 ?_; refine Jy (xCl Tryz.func21 (B2)) ?_)); refine Jo xPk ?_; refine Jm ?_; (first | iterate 2 refine Jd ?_ | (refine Jy xM1 ?_; refine Jy (xCl Tryz.func21 (B2)) ?_)); refine Jo xPk ?_; refine Ja ?_))
      exact ret_q rfl (.cons_ (rv_b rfl (rfl)) .nil_)
  obtain ⟨_, hL, hv, hb⟩ := rgE_z hE
  have hiw := qs_iw hwl hE
  have hwL : (wideL qs zs).length = (delL bs).length := by rw [wideL_len]; exact hL
  rw [okQ_z hE, hE] at EV
  rw [rgE_of h0 hwi hwL] at EW
  by_cases hb2 : rgBad ps bs (wideL qs zs) = true
  case pos =>
    rw [if_pos hb2, okQ_n (by decide)] at EW
    have B0 := (bis_cv 0 11).cv
    rw [show isB 0 11 = false from rfl] at B0
    have B1 := (bis_cv 0 2).cv
    rw [show isB 0 2 = false from rfl] at B1
    have B2 := (bis_cv 0 4).cv
    rw [show isB 0 4 = false from rfl] at B2
    have B3 := (bis_cv 4 4).cv
    rw [show isB 4 4 = true from rfl] at B3
    repeat' (with_reducible first | apply qa | apply qb | apply qc | apply qd | apply qe | apply qf | apply qg | apply qh | apply qi | apply qj | apply qk | apply ql rfl | apply qm rfl | apply qn rfl | apply Je | (refine Tx 13 ?_; refine Jo (xLa tk_Diagram) ?_; refine Jm ?_; refine Jo (xCl Tryz.func12 (EV)) ?_; refine Jo xMt ?_; refine Jo xEx ?_; refine Jo xEx ?_; refine Ja ?_; refine Ja ?_) | (refine Tx 14 ?_; refine Jo (xLa tk_Diagram) ?_; refine Jm ?_; refine Jo (xCl Tryz.func12 (EW)) ?_; refine Jo xMt ?_; refine Jo xEx ?_; refine Jo xEx ?_; refine Ja ?_; refine Ja ?_) | (refine Tx 15 ?_; refine Jm ?_; refine Jo (xNE ti_error) ?_; refine Jm ?_; (first | iterate 2 refine Jd ?_ | (refine Jy xM1 ?_; refine Jy (by first | exact ok_neqE rfl ti_error rfl (bne_t (by decide)) | exact ok_neqE rfl ti_error rfl (bne_f (by first | rfl | omega)) | exact ok_neqE rfl ti_error rfl (bne_t (by first | assumption | omega)) | exact ok_neqE rfl ti_error rfl rfl) ?_)); refine Jo xPk ?_) | (refine Tx 16 ?_; refine Jm ?_; refine Jo (xCl Tryz.func21 (B0)) ?_; refine Jm ?_; (first | iterate 2 refine Jd ?_ | (refine Jy xM1 ?_; refine Jy (xCl Tryz.func21 (B1)) ?_)); refine Jo xPk ?_; refine Jm ?_; (first | iterate 2 refine Jd ?_ | (refine Jy xM1 ?_; refine Jy (xCl Tryz.func21 (B2)) ?_)); refine Jo xPk ?_; refine Jm ?_; (first | iterate 2 refine Jd ?_ | (refine Jy xM1 ?_; refine Jy (xCl Tryz.func21 (B3)) ?_)); refine Jo xPk ?_; refine Ja ?_))
    exact ret_q rfl (.cons_ (rv_b rfl (rfl)) .nil_)
  rw [if_neg hb2, okQ_z rfl] at EW
  rw [Bool.not_eq_true] at hb2
  have hwlb : ∀ a ∈ wideL qs zs, IwS a LB LB := fun a ha => iwl_of (hwi a ha) ((rgBad_f hb2).1 a ha)
  have hv1 : (rgV ps bs (qs.map ivQ)).length = bs.length := rgV_len
  have hv2 : (rgV ps bs (wideL qs zs)).length = bs.length := rgV_len
  have hl2 := hl.l2
  rw [hv1] at EV
  rw [hv2] at EW
  repeat' (with_reducible first | apply qa | apply qb | apply qc | apply qd | apply qe | apply qf | apply qg | apply qh | apply qi | apply qj | apply qk | apply ql rfl | apply qm rfl | apply qn rfl | apply Je | (refine Tx 13 ?_; refine Jo (xLa tk_Diagram) ?_; refine Jm ?_; refine Jo (xCl Tryz.func12 (EV)) ?_; refine Jo xMt ?_; refine Jo xEx ?_; refine Jo xEx ?_; refine Ja ?_; refine Ja ?_) | (refine Tx 14 ?_; refine Jo (xLa tk_Diagram) ?_; refine Jm ?_; refine Jo (xCl Tryz.func12 (EW)) ?_; refine Jo xMt ?_; refine Jo xEx ?_; refine Jo xEx ?_; refine Ja ?_; refine Ja ?_) | (refine Tx 15 ?_; refine Jm ?_; refine Jo (xNE ti_error) ?_; refine Jm ?_; (first | iterate 2 refine Jd ?_ | (refine Jy xM1 ?_; refine Jy (xNE ti_error) ?_)); refine Jo xPk ?_) | (refine Tx 17 ?_; refine Jm ?_; refine Jo (xLn ts_s_Interval) ?_; refine Jm ?_; refine Jo (xLn ts_s_Interval) ?_; refine Jo xNe ?_) | (refine Tx 19 ?_; refine Jm ?_; refine Jo (xLn ts_s_Interval) ?_; refine Jm ?_))
  refine cw_wk (F' := ofL [(13, vd (.row false 6 bs.length (flatD (dIw false) (rgV ps bs (qs.map ivQ))))), (15, vd (.row false 6 bs.length (flatD (dIw false) (rgV ps bs (wideL qs zs))))), (107, vd (.row false 6 bs.length (flatD (dIw false) (rgV ps bs (qs.map ivQ))))), (108, vi bs.length), (109, vi ((0 : Nat)))]) (H' := []) (wk_go _ 0 ?_ ?_ ?_) ?_
  · rfl
  · exact mB rfl rfl
  · exact trivial
  refine cw_loopW (fun n Fr H => ∃ k : Nat, k ≤ bs.length ∧ n = bs.length - k ∧ Fr = ofL [(13, vd (.row false 6 bs.length (flatD (dIw false) (rgV ps bs (qs.map ivQ))))), (15, vd (.row false 6 bs.length (flatD (dIw false) (rgV ps bs (wideL qs zs))))), (107, vd (.row false 6 bs.length (flatD (dIw false) (rgV ps bs (qs.map ivQ))))), (108, vi bs.length), (109, vi ((k : Nat)))] ∧ H = []) (n0 := bs.length) ⟨0, Nat.zero_le _, rfl, rfl, rfl⟩ ?_
  rintro n Fr H ⟨k, hk, rfl, rfl, rfl⟩
  by_cases hlt : k < bs.length
  case pos =>
    obtain ⟨p, p2, hp, hp2, hs, hs2, hin⟩ := rgV_mono h0 hiw hwlb (by rw [List.length_map]; exact hL) hwL hb hb2 (fun k p p2 hp hp2 => by
      rw [List.getElem?_map, Option.map_eq_some_iff] at hp
      obtain ⟨q, hq, rfl⟩ := hp
      have hqm := List.mem_of_getElem? hq
      rw [wideL_at hq] at hp2
      cases hp2
      have := (wide_iw (hnr q hqm) (byte_at hz k).1 (byte_at hz k).2).2
      rwa [show nrmR q.1 q.2 = ivQ q from if_pos (hv q hqm)] at this) hlt
    have IN := piinside_cv p p2 (hs.more (show LB ≤ 20000 by decide) (show LB ≤ 20000 by decide)) (hs2.more (show LB ≤ 20000 by decide) (show LB ≤ 20000 by decide))
    rw [(in_is hs hs2).2 hin] at IN
    repeat' (with_reducible first | apply qa | apply qb | apply qc | apply qd | apply qe | apply qf | apply qg | apply qh | apply qi | apply qj | apply qk | apply ql rfl | apply qm rfl | apply qn rfl | apply Je | (refine Tx 20 ?_; refine Jo xLt ?_) | (refine Tx 21 ?_; refine Jm ?_; refine Ja ?_) | (refine cw_any (id := 22) mixed (by kernel_rfl) ?_; refine Km ?_; refine Km ?_; refine Ko (xIr ts_s_Interval (iw_at hp)) ?_; refine Ko (xLa tk_Interval) ?_; refine Km ?_; refine Km ?_; refine Ko (xIr ts_s_Interval (iw_at hp2)) ?_; refine Ko (xLa tk_Interval) ?_; refine Ko (xCl Tryz.func25 (IN)) ?_; refine Ko (by first | exact xNt | exact xNg) ?_; refine Ke ?_) | (refine Tx 24 ?_; refine Jo xAd ?_; refine Jm ?_))
    refine ⟨_, _, wk_go _ 0 ?_ ?_ ?_, _, ?_, k + 1, by omega, rfl, rfl, rfl⟩
    · rfl
    · exact mB rfl rfl
    · exact trivial
    · omega
  obtain rfl : k = bs.length := by omega
  repeat' (with_reducible first | apply qa | apply qb | apply qc | apply qd | apply qe | apply qf | apply qg | apply qh | apply qi | apply qj | apply qk | apply ql rfl | apply qm rfl | apply qn rfl | apply Je | (refine Tx 20 ?_; refine Jo xLt ?_) | (refine Tx 25 ?_; refine Ja ?_))
  exact ret_q rfl (.cons_ (rv_b rfl (rfl)) .nil_)
end Go.Proofs.YtilbehepmkpdbaaGreatDoor
namespace Go.Proofs.YtilbehepmkpdbaaGreatDoor
open Go.ChangeShapes Go.WideShapes Go.ChangeAt Go.RowKit Go.Joins Go.Deep
section
variable {H : Type} {enc : TypeId × Value → H} {w : World} {spare : Nat → Bool} {held : Bool}
theorem row_u8s {fuel : Nat} {v : Value} {x : DataW H × List MemPlace} (hf : DataW.trod enc Tryz.prog w 0 spare held fuel 50 [v] = some x) :
    ∃ zs : List Int, DRel w (AllF w) (rowU8 zs) v ∧ (∀ z ∈ zs, 0 ≤ z ∧ z < 256) ∧ (zs.length : Int) ≤ 9223372036854775807 := by
  obtain ⟨zs, h1, h2, h3⟩ := sliceD (s := 1) (tg := true) (fun z : Int => [D.val (.int .u8 z)]) (fun z : Int => 0 ≤ z ∧ z < 256) (by decide) (fun _ => rfl) Tryz.underlying50 (by kernel_rfl) (fun fuel cs x hx _ => by
    obtain ⟨z, rfl, _, hb⟩ := DataW.trod_int Tryz.underlying5 hx
    obtain ⟨b0, b1⟩ := bounds_u8 hb
    exact ⟨z, ⟨b0, by omega⟩, .cons_ (.val rfl) .nil_⟩) hf
  rw [flatD_one] at h1
  exact ⟨zs, h1, h2, len_i64 h3⟩
theorem open_u8s {r : Go.Reach} {b0 : Nat} {v : Value} {d : DataW H} {p : List MemPlace} (hv : Value.okWide Tryz.prog w r b0 50 v) (h : DataW.Trod enc Tryz.prog w 0 spare held 50 v d p) :
    ∃ zs : List Int, ARel w (AllF w) (.one (rowU8 zs)) v ∧ (∀ z ∈ zs, 0 ≤ z ∧ z < 256) ∧ (zs.length : Int) ≤ 9223372036854775807 := by
  obtain ⟨a0, len, cap, rfl⟩ := okWide_slice Tryz.underlying50 hv
  obtain ⟨fuel, hf⟩ := h
  exact row_u8s hf
end
end Go.Proofs.YtilbehepmkpdbaaGreatDoor
