/- What the proofs of this claim share, part 19. No conditions. -/
import Derived.Test.YtilbehepmkpdbaaGreatDoorKi18
import Derived.Test.YtilbehepmkpdbaaGreatDoorKi10
import Derived.Test.YtilbehepmkpdbaaGreatDoorKi14
set_option maxRecDepth 100000
set_option maxHeartbeats 4000000
set_option linter.unusedVariables false
set_option linter.unusedSimpArgs false
set_option linter.unusedSectionVars false
namespace Go.Proofs.YtilbehepmkpdbaaGreatDoor
open Go.RowKit
def lean12B (qs : List (Rv × Rv)) : Bool := (qs.all fun q => decide (q.1.ws.length ≤ 140 ∧ q.2.ws.length ≤ 140 ∧ q.1.den ≤ 9000 ∧ q.2.den ≤ 9000)) && decide (qs.length ≤ 100)
theorem lean12_len {qs : List (Rv × Rv)} (h : lean12B qs = true) (hw : ∀ q ∈ qs, wordsOk q.1.ws ∧ wordsOk q.2.ws) : (∀ q ∈ qs, RvL q.1 ∧ RvL q.2) ∧ qs.length ≤ 100 ∧ ∀ q ∈ qs, q.1.ws.length ≤ 140 ∧ q.2.ws.length ≤ 140 := by
  unfold lean12B at h
  rw [Bool.and_eq_true] at h
  have key : ∀ q ∈ qs, q.1.ws.length ≤ 140 ∧ q.2.ws.length ≤ 140 := fun q hq => by
    have := of_decide_eq_true (List.all_eq_true.1 h.1 q hq)
    exact ⟨this.1, this.2.1⟩
  exact ⟨fun q hq => ⟨⟨(hw q hq).1, by have := (key q hq).1; omega⟩, (hw q hq).2, by have := (key q hq).2; omega⟩, of_decide_eq_true h.2, key⟩
theorem rowV_nil : aIws [] = .one (.row false 6 0 []) := rfl
theorem rg_iw {ps : List Prt} {bs : List Bk} {os : List Int} {qs : List (Rv × Rv)} (hw : ∀ q ∈ qs, RvL q.1 ∧ RvL q.2) : ∀ a ∈ okQ (rgE ps bs os qs) (rgV ps bs (qs.map ivQ)), IwS a LB LB := fun a ha => by
  by_cases h : rgE ps bs os qs = 0
  · rw [okQ_z h] at ha
    obtain ⟨h0, h1, _, h3⟩ := rgE_z h
    obtain ⟨i, hi⟩ := List.mem_iff_getElem?.1 ha
    have hl := (List.getElem?_eq_some_iff.1 hi).1
    rw [rgV_len] at hl
    obtain ⟨p, hp, _, hs⟩ := rgV_at h0 (qs_iw hw h) (by rw [List.length_map]; exact h1) h3 hl
    rw [hi] at hp
    cases hp
    exact hs
  · rw [okQ_n h] at ha; cases ha
theorem rg_len {ps : List Prt} {bs : List Bk} {os : List Int} {qs : List (Rv × Rv)} : (okQ (rgE ps bs os qs) (rgV ps bs (qs.map ivQ))).length ≤ bs.length := by
  by_cases h : rgE ps bs os qs = 0
  · rw [okQ_z h, rgV_len]; exact Nat.le_refl _
  · rw [okQ_n h]; exact Nat.zero_le _
theorem rclosed_cvI (t : Bool) {ps : List Prt} {bs : List Bk} {os : List Int} (hl : DgLen ps bs os) (h0 : dgErr ps bs os = 0) (qs : List (Rv × Rv)) (hw : ∀ q ∈ qs, RvL q.1 ∧ RvL q.2) (hrl : qs.length ≤ 1000000) : CV Tryz.prog TabAt 17 [aDg t ps bs os, .one (rowV qs)] [aB (clE ps bs os qs), aI (rgE ps bs os qs)] := by
  refine cvz Tryz.func17 Tryz.ntmps17 ?_
  have EV := reval_cvI t hl h0 qs hw hrl
  have DL := (rdelays_cv t hl (ps := ps) (bs := bs) (os := os)).cv
  have SC := rstart_cv t hl h0
  unfold aDys at SC
  have hnl := natI_len (delL bs)
  have hl2 := hl.l2
  have hdb := delL_le bs
  have hso := start_ok h0
  have hsn := hso.len
  by_cases hE : rgE ps bs os qs = 0
  case neg =>
    rw [okQ_n hE] at EV
    have hc : clE ps bs os qs = false := if_neg hE
    rw [hc]
    repeat' (with_reducible first | apply qa | apply qb | apply qc | apply qd | apply qe | apply qf | apply qg | apply qh | apply qi | apply qj | apply qk | apply ql rfl | apply qm rfl | apply qn rfl | apply Je | (refine Tx 0 ?_; refine Jn xBo ?_; refine Ja ?_; refine Ja ?_) | (refine Tx 1 ?_; refine Jo (xLa tk_Diagram) ?_; refine Jm ?_; refine Jo (xCl Tryz.func16 (EV)) ?_; refine Jo xMt ?_; refine Jo xEx ?_; refine Jo xEx ?_; refine Ja ?_; refine Ja ?_) | (refine Tx 2 ?_; refine Jm ?_; refine Jo xNe ?_) | (refine Tx 3 ?_; refine Jm ?_; refine Ja ?_; refine Ja ?_))
    exact ret_q rfl (.cons_ (rv_b rfl (rfl)) (.cons_ (rv_i rfl rfl) .nil_))
  have hc : clE ps bs os qs = closB ps bs (qs.map ivQ) := if_pos hE
  rw [hc]
  obtain ⟨_, hL, hv, hb⟩ := rgE_z hE
  have hiw := qs_iw hw hE
  rw [okQ_z hE, hE] at EV
  rw [hE]
  have hsl : (qs.map ivQ).length = (delL bs).length := by rw [List.length_map]; exact hL
  have hvl : (rgV ps bs (qs.map ivQ)).length = bs.length := rgV_len
  repeat' (with_reducible first | apply qa | apply qb | apply qc | apply qd | apply qe | apply qf | apply qg | apply qh | apply qi | apply qj | apply qk | apply ql rfl | apply qm rfl | apply qn rfl | apply Je | (refine Tx 0 ?_; refine Jn xBo ?_; refine Ja ?_; refine Ja ?_) | (refine Tx 1 ?_; refine Jo (xLa tk_Diagram) ?_; refine Jm ?_; refine Jo (xCl Tryz.func16 (EV)) ?_; refine Jo xMt ?_; refine Jo xEx ?_; refine Jo xEx ?_; refine Ja ?_; refine Ja ?_) | (refine Tx 2 ?_; refine Jm ?_; refine Jo xNe ?_) | (refine Tx 4 ?_; refine Jo (xLa tk_Diagram) ?_; refine Jo (xCl Tryz.func54 (SC)) ?_; refine Ja ?_) | (refine Tx 5 ?_; refine Jo (xLa tk_Diagram) ?_; refine Jo (xCl Tryz.func51 (DL)) ?_; refine Jo (xLn ts_s_int) ?_; refine Jm ?_))
  refine cw_wk (F' := ofL [(1, vd (rowV qs)), (2, vr 0), (6, vd (.row false 6 (rgV ps bs (qs.map ivQ)).length (flatD (dIw false) (rgV ps bs (qs.map ivQ))))), (8, vd (.row false 3 (startM bs).length (flatD dyP (startM bs)))), (23, vd (rowI false (natI (delL bs)))), (24, vi ((delL bs).length)), (25, vi ((0 : Nat)))]) (H' := [.box 26 [.d (rowP t ps), .d (rowB t bs), .d (rowI t os)]]) (wk_go _ 1 ?_ ?_ ?_) ?_
  · rfl
  · rw [← hnl]; exact mB rfl rfl
  · exact ⟨bel_lit rfl, trivial⟩
  refine cw_loopW (fun n Fr H => ∃ k : Nat, k ≤ (delL bs).length ∧ n = (delL bs).length - k ∧ (∀ s, s < k → clOk ps bs (qs.map ivQ) s = true) ∧ Fr = ofL [(1, vd (rowV qs)), (2, vr 0), (6, vd (.row false 6 (rgV ps bs (qs.map ivQ)).length (flatD (dIw false) (rgV ps bs (qs.map ivQ))))), (8, vd (.row false 3 (startM bs).length (flatD dyP (startM bs)))), (23, vd (rowI false (natI (delL bs)))), (24, vi ((delL bs).length)), (25, vi ((k : Nat)))] ∧ H = [.box 26 [.d (rowP t ps), .d (rowB t bs), .d (rowI t os)]]) (n0 := (delL bs).length) ⟨0, Nat.zero_le _, rfl, (fun s hs => absurd hs (Nat.not_lt_zero s)), rfl, rfl⟩ ?_
  rintro n Fr H ⟨k, hk, rfl, hcl, rfl, rfl⟩
  by_cases hlt : k < (delL bs).length
  case pos =>
    obtain ⟨i, hi⟩ : ∃ i, (delL bs)[k]? = some i := ⟨_, List.getElem?_eq_getElem hlt⟩
    have hid := del_at hi
    have hil := hid.1
    obtain ⟨y, hy⟩ : ∃ y, bs[i]? = some y := ⟨_, List.getElem?_eq_getElem hil⟩
    have hk2 := hid.2
    rw [kind_at hy] at hk2
    have hsa := start_at hi hy
    have hsc := hso.sm _ (List.mem_of_getElem? hsa)
    obtain ⟨b, hA0, hbl⟩ := del_arg h0 hy hk2
    obtain ⟨r, hr, _, hrs⟩ := rgV_at h0 hiw hsl hb hbl
    have hal := (List.getElem?_eq_some_iff.1 hA0).1
    obtain ⟨q, hq⟩ : ∃ q, qs[k]? = some q := ⟨_, List.getElem?_eq_getElem (by omega)⟩
    have hqm := List.mem_of_getElem? hq
    obtain ⟨_, hdy, _, _⟩ := raw_iw (hw q hqm).1 (hw q hqm).2 (hv q hqm)
    have hst : (qs.map ivQ)[k]? = some (ivQ q) := by rw [List.getElem?_map, hq]; rfl
    have hra := iv_at hq
    rw [hdy] at hra
    have hqs := hiw _ (List.mem_of_getElem? hst)
    have hck := clOk_at hi hy hA0 hst hr
    have CO := ricontains_cv (ivQ q) (dyShift y.vn 0 y.ve) (hqs.more (show LB ≤ 20000 by decide) (show LB ≤ 20000 by decide)) (hsc.more (show LB ≤ 20000 by decide) (show LB ≤ 20000 by decide))
    have IN := riinside_cv r (ivQ q) (hrs.more (show LB ≤ 20000 by decide) (show LB ≤ 20000 by decide)) (hqs.more (show LB ≤ 20000 by decide) (show LB ≤ 20000 by decide))
    cases c1 : iIn (dyShift y.vn 0 y.ve, dyShift y.vn 0 y.ve) (ivQ q)
    case false =>
      rw [c1] at CO
      rw [c1, Bool.false_and] at hck
      rw [clos_no hlt hck]
      repeat' (with_reducible first | apply qa | apply qb | apply qc | apply qd | apply qe | apply qf | apply qg | apply qh | apply qi | apply qj | apply qk | apply ql rfl | apply qm rfl | apply qn rfl | apply Je | (refine Tx 6 ?_; refine Jo xLt ?_) | (refine Tx 7 ?_; refine Jm ?_; refine Jo (xIr ts_s_int (int_at (natI_at hi))) ?_; refine Jo (xLd tk_int) ?_; refine Ja ?_; refine Ja ?_) | (refine cw_any (id := 8) mixed (by kernel_rfl) ?_; refine Km ?_; refine Km ?_; refine Ko (xIr ts_s_Interval (hra)) ?_; refine Ko (xLa tk_Interval) ?_; refine Km ?_; refine Km ?_; refine Ko (xIr ts_s_Dyadic (dy_at hsa)) ?_; refine Ko (xLa tk_Dyadic) ?_; refine Ko (xCl Tryz.func27 (CO)) ?_; refine Ko (by first | exact xNt | exact xNg) ?_; refine Km ?_; (first | iterate 17 refine Kd ?_ | (refine Ky xM1 ?_; refine Ky (xFa tf_Diagram1 tk_s_Block) ?_; refine Ky (xLd tk_s_Block) ?_; refine Ky xM1 ?_; refine Ky (xIr ts_s_Block (bk_at hy)) ?_; refine Ky (xFa tf_Block1 tk_s_int) ?_; refine Ky (xLd tk_s_int) ?_; refine Ky (xIr ts_s_int (int_at hA0)) ?_; refine Ky (xLd tk_int) ?_; refine Ky (xIr ts_s_Interval (iw_at hr)) ?_; refine Ky (xLa tk_Interval) ?_; refine Ky xM1 ?_; refine Ky xM1 ?_; refine Ky (xIr ts_s_Interval (hra)) ?_; refine Ky (xLa tk_Interval) ?_; refine Ky (xCl Tryz.func29 (IN)) ?_; refine Ky (by first | exact xNt | exact xNg) ?_)); refine Ko xPk ?_; refine Ke ?_) | (refine Tx 9 ?_; refine Ja ?_; refine Ja ?_))
      exact ret_q rfl (.cons_ (rv_b rfl (rfl)) (.cons_ (rv_i rfl rfl) .nil_))
    case true =>
      rw [c1] at CO
      rw [c1, Bool.true_and] at hck
      cases c2 : iIn r (ivQ q)
      case false =>
        rw [c2] at IN hck
        rw [clos_no hlt hck]
        repeat' (with_reducible first | apply qa | apply qb | apply qc | apply qd | apply qe | apply qf | apply qg | apply qh | apply qi | apply qj | apply qk | apply ql rfl | apply qm rfl | apply qn rfl | apply Je | (refine Tx 6 ?_; refine Jo xLt ?_) | (refine Tx 7 ?_; refine Jm ?_; refine Jo (xIr ts_s_int (int_at (natI_at hi))) ?_; refine Jo (xLd tk_int) ?_; refine Ja ?_; refine Ja ?_) | (refine cw_any (id := 8) mixed (by kernel_rfl) ?_; refine Km ?_; refine Km ?_; refine Ko (xIr ts_s_Interval (hra)) ?_; refine Ko (xLa tk_Interval) ?_; refine Km ?_; refine Km ?_; refine Ko (xIr ts_s_Dyadic (dy_at hsa)) ?_; refine Ko (xLa tk_Dyadic) ?_; refine Ko (xCl Tryz.func27 (CO)) ?_; refine Ko (by first | exact xNt | exact xNg) ?_; refine Km ?_; (first | iterate 17 refine Kd ?_ | (refine Ky xM1 ?_; refine Ky (xFa tf_Diagram1 tk_s_Block) ?_; refine Ky (xLd tk_s_Block) ?_; refine Ky xM1 ?_; refine Ky (xIr ts_s_Block (bk_at hy)) ?_; refine Ky (xFa tf_Block1 tk_s_int) ?_; refine Ky (xLd tk_s_int) ?_; refine Ky (xIr ts_s_int (int_at hA0)) ?_; refine Ky (xLd tk_int) ?_; refine Ky (xIr ts_s_Interval (iw_at hr)) ?_; refine Ky (xLa tk_Interval) ?_; refine Ky xM1 ?_; refine Ky xM1 ?_; refine Ky (xIr ts_s_Interval (hra)) ?_; refine Ky (xLa tk_Interval) ?_; refine Ky (xCl Tryz.func29 (IN)) ?_; refine Ky (by first | exact xNt | exact xNg) ?_)); refine Ko xPk ?_; refine Ke ?_) | (refine Tx 9 ?_; refine Ja ?_; refine Ja ?_))
        exact ret_q rfl (.cons_ (rv_b rfl (rfl)) (.cons_ (rv_i rfl rfl) .nil_))
      case true =>
        rw [c2] at IN hck
        repeat' (with_reducible first | apply qa | apply qb | apply qc | apply qd | apply qe | apply qf | apply qg | apply qh | apply qi | apply qj | apply qk | apply ql rfl | apply qm rfl | apply qn rfl | apply Je | (refine Tx 6 ?_; refine Jo xLt ?_) | (refine Tx 7 ?_; refine Jm ?_; refine Jo (xIr ts_s_int (int_at (natI_at hi))) ?_; refine Jo (xLd tk_int) ?_; refine Ja ?_; refine Ja ?_) | (refine cw_any (id := 8) mixed (by kernel_rfl) ?_; refine Km ?_; refine Km ?_; refine Ko (xIr ts_s_Interval (hra)) ?_; refine Ko (xLa tk_Interval) ?_; refine Km ?_; refine Km ?_; refine Ko (xIr ts_s_Dyadic (dy_at hsa)) ?_; refine Ko (xLa tk_Dyadic) ?_; refine Ko (xCl Tryz.func27 (CO)) ?_; refine Ko (by first | exact xNt | exact xNg) ?_; refine Km ?_; (first | iterate 17 refine Kd ?_ | (refine Ky xM1 ?_; refine Ky (xFa tf_Diagram1 tk_s_Block) ?_; refine Ky (xLd tk_s_Block) ?_; refine Ky xM1 ?_; refine Ky (xIr ts_s_Block (bk_at hy)) ?_; refine Ky (xFa tf_Block1 tk_s_int) ?_; refine Ky (xLd tk_s_int) ?_; refine Ky (xIr ts_s_int (int_at hA0)) ?_; refine Ky (xLd tk_int) ?_; refine Ky (xIr ts_s_Interval (iw_at hr)) ?_; refine Ky (xLa tk_Interval) ?_; refine Ky xM1 ?_; refine Ky xM1 ?_; refine Ky (xIr ts_s_Interval (hra)) ?_; refine Ky (xLa tk_Interval) ?_; refine Ky (xCl Tryz.func29 (IN)) ?_; refine Ky (by first | exact xNt | exact xNg) ?_)); refine Ko xPk ?_; refine Ke ?_) | (refine Tx 10 ?_; refine Jo xAd ?_; refine Jm ?_))
        refine ⟨_, _, wk_go _ 1 ?_ ?_ ?_, _, ?_, k + 1, by omega, rfl, lt_step hcl hck, rfl, rfl⟩
        · rfl
        · exact mB rfl rfl
        · exact ⟨bel_lit rfl, trivial⟩
        · omega
  obtain rfl : k = (delL bs).length := by omega
  rw [clos_yes hcl]
  repeat' (with_reducible first | apply qa | apply qb | apply qc | apply qd | apply qe | apply qf | apply qg | apply qh | apply qi | apply qj | apply qk | apply ql rfl | apply qm rfl | apply qn rfl | apply Je | (refine Tx 6 ?_; refine Jo xLt ?_) | (refine Tx 11 ?_; refine Ja ?_; refine Ja ?_))
  exact ret_q rfl (.cons_ (rv_b rfl (rfl)) (.cons_ (rv_i rfl rfl) .nil_))
theorem lean12_cv (qs : List (Rv × Rv)) (hrl : (qs.length : Int) ≤ 9223372036854775807) : CV Tryz.prog TabAt 11 [.one (rowV qs)] [aB (lean12B qs)] := by
  refine cvz Tryz.func11 Tryz.ntmps11 ?_
  repeat' (with_reducible first | apply qa | apply qb | apply qc | apply qd | apply qe | apply qf | apply qg | apply qh | apply qi | apply qj | apply qk | apply ql rfl | apply qm rfl | apply qn rfl | apply Je | (refine Tx 0 ?_; refine Ja ?_) | (refine Tx 1 ?_; refine Jm ?_; refine Jo (xLn ts_s_Interval) ?_; refine Jm ?_))
  refine cw_wk (F' := ofL [(0, vd (rowV qs)), (5, vd (rowV qs)), (6, vi qs.length), (7, vi ((0 : Nat)))]) (H' := []) (wk_go _ 0 ?_ ?_ ?_) ?_
  · rfl
  · exact mB rfl rfl
  · exact trivial
  refine cw_loopW (fun n Fr H => ∃ k : Nat, k ≤ qs.length ∧ n = qs.length - k ∧ (qs.take k).all (fun q : Rv × Rv => decide (q.1.ws.length ≤ 140 ∧ q.2.ws.length ≤ 140 ∧ q.1.den ≤ 9000 ∧ q.2.den ≤ 9000)) = true ∧ Fr = ofL [(0, vd (rowV qs)), (5, vd (rowV qs)), (6, vi qs.length), (7, vi ((k : Nat)))] ∧ H = []) (n0 := qs.length) ⟨0, Nat.zero_le _, rfl, rfl, rfl, rfl⟩ ?_
  rintro n Fr H ⟨k, hk, rfl, hall, rfl, rfl⟩
  by_cases hlt : k < qs.length
  case pos =>
    obtain ⟨q, hq⟩ : ∃ q, qs[k]? = some q := ⟨_, List.getElem?_eq_getElem hlt⟩
    by_cases c1 : q.1.ws.length ≤ 140
    case neg =>
      repeat' (with_reducible first | apply qa | apply qb | apply qc | apply qd | apply qe | apply qf | apply qg | apply qh | apply qi | apply qj | apply qk | apply ql rfl | apply qm rfl | apply qn rfl | apply Je | (refine Tx 2 ?_; refine Jo xLt ?_) | (refine Tx 3 ?_; refine Jo (xIr ts_s_Interval (iv_at hq)) ?_; refine Jo (xLa tk_Interval) ?_; refine Jn (xAl tz_Interval) ?_; refine Js (xSk tk_Interval) ?_) | (refine Tx 4 ?_; refine Jo (xFa tf_Interval0 tk_Dyadic) ?_; refine Jo (xFa tf_Dyadic1 tk_s_uint32) ?_; refine Jo (xLd tk_s_uint32) ?_; refine Jo (xLn ts_s_uint32) ?_; refine Jo xGt ?_; refine Jm ?_; (first | iterate 5 refine Jd ?_ | (refine Jy (xFa tf_Interval1 tk_Dyadic) ?_; refine Jy (xFa tf_Dyadic1 tk_s_uint32) ?_; refine Jy (xLd tk_s_uint32) ?_; refine Jy (xLn ts_s_uint32) ?_; refine Jy xGt ?_)); refine Jo xPk ?_; refine Jm ?_; (first | iterate 4 refine Jd ?_ | (refine Jy (xFa tf_Interval0 tk_Dyadic) ?_; refine Jy (xFa tf_Dyadic2 tk_int) ?_; refine Jy (xLd tk_int) ?_; refine Jy xGt ?_)); refine Jo xPk ?_; refine Jm ?_; (first | iterate 4 refine Jd ?_ | (refine Jy (xFa tf_Interval1 tk_Dyadic) ?_; refine Jy (xFa tf_Dyadic2 tk_int) ?_; refine Jy (xLd tk_int) ?_; refine Jy xGt ?_)); refine Jo xPk ?_) | (refine Tx 5 ?_; refine Ja ?_))
      exact ret_q rfl (.cons_ (rv_b rfl (by unfold lean12B; rw [all_no hq (decide_eq_false (by omega)), Bool.false_and])) .nil_)
    by_cases c2 : q.2.ws.length ≤ 140
    case neg =>
      repeat' (with_reducible first | apply qa | apply qb | apply qc | apply qd | apply qe | apply qf | apply qg | apply qh | apply qi | apply qj | apply qk | apply ql rfl | apply qm rfl | apply qn rfl | apply Je | (refine Tx 2 ?_; refine Jo xLt ?_) | (refine Tx 3 ?_; refine Jo (xIr ts_s_Interval (iv_at hq)) ?_; refine Jo (xLa tk_Interval) ?_; refine Jn (xAl tz_Interval) ?_; refine Js (xSk tk_Interval) ?_) | (refine Tx 4 ?_; refine Jo (xFa tf_Interval0 tk_Dyadic) ?_; refine Jo (xFa tf_Dyadic1 tk_s_uint32) ?_; refine Jo (xLd tk_s_uint32) ?_; refine Jo (xLn ts_s_uint32) ?_; refine Jo xGt ?_; refine Jm ?_; (first | iterate 5 refine Jd ?_ | (refine Jy (xFa tf_Interval1 tk_Dyadic) ?_; refine Jy (xFa tf_Dyadic1 tk_s_uint32) ?_; refine Jy (xLd tk_s_uint32) ?_; refine Jy (xLn ts_s_uint32) ?_; refine Jy xGt ?_)); refine Jo xPk ?_; refine Jm ?_; (first | iterate 4 refine Jd ?_ | (refine Jy (xFa tf_Interval0 tk_Dyadic) ?_; refine Jy (xFa tf_Dyadic2 tk_int) ?_; refine Jy (xLd tk_int) ?_; refine Jy xGt ?_)); refine Jo xPk ?_; refine Jm ?_; (first | iterate 4 refine Jd ?_ | (refine Jy (xFa tf_Interval1 tk_Dyadic) ?_; refine Jy (xFa tf_Dyadic2 tk_int) ?_; refine Jy (xLd tk_int) ?_; refine Jy xGt ?_)); refine Jo xPk ?_) | (refine Tx 5 ?_; refine Ja ?_))
      exact ret_q rfl (.cons_ (rv_b rfl (by unfold lean12B; rw [all_no hq (decide_eq_false (by omega)), Bool.false_and])) .nil_)
    by_cases c3 : q.1.den ≤ 9000
    case neg =>
      repeat' (with_reducible first | apply qa | apply qb | apply qc | apply qd | apply qe | apply qf | apply qg | apply qh | apply qi | apply qj | apply qk | apply ql rfl | apply qm rfl | apply qn rfl | apply Je | (refine Tx 2 ?_; refine Jo xLt ?_) | (refine Tx 3 ?_; refine Jo (xIr ts_s_Interval (iv_at hq)) ?_; refine Jo (xLa tk_Interval) ?_; refine Jn (xAl tz_Interval) ?_; refine Js (xSk tk_Interval) ?_) | (refine Tx 4 ?_; refine Jo (xFa tf_Interval0 tk_Dyadic) ?_; refine Jo (xFa tf_Dyadic1 tk_s_uint32) ?_; refine Jo (xLd tk_s_uint32) ?_; refine Jo (xLn ts_s_uint32) ?_; refine Jo xGt ?_; refine Jm ?_; (first | iterate 5 refine Jd ?_ | (refine Jy (xFa tf_Interval1 tk_Dyadic) ?_; refine Jy (xFa tf_Dyadic1 tk_s_uint32) ?_; refine Jy (xLd tk_s_uint32) ?_; refine Jy (xLn ts_s_uint32) ?_; refine Jy xGt ?_)); refine Jo xPk ?_; refine Jm ?_; (first | iterate 4 refine Jd ?_ | (refine Jy (xFa tf_Interval0 tk_Dyadic) ?_; refine Jy (xFa tf_Dyadic2 tk_int) ?_; refine Jy (xLd tk_int) ?_; refine Jy xGt ?_)); refine Jo xPk ?_; refine Jm ?_; (first | iterate 4 refine Jd ?_ | (refine Jy (xFa tf_Interval1 tk_Dyadic) ?_; refine Jy (xFa tf_Dyadic2 tk_int) ?_; refine Jy (xLd tk_int) ?_; refine Jy xGt ?_)); refine Jo xPk ?_) | (refine Tx 5 ?_; refine Ja ?_))
      exact ret_q rfl (.cons_ (rv_b rfl (by unfold lean12B; rw [all_no hq (decide_eq_false (by omega)), Bool.false_and])) .nil_)
    by_cases c4 : q.2.den ≤ 9000
    case neg =>
      repeat' (with_reducible first | apply qa | apply qb | apply qc | apply qd | apply qe | apply qf | apply qg | apply qh | apply qi | apply qj | apply qk | apply ql rfl | apply qm rfl | apply qn rfl | apply Je | (refine Tx 2 ?_; refine Jo xLt ?_) | (refine Tx 3 ?_; refine Jo (xIr ts_s_Interval (iv_at hq)) ?_; refine Jo (xLa tk_Interval) ?_; refine Jn (xAl tz_Interval) ?_; refine Js (xSk tk_Interval) ?_) | (refine Tx 4 ?_; refine Jo (xFa tf_Interval0 tk_Dyadic) ?_; refine Jo (xFa tf_Dyadic1 tk_s_uint32) ?_; refine Jo (xLd tk_s_uint32) ?_; refine Jo (xLn ts_s_uint32) ?_; refine Jo xGt ?_; refine Jm ?_; (first | iterate 5 refine Jd ?_ | (refine Jy (xFa tf_Interval1 tk_Dyadic) ?_; refine Jy (xFa tf_Dyadic1 tk_s_uint32) ?_; refine Jy (xLd tk_s_uint32) ?_; refine Jy (xLn ts_s_uint32) ?_; refine Jy xGt ?_)); refine Jo xPk ?_; refine Jm ?_; (first | iterate 4 refine Jd ?_ | (refine Jy (xFa tf_Interval0 tk_Dyadic) ?_; refine Jy (xFa tf_Dyadic2 tk_int) ?_; refine Jy (xLd tk_int) ?_; refine Jy xGt ?_)); refine Jo xPk ?_; refine Jm ?_; (first | iterate 4 refine Jd ?_ | (refine Jy (xFa tf_Interval1 tk_Dyadic) ?_; refine Jy (xFa tf_Dyadic2 tk_int) ?_; refine Jy (xLd tk_int) ?_; refine Jy xGt ?_)); refine Jo xPk ?_) | (refine Tx 5 ?_; refine Ja ?_))
      exact ret_q rfl (.cons_ (rv_b rfl (by unfold lean12B; rw [all_no hq (decide_eq_false (by omega)), Bool.false_and])) .nil_)
    repeat' (with_reducible first | apply qa | apply qb | apply qc | apply qd | apply qe | apply qf | apply qg | apply qh | apply qi | apply qj | apply qk | apply ql rfl | apply qm rfl | apply qn rfl | apply Je | (refine Tx 2 ?_; refine Jo xLt ?_) | (refine Tx 3 ?_; refine Jo (xIr ts_s_Interval (iv_at hq)) ?_; refine Jo (xLa tk_Interval) ?_; refine Jn (xAl tz_Interval) ?_; refine Js (xSk tk_Interval) ?_) | (refine Tx 4 ?_; refine Jo (xFa tf_Interval0 tk_Dyadic) ?_; refine Jo (xFa tf_Dyadic1 tk_s_uint32) ?_; refine Jo (xLd tk_s_uint32) ?_; refine Jo (xLn ts_s_uint32) ?_; refine Jo xGt ?_; refine Jm ?_; (first | iterate 5 refine Jd ?_ | (refine Jy (xFa tf_Interval1 tk_Dyadic) ?_; refine Jy (xFa tf_Dyadic1 tk_s_uint32) ?_; refine Jy (xLd tk_s_uint32) ?_; refine Jy (xLn ts_s_uint32) ?_; refine Jy xGt ?_)); refine Jo xPk ?_; refine Jm ?_; (first | iterate 4 refine Jd ?_ | (refine Jy (xFa tf_Interval0 tk_Dyadic) ?_; refine Jy (xFa tf_Dyadic2 tk_int) ?_; refine Jy (xLd tk_int) ?_; refine Jy xGt ?_)); refine Jo xPk ?_; refine Jm ?_; (first | iterate 4 refine Jd ?_ | (refine Jy (xFa tf_Interval1 tk_Dyadic) ?_; refine Jy (xFa tf_Dyadic2 tk_int) ?_; refine Jy (xLd tk_int) ?_; refine Jy xGt ?_)); refine Jo xPk ?_) | (refine Tx 6 ?_; refine Jo xAd ?_; refine Jm ?_))
    refine ⟨_, _, wk_go _ 0 ?_ ?_ ?_, _, by omega, k + 1, by omega, rfl, all_take hq hall (decide_eq_true ⟨c1, c2, c3, c4⟩), rfl, rfl⟩
    · rfl
    · exact mB rfl rfl
    · exact trivial
  obtain rfl : k = qs.length := by omega
  rw [List.take_length] at hall
  by_cases c3 : qs.length ≤ 100
  case pos =>
    repeat' (with_reducible first | apply qa | apply qb | apply qc | apply qd | apply qe | apply qf | apply qg | apply qh | apply qi | apply qj | apply qk | apply ql rfl | apply qm rfl | apply qn rfl | apply Je | (refine Tx 2 ?_; refine Jo xLt ?_) | (refine Tx 7 ?_; refine Jm ?_; refine Jo (xLn ts_s_Interval) ?_; refine Jo xLe ?_; refine Ja ?_))
    exact ret_q rfl (.cons_ (rv_b rfl (by unfold lean12B; rw [hall, decide_eq_true c3]; rfl)) .nil_)
  case neg =>
    repeat' (with_reducible first | apply qa | apply qb | apply qc | apply qd | apply qe | apply qf | apply qg | apply qh | apply qi | apply qj | apply qk | apply ql rfl | apply qm rfl | apply qn rfl | apply Je | (refine Tx 2 ?_; refine Jo xLt ?_) | (refine Tx 7 ?_; refine Jm ?_; refine Jo (xLn ts_s_Interval) ?_; refine Jo xLe ?_; refine Ja ?_))
    exact ret_q rfl (.cons_ (rv_b rfl (by unfold lean12B; rw [hall, decide_eq_false c3]; rfl)) .nil_)
theorem rangesEvaluate_cv (ps : List Prt) (bs : List Bk) (os : List Int) (qs : List (Rv × Rv)) (hws : ∀ q ∈ qs, wordsOk q.1.ws ∧ wordsOk q.2.ws) (hrn : (qs.length : Int) ≤ 9223372036854775807) : CV Tryz.prog TabAt 3 [aDg true ps bs os, .one (rowV qs)] [aB true] := by
  refine cvz Tryz.func3 Tryz.ntmps3 ?_
  have LT := light_cvT true ps bs os
  have LE := lean12_cv qs hrn
  by_cases h1 : lightB ps bs os = true
  case neg =>
    rw [Bool.not_eq_true] at h1
    rw [h1] at LT
    repeat' (with_reducible first | apply qa | apply qb | apply qc | apply qd | apply qe | apply qf | apply qg | apply qh | apply qi | apply qj | apply qk | apply ql rfl | apply qm rfl | apply qn rfl | apply Je | (refine Tx 0 ?_; refine Jn xBo ?_; refine Ja ?_) | (refine Tx 1 ?_; refine Jo (xCl Tryz.func9 (awake12_cv)) ?_; refine Jo (by first | exact xNt | exact xNg) ?_; refine Jm ?_; (first | iterate 3 refine Jd ?_ | (refine Jy (xLa tk_Diagram) ?_; refine Jy (xCl Tryz.func10 (LT)) ?_; refine Jy (by first | exact xNt | exact xNg) ?_)); refine Jo xPk ?_; refine Jm ?_; (first | iterate 3 refine Jd ?_ | (refine Jy xM1 ?_; refine Jy (xCl Tryz.func11 (LE)) ?_; refine Jy (by first | exact xNt | exact xNg) ?_)); refine Jo xPk ?_) | (refine Tx 2 ?_; refine Jo (xCl Tryz.func9 (awake12_cv)) ?_; refine Ja ?_))
    exact ret_q rfl (.cons_ (rv_b rfl (rfl)) .nil_)
  rw [h1] at LT
  by_cases h2 : lean12B qs = true
  case neg =>
    rw [Bool.not_eq_true] at h2
    rw [h2] at LE
    repeat' (with_reducible first | apply qa | apply qb | apply qc | apply qd | apply qe | apply qf | apply qg | apply qh | apply qi | apply qj | apply qk | apply ql rfl | apply qm rfl | apply qn rfl | apply Je | (refine Tx 0 ?_; refine Jn xBo ?_; refine Ja ?_) | (refine Tx 1 ?_; refine Jo (xCl Tryz.func9 (awake12_cv)) ?_; refine Jo (by first | exact xNt | exact xNg) ?_; refine Jm ?_; (first | iterate 3 refine Jd ?_ | (refine Jy (xLa tk_Diagram) ?_; refine Jy (xCl Tryz.func10 (LT)) ?_; refine Jy (by first | exact xNt | exact xNg) ?_)); refine Jo xPk ?_; refine Jm ?_; (first | iterate 3 refine Jd ?_ | (refine Jy xM1 ?_; refine Jy (xCl Tryz.func11 (LE)) ?_; refine Jy (by first | exact xNt | exact xNg) ?_)); refine Jo xPk ?_) | (refine Tx 2 ?_; refine Jo (xCl Tryz.func9 (awake12_cv)) ?_; refine Ja ?_))
    exact ret_q rfl (.cons_ (rv_b rfl (rfl)) .nil_)
  rw [h2] at LE
  have hl := (light_len h1).1
  obtain ⟨hwl, hql, _⟩ := lean12_len h2 hws
  have EV := rgeval_cv true hl qs hwl (by omega)
  have CL := rgclosed_cv true hl qs hwl (by omega)
  have RC := rcheck_cv true hl
  have NM := num_cv (rgE ps bs os qs)
  have NF := num_cv (dgErr ps bs os)
  by_cases h0 : dgErr ps bs os = 0
  case neg =>
    have e1 := rgE1 (qs := qs) h0
    have e2 : clE ps bs os qs = false := if_neg (by rw [e1]; exact h0)
    rw [e1, okQ_n h0, rowV_nil] at EV
    rw [e1, e2] at CL
    rw [e1] at NM
    repeat' (with_reducible first | apply qa | apply qb | apply qc | apply qd | apply qe | apply qf | apply qg | apply qh | apply qi | apply qj | apply qk | apply ql rfl | apply qm rfl | apply qn rfl | apply Je | (refine Tx 0 ?_; refine Jn xBo ?_; refine Ja ?_) | (refine Tx 1 ?_; refine Jo (xCl Tryz.func9 (awake12_cv)) ?_; refine Jo (by first | exact xNt | exact xNg) ?_; refine Jm ?_; (first | iterate 3 refine Jd ?_ | (refine Jy (xLa tk_Diagram) ?_; refine Jy (xCl Tryz.func10 (LT)) ?_; refine Jy (by first | exact xNt | exact xNg) ?_)); refine Jo xPk ?_; refine Jm ?_; (first | iterate 3 refine Jd ?_ | (refine Jy xM1 ?_; refine Jy (xCl Tryz.func11 (LE)) ?_; refine Jy (by first | exact xNt | exact xNg) ?_)); refine Jo xPk ?_) | (refine Tx 3 ?_; refine Jo (xLa tk_Diagram) ?_; refine Jm ?_; refine Jo (xCl Tryz.func12 (EV)) ?_; refine Jo xMt ?_; refine Jo xEx ?_; refine Jo xEx ?_; refine Ja ?_; refine Ja ?_) | (refine Tx 4 ?_; refine Jo (xLa tk_Diagram) ?_; refine Jm ?_; refine Jo (xCl Tryz.func13 (CL)) ?_; refine Jo xMt ?_; refine Jo xEx ?_; refine Jo xEx ?_; refine Ja ?_; refine Ja ?_) | (refine Tx 5 ?_; refine Jo (xLa tk_Diagram) ?_; refine Jo (xCl Tryz.func14 (RC.cv)) ?_; refine Ja ?_) | (refine Tx 6 ?_; refine Jm ?_; refine Jo xNe ?_) | (refine Tx 7 ?_; refine Jm ?_; refine Jo (by first | exact xCl Tryz.func15 (NM.cv) | exact xCl Tryz.func15 (NF.cv)) ?_; refine Jm ?_; refine Jo xEq ?_; refine Jm ?_; (first | iterate 4 refine Jd ?_ | (refine Jy xM1 ?_; refine Jy (by first | exact xCl Tryz.func15 (NM.cv) | exact xCl Tryz.func15 (NF.cv)) ?_; refine Jy xM1 ?_; refine Jy xEq ?_)); refine Jo xPk ?_; refine Jm ?_; (first | iterate 3 refine Jd ?_ | (refine Jy xM1 ?_; refine Jy (xLn ts_s_Interval) ?_; refine Jy xEq ?_)); refine Jo xPk ?_; refine Jm ?_; (first | iterate 2 refine Jd ?_ | (refine Jy xM1 ?_; refine Jy (by first | exact xNt | exact xNg) ?_)); refine Jo xPk ?_; refine Ja ?_))
    exact ret_q rfl (.cons_ (rv_b rfl (rfl)) .nil_)
  rw [h0] at RC
  have EW := reval_cvI true hl h0 qs hwl (by omega)
  have CW_ := rclosed_cvI true hl h0 qs hwl (by omega)
  have q1 := rg_iw (ps := ps) (bs := bs) (os := os) hwl
  have q2 := rg_len (ps := ps) (bs := bs) (os := os) (qs := qs)
  have hl2 := hl.l2
  unfold aIws at EV EW
  generalize okQ (rgE ps bs os qs) (rgV ps bs (qs.map ivQ)) = X at *
  generalize clE ps bs os qs = c at *
  generalize rgE ps bs os qs = E at *
  have SM := rsameI_cv X (fun a ha => (q1 a ha).more (by decide) (by decide)) (by omega)
  repeat' (with_reducible first | apply qa | apply qb | apply qc | apply qd | apply qe | apply qf | apply qg | apply qh | apply qi | apply qj | apply qk | apply ql rfl | apply qm rfl | apply qn rfl | apply Je | (refine Tx 0 ?_; refine Jn xBo ?_; refine Ja ?_) | (refine Tx 1 ?_; refine Jo (xCl Tryz.func9 (awake12_cv)) ?_; refine Jo (by first | exact xNt | exact xNg) ?_; refine Jm ?_; (first | iterate 3 refine Jd ?_ | (refine Jy (xLa tk_Diagram) ?_; refine Jy (xCl Tryz.func10 (LT)) ?_; refine Jy (by first | exact xNt | exact xNg) ?_)); refine Jo xPk ?_; refine Jm ?_; (first | iterate 3 refine Jd ?_ | (refine Jy xM1 ?_; refine Jy (xCl Tryz.func11 (LE)) ?_; refine Jy (by first | exact xNt | exact xNg) ?_)); refine Jo xPk ?_) | (refine Tx 3 ?_; refine Jo (xLa tk_Diagram) ?_; refine Jm ?_; refine Jo (xCl Tryz.func12 (EV)) ?_; refine Jo xMt ?_; refine Jo xEx ?_; refine Jo xEx ?_; refine Ja ?_; refine Ja ?_) | (refine Tx 4 ?_; refine Jo (xLa tk_Diagram) ?_; refine Jm ?_; refine Jo (xCl Tryz.func13 (CL)) ?_; refine Jo xMt ?_; refine Jo xEx ?_; refine Jo xEx ?_; refine Ja ?_; refine Ja ?_) | (refine Tx 5 ?_; refine Jo (xLa tk_Diagram) ?_; refine Jo (xCl Tryz.func14 (RC.cv)) ?_; refine Ja ?_) | (refine Tx 6 ?_; refine Jm ?_; refine Jo xNe ?_) | (refine Tx 8 ?_; refine Jo (xLa tk_Diagram) ?_; refine Jm ?_; refine Jo (xCl Tryz.func16 (EW)) ?_; refine Jo xMt ?_; refine Jo xEx ?_; refine Jo xEx ?_; refine Ja ?_; refine Ja ?_) | (refine Tx 9 ?_; refine Jo (xLa tk_Diagram) ?_; refine Jm ?_; refine Jo (xCl Tryz.func17 (CW_)) ?_; refine Jo xMt ?_; refine Jo xEx ?_; refine Jo xEx ?_; refine Ja ?_; refine Ja ?_) | (refine Tx 10 ?_; refine Jm ?_; refine Jo (by first | exact xCl Tryz.func15 (NM.cv) | exact xCl Tryz.func15 (NF.cv)) ?_; refine Jm ?_; refine Jo xEq ?_; refine Jm ?_; (first | iterate 4 refine Jd ?_ | (refine Jy xM1 ?_; refine Jy (by first | exact xCl Tryz.func15 (NM.cv) | exact xCl Tryz.func15 (NF.cv)) ?_; refine Jy xM1 ?_; refine Jy xEq ?_)); refine Jo xPk ?_; refine Jm ?_; (first | iterate 3 refine Jd ?_ | (refine Jy xM1 ?_; refine Jy xM1 ?_; refine Jy (xCl Tryz.func18 (SM)) ?_)); refine Jo xPk ?_; refine Jm ?_; (first | iterate 3 refine Jd ?_ | (refine Jy xM1 ?_; refine Jy xM1 ?_; refine Jy (by first | exact ok_eqlBR rfl Tryz.underlying4 rfl rfl (beq_self_eq_true c) | exact xEq) ?_)); refine Jo xPk ?_; refine Ja ?_))
  exact ret_q rfl (.cons_ (rv_b rfl (rfl)) .nil_)
end Go.Proofs.YtilbehepmkpdbaaGreatDoor
namespace Go.Proofs.YtilbehepmkpdbaaGreatDoor
open Go.ChangeShapes Go.WideShapes Go.ChangeAt Go.RowKit Go.Joins Go.Deep
def AllS (w : World) : Sets := fun t b => t = true ∧ b < w.heap.size
theorem row_in {w : World} {A : Option Addr} {s n c : Nat} {cs : List D} {xs : List Value} (h : CellsAt w w.heap.size A xs) (hc : n ≤ c) (hA : A = none → c = 0) (hl : cs.length = n * s) (hr : LRel (DRel w (AllS w)) cs xs) : DRel w (AllS w) (.row true s n cs) (.slice A n c) := by
  refine .row xs hc hA hl hr.1 (fun hne => ?_) hr.2
  obtain ⟨b, off, h1, _, h2, h3⟩ := h (fun h0 => hne (by have := hr.1; rw [h0] at this; exact List.eq_nil_of_length_eq_zero (by simpa using this)))
  exact ⟨b, off, h1, ⟨rfl, h2⟩, h3⟩
theorem ints_one {zs : List Int} : ∀ v ∈ ints zs, v.oneCell' = true := fun v hv => by
  obtain ⟨z, _, rfl⟩ := List.mem_map.1 hv
  rfl
theorem rowI_in {w : World} {A : Option Addr} {zs : List Int} {c : Nat} (h : CellsAt w w.heap.size A (ints zs)) (hc : zs.length ≤ c) (hA : A = none → c = 0) : DRel w (AllS w) (rowI true zs) (.slice A zs.length c) := by
  unfold rowI
  rw [dI_map]
  exact row_in h hc hA (by simp [ints]) (rel_vals ints_one)
theorem prt_one {ps : List Prt} : ∀ v ∈ flat Prt.cells ps, v.oneCell' = true := fun v hv => by
  obtain ⟨l, hl, hv⟩ := List.mem_flatten.1 hv
  obtain ⟨p, _, rfl⟩ := List.mem_map.1 hl
  simp only [Prt.cells, List.mem_cons, List.not_mem_nil, or_false] at hv
  rcases hv with rfl | rfl | rfl <;> rfl
theorem flat_lenV {α : Type} {f : α → List Value} {s : Nat} (hf : ∀ x, (f x).length = s) : ∀ l : List α, (flat f l).length = l.length * s
  | [] => by simp [flat]
  | x :: l => by
    have ih := flat_lenV hf l
    unfold flat at ih ⊢
    rw [List.map_cons, List.flatten_cons, List.length_append, ih, hf, List.length_cons, Nat.add_mul]
    omega
theorem rowP_in {w : World} {A : Option Addr} {ps : List Prt} {c : Nat} (h : CellsAt w w.heap.size A (flat Prt.cells ps)) (hc : ps.length ≤ c) (hA : A = none → c = 0) : DRel w (AllS w) (rowP true ps) (.slice A ps.length c) := by
  unfold rowP
  rw [flatD_vals dPrt_vals]
  exact row_in h hc hA (by rw [List.length_map]; exact flat_lenV (f := Prt.cells) (s := 3) (fun _ => rfl) ps) (rel_vals prt_one)
theorem bks_in {w : World} : ∀ {bs : List Bk}, (∀ b ∈ bs, CellsAt w w.heap.size b.A (ints b.args) ∧ b.args.length ≤ b.cap ∧ (b.A = none → b.cap = 0)) → LRel (DRel w (AllS w)) (flatD (dBk true) bs) (flat Bk.cells bs)
  | [], _ => .nil_
  | b :: bs, h => by
    have ih := bks_in (w := w) (bs := bs) fun x hx => h x (by simp [hx])
    obtain ⟨h1, h2, h3⟩ := h b (by simp)
    exact .cons_ (.val rfl) (.cons_ (rowI_in h1 h2 h3) (.cons_ (.val rfl) (.cons_ (.val rfl) (.cons_ (.val rfl) (.cons_ (.val rfl) ih)))))
theorem bks_len (t : Bool) : ∀ bs : List Bk, (flatD (dBk t) bs).length = bs.length * 6
  | [] => rfl
  | b :: bs => by
    have ih := bks_len t bs
    show (flatD (dBk t) ([b] ++ bs)).length = _
    rw [flatD_app, List.length_append, ih, List.length_cons, Nat.add_mul]
    show 6 + bs.length * 6 = _
    omega
section
variable {H : Type} {enc : TypeId × Value → H} {w : World} {spare : Nat → Bool} {held : Bool}
theorem open_dgA {r : Go.Reach} {b0 : Nat} {v : Value} {d : DataW H} {p : List MemPlace} (hv : Value.okWide Tryz.prog w r b0 26 v) (h : DataW.Trod enc Tryz.prog w 0 spare held 26 v d p) :
    ∃ (ps : List Prt) (bs : List Bk) (os : List Int), ARel w (AllS w) (aDg true ps bs os) v := by
  obtain ⟨v0, v1, v2, y0, y1, y2, m, rfl, rfl, rfl, g0, g1, g2⟩ := open_agg3 Tryz.underlying26 (by kernel_rfl) (by kernel_rfl) hv h
  obtain ⟨A1, c1, ps, rfl, n1, k1, l1, h1, b1⟩ := rows_of_cell prtOf prtOf_cells (fun _ => rfl) (by decide) Tryz.underlying22 Tryz.underlying68 (by kernel_rfl) (fields_int (by kernel_rfl)) (by kernel_rfl) rfl g0
  obtain ⟨A2, c2, bs, e2, l2, h2, b2⟩ := blks_of_cell g1
  obtain ⟨A3, c3, os, rfl, n3, k3, l3, h3, b3⟩ := ints_of_cell' Tryz.underlying24 Tryz.underlying3 (by kernel_rfl) g2
  have hs : (A2 = none → c2 = 0) ∧ bs.length ≤ c2 := by
    rcases open_slice Tryz.underlying23 g1 with ⟨hcs, _⟩ | ⟨a, len, cap, m, n, D, Pl, hcs, _, hl, hm, hmm, _, hx⟩
    · have e3 : v1 = .slice none 0 0 := by simpa using hcs
      rw [e2] at e3
      simp only [Value.slice.injEq] at e3
      exact ⟨fun _ => e3.2.2, by omega⟩
    · have e3 : v1 = .slice (some a) len cap := by simpa using hcs
      rw [e2] at e3
      simp only [Value.slice.injEq] at e3
      exact ⟨fun h0 => (by rw [e3.1] at h0; cases h0), by omega⟩
  refine ⟨ps, bs, os, [.slice A1 ps.length c1, v1, .slice A3 os.length c3], rfl, ?_⟩
  rw [e2]
  exact .cons_ (rowP_in h1 k1 n1) (.cons_ (row_in h2 hs.2 hs.1 (bks_len true bs) (bks_in fun b hb => ⟨(b2 b hb).2.2.2.1, (b2 b hb).2.1, (b2 b hb).1⟩)) (.cons_ (rowI_in h3 k3 n3) .nil_))
end
def AllF (w : World) : Sets := fun _ b => b < w.heap.size
theorem AllF.of {w : World} {x : A} {v : Value} (h : ARel w (AllS w) x v) : ARel w (AllF w) x v := h.mono (fun _ _ hb => hb.2) fun _ _ _ => rfl
theorem cv_lawA {f : FuncId} {args : List A} (h : CV Tryz.prog TabAt f args [aB true]) {w : World} (ht : TabAt w) {vs : List Value} (ha : LRel (ARel w (AllF w)) args vs) :
    Calls Tryz.prog f vs.toArray w fun e w' => e = .returned (.bool true) ∧ Below w.heap.size w w' :=
  (h w _ vs ht (fun t b hb => hb) ha).mono fun e w' ⟨v, h1, h2, h3⟩ => by
    have h4 : DRel w' _ (dB true) v := h2
    cases h4
    exact ⟨h1, h3⟩
structure RowA (α : Type) (s : Nat) where
  cs : List Value
  len : cs.length = s
  a : α
instance {α : Type} {s : Nat} [Inhabited α] : Inhabited (RowA α s) := ⟨⟨List.replicate s undef, List.length_replicate, default⟩⟩
section
variable {H : Type} {enc : TypeId × Value → H} {P : Program} {w : World} {spare : Nat → Bool} {held : Bool}
theorem rowsA_of_cell {α : Type} [Inhabited α] {s : Nat} {Q : α → List Value → Prop} (hs0 : 0 < s) {t e : TypeId} {fuel : Nat} {v : Value} {x : DataW H × List MemPlace} (ht : P.underlying t = some (.slice e)) (hC : P.cellsOf e = s)
    (hrow : ∀ (fuel : Nat) (cs : List Value) (x : DataW H × List MemPlace), DataW.trod enc P w 0 spare held fuel e cs = some x → cs.length = s → ∃ a, Q a cs)
    (h : DataW.trod enc P w 0 spare held fuel t [v] = some x) :
    ∃ (A : Option Addr) (cap : Nat) (l : List (RowA α s)), v = .slice A l.length cap ∧ (A = none → cap = 0) ∧ l.length ≤ cap ∧ l.length ≤ maxLen ∧ CellsAt w w.heap.size A (flat RowA.cs l) ∧ ∀ x ∈ l, Q x.a x.cs := by
  rcases open_slice ht h with ⟨hcs, _⟩ | ⟨a, len, cap, m, n, D, Pl, hcs, _, hl, hm, hmm, _, hx⟩
  · exact ⟨none, 0, [], by simpa using hcs, fun _ => rfl, Nat.le_refl _, Nat.zero_le _, CellsAt.nil_, by simp⟩
  · have hle : len ≤ m := by rw [hmm]; split <;> omega
    rw [hC] at hx
    obtain ⟨R, hR⟩ := choose_lt (α := RowA α s) (n := len) (p := fun i b => Q b.a b.cs ∧ ∀ j, j < s → w.cell? (a.add (i * s + j)) = b.cs[j]?) (fun i hi => by
      obtain ⟨cs', h1, h2⟩ := hx i (by omega)
      obtain ⟨_, hlen, hcell⟩ := World.cells?_some h1
      obtain ⟨b, hb⟩ := hrow _ _ _ h2 (by simpa using hlen)
      exact ⟨⟨cs', by simpa using hlen, b⟩, hb, fun j hj => by rw [← add_add]; exact hcell j hj⟩)
    refine ⟨some a, cap, (List.range len).map R, by simpa using hcs, by simp, by simpa using hl, by simp; omega, fun hne => ?_, ?_⟩
    · have hpos : 0 < len := by
        rcases Nat.eq_zero_or_pos len with h0 | h0
        · subst h0; simp [flat] at hne
        · exact h0
      obtain ⟨b, off, spot⟩ := a
      have h00 := (hR 0 hpos).2 0 hs0
      have hz0 : (R 0).cs[0]? = some ((R 0).cs[0]'(by rw [(R 0).len]; exact hs0)) := List.getElem?_eq_getElem _
      rw [hz0] at h00
      have hspot : spot = none := by simpa [Addr.add] using World.cell?_spot h00
      subst hspot
      have hb : b < w.heap.size := by
        rcases Nat.lt_or_ge b w.heap.size with h | h
        · exact h
        · simp [World.cell?, Addr.add, Array.getElem?_eq_none h] at h00
      refine ⟨b, off, rfl, hb, hb, fun j u hu => ?_⟩
      have hjl : j < len * s := by
        have := (List.getElem?_eq_some_iff.1 hu).1
        rw [flat_len (f := RowA.cs) (s := s) (fun x => x.len)] at this
        simpa using this
      have hk : j / s < len := Nat.div_lt_of_lt_mul (by rw [Nat.mul_comm]; exact hjl)
      have hr : j % s < s := Nat.mod_lt _ hs0
      have hj : j / s * s + j % s = j := by rw [Nat.mul_comm]; exact Nat.div_add_mod j s
      have hg : ((List.range len).map R)[j / s]? = some (R (j / s)) := by simp [hk]
      have h1 := flat_get (f := RowA.cs) (s := s) (fun x => x.len) hg hr
      rw [hj, hu] at h1
      have h2 := (hR _ hk).2 (j % s) hr
      rw [hj, ← h1] at h2
      rw [← Go.WideShapes.add_plain]
      exact h2
    · intro y hy
      obtain ⟨i, hi, rfl⟩ := List.mem_map.1 hy
      exact (hR i (by simpa using hi)).1
theorem row_inF {tg : Bool} {A : Option Addr} {s n c : Nat} {cs : List D} {xs : List Value} (h : CellsAt w w.heap.size A xs) (hc : n ≤ c) (hA : A = none → c = 0) (hl : cs.length = n * s) (hr : LRel (DRel w (AllF w)) cs xs) : DRel w (AllF w) (.row tg s n cs) (.slice A n c) := by
  refine .row xs hc hA hl hr.1 (fun hne => ?_) hr.2
  obtain ⟨b, off, h1, _, h2, h3⟩ := h (fun h0 => hne (by have := hr.1; rw [h0] at this; exact List.eq_nil_of_length_eq_zero (by simpa using this)))
  exact ⟨b, off, h1, h2, h3⟩
theorem sliceD {α : Type} [Inhabited α] (f : α → List D) (Q : α → Prop) {s : Nat} {tg : Bool} (hs0 : 0 < s) (hfl : ∀ a, (f a).length = s) {t e : TypeId} {fuel : Nat} {v : Value} {x : DataW H × List MemPlace} (ht : P.underlying t = some (.slice e)) (hC : P.cellsOf e = s)
    (hrow : ∀ (fuel : Nat) (cs : List Value) (x : DataW H × List MemPlace), DataW.trod enc P w 0 spare held fuel e cs = some x → cs.length = s → ∃ a, Q a ∧ LRel (DRel w (AllF w)) (f a) cs)
    (h : DataW.trod enc P w 0 spare held fuel t [v] = some x) : ∃ l : List α, DRel w (AllF w) (.row tg s l.length (flatD f l)) v ∧ (∀ a ∈ l, Q a) ∧ l.length ≤ maxLen := by
  obtain ⟨A, cap, l, rfl, hA, hc, hm, hcl, hQ⟩ := rowsA_of_cell (Q := fun a cs => Q a ∧ LRel (DRel w (AllF w)) (f a) cs) hs0 ht hC hrow h
  refine ⟨l.map RowA.a, ?_, fun a ha => ?_, by rw [List.length_map]; exact hm⟩
  · have key : ∀ l : List (RowA α s), (∀ x ∈ l, Q x.a ∧ LRel (DRel w (AllF w)) (f x.a) x.cs) → LRel (DRel w (AllF w)) (flatD f (l.map RowA.a)) (flat RowA.cs l) := fun l => by
      induction l with
      | nil => intro _; exact LRel.nil_
      | cons y l ih => intro hq; exact (hq y (List.mem_cons_self ..)).2.app (ih fun z hz => hq z (List.mem_cons_of_mem _ hz))
    have := row_inF (tg := tg) (n := (l.map RowA.a).length) hcl (by rw [List.length_map]; exact hc) hA (flatD_len (f := f) hfl _) (key l hQ)
    rwa [List.length_map] at this ⊢
  · obtain ⟨y, hy, rfl⟩ := List.mem_map.1 ha
    exact (hQ y hy).1
end
theorem len_i64 {n : Nat} (h : n ≤ maxLen) : (n : Int) ≤ 9223372036854775807 := by unfold maxLen at h; omega
section
variable {H : Type} {enc : TypeId × Value → H} {w : World} {spare : Nat → Bool} {held : Bool}
theorem words_inF {tg : Bool} {A : Option Addr} {ws : List Nat} {c : Nat} (h : CellsAt w w.heap.size A (w32 ws)) (hc : ws.length ≤ c) (hA : A = none → c = 0) : DRel w (AllF w) (.row tg 1 ws.length (ws.map dW)) (.slice A ws.length c) := by
  rw [← w32_D]
  exact row_inF h hc hA (by rw [List.length_map, w32_len, Nat.mul_one]) (rel_vals fun v hv => w32_one hv)
theorem rw_inF (tg : Bool) {r : Rw} (h : RwAt w w.heap.size r) : LRel (DRel w (AllF w)) (dRv tg ⟨r.nb, r.ws, r.den⟩) r.cells :=
  .cons_ (.val rfl) (.cons_ (words_inF h.at_ h.fit h.nul) (.cons_ (.val rfl) .nil_))
instance : Inhabited Rv := ⟨⟨false, [], 0⟩⟩
def RvIn (r : Rv) : Prop := wordsOk r.ws ∧ r.ws.length ≤ maxLen ∧ -9223372036854775808 ≤ r.den ∧ r.den ≤ 9223372036854775807
end
section
variable {H : Type} {enc : TypeId × Value → H} {w : World} {spare : Nat → Bool} {held : Bool}
theorem row_ivF (tg : Bool) {fuel : Nat} {cs : List Value} {x : DataW H × List MemPlace} (h : DataW.trod enc Tryz.prog w 0 spare held fuel 55 cs = some x) : ∃ q : Rv × Rv, (RvIn q.1 ∧ RvIn q.2) ∧ LRel (DRel w (AllF w)) (dIr tg q) cs := by
  obtain ⟨a, rfl, h1, l1, l2, d1, d2⟩ := row_iv h
  exact ⟨(⟨a.lo.nb, a.lo.ws, a.lo.den⟩, ⟨a.hi.nb, a.hi.ws, a.hi.den⟩), ⟨⟨h1.lo.ok, l1, d1⟩, h1.hi.ok, l2, d2⟩, (rw_inF tg h1.lo).app (rw_inF tg h1.hi)⟩
theorem open_ivs (tg : Bool) {r : Go.Reach} {b0 : Nat} {v : Value} {d : DataW H} {p : List MemPlace} (hv : Value.okWide Tryz.prog w r b0 27 v) (h : DataW.Trod enc Tryz.prog w 0 spare held 27 v d p) :
    ∃ qs : List (Rv × Rv), ARel w (AllF w) (.one (.row tg 6 qs.length (flatD (dIr tg) qs))) v ∧ (∀ q ∈ qs, RvIn q.1 ∧ RvIn q.2) ∧ (qs.length : Int) ≤ 9223372036854775807 := by
  obtain ⟨a0, len, cap, rfl⟩ := okWide_slice Tryz.underlying27 hv
  obtain ⟨fuel, hf⟩ := h
  obtain ⟨qs, h1, h2, h3⟩ := sliceD (s := 6) (tg := tg) (dIr tg) (fun q : Rv × Rv => RvIn q.1 ∧ RvIn q.2) (by decide) (fun _ => rfl) Tryz.underlying27 (by kernel_rfl) (fun fuel cs x hx _ => row_ivF tg hx) hf
  exact ⟨qs, h1, h2, len_i64 h3⟩
end
end Go.Proofs.YtilbehepmkpdbaaGreatDoor
