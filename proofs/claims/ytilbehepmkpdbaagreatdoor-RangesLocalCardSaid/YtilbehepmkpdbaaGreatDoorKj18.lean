/- What the proofs of this claim share, part 18. No conditions. -/
import Derived.Test.YtilbehepmkpdbaaGreatDoorKj17
import Derived.Test.YtilbehepmkpdbaaGreatDoorKj16
import Derived.Test.YtilbehepmkpdbaaGreatDoorKj10
import Derived.Test.YtilbehepmkpdbaaGreatDoorKj14
set_option maxRecDepth 100000
set_option maxHeartbeats 4000000
set_option linter.unusedVariables false
set_option linter.unusedSimpArgs false
set_option linter.unusedSectionVars false
namespace Go.Proofs.YtilbehepmkpdbaaGreatDoor
open Go.RowKit
abbrev ivQ (q : Rv × Rv) : Iq := (rvP q.1, rvP q.2)
def rowV (qs : List (Rv × Rv)) : D := .row false 6 qs.length (flatD (dIr false) qs)
def aIws (l : List Iq) : A := .one (.row false 6 l.length (flatD (dIw false) l))
abbrev ivC (q : Rv × Rv) : Bool := ivR q.1 q.2
def rgE (ps : List Prt) (bs : List Bk) (os : List Int) (qs : List (Rv × Rv)) : Int :=
  if dgErr ps bs os ≠ 0 then dgErr ps bs os else if qs.length ≠ (delL bs).length then 11 else if qs.all ivC = false then 2 else if rgBad ps bs (qs.map ivQ) = true then 4 else 0
section
variable {ps : List Prt} {bs : List Bk} {os : List Int} {qs : List (Rv × Rv)}
theorem rgE1 (h : dgErr ps bs os ≠ 0) : rgE ps bs os qs = dgErr ps bs os := by unfold rgE; rw [if_pos h]
theorem rgE2 (h : dgErr ps bs os = 0) (h2 : qs.length ≠ (delL bs).length) : rgE ps bs os qs = 11 := by unfold rgE; rw [if_neg (not_not_intro h), if_pos h2]
theorem rgE3 (h : dgErr ps bs os = 0) (h2 : qs.length = (delL bs).length) (h3 : qs.all ivC = false) : rgE ps bs os qs = 2 := by unfold rgE; rw [if_neg (not_not_intro h), if_neg (not_not_intro h2), if_pos h3]
theorem rgE4 (h : dgErr ps bs os = 0) (h2 : qs.length = (delL bs).length) (h3 : ¬ qs.all ivC = false) : rgE ps bs os qs = if rgBad ps bs (qs.map ivQ) = true then 4 else 0 := by unfold rgE; rw [if_neg (not_not_intro h), if_neg (not_not_intro h2), if_neg h3]
end
theorem iv_at {qs : List (Rv × Rv)} {k : Nat} {q : Rv × Rv} (h : qs[k]? = some q) : ((flatD (dIr false) qs).drop (k * 6)).take 6 = dIr false q := flatD_at (f := dIr false) (s := 6) (fun _ => rfl) h
theorem raw_iw {q : Rv × Rv} (hr : RvL q.1) (hs : RvL q.2) (h : ivC q = true) : IwS (ivQ q) 1280000 65536 ∧ dIr false q = dIw false (ivQ q) ∧ (canon (rvP q.1).1.natAbs).length ≤ 40000 ∧ (canon (rvP q.2).1.natAbs).length ≤ 40000 := by
  obtain ⟨e, n1, n2, g, k1, k2⟩ := raw_ok hr hs h
  exact ⟨⟨sm_lenN (p := rvP q.1) n1 (k := 40000) (k1 ▸ hr.2) (by decide), sm_lenN (p := rvP q.2) n2 (k := 40000) (k2 ▸ hs.2) (by decide), g⟩, e, k1 ▸ hr.2, k2 ▸ hs.2⟩
theorem not_ivs {qs : List (Rv × Rv)} {k : Nat} {q : Rv × Rv} (h : qs[k]? = some q) (hv : ivC q = false) : qs.all ivC = false := by
  rw [List.all_eq_false]
  exact ⟨q, List.mem_of_getElem? h, by rw [hv]; decide⟩
theorem hull_self {a : Iq} {n d : Nat} (h : IwS a n d) : iHull a a = a := by
  obtain ⟨e1, e2, e3⟩ := spanL_four h.s1 h.s2 h.s1 h.s2
  have hle := h.le
  exact iw_ext e3 h (by show gv (spanL [a.1, a.2, a.1, a.2]).1 = _; rw [e1]; omega) (by show gv (spanL [a.1, a.2, a.1, a.2]).2 = _; rw [e2]; omega)
theorem rgeval_cv (t : Bool) {ps : List Prt} {bs : List Bk} {os : List Int} (hl : DgLen ps bs os) (qs : List (Rv × Rv)) (hw : ∀ q ∈ qs, RvL q.1 ∧ RvL q.2) (hrl : qs.length ≤ 1000000) : CV Tryz.prog TabAt 12 [aDg t ps bs os, .one (rowV qs)] [aIws (okQ (rgE ps bs os qs) (rgV ps bs (qs.map ivQ))), aE (rgE ps bs os qs)] := by
  refine cvz Tryz.func12 Tryz.ntmps12 ?_
  have DL := (delays_cv t hl (ps := ps) (bs := bs) (os := os)).cv
  have OL := (order_cv t hl (ps := ps) (bs := bs) (os := os)).cv
  have hnl := natI_len (delL bs)
  have hol := natI_len (ordM bs)
  have hl1 := hl.l1
  have hl2 := hl.l2
  have hl3 := hl.l3
  have hob := ord_len (bs := bs)
  have hdb := delL_le bs
  by_cases h0 : dgErr ps bs os = 0
  case neg =>
    rw [if_neg h0] at DL
    have hE := rgE1 (qs := qs) h0
    rw [hE, okQ_n h0]
    repeat' (with_reducible first | apply qa | apply qb | apply qc | apply qd | apply qe | apply qf | apply qg | apply qh | apply qi | apply qj | apply qk | apply ql rfl | apply qm rfl | apply qn rfl | apply Je | (refine Tx 0 ?_; refine Jn xBo ?_; refine Ja ?_; refine Ja ?_) | (refine Tx 1 ?_; refine Jo (xLa tk_Diagram) ?_; refine Jo (xCl Tryz.func41 (DL)) ?_; refine Jo xMt ?_; refine Jo xEx ?_; refine Jo xEx ?_; refine Ja ?_; refine Ja ?_) | (refine Tx 2 ?_; refine Jm ?_; refine Jo (xNE ti_error) ?_) | (refine Tx 3 ?_; refine Jm ?_; refine Ja ?_; refine Ja ?_))
    exact ret_q rfl (.cons_ (.tmp (.one (cexp_n rfl rfl))) (.cons_ (rv_e rfl rfl) .nil_))
  rw [if_pos h0, h0] at DL
  rw [if_pos h0, h0] at OL
  by_cases hL : qs.length = (delL bs).length
  case neg =>
    have hE := rgE2 (os := os) h0 hL
    rw [hE, okQ_n (by decide)]
    repeat' (with_reducible first | apply qa | apply qb | apply qc | apply qd | apply qe | apply qf | apply qg | apply qh | apply qi | apply qj | apply qk | apply ql rfl | apply qm rfl | apply qn rfl | apply Je | (refine Tx 0 ?_; refine Jn xBo ?_; refine Ja ?_; refine Ja ?_) | (refine Tx 1 ?_; refine Jo (xLa tk_Diagram) ?_; refine Jo (xCl Tryz.func41 (DL)) ?_; refine Jo xMt ?_; refine Jo xEx ?_; refine Jo xEx ?_; refine Ja ?_; refine Ja ?_) | (refine Tx 2 ?_; refine Jm ?_; refine Jo (xNE ti_error) ?_) | (refine Tx 4 ?_; refine Jm ?_; refine Jo (xLn ts_s_Interval) ?_; refine Jm ?_; refine Jo (xLn ts_s_int) ?_; refine Jo xNe ?_) | (refine Tx 5 ?_; refine Jo (xMi Tryz.underlying48) ?_; refine Ja ?_; refine Ja ?_))
    exact ret_q rfl (.cons_ (.tmp (.one (cexp_n rfl rfl))) (.cons_ (rv_en rfl (by decide) rfl) .nil_))
  repeat' (with_reducible first | apply qa | apply qb | apply qc | apply qd | apply qe | apply qf | apply qg | apply qh | apply qi | apply qj | apply qk | apply ql rfl | apply qm rfl | apply qn rfl | apply Je | (refine Tx 0 ?_; refine Jn xBo ?_; refine Ja ?_; refine Ja ?_) | (refine Tx 1 ?_; refine Jo (xLa tk_Diagram) ?_; refine Jo (xCl Tryz.func41 (DL)) ?_; refine Jo xMt ?_; refine Jo xEx ?_; refine Jo xEx ?_; refine Ja ?_; refine Ja ?_) | (refine Tx 2 ?_; refine Jm ?_; refine Jo (xNE ti_error) ?_) | (refine Tx 4 ?_; refine Jm ?_; refine Jo (xLn ts_s_Interval) ?_; refine Jm ?_; refine Jo (xLn ts_s_int) ?_; refine Jo xNe ?_) | (refine Tx 6 ?_; refine Jm ?_; refine Jo (xLn ts_s_Interval) ?_; refine Jm ?_))
  refine cw_wk (F' := ofL [(1, vd (rowV qs)), (2, vr 0), (6, vd (rowI false (natI (delL bs)))), (30, vd (rowV qs)), (31, vi qs.length), (32, vi ((0 : Nat)))]) (H' := [.box 26 [.d (rowP t ps), .d (rowB t bs), .d (rowI t os)]]) (wk_go _ 1 ?_ ?_ ?_) ?_
  · rfl
  · exact mB rfl rfl
  · exact ⟨bel_lit rfl, trivial⟩
  refine cw_loopW (fun n Fr H => ∃ k : Nat, k ≤ qs.length ∧ n = qs.length - k ∧ (∀ q ∈ qs.take k, ivC q = true) ∧ Fr = ofL [(1, vd (rowV qs)), (2, vr 0), (6, vd (rowI false (natI (delL bs)))), (30, vd (rowV qs)), (31, vi qs.length), (32, vi ((k : Nat)))] ∧ H = [.box 26 [.d (rowP t ps), .d (rowB t bs), .d (rowI t os)]]) (n0 := qs.length) ⟨0, Nat.zero_le _, rfl, (fun r hr => by simp at hr), rfl, rfl⟩ ?_
  rintro n Fr H ⟨k, hk, rfl, hv, rfl, rfl⟩
  by_cases hlt : k < qs.length
  case pos =>
    obtain ⟨q, hq⟩ : ∃ q, qs[k]? = some q := ⟨_, List.getElem?_eq_getElem hlt⟩
    have hqm := hw q (List.mem_of_getElem? hq)
    have VA : CV Tryz.prog TabAt 42 [.agg (dIr false q)] [aB (ivC q)] := pivalid_cv q.1 q.2 hqm.1 hqm.2
    cases hb : ivC q
    case false =>
      rw [hb] at VA
      have hE := rgE3 (os := os) h0 hL (not_ivs hq hb)
      rw [hE, okQ_n (by decide)]
      repeat' (with_reducible first | apply qa | apply qb | apply qc | apply qd | apply qe | apply qf | apply qg | apply qh | apply qi | apply qj | apply qk | apply ql rfl | apply qm rfl | apply qn rfl | apply Je | (refine Tx 7 ?_; refine Jo xLt ?_) | (refine Tx 8 ?_; refine Jo (xIr ts_s_Interval (iv_at hq)) ?_; refine Jo (xLa tk_Interval) ?_; refine Jn (xAl tz_Interval) ?_; refine Js (xSk tk_Interval) ?_) | (refine Tx 9 ?_; refine Jo (xLa tk_Interval) ?_; refine Jo (xCl Tryz.func42 (VA)) ?_; refine Jo (by first | exact xNt | exact xNg) ?_) | (refine Tx 10 ?_; refine Jo (xMi Tryz.underlying48) ?_; refine Ja ?_; refine Ja ?_))
      exact ret_q rfl (.cons_ (.tmp (.one (cexp_n rfl rfl))) (.cons_ (rv_en rfl (by decide) rfl) .nil_))
    case true =>
      rw [hb] at VA
      repeat' (with_reducible first | apply qa | apply qb | apply qc | apply qd | apply qe | apply qf | apply qg | apply qh | apply qi | apply qj | apply qk | apply ql rfl | apply qm rfl | apply qn rfl | apply Je | (refine Tx 7 ?_; refine Jo xLt ?_) | (refine Tx 8 ?_; refine Jo (xIr ts_s_Interval (iv_at hq)) ?_; refine Jo (xLa tk_Interval) ?_; refine Jn (xAl tz_Interval) ?_; refine Js (xSk tk_Interval) ?_) | (refine Tx 9 ?_; refine Jo (xLa tk_Interval) ?_; refine Jo (xCl Tryz.func42 (VA)) ?_; refine Jo (by first | exact xNt | exact xNg) ?_) | (refine Tx 11 ?_; refine Jo xAd ?_; refine Jm ?_))
      refine ⟨_, _, wk_go _ 1 ?_ ?_ ?_, _, ?_, k + 1, by omega, rfl, take_all1 hv hq hb, rfl, rfl⟩
      · rfl
      · exact mB rfl rfl
      · exact ⟨bel_lit rfl, trivial⟩
      · omega
  obtain rfl : k = qs.length := by omega
  rw [List.take_length] at hv
  clear hlt hk
  have hva : ¬ qs.all ivC = false := by rw [Bool.not_eq_false]; exact List.all_eq_true.2 hv
  have hE := rgE4 (os := os) h0 hL hva
  have hsl : (qs.map ivQ).length = (delL bs).length := by rw [List.length_map]; exact hL
  repeat' (with_reducible first | apply qa | apply qb | apply qc | apply qd | apply qe | apply qf | apply qg | apply qh | apply qi | apply qj | apply qk | apply ql rfl | apply qm rfl | apply qn rfl | apply Je | (refine Tx 7 ?_; refine Jo xLt ?_) | (refine Tx 12 ?_; refine Jo (xLa tk_Diagram) ?_; refine Jo (xCl Tryz.func43 (OL)) ?_; refine Jo xMt ?_; refine Jo xEx ?_; refine Jo xEx ?_; refine Ja ?_; refine Ja ?_) | (refine Tx 13 ?_; refine Jm ?_; refine Jo (xNE ti_error) ?_) | (refine Tx 15 ?_; refine Jo (xFa tf_Diagram1 tk_s_Block) ?_; refine Jo (xLd tk_s_Block) ?_; refine Jo (xLn ts_s_Block) ?_; refine Jn (by first | exact ok_makeIw (n := bs.length) rfl rfl rfl ts_s_Interval tz_Interval (by omega) (by decide) | exact ok_makeSlice rfl rfl rfl ts_s_Interval tz_Interval (by omega) (by decide)) ?_; refine Ja ?_) | (refine Tx 16 ?_; refine Jm ?_; refine Jo (xLn ts_s_int) ?_; refine Jm ?_))
  refine cw_wk (F' := ofL [(1, vd (rowV qs)), (2, vr 0), (6, vd (rowI false (natI (delL bs)))), (10, vd (rowI false (natI (ordM bs)))), (11, vo 1 bs.length), (53, vd (rowI false (natI (delL bs)))), (54, vi ((delL bs).length)), (55, vi ((0 : Nat)))]) (H' := [.box 26 [.d (rowP t ps), .d (rowB t bs), .d (rowI t os)], .row 55 6 bs.length (kWs (delW ((delL bs).take (0)) ((qs.map ivQ).take (0)) (List.replicate bs.length none)))]) (wk_go _ 2 ?_ ?_ ?_) ?_
  · rfl
  · rw [← hnl]; exact mB rfl rfl
  · exact ⟨bel_lit rfl, bel_kWs, trivial⟩
  refine cw_loopW (fun n Fr H => ∃ k : Nat, k ≤ (delL bs).length ∧ n = (delL bs).length - k ∧ (∀ p ∈ (qs.map ivQ).take k, longI p = false) ∧ Fr = ofL [(1, vd (rowV qs)), (2, vr 0), (6, vd (rowI false (natI (delL bs)))), (10, vd (rowI false (natI (ordM bs)))), (11, vo 1 bs.length), (53, vd (rowI false (natI (delL bs)))), (54, vi ((delL bs).length)), (55, vi ((k : Nat)))] ∧ H = [.box 26 [.d (rowP t ps), .d (rowB t bs), .d (rowI t os)], .row 55 6 bs.length (kWs (delW ((delL bs).take (k)) ((qs.map ivQ).take (k)) (List.replicate bs.length none)))]) (n0 := (delL bs).length) ⟨0, Nat.zero_le _, rfl, (fun r hr => by simp at hr), rfl, rfl⟩ ?_
  rintro n Fr H ⟨k, hk, rfl, hnl2, rfl, rfl⟩
  by_cases hlt : k < (delL bs).length
  case pos =>
    obtain ⟨i, hi⟩ : ∃ i, (delL bs)[k]? = some i := ⟨_, List.getElem?_eq_getElem hlt⟩
    obtain ⟨q, hq⟩ : ∃ q, qs[k]? = some q := ⟨_, List.getElem?_eq_getElem (by omega)⟩
    have hqm := List.mem_of_getElem? hq
    obtain ⟨sw, hdy, lw1, lw2⟩ := raw_iw (hw q hqm).1 (hw q hqm).2 (hv q hqm)
    have hst : (qs.map ivQ)[k]? = some (ivQ q) := by rw [List.getElem?_map, hq]; rfl
    have hra := iv_at hq
    rw [hdy] at hra
    have hil2 := (del_at hi).1
    have LG := rglong_cv (ivQ q) sw.s1.ok sw.s2.ok lw1 lw2
    by_cases hlg : longI (ivQ q) = true
    case pos =>
      rw [hlg] at LG
      rw [badW_del hst hlg, if_pos rfl] at hE
      rw [hE, okQ_n (by decide)]
      repeat' (with_reducible first | apply qa | apply qb | apply qc | apply qd | apply qe | apply qf | apply qg | apply qh | apply qi | apply qj | apply qk | apply ql rfl | apply qm rfl | apply qn rfl | apply Je | (refine Tx 17 ?_; refine Jo xLt ?_) | (refine Tx 18 ?_; refine Jm ?_; refine Jo (by first | exact xIr ts_s_int (int_at (natI_at hi)) | exact xIr ts_s_int (hra) | exact xIo (i := i) ts_s_int) ?_; refine Jo (xLd tk_int) ?_; refine Ja ?_; refine Ja ?_) | (refine Tx 19 ?_; refine Jm ?_; refine Jm ?_; refine Jo (by first | exact xIr ts_s_Interval (hra) | exact xIo (i := i) ts_s_Interval) ?_; refine Jo (xLa tk_Interval) ?_; refine Jo (xCl Tryz.func44 (LG)) ?_) | (refine Tx 20 ?_; refine Jo (xMi Tryz.underlying48) ?_; refine Ja ?_; refine Ja ?_))
      exact ret_q rfl (.cons_ (.tmp (.one (cexp_n rfl rfl))) (.cons_ (rv_en rfl (by decide) rfl) .nil_))
    rw [Bool.not_eq_true] at hlg
    rw [hlg] at LG
    have sb := (iwl_of sw hlg)
    have sb2 := sb.more (show LB ≤ 20000 by decide) (show LB ≤ 20000 by decide)
    have HU := pihull_cv (ivQ q) (ivQ q) sb2 sb2
    rw [hull_self sb] at HU
    have tl : i < (delW ((delL bs).take (k)) ((qs.map ivQ).take (k)) (List.replicate bs.length none)).length := by rw [delW_len, List.length_replicate]; exact hil2
    have stV : (delW ((delL bs).take (k)) ((qs.map ivQ).take (k)) (List.replicate bs.length none)).set i (some (ivQ q)) = (delW ((delL bs).take (k + 1)) ((qs.map ivQ).take (k + 1)) (List.replicate bs.length none)) := (delW_next _ hi hst).symm
    repeat' (with_reducible first | apply qa | apply qb | apply qc | apply qd | apply qe | apply qf | apply qg | apply qh | apply qi | apply qj | apply qk | apply ql rfl | apply qm rfl | apply qn rfl | apply Je | (refine Tx 17 ?_; refine Jo xLt ?_) | (refine Tx 18 ?_; refine Jm ?_; refine Jo (by first | exact xIr ts_s_int (int_at (natI_at hi)) | exact xIr ts_s_int (hra) | exact xIo (i := i) ts_s_int) ?_; refine Jo (xLd tk_int) ?_; refine Ja ?_; refine Ja ?_) | (refine Tx 19 ?_; refine Jm ?_; refine Jm ?_; refine Jo (by first | exact xIr ts_s_Interval (hra) | exact xIo (i := i) ts_s_Interval) ?_; refine Jo (xLa tk_Interval) ?_; refine Jo (xCl Tryz.func44 (LG)) ?_) | (refine cw_part (id := 21) 12 mixed (by kernel_rfl) ?_; dsimp only [List.take, List.drop]; refine Km ?_; refine Km ?_; refine Km ?_; refine Km ?_; refine Ko (by first | exact xIr ts_s_Interval (hra) | exact xIo (i := i) ts_s_Interval) ?_; refine Ko (xLa tk_Interval) ?_; refine Km ?_; refine Km ?_; refine Ko (by first | exact xIr ts_s_Interval (hra) | exact xIo (i := i) ts_s_Interval) ?_; refine Ko (xLa tk_Interval) ?_; refine Ko (xCl Tryz.func45 (HU)) ?_; refine Ko (by first | exact xIr ts_s_Interval (hra) | exact xIo (i := i) ts_s_Interval) ?_; refine Ke ?_; refine Js (by first | exact to_stIw rfl rfl rfl rfl tk_Interval tl stV | exact xSk tk_Interval) ?_) | (refine Tx 22 ?_; refine Jo xAd ?_; refine Jm ?_))
    refine ⟨_, _, wk_go _ 2 ?_ ?_ ?_, _, by omega, k + 1, by omega, rfl, take_all1 hnl2 hst hlg, rfl, rfl⟩
    · rfl
    · exact mB rfl rfl
    · exact ⟨bel_lit rfl, bel_kWs, trivial⟩
  obtain rfl : k = (delL bs).length := by omega
  clear hlt hk
  rw [List.take_of_length_le (by omega)] at hnl2
  have HD := hasW_del (bs := bs) (st := (qs.map ivQ)) (fun p hp => by obtain ⟨q, hq, rfl⟩ := List.mem_map.1 hp; exact iwl_of (raw_iw (hw q hq).1 (hw q hq).2 (hv q hq)).1 (hnl2 _ hp)) hsl
  rw [← rgS_0 ps bs (qs.map ivQ)] at HD
  rw [List.take_length, List.take_of_length_le (l := (qs.map ivQ)) (by omega), ← rgS_0 ps bs (qs.map ivQ)]
  repeat' (with_reducible first | apply qa | apply qb | apply qc | apply qd | apply qe | apply qf | apply qg | apply qh | apply qi | apply qj | apply qk | apply ql rfl | apply qm rfl | apply qn rfl | apply Je | (refine Tx 17 ?_; refine Jo xLt ?_) | (refine Tx 23 ?_; refine Jm ?_; refine Jo (xLn ts_s_int) ?_; refine Jm ?_))
  refine cw_wk (F' := ofL [(1, vd (rowV qs)), (2, vr 0), (6, vd (rowI false (natI (delL bs)))), (10, vd (rowI false (natI (ordM bs)))), (11, vo 1 bs.length), (79, vd (rowI false (natI (ordM bs)))), (80, vi ((ordM bs).length)), (81, vi ((0 : Nat)))]) (H' := [.box 26 [.d (rowP t ps), .d (rowB t bs), .d (rowI t os)], .row 55 6 bs.length (kWs (rgS ps bs (qs.map ivQ) (0)))]) (wk_go _ 2 ?_ ?_ ?_) ?_
  · rfl
  · rw [← hol]; exact mB rfl rfl
  · exact ⟨bel_lit rfl, bel_kWs, trivial⟩
  refine cw_loopW (fun n Fr H => ∃ k : Nat, k ≤ (ordM bs).length ∧ n = (ordM bs).length - k ∧ HasW (rgS ps bs (qs.map ivQ) (k)) (stdS bs k) ∧ (∀ s, s < k → longI (rgN ps bs (qs.map ivQ) s) = false) ∧ Fr = ofL [(1, vd (rowV qs)), (2, vr 0), (6, vd (rowI false (natI (delL bs)))), (10, vd (rowI false (natI (ordM bs)))), (11, vo 1 bs.length), (79, vd (rowI false (natI (ordM bs)))), (80, vi ((ordM bs).length)), (81, vi ((k : Nat)))] ∧ H = [.box 26 [.d (rowP t ps), .d (rowB t bs), .d (rowI t os)], .row 55 6 bs.length (kWs (rgS ps bs (qs.map ivQ) (k)))]) (n0 := (ordM bs).length) ⟨0, Nat.zero_le _, rfl, HD, (fun s hs => absurd hs (Nat.not_lt_zero s)), rfl, rfl⟩ ?_
  rintro n Fr H ⟨k, hk, rfl, HK, hgd, rfl, rfl⟩
  by_cases hlt : k < (ordM bs).length
  case pos =>
    obtain ⟨j, hj⟩ : ∃ j, (ordM bs)[k]? = some j := ⟨_, List.getElem?_eq_getElem hlt⟩
    obtain ⟨y, hy, hk2, T⟩ := tickW_of h0 hj HK
    have hjl := (ord_at hj).1
    have hvn : rgN ps bs (qs.map ivQ) k = rangeV y (argsW (rgS ps bs (qs.map ivQ) (k)) y) ps := by unfold rgN tkW; rw [hj]; simp only [Option.getD_some]; rw [hy]
    have hgl : (gW (rgS ps bs (qs.map ivQ) (k))).length = bs.length := by rw [gW_len, rgS_len]
    have BL := rgblock_cv t ps bs os y (gW (rgS ps bs (qs.map ivQ) (k))) (argsW (rgS ps bs (qs.map ivQ) (k)) y) T.hk (by have := T.len; omega) (by omega) (by omega) T.hl (fun p hp => (T.hs p hp).more (by decide) (by decide)) T.hin T.hsv T.hsu T.hcl
    have TS := T.sm
    rw [← hvn] at BL TS
    rw [hgl] at BL
    have LG := rglong_cv (rgN ps bs (qs.map ivQ) k) TS.s1.ok TS.s2.ok (Nat.le_trans (TS.s1.lenN 282 (by decide)) (by decide)) (Nat.le_trans (TS.s2.lenN 282 (by decide)) (by decide))
    have tl : j < (rgS ps bs (qs.map ivQ) (k)).length := by rw [rgS_len]; exact hjl
    have stV : (rgS ps bs (qs.map ivQ) (k)).set j (some (rgN ps bs (qs.map ivQ) k)) = (rgS ps bs (qs.map ivQ) (k + 1)) := (rgS_next hj).symm
    have hbad := badW_ord (ps := ps) (st := (qs.map ivQ)) hlt
    have hnx := hasW_next HK hj
    have hat : (rgS ps bs (qs.map ivQ) (k + 1))[j]? = some (some (rgN ps bs (qs.map ivQ) k)) := by rw [← stV, List.getElem?_set, if_pos rfl, if_pos tl]
    by_cases hlg : longI (rgN ps bs (qs.map ivQ) k) = true
    case pos =>
      rw [hlg] at LG
      rw [hbad hlg, if_pos rfl] at hE
      rw [hE, okQ_n (by decide)]
      repeat' (with_reducible first | apply qa | apply qb | apply qc | apply qd | apply qe | apply qf | apply qg | apply qh | apply qi | apply qj | apply qk | apply ql rfl | apply qm rfl | apply qn rfl | apply Je | (refine Tx 24 ?_; refine Jo xLt ?_) | (refine Tx 25 ?_; refine Jo (by first | exact xIr ts_s_int (int_at (natI_at hj)) | exact xIo (i := j) ts_s_int) ?_; refine Jo (xLd tk_int) ?_; refine Ja ?_) | (refine cw_part (id := 26) 11 mixed (by kernel_rfl) ?_; dsimp only [List.take, List.drop]; refine Km ?_; refine Km ?_; refine Ko (xLa tk_Diagram) ?_; refine Ko (xFa tf_Diagram1 tk_s_Block) ?_; refine Ko (xLd tk_s_Block) ?_; refine Km ?_; refine Ko (by first | exact xIr ts_s_Block (bk_at hy) | exact xIo (i := j) ts_s_Block) ?_; refine Ko (xLa tk_Block) ?_; refine Km ?_; refine Ko (xCl Tryz.func46 BL (ha := by with_unfolding_all first | ((repeat' first | exact lrel_n rfl rfl | refine lrel_c rfl rfl ?_ ?_ | refine xexp_1 rfl rfl ?_ | refine xexp_a rfl rfl ?_ | exact cexp_d rfl (fun h => by cases h) | exact cexp_Iw rfl rfl rfl) <;> fail) | fail)) ?_; refine Ko (xIo (i := j) ts_s_Interval) ?_; refine Ke ?_; refine Js (by first | exact to_stIw rfl rfl rfl rfl tk_Interval tl stV | exact xSk tk_Interval) ?_) | (refine Tx 27 ?_; refine Jm ?_; refine Jm ?_; refine Jo (xIo (i := j) ts_s_Interval) ?_; refine Jo (by first | exact ok_ldIw rfl rfl rfl hat tk_Interval | exact xLa tk_Interval) ?_; refine Jo (xCl Tryz.func44 (LG)) ?_) | (refine Tx 28 ?_; refine Jo (xMi Tryz.underlying48) ?_; refine Ja ?_; refine Ja ?_))
      exact ret_q rfl (.cons_ (.tmp (.one (cexp_n rfl rfl))) (.cons_ (rv_en rfl (by decide) rfl) .nil_))
    rw [Bool.not_eq_true] at hlg
    rw [hlg] at LG
    repeat' (with_reducible first | apply qa | apply qb | apply qc | apply qd | apply qe | apply qf | apply qg | apply qh | apply qi | apply qj | apply qk | apply ql rfl | apply qm rfl | apply qn rfl | apply Je | (refine Tx 24 ?_; refine Jo xLt ?_) | (refine Tx 25 ?_; refine Jo (by first | exact xIr ts_s_int (int_at (natI_at hj)) | exact xIo (i := j) ts_s_int) ?_; refine Jo (xLd tk_int) ?_; refine Ja ?_) | (refine cw_part (id := 26) 11 mixed (by kernel_rfl) ?_; dsimp only [List.take, List.drop]; refine Km ?_; refine Km ?_; refine Ko (xLa tk_Diagram) ?_; refine Ko (xFa tf_Diagram1 tk_s_Block) ?_; refine Ko (xLd tk_s_Block) ?_; refine Km ?_; refine Ko (by first | exact xIr ts_s_Block (bk_at hy) | exact xIo (i := j) ts_s_Block) ?_; refine Ko (xLa tk_Block) ?_; refine Km ?_; refine Ko (xCl Tryz.func46 BL (ha := by with_unfolding_all first | ((repeat' first | exact lrel_n rfl rfl | refine lrel_c rfl rfl ?_ ?_ | refine xexp_1 rfl rfl ?_ | refine xexp_a rfl rfl ?_ | exact cexp_d rfl (fun h => by cases h) | exact cexp_Iw rfl rfl rfl) <;> fail) | fail)) ?_; refine Ko (xIo (i := j) ts_s_Interval) ?_; refine Ke ?_; refine Js (by first | exact to_stIw rfl rfl rfl rfl tk_Interval tl stV | exact xSk tk_Interval) ?_) | (refine Tx 27 ?_; refine Jm ?_; refine Jm ?_; refine Jo (xIo (i := j) ts_s_Interval) ?_; refine Jo (by first | exact ok_ldIw rfl rfl rfl hat tk_Interval | exact xLa tk_Interval) ?_; refine Jo (xCl Tryz.func44 (LG)) ?_) | (refine Tx 29 ?_; refine Jo xAd ?_; refine Jm ?_))
    refine ⟨_, _, wk_go _ 2 ?_ ?_ ?_, _, by omega, k + 1, by omega, rfl, hnx (iwl_of TS hlg), lt_step hgd hlg, rfl, rfl⟩
    · rfl
    · exact mB rfl rfl
    · exact ⟨bel_lit rfl, bel_kWs, trivial⟩
  obtain rfl : k = (ordM bs).length := by omega
  clear hlt hk
  rw [goodW_of hnl2 hgd, if_neg (by decide)] at hE
  rw [hE, okQ_z rfl]
  have hvE : (rgV ps bs (qs.map ivQ)).length = bs.length := by unfold rgV; rw [gW_len, rgS_len]
  unfold aIws
  rw [hvE]
  repeat' (with_reducible first | apply qa | apply qb | apply qc | apply qd | apply qe | apply qf | apply qg | apply qh | apply qi | apply qj | apply qk | apply ql rfl | apply qm rfl | apply qn rfl | apply Je | (refine Tx 24 ?_; refine Jo xLt ?_) | (refine Tx 30 ?_; refine Jm ?_; refine Ja ?_; refine Ja ?_))
  exact ret_q rfl (.cons_ (.tmp (.one (cexp_Iw rfl rfl rfl))) (.cons_ (rv_e0 rfl rfl) .nil_))
section
variable {ps : List Prt} {bs : List Bk} {os : List Int} {qs : List (Rv × Rv)} {st : List Iq}
theorem rgE_z (h : rgE ps bs os qs = 0) : dgErr ps bs os = 0 ∧ qs.length = (delL bs).length ∧ (∀ q ∈ qs, ivC q = true) ∧ rgBad ps bs (qs.map ivQ) = false := by
  by_cases h0 : dgErr ps bs os = 0
  · by_cases h1 : qs.length = (delL bs).length
    · by_cases h2 : qs.all ivC = false
      · rw [rgE3 h0 h1 h2] at h; cases h
      · rw [rgE4 h0 h1 h2] at h
        by_cases h3 : rgBad ps bs (qs.map ivQ) = true
        · rw [if_pos h3] at h; cases h
        · rw [Bool.not_eq_false] at h2
          exact ⟨h0, h1, List.all_eq_true.1 h2, by rw [Bool.not_eq_true] at h3; exact h3⟩
    · rw [rgE2 h0 h1] at h; cases h
  · rw [rgE1 h0] at h; exact absurd h h0
theorem rgBad_f (h : rgBad ps bs st = false) : (∀ p ∈ st, longI p = false) ∧ ∀ t, t < (ordM bs).length → longI (rgN ps bs st t) = false := by
  unfold rgBad at h
  rw [Bool.or_eq_false_iff] at h
  exact ⟨fun p hp => by have := List.any_eq_false.1 h.1 p hp; rwa [Bool.not_eq_true] at this, fun t ht => by have := List.any_eq_false.1 h.2 t (List.mem_range.2 ht); rwa [Bool.not_eq_true] at this⟩
theorem qs_iw (hw : ∀ q ∈ qs, RvL q.1 ∧ RvL q.2) (h : rgE ps bs os qs = 0) : ∀ p ∈ qs.map ivQ, IwS p LB LB := fun p hp => by
  obtain ⟨q, hq, rfl⟩ := List.mem_map.1 hp
  obtain ⟨_, _, hv, hb⟩ := rgE_z h
  exact iwl_of (raw_iw (hw q hq).1 (hw q hq).2 (hv q hq)).1 ((rgBad_f hb).1 _ hp)
theorem rgN_at {t j : Nat} {y : Bk} (hj : (ordM bs)[t]? = some j) (hy : bs[j]? = some y) : rgN ps bs st t = rangeV y (argsW (rgS ps bs st t) y) ps := by
  unfold rgN tkW
  rw [hj]
  simp only [Option.getD_some]
  rw [hy]
theorem rgS_has (he : dgErr ps bs os = 0) (hst : ∀ p ∈ st, IwS p LB LB) (hl : st.length = (delL bs).length) (hb : rgBad ps bs st = false) : ∀ t, t ≤ (ordM bs).length → HasW (rgS ps bs st t) (stdS bs t) := fun t => by
  induction t with
  | zero => intro _; rw [rgS_0]; exact hasW_del hst hl
  | succ t ih =>
    intro ht
    obtain ⟨j, hj⟩ : ∃ j, (ordM bs)[t]? = some j := ⟨_, List.getElem?_eq_getElem ht⟩
    have h := ih (by omega)
    obtain ⟨y, hy, _, T⟩ := tickW_of he hj h
    have TS := T.sm
    rw [← rgN_at hj hy] at TS
    exact hasW_next h hj (iwl_of TS ((rgBad_f hb).2 t ht))
theorem rgV_at (he : dgErr ps bs os = 0) (hst : ∀ p ∈ st, IwS p LB LB) (hl : st.length = (delL bs).length) (hb : rgBad ps bs st = false) {i : Nat} (hi : i < bs.length) : ∃ p, (rgV ps bs st)[i]? = some p ∧ (rgS ps bs st (ordM bs).length)[i]? = some (some p) ∧ IwS p LB LB := by
  obtain ⟨p, hp, hs⟩ := hasW_all he (rgS_has he hst hl hb _ (Nat.le_refl _)) hi
  exact ⟨p, gW_at hp, hp, hs⟩
theorem rgV_len : (rgV ps bs st).length = bs.length := by unfold rgV; rw [gW_len, rgS_len]
end
def clOk (ps : List Prt) (bs : List Bk) (st : List Iq) (k : Nat) : Bool :=
  iIn ((startM bs)[k]?.getD (0, 0), (startM bs)[k]?.getD (0, 0)) (st[k]?.getD iZ) && iIn ((rgV ps bs st)[argZ bs ((delL bs)[k]?.getD 0)]?.getD iZ) (st[k]?.getD iZ)
def closB (ps : List Prt) (bs : List Bk) (st : List Iq) : Bool := (List.range (delL bs).length).all (clOk ps bs st)
theorem clos_no {ps : List Prt} {bs : List Bk} {st : List Iq} {k : Nat} (hk : k < (delL bs).length) (h : clOk ps bs st k = false) : closB ps bs st = false := by
  unfold closB
  rw [List.all_eq_false]
  exact ⟨k, List.mem_range.2 hk, by rw [h]; decide⟩
theorem clos_yes {ps : List Prt} {bs : List Bk} {st : List Iq} (h : ∀ k, k < (delL bs).length → clOk ps bs st k = true) : closB ps bs st = true := List.all_eq_true.2 fun k hk => h k (List.mem_range.1 hk)
theorem clOk_at {ps : List Prt} {bs : List Bk} {st : List Iq} {k i b : Nat} {y : Bk} {a r : Iq} (hi : (delL bs)[k]? = some i) (hy : bs[i]? = some y) (ha : y.args[0]? = some (b : Int)) (hs : st[k]? = some a) (hr : (rgV ps bs st)[b]? = some r) : clOk ps bs st k = (iIn (dyShift y.vn 0 y.ve, dyShift y.vn 0 y.ve) a && iIn r a) := by
  unfold clOk
  rw [start_at hi hy, hs, hi, Option.getD_some, Option.getD_some, Option.getD_some, argZ_at hy ha, hr, Option.getD_some]
def clE (ps : List Prt) (bs : List Bk) (os : List Int) (qs : List (Rv × Rv)) : Bool := if rgE ps bs os qs = 0 then closB ps bs (qs.map ivQ) else false
abbrev pw (k : Int) : Pq := dyShift 1 0 k
theorem pw_sm {k : Int} {n : Nat} (h0 : -(n : Int) ≤ k) (h1 : k ≤ n) (hn : n ≤ 65536) : Sm (pw k) (n + 1) n := by
  unfold pw dyShift
  split
  · exact (Sm.mk_nf (m := 1) (n := n + 1) (d := n) (p := 0 + (-(max (-65536) (min k 65536))).toNat) (by omega) (by omega) (Nat.one_lt_two_pow (by omega)))
  · refine (Sm.mk_nf (n := n + 1) (d := n) (p := 0) (by omega) (by omega) ?_)
    rw [Int.one_mul, Int.natAbs_pow]
    exact Nat.pow_lt_pow_right (by decide) (by omega)
theorem pw_gv {k : Int} (h0 : -65536 ≤ k) (h1 : k ≤ 65536) : gv (pw k) = 2 ^ (65536 + k).toNat := by
  by_cases hk : 0 ≤ k
  · have := gv_shiftU (p := (1, 0)) (n := k.toNat) (Nat.zero_le _) (by omega)
    rw [show ((k.toNat : Nat) : Int) = k by omega, gv_int, Int.one_mul, ← Int.pow_add] at this
    rw [show gv (pw k) = _ from this]
    congr 1
    show 65536 + k.toNat = _
    omega
  · have := gv_shiftD (p := (1, 0)) (n := (-k).toNat) (by show 0 + (-k).toNat ≤ 65536; omega) (by omega)
    rw [show (-(((-k).toNat : Nat) : Int)) = k by omega, gv_int, Int.one_mul] at this
    refine Int.eq_of_mul_eq_mul_right (Int.ne_of_gt (two_pos (-k).toNat)) ?_
    rw [this, ← Int.pow_add]
    congr 1
    show 65536 = _
    omega
def upK (x : Pq) : Int := (bitsN x.1.natAbs : Int) - 1 - x.2
def upP (x : Pq) : Pq := if x.1 = 0 then x else if x.1 < 0 then (if upK x < -30 then (0, 0) else qNeg (pw (upK x))) else pw (max (if qCmp (pw (upK x)) x < 0 then upK x + 1 else upK x) (-30))
theorem rgclosed_cv (t : Bool) {ps : List Prt} {bs : List Bk} {os : List Int} (hl : DgLen ps bs os) (qs : List (Rv × Rv)) (hw : ∀ q ∈ qs, RvL q.1 ∧ RvL q.2) (hrl : qs.length ≤ 1000000) : CV Tryz.prog TabAt 13 [aDg t ps bs os, .one (rowV qs)] [aB (clE ps bs os qs), aE (rgE ps bs os qs)] := by
  refine cvz Tryz.func13 Tryz.ntmps13 ?_
  have EV := rgeval_cv t hl qs hw hrl
  have DL := (delays_cv t hl (ps := ps) (bs := bs) (os := os)).cv
  have hnl := natI_len (delL bs)
  have hl2 := hl.l2
  have hdb := delL_le bs
  by_cases hE : rgE ps bs os qs = 0
  case neg =>
    rw [okQ_n hE] at EV
    have hc : clE ps bs os qs = false := if_neg hE
    rw [hc]
    repeat' (with_reducible first | apply qa | apply qb | apply qc | apply qd | apply qe | apply qf | apply qg | apply qh | apply qi | apply qj | apply qk | apply ql rfl | apply qm rfl | apply qn rfl | apply Je | (refine Tx 0 ?_; refine Jn xBo ?_; refine Ja ?_; refine Ja ?_) | (refine Tx 1 ?_; refine Jo (xLa tk_Diagram) ?_; refine Jm ?_; refine Jo (xCl Tryz.func12 (EV)) ?_; refine Jo xMt ?_; refine Jo xEx ?_; refine Jo xEx ?_; refine Ja ?_; refine Ja ?_) | (refine Tx 2 ?_; refine Jm ?_; refine Jo (xNE ti_error) ?_) | (refine Tx 3 ?_; refine Jm ?_; refine Ja ?_; refine Ja ?_))
    exact ret_q rfl (.cons_ (rv_b rfl (rfl)) (.cons_ (rv_e rfl rfl) .nil_))
  have hc : clE ps bs os qs = closB ps bs (qs.map ivQ) := if_pos hE
  rw [hc]
  obtain ⟨h0, hL, hv, hb⟩ := rgE_z hE
  have hiw := qs_iw hw hE
  rw [okQ_z hE, hE] at EV
  rw [if_pos h0, h0] at DL
  rw [hE]
  have hsl : (qs.map ivQ).length = (delL bs).length := by rw [List.length_map]; exact hL
  have hvl : (rgV ps bs (qs.map ivQ)).length = bs.length := rgV_len
  repeat' (with_reducible first | apply qa | apply qb | apply qc | apply qd | apply qe | apply qf | apply qg | apply qh | apply qi | apply qj | apply qk | apply ql rfl | apply qm rfl | apply qn rfl | apply Je | (refine Tx 0 ?_; refine Jn xBo ?_; refine Ja ?_; refine Ja ?_) | (refine Tx 1 ?_; refine Jo (xLa tk_Diagram) ?_; refine Jm ?_; refine Jo (xCl Tryz.func12 (EV)) ?_; refine Jo xMt ?_; refine Jo xEx ?_; refine Jo xEx ?_; refine Ja ?_; refine Ja ?_) | (refine Tx 2 ?_; refine Jm ?_; refine Jo (xNE ti_error) ?_) | (refine Tx 4 ?_; refine Jo (xLa tk_Diagram) ?_; refine Jo (xCl Tryz.func41 (DL)) ?_; refine Jo xMt ?_; refine Jo xEx ?_; refine Jo xEx ?_; refine Ja ?_; refine Ja ?_) | (refine Tx 5 ?_; refine Jm ?_; refine Jo (xNE ti_error) ?_) | (refine Tx 7 ?_; refine Jm ?_; refine Jo (xLn ts_s_int) ?_; refine Jm ?_))
  refine cw_wk (F' := ofL [(1, vd (rowV qs)), (2, vr 0), (6, vd (.row false 6 (rgV ps bs (qs.map ivQ)).length (flatD (dIw false) (rgV ps bs (qs.map ivQ))))), (29, vd (rowI false (natI (delL bs)))), (30, vi ((delL bs).length)), (31, vi ((0 : Nat)))]) (H' := [.box 26 [.d (rowP t ps), .d (rowB t bs), .d (rowI t os)]]) (wk_go _ 1 ?_ ?_ ?_) ?_
  · rfl
  · rw [← hnl]; exact mB rfl rfl
  · exact ⟨bel_lit rfl, trivial⟩
  refine cw_loopW (fun n Fr H => ∃ k : Nat, k ≤ (delL bs).length ∧ n = (delL bs).length - k ∧ (∀ s, s < k → clOk ps bs (qs.map ivQ) s = true) ∧ Fr = ofL [(1, vd (rowV qs)), (2, vr 0), (6, vd (.row false 6 (rgV ps bs (qs.map ivQ)).length (flatD (dIw false) (rgV ps bs (qs.map ivQ))))), (29, vd (rowI false (natI (delL bs)))), (30, vi ((delL bs).length)), (31, vi ((k : Nat)))] ∧ H = [.box 26 [.d (rowP t ps), .d (rowB t bs), .d (rowI t os)]]) (n0 := (delL bs).length) ⟨0, Nat.zero_le _, rfl, (fun s hs => absurd hs (Nat.not_lt_zero s)), rfl, rfl⟩ ?_
  rintro n Fr H ⟨k, hk, rfl, hcl, rfl, rfl⟩
  by_cases hlt : k < (delL bs).length
  case pos =>
    obtain ⟨i, hi⟩ : ∃ i, (delL bs)[k]? = some i := ⟨_, List.getElem?_eq_getElem hlt⟩
    have hid := del_at hi
    have hil := hid.1
    obtain ⟨y, hy⟩ : ∃ y, bs[i]? = some y := ⟨_, List.getElem?_eq_getElem hil⟩
    have hk2 := hid.2
    rw [kind_at hy] at hk2
    have hsc := acc_sc h0 hy (by unfold valU; rw [hk2]; rfl)
    have NU := rgnum_cv y.vn y.ve hsc
    obtain ⟨b, hA0, hbl⟩ := del_arg h0 hy hk2
    obtain ⟨r, hr, _, hrs⟩ := rgV_at h0 hiw hsl hb hbl
    have hal := (List.getElem?_eq_some_iff.1 hA0).1
    obtain ⟨q, hq⟩ : ∃ q, qs[k]? = some q := ⟨_, List.getElem?_eq_getElem (by omega)⟩
    have hqm := List.mem_of_getElem? hq
    obtain ⟨_, hdy, _, _⟩ := raw_iw (hw q hqm).1 (hw q hqm).2 (hv q hqm)
    have hst : (qs.map ivQ)[k]? = some (ivQ q) := by rw [List.getElem?_map, hq]; rfl
    have hra := iv_at hq
    rw [hdy] at hra
    have hqs := hiw _ (List.mem_of_getElem? hst)
    have hck := clOk_at hi hy hA0 hst hr
    have CO := picontains_cv (ivQ q) (dyShift y.vn 0 y.ve) (hqs.more (show LB ≤ 20000 by decide) (show LB ≤ 20000 by decide)) ((sc_lb hsc).more (show LB ≤ 20000 by decide) (show LB ≤ 20000 by decide))
    have IN := piinside_cv r (ivQ q) (hrs.more (show LB ≤ 20000 by decide) (show LB ≤ 20000 by decide)) (hqs.more (show LB ≤ 20000 by decide) (show LB ≤ 20000 by decide))
    cases c1 : iIn (dyShift y.vn 0 y.ve, dyShift y.vn 0 y.ve) (ivQ q)
    case false =>
      rw [c1] at CO
      rw [c1, Bool.false_and] at hck
      rw [clos_no hlt hck]
      repeat' (with_reducible first | apply qa | apply qb | apply qc | apply qd | apply qe | apply qf | apply qg | apply qh | apply qi | apply qj | apply qk | apply ql rfl | apply qm rfl | apply qn rfl | apply Je | (refine Tx 8 ?_; refine Jo xLt ?_) | (refine Tx 9 ?_; refine Jm ?_; refine Jo (by first | exact xIr ts_s_int (int_at (natI_at hi)) | exact xIr ts_s_int (hra)) ?_; refine Jo (xLd tk_int) ?_; refine Ja ?_; refine Ja ?_) | (refine Tx 10 ?_; refine Jo (xFa tf_Diagram1 tk_s_Block) ?_; refine Jo (xLd tk_s_Block) ?_; refine Jm ?_; refine Jo (by first | exact xIr ts_s_Block (bk_at hy) | exact xIr ts_s_Block (hra)) ?_; refine Jo (xLa tk_Block) ?_; refine Jn (xAl tz_Block) ?_; refine Js (xSk tk_Block) ?_) | (refine cw_any (id := 11) mixed (by kernel_rfl) ?_; refine Km ?_; refine Km ?_; refine Ko (xIr ts_s_Interval (hra)) ?_; refine Ko (xLa tk_Interval) ?_; refine Ko (xFa tf_Block2 tk_Scalar) ?_; refine Ko (xLa tk_Scalar) ?_; refine Ko (xCl Tryz.func47 (NU)) ?_; refine Ko (xCl Tryz.func37 (CO)) ?_; refine Ko (by first | exact xNt | exact xNg) ?_; refine Km ?_; (first | iterate 13 refine Kd ?_ | (refine Ky xM1 ?_; refine Ky (xFa tf_Block1 tk_s_int) ?_; refine Ky (xLd tk_s_int) ?_; refine Ky (by first | exact xIr ts_s_int (int_at hA0) | exact xIr ts_s_int (hra)) ?_; refine Ky (xLd tk_int) ?_; refine Ky (by first | exact xIr ts_s_Interval (iw_at hr) | exact xIr ts_s_Interval (hra)) ?_; refine Ky (xLa tk_Interval) ?_; refine Ky xM1 ?_; refine Ky xM1 ?_; refine Ky (xIr ts_s_Interval (hra)) ?_; refine Ky (xLa tk_Interval) ?_; refine Ky (xCl Tryz.func25 (IN)) ?_; refine Ky (by first | exact xNt | exact xNg) ?_)); refine Ko xPk ?_; refine Ke ?_) | (refine Tx 12 ?_; refine Ja ?_; refine Ja ?_))
      exact ret_q rfl (.cons_ (rv_b rfl (rfl)) (.cons_ (rv_e0 rfl rfl) .nil_))
    case true =>
      rw [c1] at CO
      rw [c1, Bool.true_and] at hck
      cases c2 : iIn r (ivQ q)
      case false =>
        rw [c2] at IN hck
        rw [clos_no hlt hck]
        repeat' (with_reducible first | apply qa | apply qb | apply qc | apply qd | apply qe | apply qf | apply qg | apply qh | apply qi | apply qj | apply qk | apply ql rfl | apply qm rfl | apply qn rfl | apply Je | (refine Tx 8 ?_; refine Jo xLt ?_) | (refine Tx 9 ?_; refine Jm ?_; refine Jo (by first | exact xIr ts_s_int (int_at (natI_at hi)) | exact xIr ts_s_int (hra)) ?_; refine Jo (xLd tk_int) ?_; refine Ja ?_; refine Ja ?_) | (refine Tx 10 ?_; refine Jo (xFa tf_Diagram1 tk_s_Block) ?_; refine Jo (xLd tk_s_Block) ?_; refine Jm ?_; refine Jo (by first | exact xIr ts_s_Block (bk_at hy) | exact xIr ts_s_Block (hra)) ?_; refine Jo (xLa tk_Block) ?_; refine Jn (xAl tz_Block) ?_; refine Js (xSk tk_Block) ?_) | (refine cw_any (id := 11) mixed (by kernel_rfl) ?_; refine Km ?_; refine Km ?_; refine Ko (xIr ts_s_Interval (hra)) ?_; refine Ko (xLa tk_Interval) ?_; refine Ko (xFa tf_Block2 tk_Scalar) ?_; refine Ko (xLa tk_Scalar) ?_; refine Ko (xCl Tryz.func47 (NU)) ?_; refine Ko (xCl Tryz.func37 (CO)) ?_; refine Ko (by first | exact xNt | exact xNg) ?_; refine Km ?_; (first | iterate 13 refine Kd ?_ | (refine Ky xM1 ?_; refine Ky (xFa tf_Block1 tk_s_int) ?_; refine Ky (xLd tk_s_int) ?_; refine Ky (by first | exact xIr ts_s_int (int_at hA0) | exact xIr ts_s_int (hra)) ?_; refine Ky (xLd tk_int) ?_; refine Ky (by first | exact xIr ts_s_Interval (iw_at hr) | exact xIr ts_s_Interval (hra)) ?_; refine Ky (xLa tk_Interval) ?_; refine Ky xM1 ?_; refine Ky xM1 ?_; refine Ky (xIr ts_s_Interval (hra)) ?_; refine Ky (xLa tk_Interval) ?_; refine Ky (xCl Tryz.func25 (IN)) ?_; refine Ky (by first | exact xNt | exact xNg) ?_)); refine Ko xPk ?_; refine Ke ?_) | (refine Tx 12 ?_; refine Ja ?_; refine Ja ?_))
        exact ret_q rfl (.cons_ (rv_b rfl (rfl)) (.cons_ (rv_e0 rfl rfl) .nil_))
      case true =>
        rw [c2] at IN hck
        repeat' (with_reducible first | apply qa | apply qb | apply qc | apply qd | apply qe | apply qf | apply qg | apply qh | apply qi | apply qj | apply qk | apply ql rfl | apply qm rfl | apply qn rfl | apply Je | (refine Tx 8 ?_; refine Jo xLt ?_) | (refine Tx 9 ?_; refine Jm ?_; refine Jo (by first | exact xIr ts_s_int (int_at (natI_at hi)) | exact xIr ts_s_int (hra)) ?_; refine Jo (xLd tk_int) ?_; refine Ja ?_; refine Ja ?_) | (refine Tx 10 ?_; refine Jo (xFa tf_Diagram1 tk_s_Block) ?_; refine Jo (xLd tk_s_Block) ?_; refine Jm ?_; refine Jo (by first | exact xIr ts_s_Block (bk_at hy) | exact xIr ts_s_Block (hra)) ?_; refine Jo (xLa tk_Block) ?_; refine Jn (xAl tz_Block) ?_; refine Js (xSk tk_Block) ?_) | (refine cw_any (id := 11) mixed (by kernel_rfl) ?_; refine Km ?_; refine Km ?_; refine Ko (xIr ts_s_Interval (hra)) ?_; refine Ko (xLa tk_Interval) ?_; refine Ko (xFa tf_Block2 tk_Scalar) ?_; refine Ko (xLa tk_Scalar) ?_; refine Ko (xCl Tryz.func47 (NU)) ?_; refine Ko (xCl Tryz.func37 (CO)) ?_; refine Ko (by first | exact xNt | exact xNg) ?_; refine Km ?_; (first | iterate 13 refine Kd ?_ | (refine Ky xM1 ?_; refine Ky (xFa tf_Block1 tk_s_int) ?_; refine Ky (xLd tk_s_int) ?_; refine Ky (by first | exact xIr ts_s_int (int_at hA0) | exact xIr ts_s_int (hra)) ?_; refine Ky (xLd tk_int) ?_; refine Ky (by first | exact xIr ts_s_Interval (iw_at hr) | exact xIr ts_s_Interval (hra)) ?_; refine Ky (xLa tk_Interval) ?_; refine Ky xM1 ?_; refine Ky xM1 ?_; refine Ky (xIr ts_s_Interval (hra)) ?_; refine Ky (xLa tk_Interval) ?_; refine Ky (xCl Tryz.func25 (IN)) ?_; refine Ky (by first | exact xNt | exact xNg) ?_)); refine Ko xPk ?_; refine Ke ?_) | (refine Tx 13 ?_; refine Jo xAd ?_; refine Jm ?_))
        refine ⟨_, _, wk_go _ 1 ?_ ?_ ?_, _, ?_, k + 1, by omega, rfl, lt_step hcl hck, rfl, rfl⟩
        · rfl
        · exact mB rfl rfl
        · exact ⟨bel_lit rfl, trivial⟩
        · omega
  obtain rfl : k = (delL bs).length := by omega
  rw [clos_yes hcl]
  repeat' (with_reducible first | apply qa | apply qb | apply qc | apply qd | apply qe | apply qf | apply qg | apply qh | apply qi | apply qj | apply qk | apply ql rfl | apply qm rfl | apply qn rfl | apply Je | (refine Tx 8 ?_; refine Jo xLt ?_) | (refine Tx 14 ?_; refine Ja ?_; refine Ja ?_))
  exact ret_q rfl (.cons_ (rv_b rfl (rfl)) (.cons_ (rv_e0 rfl rfl) .nil_))
theorem rgpow_cv (k : Int) (h0 : -65536 ≤ k) (h1 : k ≤ 65536) : CV Tryz.prog TabAt 123 [aI k] [aDy false (pw k).1 (pw k).2] := by
  refine cvz Tryz.func123 Tryz.ntmps123 ?_
  have OF := pdof_cv 1 (by decide) (by decide)
  have SH := pdshift_cv 1 0 k ⟨by decide, fun h => absurd rfl h⟩ (Nat.le_trans (canon_len_le (k := 2) (by decide)) (by decide)) (by omega)
  repeat' (with_reducible first | apply qa | apply qb | apply qc | apply qd | apply qe | apply qf | apply qg | apply qh | apply qi | apply qj | apply qk | apply ql rfl | apply qm rfl | apply qn rfl | apply Je | (refine Tx 0 ?_; refine Jn (xAl tz_Dyadic) ?_) | (refine Tx 1 ?_; refine Jo (xCl Tryz.func100 (OF)) ?_; refine Jm ?_; refine Jo (xCl Tryz.func90 (SH)) ?_; refine Js (xSk tk_Dyadic) ?_))
  exact ret_q rfl (.cons_ (rvW tk_Dyadic rfl) .nil_)
def farB (a : Iq) : Bool := decide (0 < qCmp (iMag a) (pw 40))
theorem rgfar_cv (a : Iq) (h : IwS a 20000 20000) : CV Tryz.prog TabAt 58 [aIw false a] [aB (farB a)] := by
  refine cvz Tryz.func58 Tryz.ntmps58 ?_
  have MG := pimag_cv a h
  have hm := h.abs.s2
  have PW := rgpow_cv 40 (by decide) (by decide)
  have hp := pw_sm (k := 40) (n := 40) (by decide) (by decide) (by decide)
  have CM := (pdcmp_cv (iMag a).1 (iMag a).2 (pw 40).1 (pw 40).2 hm.ok hp.ok (Nat.le_trans (hm.lenN 625 (by decide)) (by decide)) (Nat.le_trans (hp.lenN 2 (by decide)) (by decide)))
  have hf : decide (0 < qCmp (iMag a) (pw 40)) = farB a := rfl
  repeat' (with_reducible first | apply qa | apply qb | apply qc | apply qd | apply qe | apply qf | apply qg | apply qh | apply qi | apply qj | apply qk | apply ql rfl | apply qm rfl | apply qn rfl | apply Je | (refine Tx 0 ?_; refine Jn xBo ?_; refine Ja ?_) | (refine Tx 1 ?_; refine Jo (xLa tk_Interval) ?_; refine Jo (xCl Tryz.func122 (MG)) ?_; refine Jo (xCl Tryz.func123 (PW)) ?_; refine Jo (xCl Tryz.func60 (CM)) ?_; refine Jo (by first | exact ok_gtrD rfl rfl rfl hf | exact xGt) ?_; refine Ja ?_))
  exact ret_q rfl (.cons_ (rv_b rfl rfl) .nil_)
def P2 (j : Nat) : Int := 2 ^ (65506 + j)
theorem P2_le {i j : Nat} (h : P2 i ≤ P2 j) : i ≤ j := Nat.not_lt.1 fun hc => by
  unfold P2 at h
  rw [show 65506 + i = (65506 + j) + ((i - j - 1) + 1) by omega, Int.pow_add, Int.pow_succ] at h
  have q1 := two_pos (65506 + j)
  have q2 := two_pos (i - j - 1)
  have := Int.mul_le_mul_of_nonneg_left (show (2 : Int) ≤ 2 ^ (i - j - 1) * 2 by omega) (Int.le_of_lt q1)
  omega
def inU (z : Int) : Prop := z = 0 ∨ ∃ j : Nat, z = P2 j ∨ z = -P2 j
theorem up_bits {x : Pq} (h0 : x.1 ≠ 0) : 1 ≤ bitsN x.1.natAbs ∧ 2 ^ (bitsN x.1.natAbs - 1) ≤ x.1.natAbs ∧ x.1.natAbs < 2 ^ bitsN x.1.natAbs := by
  have h1 : 1 ≤ bitsN x.1.natAbs := Nat.one_le_iff_ne_zero.2 fun hc => by
    have : bitsN x.1.natAbs ≤ 0 := by omega
    have := bitsN_le.1 this
    omega
  refine ⟨h1, Nat.not_lt.1 fun hc => ?_, bitsN_le.1 (Nat.le_refl _)⟩
  have := bitsN_le.2 hc
  omega
theorem up_gv {x : Pq} {n : Nat} (h : Sm x n n) (hn : n ≤ 65000) (h30 : 30 ≤ n) : Sm (upP x) (n + 2) (n + 1) ∧ gv x ≤ gv (upP x) ∧ inU (gv (upP x)) := by
  by_cases h0 : x.1 = 0
  · exact ⟨by unfold upP; rw [if_pos h0]; exact h.more (by omega) (by omega), by unfold upP; rw [if_pos h0]; exact Int.le_refl _, by unfold upP gv; rw [if_pos h0, h0, Int.zero_mul]; exact .inl rfl⟩
  · obtain ⟨b1, b2, b3⟩ := up_bits h0
    have bn : bitsN x.1.natAbs ≤ n := bitsN_le.2 h.n
    have hd := h.d
    have hk : upK x = (bitsN x.1.natAbs : Int) - 1 - x.2 := rfl
    have ex : gv x = x.1 * 2 ^ (GQ - x.2) := rfl
    have hG : GQ = 65536 := rfl
    have pk : gv (pw (upK x)) = 2 ^ (bitsN x.1.natAbs - 1) * 2 ^ (GQ - x.2) := by rw [pw_gv (by omega) (by omega), ← Int.pow_add]; congr 1; omega
    have pk1 : gv (pw (upK x + 1)) = 2 ^ bitsN x.1.natAbs * 2 ^ (GQ - x.2) := by rw [pw_gv (by omega) (by omega), ← Int.pow_add]; congr 1; omega
    have grid : ∀ k : Int, -30 ≤ k → k ≤ 65536 → gv (pw k) = P2 (k + 30).toNat := fun k k0 k1 => by rw [pw_gv (by omega) k1]; unfold P2; congr 1; omega
    have p0 := two_pos (GQ - x.2)
    have c2 : ((2 ^ (bitsN x.1.natAbs - 1) : Nat) : Int) = 2 ^ (bitsN x.1.natAbs - 1) := Int.natCast_pow ..
    have c3 : ((2 ^ bitsN x.1.natAbs : Nat) : Int) = 2 ^ bitsN x.1.natAbs := Int.natCast_pow ..
    unfold upP
    rw [if_neg h0]
    by_cases h1 : x.1 < 0
    · rw [if_pos h1]
      by_cases h2 : upK x < -30
      · rw [if_pos h2]
        refine ⟨Sm.zero _ _, ?_, by rw [gv_zero]; exact .inl rfl⟩
        rw [gv_zero, ex]
        exact Int.mul_nonpos_of_nonpos_of_nonneg (Int.le_of_lt h1) (Int.le_of_lt p0)
      · rw [if_neg h2]
        refine ⟨((pw_sm (n := n) (by omega) (by omega) (by omega)).neg).more (by omega) (by omega), ?_, ?_⟩
        · rw [gv_neg, pk, ex, ← Int.neg_mul]
          exact Int.mul_le_mul_of_nonneg_right (by omega) (Int.le_of_lt p0)
        · rw [gv_neg, grid _ (by omega) (by omega)]; exact .inr ⟨_, .inr rfl⟩
    · rw [if_neg h1]
      have key : ∀ k' : Int, gv x ≤ gv (pw k') → k' ≤ n → -65536 ≤ k' → Sm (pw (max k' (-30))) (n + 2) (n + 1) ∧ gv x ≤ gv (pw (max k' (-30))) ∧ inU (gv (pw (max k' (-30)))) := fun k' hk' hn' hl' => by
        refine ⟨(pw_sm (n := n) (by omega) (by omega) (by omega)).more (by omega) (by omega), Int.le_trans hk' ?_, .inr ⟨_, .inl (grid _ (by omega) (by omega))⟩⟩
        rw [pw_gv hl' (by omega), pw_gv (by omega) (by omega)]
        have hle : (65536 + k').toNat ≤ (65536 + max k' (-30)).toNat := by omega
        rw [show (65536 + max k' (-30)).toNat = (65536 + k').toNat + ((65536 + max k' (-30)).toNat - (65536 + k').toNat) by omega, Int.pow_add]
        have q1 := two_pos (65536 + k').toNat
        have q2 := two_pos ((65536 + max k' (-30)).toNat - (65536 + k').toNat)
        have := Int.mul_le_mul_of_nonneg_left (show (1 : Int) ≤ 2 ^ ((65536 + max k' (-30)).toNat - (65536 + k').toNat) by omega) (Int.le_of_lt q1)
        rwa [Int.mul_one] at this
      have sk := pw_sm (k := upK x) (n := n) (by omega) (by omega) (by omega)
      by_cases h3 : qCmp (pw (upK x)) x < 0
      · rw [if_pos h3]
        refine key _ ?_ (by omega) (by omega)
        rw [pk1, ex]
        exact Int.mul_le_mul_of_nonneg_right (by omega) (Int.le_of_lt p0)
      · rw [if_neg h3]
        exact key _ ((cmp_ge sk.le h.le).1 (Int.not_lt.1 h3)) (by omega) (by omega)
theorem rgup_cv (x : Pq) (h : Sm x 20000 20000) : CV Tryz.prog TabAt 62 [aDy false x.1 x.2] [aDy false (upP x).1 (upP x).2] := by
  refine cvz Tryz.func62 Tryz.ntmps62 ?_
  have hd := h.d
  have hbn : bitsN x.1.natAbs ≤ 20000 := bitsN_le.2 h.n
  have hl : (canon x.1.natAbs).length ≤ 40000 := Nat.le_trans (h.lenN 625 (by decide)) (by decide)
  have SG := pdsign_cv x.1 x.2 h.ok hl
  have BT := pbits_cv x.1 x.2 h.ok hl
  have PW := rgpow_cv (((bitsN x.1.natAbs : Nat) : Int) - 1 - (x.2 : Int)) (by omega) (by omega)
  have sp := pw_sm (k := ((bitsN x.1.natAbs : Nat) : Int) - 1 - (x.2 : Int)) (n := 20001) (by omega) (by omega) (by decide)
  have lp := Nat.le_trans (sp.lenN 626 (by decide)) (show 626 ≤ 40000 by decide)
  by_cases h0 : x.1 = 0
  case pos =>
    rw [show upP x = x from if_pos h0]
    rw [show sgI x.1 = 0 by unfold sgI; (repeat' split) <;> omega] at SG
    repeat' (with_reducible first | apply qa | apply qb | apply qc | apply qd | apply qe | apply qf | apply qg | apply qh | apply qi | apply qj | apply qk | apply ql rfl | apply qm rfl | apply qn rfl | apply Je | (refine Tx 0 ?_; refine Jn xBo ?_; refine Jn (xAl tz_Dyadic) ?_) | (refine Tx 1 ?_; refine Jo (xLa tk_Dyadic) ?_; refine Jo (xCl Tryz.func126 (SG)) ?_; refine Jo xEq ?_) | (refine Tx 2 ?_; refine Jo (xLa tk_Dyadic) ?_; refine Js (xSk tk_Dyadic) ?_))
    exact ret_q rfl (.cons_ (rvW tk_Dyadic rfl) .nil_)
  have hk : upK x = ((bitsN x.1.natAbs : Nat) : Int) - 1 - (x.2 : Int) := rfl
  by_cases h1 : x.1 < 0
  case pos =>
    rw [show sgI x.1 = -1 by unfold sgI; (repeat' split) <;> omega] at SG
    by_cases h2 : ((bitsN x.1.natAbs : Nat) : Int) - 1 - (x.2 : Int) < -30
    case pos =>
      rw [show upP x = (0, 0) by unfold upP; rw [if_neg h0, if_pos h1, if_pos (by omega)], dy_zero]
      repeat' (with_reducible first | apply qa | apply qb | apply qc | apply qd | apply qe | apply qf | apply qg | apply qh | apply qi | apply qj | apply qk | apply ql rfl | apply qm rfl | apply qn rfl | apply Je | (refine Tx 0 ?_; refine Jn xBo ?_; refine Jn (xAl tz_Dyadic) ?_) | (refine Tx 1 ?_; refine Jo (xLa tk_Dyadic) ?_; refine Jo (xCl Tryz.func126 (SG)) ?_; refine Jo xEq ?_) | (refine cw_any (id := 3) mixed (by kernel_rfl) ?_; refine Ko (xLa tk_Dyadic) ?_; refine Ko (xCl Tryz.func95 (BT)) ?_; refine Ko xSb ?_; refine Ko (xFa tf_Dyadic2 tk_int) ?_; refine Ko (xLd tk_int) ?_; refine Ko xSb ?_; refine Ka ?_; refine Ke ?_) | (refine Tx 4 ?_; refine Jo (xLa tk_Dyadic) ?_; refine Jo (xCl Tryz.func126 (SG)) ?_; refine Jo xLt ?_) | (refine Tx 5 ?_; refine Jm ?_; refine Jo xLt ?_) | (refine Tx 6 ?_; refine Jo (by exact ok_build rfl tb_Dyadic rfl rfl) ?_; refine Js (xSk tk_Dyadic) ?_))
      exact ret_q rfl (.cons_ (rv_z tk_Dyadic rfl) .nil_)
    rw [show upP x = qNeg (pw (((bitsN x.1.natAbs : Nat) : Int) - 1 - (x.2 : Int))) by unfold upP; rw [if_neg h0, if_pos h1, if_neg (by omega), hk]]
    have NG := pdneg_cv (pw (((bitsN x.1.natAbs : Nat) : Int) - 1 - (x.2 : Int))).1 (pw (((bitsN x.1.natAbs : Nat) : Int) - 1 - (x.2 : Int))).2 sp.ok lp
    repeat' (with_reducible first | apply qa | apply qb | apply qc | apply qd | apply qe | apply qf | apply qg | apply qh | apply qi | apply qj | apply qk | apply ql rfl | apply qm rfl | apply qn rfl | apply Je | (refine Tx 0 ?_; refine Jn xBo ?_; refine Jn (xAl tz_Dyadic) ?_) | (refine Tx 1 ?_; refine Jo (xLa tk_Dyadic) ?_; refine Jo (xCl Tryz.func126 (SG)) ?_; refine Jo xEq ?_) | (refine cw_any (id := 3) mixed (by kernel_rfl) ?_; refine Ko (xLa tk_Dyadic) ?_; refine Ko (xCl Tryz.func95 (BT)) ?_; refine Ko xSb ?_; refine Ko (xFa tf_Dyadic2 tk_int) ?_; refine Ko (xLd tk_int) ?_; refine Ko xSb ?_; refine Ka ?_; refine Ke ?_) | (refine Tx 4 ?_; refine Jo (xLa tk_Dyadic) ?_; refine Jo (xCl Tryz.func126 (SG)) ?_; refine Jo xLt ?_) | (refine Tx 5 ?_; refine Jm ?_; refine Jo xLt ?_) | (refine Tx 7 ?_; refine Jm ?_; refine Jo (xCl Tryz.func123 (PW)) ?_; refine Jo (xCl Tryz.func61 (NG)) ?_; refine Js (xSk tk_Dyadic) ?_))
    exact ret_q rfl (.cons_ (rvW tk_Dyadic rfl) .nil_)
  rw [show sgI x.1 = 1 by unfold sgI; (repeat' split) <;> omega] at SG
  have CM := pdcmp_cv (pw (((bitsN x.1.natAbs : Nat) : Int) - 1 - (x.2 : Int))).1 (pw (((bitsN x.1.natAbs : Nat) : Int) - 1 - (x.2 : Int))).2 x.1 x.2 sp.ok h.ok lp hl
  by_cases h3 : dyCmp (pw (((bitsN x.1.natAbs : Nat) : Int) - 1 - (x.2 : Int))).1 (pw (((bitsN x.1.natAbs : Nat) : Int) - 1 - (x.2 : Int))).2 x.1 x.2 < 0
  case pos =>
    have PM := rgpow_cv (max (((bitsN x.1.natAbs : Nat) : Int) - 1 - (x.2 : Int) + 1) (-30)) (by omega) (by omega)
    rw [show upP x = pw (max (((bitsN x.1.natAbs : Nat) : Int) - 1 - (x.2 : Int) + 1) (-30)) by unfold upP; rw [if_neg h0, if_neg h1, hk, if_pos h3]]
    repeat' (with_reducible first | apply qa | apply qb | apply qc | apply qd | apply qe | apply qf | apply qg | apply qh | apply qi | apply qj | apply qk | apply ql rfl | apply qm rfl | apply qn rfl | apply Je | (refine Tx 0 ?_; refine Jn xBo ?_; refine Jn (xAl tz_Dyadic) ?_) | (refine Tx 1 ?_; refine Jo (xLa tk_Dyadic) ?_; refine Jo (xCl Tryz.func126 (SG)) ?_; refine Jo xEq ?_) | (refine cw_any (id := 3) mixed (by kernel_rfl) ?_; refine Ko (xLa tk_Dyadic) ?_; refine Ko (xCl Tryz.func95 (BT)) ?_; refine Ko xSb ?_; refine Ko (xFa tf_Dyadic2 tk_int) ?_; refine Ko (xLd tk_int) ?_; refine Ko xSb ?_; refine Ka ?_; refine Ke ?_) | (refine Tx 4 ?_; refine Jo (xLa tk_Dyadic) ?_; refine Jo (xCl Tryz.func126 (SG)) ?_; refine Jo xLt ?_) | (refine cw_any (id := 8) mixed (by kernel_rfl) ?_; refine Km ?_; refine Ko (xCl Tryz.func123 (PW)) ?_; refine Ko (xLa tk_Dyadic) ?_; refine Ko (xCl Tryz.func60 (CM)) ?_; refine Ko xLt ?_; refine Ke ?_) | (refine Tx 9 ?_; refine Jm ?_; refine Jo xAd ?_; refine Ja ?_) | (refine Tx 10 ?_; refine Jm ?_; refine Jo (by exact ok_max2 rfl rfl rfl) ?_; refine Jo (by first | exact xCl Tryz.func123 (PM) | exact xCl Tryz.func123 (PW)) ?_; refine Js (xSk tk_Dyadic) ?_))
    exact ret_q rfl (.cons_ (rvW tk_Dyadic rfl) .nil_)
  case neg =>
    have PM := rgpow_cv (max (((bitsN x.1.natAbs : Nat) : Int) - 1 - (x.2 : Int)) (-30)) (by omega) (by omega)
    rw [show upP x = pw (max (((bitsN x.1.natAbs : Nat) : Int) - 1 - (x.2 : Int)) (-30)) by unfold upP; rw [if_neg h0, if_neg h1, hk, if_neg h3]]
    repeat' (with_reducible first | apply qa | apply qb | apply qc | apply qd | apply qe | apply qf | apply qg | apply qh | apply qi | apply qj | apply qk | apply ql rfl | apply qm rfl | apply qn rfl | apply Je | (refine Tx 0 ?_; refine Jn xBo ?_; refine Jn (xAl tz_Dyadic) ?_) | (refine Tx 1 ?_; refine Jo (xLa tk_Dyadic) ?_; refine Jo (xCl Tryz.func126 (SG)) ?_; refine Jo xEq ?_) | (refine cw_any (id := 3) mixed (by kernel_rfl) ?_; refine Ko (xLa tk_Dyadic) ?_; refine Ko (xCl Tryz.func95 (BT)) ?_; refine Ko xSb ?_; refine Ko (xFa tf_Dyadic2 tk_int) ?_; refine Ko (xLd tk_int) ?_; refine Ko xSb ?_; refine Ka ?_; refine Ke ?_) | (refine Tx 4 ?_; refine Jo (xLa tk_Dyadic) ?_; refine Jo (xCl Tryz.func126 (SG)) ?_; refine Jo xLt ?_) | (refine cw_any (id := 8) mixed (by kernel_rfl) ?_; refine Km ?_; refine Ko (xCl Tryz.func123 (PW)) ?_; refine Ko (xLa tk_Dyadic) ?_; refine Ko (xCl Tryz.func60 (CM)) ?_; refine Ko xLt ?_; refine Ke ?_) | (refine Tx 10 ?_; refine Jm ?_; refine Jo (by exact ok_max2 rfl rfl rfl) ?_; refine Jo (by first | exact xCl Tryz.func123 (PM) | exact xCl Tryz.func123 (PW)) ?_; refine Js (xSk tk_Dyadic) ?_))
    exact ret_q rfl (.cons_ (rvW tk_Dyadic rfl) .nil_)
def UL : List Int := 0 :: ((List.range 71).map P2 ++ (List.range 71).map fun j => -P2 j)
def phi (z : Int) : Nat := UL.countP fun m => decide (m < z)
def psi (z : Int) : Nat := UL.countP fun m => decide (z < m)
theorem UL_len : UL.length = 143 := by unfold UL; rw [List.length_cons, List.length_append, List.length_map, List.length_map, List.length_range]
theorem phi_le (z : Int) : phi z ≤ 143 := by have := List.countP_le_length (p := fun m => decide (m < z)) (l := UL); rw [UL_len] at this; exact this
theorem psi_le (z : Int) : psi z ≤ 143 := by have := List.countP_le_length (p := fun m => decide (z < m)) (l := UL); rw [UL_len] at this; exact this
theorem count_lt {α : Type} {p q : α → Bool} {m : α} (h : ∀ x, p x = true → q x = true) (h1 : p m = false) (h2 : q m = true) : ∀ {l : List α}, m ∈ l → l.countP p < l.countP q
  | [], hm => by cases hm
  | x :: l, hm => by
    have hle : l.countP p ≤ l.countP q := List.countP_mono_left fun y _ hy => h y hy
    rw [List.countP_cons, List.countP_cons]
    rcases List.mem_cons.1 hm with rfl | hm
    · rw [h1, h2]; simp; omega
    · have ih := count_lt h h1 h2 hm
      cases hp : p x with
      | true => rw [h x hp]; omega
      | false => simp; cases q x <;> simp <;> omega
theorem inU_mem {z : Int} (h : inU z) (h1 : -P2 70 ≤ z) (h2 : z ≤ P2 70) : z ∈ UL := by
  unfold UL
  rcases h with rfl | ⟨j, rfl | rfl⟩
  · exact List.mem_cons_self ..
  · have := P2_le h2
    exact List.mem_cons_of_mem _ (List.mem_append_left _ (List.mem_map_of_mem (List.mem_range.2 (by omega))))
  · have := P2_le (i := j) (j := 70) (by omega)
    exact List.mem_cons_of_mem _ (List.mem_append_right _ (List.mem_map_of_mem (f := fun j => -P2 j) (List.mem_range.2 (by omega))))
theorem phi_lt {z z' : Int} (hm : z' ∈ UL) (h : z' < z) : phi z' < phi z := count_lt (p := fun m => decide (m < z')) (q := fun m => decide (m < z)) (m := z') (fun x hx => decide_eq_true (by have := of_decide_eq_true hx; omega)) (decide_eq_false (by omega)) (decide_eq_true h) hm
theorem psi_lt {z z' : Int} (hm : z' ∈ UL) (h : z < z') : psi z' < psi z := count_lt (p := fun m => decide (z' < m)) (q := fun m => decide (z < m)) (m := z') (fun x hx => decide_eq_true (by have := of_decide_eq_true hx; omega)) (decide_eq_false (by omega)) (decide_eq_true h) hm
theorem far_gv {a : Iq} {n d : Nat} (h : IwS a n d) (hf : farB a = false) : -P2 70 ≤ gv a.1 ∧ gv a.1 ≤ P2 70 ∧ -P2 70 ≤ gv a.2 ∧ gv a.2 ≤ P2 70 := by
  have hp := pw_sm (k := 40) (n := 40) (by decide) (by decide) (by decide)
  have h1 := of_decide_eq_false hf
  have h2 := (cmp_le (p := iMag a) (q := pw 40) h.abs.s2.le hp.le).1 (Int.not_lt.1 h1)
  rw [pw_gv (by decide) (by decide), show gv (iMag a) = _ from (iAbs_gv h).2] at h2
  have e : (2 : Int) ^ (65536 + (40 : Int)).toNat = P2 70 := by unfold P2; congr 1
  rw [e] at h2
  omega
theorem floor_sm {p : Pq} {n d den : Nat} (h : Sm p n d) (hd : den ≤ 65536) : Sm (qFloor p den) n den := by
  unfold qFloor dyFloor
  split
  · exact ⟨h.ok, h.n, by assumption⟩
  · exact Sm.mk_nf (Nat.le_refl _) hd (Nat.lt_of_le_of_lt floor_abs h.n)
theorem round_iw {a : Iq} {n d den : Nat} (h : IwS a n d) (hd : den ≤ 65536) : IwS (iRound a den) n den ∧ gv (iRound a den).1 ≤ gv a.1 ∧ gv a.2 ≤ gv (iRound a den).2 := by
  have f1 := gv_floor (p := a.1) (den := den) h.s1.le hd
  have f2 := gv_floor (p := qNeg a.2) (den := den) h.s2.neg.le hd
  rw [gv_neg] at f2
  have g1 : gv (iRound a den).1 ≤ gv a.1 := f1.1
  have g2 : gv a.2 ≤ gv (iRound a den).2 := by
    show _ ≤ gv (qNeg (qFloor (qNeg a.2) den))
    rw [gv_neg]
    have f3 : gv (qFloor (qNeg a.2) den) ≤ -gv a.2 := f2.1
    omega
  exact ⟨⟨floor_sm h.s1 hd, (floor_sm h.s2.neg hd).neg, by have := h.le; omega⟩, g1, g2⟩
def rndI (inv r : Iq) : Iq := iRound (iHull inv r) 64
def loC (inv r : Iq) : Bool := decide (¬ (rndI inv r).1 = inv.1)
def hiC (inv r : Iq) : Bool := decide (¬ (rndI inv r).2 = inv.2)
def stepI (w : Bool) (inv r : Iq) : Iq := (if (w && loC inv r) = true then qNeg (upP (qNeg (rndI inv r).1)) else (rndI inv r).1, if (w && hiC inv r) = true then upP (rndI inv r).2 else (rndI inv r).2)
theorem hull_gv {a b : Iq} {n d : Nat} (h : IwS a n d) (k : IwS b n d) : gv (iHull a b).1 = min (gv a.1) (gv b.1) ∧ gv (iHull a b).2 = max (gv a.2) (gv b.2) := by
  obtain ⟨e1, e2, e3⟩ := spanL_four h.s1 h.s2 k.s1 k.s2
  have h1 := h.le
  have h2 := k.le
  exact ⟨by show gv (spanL [a.1, a.2, b.1, b.2]).1 = _; rw [e1]; omega, by show gv (spanL [a.1, a.2, b.1, b.2]).2 = _; rw [e2]; omega⟩
theorem rnd_iw {a r : Iq} (h : IwS a LB LB) (k : IwS r LB LB) : IwS (rndI a r) LB 64 ∧ gv (rndI a r).1 ≤ gv a.1 ∧ gv (rndI a r).1 ≤ gv r.1 ∧ gv a.2 ≤ gv (rndI a r).2 ∧ gv r.2 ≤ gv (rndI a r).2 := by
  obtain ⟨e1, e2⟩ := hull_gv h k
  obtain ⟨s, r1, r2⟩ := round_iw (h.hull k) (den := 64) (by decide)
  exact ⟨s, by show gv (iRound (iHull a r) 64).1 ≤ _; omega, by show gv (iRound (iHull a r) 64).1 ≤ _; omega, by show _ ≤ gv (iRound (iHull a r) 64).2; omega, by show _ ≤ gv (iRound (iHull a r) 64).2; omega⟩
theorem step_up {p : Pq} (h : Sm p LB 64) : Sm (upP p) 20000 20000 ∧ gv p ≤ gv (upP p) ∧ inU (gv (upP p)) := by
  obtain ⟨h1, h2, h3⟩ := up_gv (h.more (Nat.le_refl LB) (show 64 ≤ LB by decide)) (by decide) (by decide)
  exact ⟨h1.more (by decide) (by decide), h2, h3⟩
theorem step_iw {w : Bool} {a r : Iq} (h : IwS a LB LB) (k : IwS r LB LB) : IwS (stepI w a r) 20000 20000 ∧ gv (stepI w a r).1 ≤ gv a.1 ∧ gv a.2 ≤ gv (stepI w a r).2 ∧
    (w = true → ((loC a r = false ∧ (stepI w a r).1 = a.1) ∨ (gv (stepI w a r).1 < gv a.1 ∧ inU (gv (stepI w a r).1))) ∧ ((hiC a r = false ∧ (stepI w a r).2 = a.2) ∨ (gv a.2 < gv (stepI w a r).2 ∧ inU (gv (stepI w a r).2)))) := by
  obtain ⟨s, r1, r2, r3, r4⟩ := rnd_iw h k
  have hh := h.le
  obtain ⟨u1, u2, u3⟩ : Sm (upP (qNeg (rndI a r).1)) 20000 20000 ∧ gv (qNeg (rndI a r).1) ≤ gv (upP (qNeg (rndI a r).1)) ∧ inU (gv (upP (qNeg (rndI a r).1))) := step_up s.s1.neg
  obtain ⟨v1, v2, v3⟩ := step_up s.s2
  rw [show gv (qNeg (rndI a r).1) = -gv (rndI a r).1 from gv_neg _] at u2
  have q1 : Sm (stepI w a r).1 20000 20000 ∧ gv (stepI w a r).1 ≤ gv a.1 ∧ (w = true → ((loC a r = false ∧ (stepI w a r).1 = a.1) ∨ (gv (stepI w a r).1 < gv a.1 ∧ inU (gv (stepI w a r).1)))) := by
    show Sm (if (w && loC a r) = true then _ else _) _ _ ∧ gv (if (w && loC a r) = true then _ else _) ≤ _ ∧ (w = true → ((_ ∧ (if (w && loC a r) = true then _ else _) = _) ∨ (gv (if (w && loC a r) = true then _ else _) < _ ∧ inU (gv (if (w && loC a r) = true then _ else _)))))
    by_cases hc : (w && loC a r) = true
    · rw [if_pos hc]
      rw [Bool.and_eq_true] at hc
      have hne : ¬ (rndI a r).1 = a.1 := of_decide_eq_true hc.2
      have hlt : gv (rndI a r).1 < gv a.1 := Int.lt_iff_le_and_ne.2 ⟨r1, fun e => hne (gv_inj s.s1.ok h.s1.ok e)⟩
      rw [gv_neg]
      refine ⟨u1.neg, by omega, fun _ => .inr ⟨by omega, ?_⟩⟩
      rcases u3 with e | ⟨j, e | e⟩
      · exact .inl (by omega)
      · exact .inr ⟨j, .inr (by omega)⟩
      · exact .inr ⟨j, .inl (by omega)⟩
    · rw [if_neg hc]
      refine ⟨s.s1.more (by decide) (by decide), r1, fun hw => .inl ?_⟩
      rw [hw, Bool.true_and, Bool.not_eq_true] at hc
      exact ⟨hc, Classical.byContradiction fun hn => by rw [show loC a r = true from decide_eq_true hn] at hc; cases hc⟩
  have q2 : Sm (stepI w a r).2 20000 20000 ∧ gv a.2 ≤ gv (stepI w a r).2 ∧ (w = true → ((hiC a r = false ∧ (stepI w a r).2 = a.2) ∨ (gv a.2 < gv (stepI w a r).2 ∧ inU (gv (stepI w a r).2)))) := by
    show Sm (if (w && hiC a r) = true then _ else _) _ _ ∧ _ ≤ gv (if (w && hiC a r) = true then _ else _) ∧ (w = true → ((_ ∧ (if (w && hiC a r) = true then _ else _) = _) ∨ (_ < gv (if (w && hiC a r) = true then _ else _) ∧ inU (gv (if (w && hiC a r) = true then _ else _)))))
    by_cases hc : (w && hiC a r) = true
    · rw [if_pos hc]
      rw [Bool.and_eq_true] at hc
      have hne : ¬ (rndI a r).2 = a.2 := of_decide_eq_true hc.2
      have hlt : gv a.2 < gv (rndI a r).2 := Int.lt_iff_le_and_ne.2 ⟨r3, fun e => hne (gv_inj h.s2.ok s.s2.ok e).symm⟩
      exact ⟨v1, by omega, fun _ => .inr ⟨by omega, v3⟩⟩
    · rw [if_neg hc]
      refine ⟨s.s2.more (by decide) (by decide), r3, fun hw => .inl ?_⟩
      rw [hw, Bool.true_and, Bool.not_eq_true] at hc
      exact ⟨hc, Classical.byContradiction fun hn => by rw [show hiC a r = true from decide_eq_true hn] at hc; cases hc⟩
  exact ⟨⟨q1.1, q2.1, by have := q1.2.1; have := q2.2.1; omega⟩, q1.2.1, q2.2.1, fun hw => ⟨q1.2.2 hw, q2.2.2 hw⟩⟩
def rgA (ps : List Prt) (bs : List Bk) (l : List Iq) (k : Nat) : Iq := (rgV ps bs l)[argZ bs ((delL bs)[k]?.getD 0)]?.getD iZ
def nxI (ps : List Prt) (bs : List Bk) (w : Bool) (l : List Iq) (k : Nat) : Iq := stepI w (l[k]?.getD iZ) (rgA ps bs l k)
def nextL (ps : List Prt) (bs : List Bk) (w : Bool) (l : List Iq) : List Iq := (List.range (delL bs).length).map (nxI ps bs w l)
def chgB (ps : List Prt) (bs : List Bk) (l : List Iq) (k : Nat) : Bool := loC (l[k]?.getD iZ) (rgA ps bs l k) || hiC (l[k]?.getD iZ) (rgA ps bs l k)
def chgK (ps : List Prt) (bs : List Bk) (l : List Iq) (k : Nat) : Bool := (List.range k).any (chgB ps bs l)
def inferN (ps : List Prt) (bs : List Bk) (rd : Int) : Nat → Nat → List Iq → Option (Int × List Iq)
  | 0, _, _ => none
  | f + 1, r, l => if rgBad ps bs l = true then some (4, []) else if chgK ps bs l (delL bs).length = false then some (0, l)
    else if (nextL ps bs (decide (rd < (r : Int))) l).any farB = true then some (22, []) else inferN ps bs rd f (r + 1) (nextL ps bs (decide (rd < (r : Int))) l)
structure InvL (bs : List Bk) (l : List Iq) : Prop where
  len : l.length = (delL bs).length
  iw : ∀ a ∈ l, IwS a 20000 20000
  far : ∀ a ∈ l, farB a = false
  st : ∀ k, k < (delL bs).length → gv (l[k]?.getD iZ).1 ≤ gv ((startM bs)[k]?.getD (0, 0)) ∧ gv ((startM bs)[k]?.getD (0, 0)) ≤ gv (l[k]?.getD iZ).2
theorem getD_mem {α : Type} {l : List α} {k : Nat} (h : k < l.length) (z : α) : l[k]?.getD z ∈ l := by rw [List.getElem?_eq_getElem h, Option.getD_some]; exact List.getElem_mem h
section
variable {ps : List Prt} {bs : List Bk} {os : List Int} {l : List Iq} {rd : Int}
theorem nextL_len (w : Bool) : (nextL ps bs w l).length = (delL bs).length := by unfold nextL; rw [List.length_map, List.length_range]
theorem nextL_at (w : Bool) {k : Nat} (hk : k < (delL bs).length) : (nextL ps bs w l)[k]? = some (nxI ps bs w l k) := by unfold nextL; rw [List.getElem?_map, List.getElem?_range hk]; rfl
theorem InvL.lb (h : InvL bs l) (hb : rgBad ps bs l = false) : ∀ a ∈ l, IwS a LB LB := fun a ha => iwl_of (h.iw a ha) ((rgBad_f hb).1 a ha)
theorem rgA_iw (he : dgErr ps bs os = 0) (h : InvL bs l) (hb : rgBad ps bs l = false) {k : Nat} (hk : k < (delL bs).length) : IwS (rgA ps bs l k) LB LB := by
  obtain ⟨i, hi⟩ : ∃ i, (delL bs)[k]? = some i := ⟨_, List.getElem?_eq_getElem hk⟩
  have hid := del_at hi
  obtain ⟨y, hy⟩ : ∃ y, bs[i]? = some y := ⟨_, List.getElem?_eq_getElem hid.1⟩
  obtain ⟨b, hA0, hbl⟩ := del_arg he hy (by rw [← kind_at hy]; exact hid.2)
  obtain ⟨r, hr, _, hrs⟩ := rgV_at he (h.lb hb) h.len hb hbl
  unfold rgA
  rw [hi, Option.getD_some, argZ_at hy hA0, hr]
  exact hrs
theorem InvL.next (he : dgErr ps bs os = 0) (h : InvL bs l) (hb : rgBad ps bs l = false) (w : Bool) (hf : (nextL ps bs w l).any farB = false) : InvL bs (nextL ps bs w l) := by
  have key : ∀ k, k < (delL bs).length → IwS (nxI ps bs w l k) 20000 20000 ∧ gv (nxI ps bs w l k).1 ≤ gv (l[k]?.getD iZ).1 ∧ gv (l[k]?.getD iZ).2 ≤ gv (nxI ps bs w l k).2 := fun k hk => by
    have := step_iw (w := w) (h.lb hb _ (getD_mem (by rw [h.len]; exact hk) iZ)) (rgA_iw he h hb hk)
    exact ⟨this.1, this.2.1, this.2.2.1⟩
  refine ⟨nextL_len w, fun a ha => ?_, fun a ha => ?_, fun k hk => ?_⟩
  · obtain ⟨k, hk, rfl⟩ := List.mem_map.1 ha
    exact (key k (List.mem_range.1 hk)).1
  · have := List.any_eq_false.1 hf a ha
    rwa [Bool.not_eq_true] at this
  · rw [nextL_at w hk, Option.getD_some]
    obtain ⟨_, k1, k2⟩ := key k hk
    obtain ⟨s1, s2⟩ := h.st k hk
    exact ⟨Int.le_trans k1 s1, Int.le_trans s2 k2⟩
theorem chg_none (h : chgK ps bs l (delL bs).length = false) {k : Nat} (hk : k < (delL bs).length) : loC (l[k]?.getD iZ) (rgA ps bs l k) = false ∧ hiC (l[k]?.getD iZ) (rgA ps bs l k) = false := by
  have := List.any_eq_false.1 h k (List.mem_range.2 hk)
  rw [Bool.not_eq_true] at this
  exact Bool.or_eq_false_iff.1 this
theorem closed_of (he : dgErr ps bs os = 0) (h : InvL bs l) (hb : rgBad ps bs l = false) (hc : chgK ps bs l (delL bs).length = false) : closB ps bs l = true := clos_yes fun k hk => by
  have hl := h.lb hb _ (getD_mem (l := l) (k := k) (by rw [h.len]; exact hk) iZ)
  have hr := rgA_iw he h hb hk
  have hst := start_ok he
  have hs := getD_sm hst.sm k
  obtain ⟨s1, s2⟩ := h.st k hk
  obtain ⟨c1, c2⟩ := chg_none hc hk
  have e1 : (rndI (l[k]?.getD iZ) (rgA ps bs l k)).1 = (l[k]?.getD iZ).1 := Classical.byContradiction fun hn => by rw [show loC _ _ = true from decide_eq_true hn] at c1; cases c1
  have e2 : (rndI (l[k]?.getD iZ) (rgA ps bs l k)).2 = (l[k]?.getD iZ).2 := Classical.byContradiction fun hn => by rw [show hiC _ _ = true from decide_eq_true hn] at c2; cases c2
  obtain ⟨_, _, r2, _, r4⟩ := rnd_iw hl hr
  rw [e1] at r2
  rw [e2] at r4
  show (iIn _ _ && iIn (rgA ps bs l k) _) = true
  rw [iIn_is (IwS.pt hs) hl, iIn_is hr hl, decide_eq_true (show _ ∧ _ from ⟨s1, s2⟩), decide_eq_true (show _ ∧ _ from ⟨r2, r4⟩)]
  rfl
theorem infer_ok (he : dgErr ps bs os = 0) : ∀ (f r : Nat) (l : List Iq) (e : Int) (l' : List Iq), InvL bs l → inferN ps bs rd f r l = some (e, l') → (e = 0 ∧ InvL bs l' ∧ rgBad ps bs l' = false ∧ closB ps bs l' = true) ∨ ((e = 4 ∨ e = 22) ∧ l' = [])
  | 0, r, l, e, l', h, hi => by cases hi
  | f + 1, r, l, e, l', h, hi => by
    unfold inferN at hi
    by_cases h1 : rgBad ps bs l = true
    · rw [if_pos h1] at hi; cases hi; exact .inr ⟨.inl rfl, rfl⟩
    · rw [if_neg h1] at hi
      rw [Bool.not_eq_true] at h1
      by_cases h2 : chgK ps bs l (delL bs).length = false
      · rw [if_pos h2] at hi; cases hi; exact .inl ⟨rfl, h, h1, closed_of he h h1 h2⟩
      · rw [if_neg h2] at hi
        by_cases h3 : (nextL ps bs (decide (rd < (r : Int))) l).any farB = true
        · rw [if_pos h3] at hi; cases hi; exact .inr ⟨.inr rfl, rfl⟩
        · rw [if_neg h3] at hi
          rw [Bool.not_eq_true] at h3
          exact infer_ok he f (r + 1) _ e l' (h.next he h1 _ h3) hi
def mI (a : Iq) : Nat := phi (gv a.1) + psi (gv a.2)
def mL (bs : List Bk) (l : List Iq) : Nat := ((List.range (delL bs).length).map fun k => mI (l[k]?.getD iZ)).sum
theorem sum_le {α : Type} {f : α → Nat} {B : Nat} (h : ∀ k, f k ≤ B) : ∀ L : List α, (L.map f).sum ≤ B * L.length
  | [] => by simp
  | x :: L => by
    have := sum_le h L
    have := h x
    rw [List.map_cons, List.sum_cons, List.length_cons, Nat.mul_succ]
    omega
theorem sum_lt {f g : Nat → Nat} : ∀ {L : List Nat}, (∀ k ∈ L, f k ≤ g k) → ((L.map f).sum ≤ (L.map g).sum) ∧ ((∃ k ∈ L, f k < g k) → (L.map f).sum < (L.map g).sum)
  | [], h => ⟨Nat.le_refl _, fun ⟨k, hk, _⟩ => by cases hk⟩
  | x :: L, h => by
    obtain ⟨i1, i2⟩ := sum_lt (L := L) fun k hk => h k (List.mem_cons_of_mem _ hk)
    have hx := h x (List.mem_cons_self ..)
    rw [List.map_cons, List.map_cons, List.sum_cons, List.sum_cons]
    refine ⟨by omega, fun ⟨k, hk, hlt⟩ => ?_⟩
    rcases List.mem_cons.1 hk with rfl | hk
    · omega
    · have := i2 ⟨k, hk, hlt⟩; omega
theorem mL_le : mL bs l ≤ 286 * (delL bs).length := by
  have := sum_le (f := fun k => mI (l[k]?.getD iZ)) (B := 286) (fun k => by have := phi_le (gv (l[k]?.getD iZ).1); have := psi_le (gv (l[k]?.getD iZ).2); unfold mI; omega) (List.range (delL bs).length)
  rwa [List.length_range] at this
theorem mL_lt (he : dgErr ps bs os = 0) (h : InvL bs l) (hb : rgBad ps bs l = false) (hc : ¬ chgK ps bs l (delL bs).length = false) (hf : (nextL ps bs true l).any farB = false) : mL bs (nextL ps bs true l) < mL bs l := by
  have hn := h.next he hb true hf
  have key : ∀ k, k < (delL bs).length → mI ((nextL ps bs true l)[k]?.getD iZ) ≤ mI (l[k]?.getD iZ) ∧ (chgB ps bs l k = true → mI ((nextL ps bs true l)[k]?.getD iZ) < mI (l[k]?.getD iZ)) := fun k hk => by
    have hm := getD_mem (l := nextL ps bs true l) (k := k) (by rw [hn.len]; exact hk) iZ
    obtain ⟨f1, f2, f3, f4⟩ := far_gv (hn.iw _ hm) (hn.far _ hm)
    have hs := step_iw (w := true) (h.lb hb _ (getD_mem (by rw [h.len]; exact hk) iZ)) (rgA_iw he h hb hk)
    have e : (nextL ps bs true l)[k]?.getD iZ = stepI true (l[k]?.getD iZ) (rgA ps bs l k) := by rw [nextL_at true hk]; rfl
    rw [e] at f1 f2 f3 f4 ⊢
    obtain ⟨_, _, _, h4⟩ := hs
    obtain ⟨a1, a2⟩ := h4 rfl
    have hcb : chgB ps bs l k = (loC (l[k]?.getD iZ) (rgA ps bs l k) || hiC (l[k]?.getD iZ) (rgA ps bs l k)) := rfl
    have b1 : phi (gv (stepI true (l[k]?.getD iZ) (rgA ps bs l k)).1) ≤ phi (gv (l[k]?.getD iZ).1) ∧ (loC (l[k]?.getD iZ) (rgA ps bs l k) = true → phi (gv (stepI true (l[k]?.getD iZ) (rgA ps bs l k)).1) < phi (gv (l[k]?.getD iZ).1)) := by
      rcases a1 with ⟨c, e⟩ | ⟨c, u⟩
      · rw [e, c]; exact ⟨Nat.le_refl _, fun h => by cases h⟩
      · have := phi_lt (inU_mem u f1 f2) c
        exact ⟨by omega, fun _ => this⟩
    have b2 : psi (gv (stepI true (l[k]?.getD iZ) (rgA ps bs l k)).2) ≤ psi (gv (l[k]?.getD iZ).2) ∧ (hiC (l[k]?.getD iZ) (rgA ps bs l k) = true → psi (gv (stepI true (l[k]?.getD iZ) (rgA ps bs l k)).2) < psi (gv (l[k]?.getD iZ).2)) := by
      rcases a2 with ⟨c, e⟩ | ⟨c, u⟩
      · rw [e, c]; exact ⟨Nat.le_refl _, fun h => by cases h⟩
      · have := psi_lt (inU_mem u f3 f4) c
        exact ⟨by omega, fun _ => this⟩
    unfold mI
    refine ⟨by omega, fun hch => ?_⟩
    rw [hcb, Bool.or_eq_true] at hch
    rcases hch with hch | hch
    · have := b1.2 hch; omega
    · have := b2.2 hch; omega
  rw [Bool.not_eq_false] at hc
  obtain ⟨k, hk, hck⟩ := List.any_eq_true.1 hc
  exact (sum_lt fun k hk => (key k (List.mem_range.1 hk)).1).2 ⟨k, hk, (key k (List.mem_range.1 hk)).2 hck⟩
theorem infer_wide (he : dgErr ps bs os = 0) : ∀ (f r : Nat) (l : List Iq), InvL bs l → rd < (r : Int) → mL bs l < f → ∃ res, inferN ps bs rd f r l = some res
  | 0, r, l, h, hr, hm => absurd hm (Nat.not_lt_zero _)
  | f + 1, r, l, h, hr, hm => by
    unfold inferN
    by_cases h1 : rgBad ps bs l = true
    · rw [if_pos h1]; exact ⟨_, rfl⟩
    · rw [if_neg h1]
      rw [Bool.not_eq_true] at h1
      by_cases h2 : chgK ps bs l (delL bs).length = false
      · rw [if_pos h2]; exact ⟨_, rfl⟩
      · rw [if_neg h2, decide_eq_true hr]
        by_cases h3 : (nextL ps bs true l).any farB = true
        · rw [if_pos h3]; exact ⟨_, rfl⟩
        · rw [if_neg h3]
          rw [Bool.not_eq_true] at h3
          have := mL_lt he h h1 h2 h3
          exact infer_wide he f (r + 1) _ (h.next he h1 _ h3) (by omega) (by omega)
theorem infer_ends (he : dgErr ps bs os = 0) : ∀ (d f r : Nat) (l : List Iq), InvL bs l → rd < (r : Int) + d → d + 286 * (delL bs).length < f → ∃ res, inferN ps bs rd f r l = some res
  | 0, f, r, l, h, hr, hf => infer_wide he f r l h (by omega) (by have := mL_le (bs := bs) (l := l); omega)
  | d + 1, 0, r, l, h, hr, hf => absurd hf (Nat.not_lt_zero _)
  | d + 1, f + 1, r, l, h, hr, hf => by
    unfold inferN
    by_cases h1 : rgBad ps bs l = true
    · rw [if_pos h1]; exact ⟨_, rfl⟩
    · rw [if_neg h1]
      rw [Bool.not_eq_true] at h1
      by_cases h2 : chgK ps bs l (delL bs).length = false
      · rw [if_pos h2]; exact ⟨_, rfl⟩
      · rw [if_neg h2]
        by_cases h3 : (nextL ps bs (decide (rd < (r : Int))) l).any farB = true
        · rw [if_pos h3]; exact ⟨_, rfl⟩
        · rw [if_neg h3]
          rw [Bool.not_eq_true] at h3
          exact infer_ends he d f (r + 1) _ (h.next he h1 _ h3) (by omega) (by omega)
def startI (bs : List Bk) : List Iq := (startM bs).map fun p => (p, p)
theorem startI_inv (he : dgErr ps bs os = 0) (hf : (startI bs).any farB = false) : InvL bs (startI bs) := by
  have hst := start_ok he
  refine ⟨by unfold startI; rw [List.length_map]; exact hst.len, fun a ha => ?_, fun a ha => ?_, fun k hk => ?_⟩
  · obtain ⟨p, hp, rfl⟩ := List.mem_map.1 ha
    exact (IwS.pt (hst.sm p hp)).more (by decide) (by decide)
  · have := List.any_eq_false.1 hf a ha
    rwa [Bool.not_eq_true] at this
  · obtain ⟨p, hp⟩ : ∃ p, (startM bs)[k]? = some p := ⟨_, List.getElem?_eq_getElem (by rw [hst.len]; exact hk)⟩
    unfold startI
    rw [List.getElem?_map, hp]
    exact ⟨Int.le_refl _, Int.le_refl _⟩
end
def rvI2 (a : Iq) : Rv × Rv := (rvOf a.1, rvOf a.2)
theorem rowV_of (l : List Iq) : rowV (l.map rvI2) = .row false 6 l.length (flatD (dIw false) l) := by
  unfold rowV flatD
  rw [List.length_map, List.map_map]
  congr 2
  refine List.map_congr_left fun a _ => ?_
  show dRv false (rvOf a.1) ++ dRv false (rvOf a.2) = dIw false a
  rw [rvOf_D, rvOf_D]
  rfl
theorem rvI2_map (l : List Iq) : (l.map rvI2).map ivQ = l := by
  rw [List.map_map]
  refine (List.map_congr_left fun a _ => ?_).trans (List.map_id l)
  show (rvP (rvOf a.1), rvP (rvOf a.2)) = a
  rw [rvOf_P, rvOf_P]
section
variable {ps : List Prt} {bs : List Bk} {os : List Int} {l : List Iq} {rd : Int}
theorem rvI2_L {n d : Nat} (h : ∀ a ∈ l, IwS a n d) (hn : n ≤ 1280000) : ∀ q ∈ l.map rvI2, RvL q.1 ∧ RvL q.2 := fun q hq => by
  obtain ⟨a, ha, rfl⟩ := List.mem_map.1 hq
  exact ⟨rvOf_L (h a ha).s1 hn, rvOf_L (h a ha).s2 hn⟩
theorem rgE_of {n d : Nat} (h0 : dgErr ps bs os = 0) (h : ∀ a ∈ l, IwS a n d) (hl : l.length = (delL bs).length) : rgE ps bs os (l.map rvI2) = if rgBad ps bs l = true then 4 else 0 := by
  rw [rgE4 h0 (by rw [List.length_map]; exact hl) (by rw [Bool.not_eq_false]; exact List.all_eq_true.2 fun q hq => by obtain ⟨a, ha, rfl⟩ := List.mem_map.1 hq; exact iv_of (h a ha)), rvI2_map]
def nxS (ps : List Prt) (bs : List Bk) (w : Bool) (l : List Iq) (k : Nat) : List (Option Iq) := (List.range (delL bs).length).map fun j => if j < k then some (nxI ps bs w l j) else none
theorem nxS_len {w : Bool} {k : Nat} : (nxS ps bs w l k).length = (delL bs).length := by unfold nxS; rw [List.length_map, List.length_range]
theorem nxS_0 {w : Bool} : List.replicate (delL bs).length none = nxS ps bs w l 0 := by
  unfold nxS
  refine List.ext_getElem? fun i => ?_
  rw [List.getElem?_map, List.getElem?_replicate]
  by_cases hi : i < (delL bs).length
  · rw [List.getElem?_range hi, if_pos hi]; rfl
  · rw [List.getElem?_eq_none (by rw [List.length_range]; omega), if_neg hi]; rfl
theorem nxS_set {w : Bool} {k : Nat} (hk : k < (delL bs).length) : (nxS ps bs w l k).set k (some (nxI ps bs w l k)) = nxS ps bs w l (k + 1) := by
  refine List.ext_getElem? fun i => ?_
  rw [List.getElem?_set, nxS_len]
  unfold nxS
  rw [List.getElem?_map, List.getElem?_map]
  by_cases hi : i < (delL bs).length
  · rw [List.getElem?_range hi, Option.map_some, Option.map_some]
    by_cases hik : k = i
    · subst hik
      rw [if_pos rfl, if_pos hk, if_pos (by omega)]
    · rw [if_neg hik]
      by_cases h2 : i < k
      · rw [if_pos h2, if_pos (by omega)]
      · rw [if_neg h2, if_neg (by omega)]
  · rw [List.getElem?_eq_none (by rw [List.length_range]; omega), if_neg (by omega)]; rfl
theorem nxS_all {w : Bool} : kWs (nxS ps bs w l (delL bs).length) = (flatD (dIw false) (nextL ps bs w l)).map C.d := by
  unfold kWs nxS flatD nextL
  rw [List.map_flatten, List.map_map, List.map_map, List.map_map]
  congr 1
  refine List.map_congr_left fun j hj => ?_
  show kW (if j < _ then _ else _) = _
  rw [if_pos (List.mem_range.1 hj)]
  rfl
theorem chgK_next {k i b : Nat} {y : Bk} {a r : Iq} (hi : (delL bs)[k]? = some i) (hy : bs[i]? = some y) (hA : y.args[0]? = some (b : Int)) (ha : l[k]? = some a) (hr : (rgV ps bs l)[b]? = some r) : chgK ps bs l (k + 1) = (chgK ps bs l k || loC a r || hiC a r) ∧ (∀ w, nxI ps bs w l k = stepI w a r) := by
  have e1 : rgA ps bs l k = r := by unfold rgA; rw [hi, Option.getD_some, argZ_at hy hA, hr, Option.getD_some]
  refine ⟨?_, fun w => by unfold nxI; rw [ha, Option.getD_some, e1]⟩
  unfold chgK
  rw [List.range_succ, List.any_append, List.any_cons, List.any_nil, Bool.or_false]
  unfold chgB
  rw [ha, Option.getD_some, e1, Bool.or_assoc]
theorem cmp_ne {p q : Pq} {n d n' d' : Nat} (hp : Sm p n d) (hq : Sm q n' d') : (dyCmp p.1 p.2 q.1 q.2 != 0) = decide (¬ p = q) := by
  rw [Bool.eq_iff_iff, bne_iff_ne, decide_eq_true_eq]
  refine not_congr ((cmp_eq hp.le hq.le).trans ⟨fun h => gv_inj hp.ok hq.ok h, fun h => by rw [h]⟩)
def inferA (ps : List Prt) (bs : List Bk) (rd : Int) (f : Nat) : Option (Int × List Iq) := if (startI bs).any farB = true then some (22, []) else inferN ps bs rd f 1 (startI bs)
theorem flatI_next {l : List Iq} {k : Nat} {p : Iq} (h : l[k]? = some p) : (flatD (dIw false) (l.take k)).map C.d ++ (dIw false p).map C.d = (flatD (dIw false) (l.take (k + 1))).map C.d ∧ (l.take k).length + 1 = (l.take (k + 1)).length ∧ (l.take k).length ≤ k := by
  refine ⟨?_, ?_, by rw [List.length_take]; omega⟩
  · rw [List.take_add_one, h, Option.toList_some, flatD_app, List.map_append]; rfl
  · rw [List.take_add_one, h, List.length_append]; rfl
end
theorem rginfer_cv (t : Bool) {ps : List Prt} {bs : List Bk} {os : List Int} (hl : DgLen ps bs os) (h0 : dgErr ps bs os = 0) (rd : Int) (r0 : 1 ≤ rd) (r1 : rd ≤ 16) (res : Int × List Iq) (f : Nat) (hf : f ≤ 1000000000) (hres : inferA ps bs rd f = some res) : CV Tryz.prog TabAt 20 [aDg t ps bs os, aI rd] [aIws res.2, aE res.1] := by
  refine cvz Tryz.func20 Tryz.ntmps20 ?_
  have SC := pstart_cv t hl (ps := ps) (bs := bs) (os := os)
  have DL := (delays_cv t hl (ps := ps) (bs := bs) (os := os)).cv
  rw [h0, okQ_z rfl] at SC
  rw [if_pos h0, h0] at DL
  unfold aDys at SC
  have hnl := natI_len (delL bs)
  have hl2 := hl.l2
  have hdb := delL_le bs
  have hso := start_ok h0
  have hsl := hso.len
  have hsi : (startI bs).length = (startM bs).length := List.length_map ..
  repeat' (with_reducible first | apply qa | apply qb | apply qc | apply qd | apply qe | apply qf | apply qg | apply qh | apply qi | apply qj | apply qk | apply ql rfl | apply qm rfl | apply qn rfl | apply Je | (refine Tx 0 ?_; refine Jn xBo ?_; refine Ja ?_; refine Ja ?_) | (refine Tx 1 ?_; refine Jo (xLa tk_Diagram) ?_; refine Jo (xCl Tryz.func38 (SC)) ?_; refine Jo xMt ?_; refine Jo xEx ?_; refine Jo xEx ?_; refine Ja ?_; refine Ja ?_) | (refine Tx 2 ?_; refine Jm ?_; refine Jo (xNE ti_error) ?_) | (refine Tx 4 ?_; refine Jm ?_; refine Jo xLt ?_; refine Jm ?_; (first | iterate 2 refine Jd ?_ | (refine Jy xM1 ?_; refine Jy xGt ?_)); refine Jo xPk ?_) | (refine Tx 6 ?_; refine Jo (xLa tk_Diagram) ?_; refine Jo (xCl Tryz.func41 (DL)) ?_; refine Jo xMt ?_; refine Jo xEx ?_; refine Jo xEx ?_; refine Ja ?_; refine Ja ?_) | (refine Tx 7 ?_; refine Jm ?_; refine Jo (xNE ti_error) ?_) | (refine Tx 9 ?_; refine Ja ?_) | (refine Tx 10 ?_; refine Jm ?_; refine Jo (xLn ts_s_Dyadic) ?_; refine Jm ?_))
  refine cw_wk (wk_nil 9 55 6 rfl) ?_
  refine cw_wk (F' := ofL [(1, vd (.val (.int .i64 rd))), (2, vr 0), (8, vd (rowI false (natI (delL bs)))), (9, vo 1 (((startI bs).take 0).length)), (49, vd (.row false 3 (startM bs).length (flatD dyP (startM bs)))), (50, vi ((startM bs).length)), (51, vi ((0 : Nat)))]) (H' := [.box 26 [.d (rowP t ps), .d (rowB t bs), .d (rowI t os)], .row 55 6 ((startI bs).take (0)).length ((flatD (dIw false) ((startI bs).take (0))).map C.d)]) (wk_go _ 2 ?_ ?_ ?_) ?_
  · rfl
  · exact mB rfl rfl
  · exact ⟨bel_lit rfl, bel_D, trivial⟩
  refine cw_loopW (fun n Fr H => ∃ k : Nat, k ≤ (startM bs).length ∧ n = (startM bs).length - k ∧ (∀ p ∈ ((startI bs).take (k)), farB p = false) ∧ Fr = ofL [(1, vd (.val (.int .i64 rd))), (2, vr 0), (8, vd (rowI false (natI (delL bs)))), (9, vo 1 (((startI bs).take k).length)), (49, vd (.row false 3 (startM bs).length (flatD dyP (startM bs)))), (50, vi ((startM bs).length)), (51, vi ((k : Nat)))] ∧ H = [.box 26 [.d (rowP t ps), .d (rowB t bs), .d (rowI t os)], .row 55 6 ((startI bs).take (k)).length ((flatD (dIw false) ((startI bs).take (k))).map C.d)]) (n0 := (startM bs).length) ⟨0, Nat.zero_le _, rfl, (fun p hp => by simp at hp), rfl, rfl⟩ ?_
  rintro n Fr H ⟨k, hk, rfl, hnf, rfl, rfl⟩
  by_cases hlt : k < (startM bs).length
  case pos =>
    obtain ⟨p, hp⟩ : ∃ p, (startM bs)[k]? = some p := ⟨_, List.getElem?_eq_getElem hlt⟩
    have hsm := hso.sm p (List.mem_of_getElem? hp)
    have lp := Nat.le_trans (hsm.lenN 128 (by decide)) (show 128 ≤ 40000 by decide)
    have PT := pipoint_cv p hsm.ok lp
    have FR := rgfar_cv (p, p) ((IwS.pt hsm).more (by decide) (by decide))
    have hsp : (startI bs)[k]? = some (p, p) := by unfold startI; rw [List.getElem?_map, hp]; rfl
    obtain ⟨hap, hap2, hoL⟩ := flatI_next hsp
    cases hf : farB (p, p)
    case true =>
      rw [hf] at FR
      have hany : (startI bs).any farB = true := List.any_eq_true.2 ⟨_, List.mem_of_getElem? hsp, hf⟩
      rw [show inferA ps bs rd f = some (22, []) from if_pos hany] at hres
      cases hres
      repeat' (with_reducible first | apply qa | apply qb | apply qc | apply qd | apply qe | apply qf | apply qg | apply qh | apply qi | apply qj | apply qk | apply ql rfl | apply qm rfl | apply qn rfl | apply Je | (refine Tx 11 ?_; refine Jo xLt ?_) | (refine Tx 12 ?_; refine Jo (xIr ts_s_Dyadic (dy_at hp)) ?_; refine Jo (xLa tk_Dyadic) ?_; refine Jn (xAl tz_Dyadic) ?_; refine Js (xSk tk_Dyadic) ?_) | (refine Tx 13 ?_; refine Jo (xLa tk_Dyadic) ?_; refine Jo (xCl Tryz.func57 (PT)) ?_; refine Jn (xAl tz_Interval) ?_; refine Js (xSk tk_Interval) ?_) | (refine Tx 14 ?_; refine Jo (xLa tk_Interval) ?_; refine Jo (xCl Tryz.func58 (FR)) ?_) | (refine Tx 15 ?_; refine Jo (xMi Tryz.underlying48) ?_; refine Ja ?_; refine Ja ?_))
      exact ret_q rfl (.cons_ (.tmp (.one (cexp_n rfl rfl))) (.cons_ (rv_en rfl (by decide) rfl) .nil_))
    case false =>
      rw [hf] at FR
      repeat' (with_reducible first | apply qa | apply qb | apply qc | apply qd | apply qe | apply qf | apply qg | apply qh | apply qi | apply qj | apply qk | apply ql rfl | apply qm rfl | apply qn rfl | apply Je | (refine Tx 11 ?_; refine Jo xLt ?_) | (refine Tx 12 ?_; refine Jo (xIr ts_s_Dyadic (dy_at hp)) ?_; refine Jo (xLa tk_Dyadic) ?_; refine Jn (xAl tz_Dyadic) ?_; refine Js (xSk tk_Dyadic) ?_) | (refine Tx 13 ?_; refine Jo (xLa tk_Dyadic) ?_; refine Jo (xCl Tryz.func57 (PT)) ?_; refine Jn (xAl tz_Interval) ?_; refine Js (xSk tk_Interval) ?_) | (refine Tx 14 ?_; refine Jo (xLa tk_Interval) ?_; refine Jo (xCl Tryz.func58 (FR)) ?_) | (refine Tx 16 ?_; refine Jm ?_; refine Jo (xLa tk_Interval) ?_; refine Jn (by exact ok_build1 rfl ts_s_Interval tz_Interval rfl rfl (by decide) (by decide)) ?_; refine Jt (by exact to_apD rfl rfl rfl rfl rfl rfl ts_s_Interval tz_Interval (by omega) (by decide) (by decide) rfl hap hap2) ?_; refine Ja ?_) | (refine Tx 17 ?_; refine Jo xAd ?_; refine Jm ?_))
      refine ⟨_, _, wk_go _ 2 ?_ ?_ ?_, _, ?_, k + 1, by omega, rfl, take_all1 hnf hsp hf, rfl, rfl⟩
      · rfl
      · exact mB rfl rfl
      · exact ⟨bel_lit rfl, bel_D, trivial⟩
      · omega
  obtain rfl : k = (startM bs).length := by omega
  clear hlt hk
  have htk : (startI bs).take (startM bs).length = startI bs := by rw [← hsi, List.take_length]
  rw [htk] at hnf ⊢
  have hany : (startI bs).any farB = false := List.any_eq_false.2 fun p hp => by rw [hnf p hp]; decide
  rw [show inferA ps bs rd f = inferN ps bs rd f 1 (startI bs) from if_neg (by rw [hany]; decide)] at hres
  have hI0 := startI_inv h0 hany
  repeat' (with_reducible first | apply qa | apply qb | apply qc | apply qd | apply qe | apply qf | apply qg | apply qh | apply qi | apply qj | apply qk | apply ql rfl | apply qm rfl | apply qn rfl | apply Je | (refine Tx 11 ?_; refine Jo xLt ?_) | (refine Tx 18 ?_; refine Ja ?_))
  refine cw_wk (wk_freeze (ds := flatD (dIw false) (startI bs)) 9 1 rfl rfl) ?_
  refine cw_wk (F' := ofL [(1, vd (.val (.int .i64 rd))), (2, vr 0), (8, vd (rowI false (natI (delL bs)))), (9, vd (.row false 6 (startI bs).length (flatD (dIw false) (startI bs)))), (13, vi ((1 : Nat)))]) (H' := [.box 26 [.d (rowP t ps), .d (rowB t bs), .d (rowI t os)]]) (wk_go _ 1 ?_ ?_ ?_) ?_
  · rfl
  · exact mB rfl rfl
  · exact ⟨bel_lit rfl, trivial⟩
  refine cw_loopW (fun n Fr H => ∃ (r : Nat) (l : List Iq), inferN ps bs rd n r l = some res ∧ InvL bs l ∧ r + n ≤ 1 + f ∧ Fr = ofL [(1, vd (.val (.int .i64 rd))), (2, vr 0), (8, vd (rowI false (natI (delL bs)))), (9, vd (.row false 6 l.length (flatD (dIw false) l))), (13, vi ((r : Nat)))] ∧ H = [.box 26 [.d (rowP t ps), .d (rowB t bs), .d (rowI t os)]]) (n0 := f) ⟨1, _, hres, hI0, Nat.le_refl _, rfl, rfl⟩ ?_
  clear hres hI0 hnf hany htk
  rintro n Fr H ⟨r, l, hres, hI, hrn, rfl, rfl⟩
  cases n
  case zero =>
    cases hres
  rename_i n
  case succ =>
    unfold inferN at hres
    have hll := hI.len
    have EV := rgeval_cv t hl (l.map rvI2) (rvI2_L hI.iw (by decide)) (by rw [List.length_map]; omega)
    rw [rgE_of h0 hI.iw hll, rvI2_map, rowV_of] at EV
    by_cases hb : rgBad ps bs l = true
    case pos =>
      rw [if_pos hb] at hres
      cases hres
      rw [if_pos hb, okQ_n (by decide)] at EV
      repeat' (with_reducible first | apply qa | apply qb | apply qc | apply qd | apply qe | apply qf | apply qg | apply qh | apply qi | apply qj | apply qk | apply ql rfl | apply qm rfl | apply qn rfl | apply Je | (refine Tx 20 ?_; refine Jo (xLa tk_Diagram) ?_; refine Jm ?_; refine Jo (xCl Tryz.func12 (EV)) ?_; refine Jo xMt ?_; refine Jo xEx ?_; refine Jo xEx ?_; refine Ja ?_; refine Ja ?_) | (refine Tx 21 ?_; refine Jm ?_; refine Jo (xNE ti_error) ?_) | (refine Tx 22 ?_; refine Jm ?_; refine Ja ?_; refine Ja ?_))
      exact ret_q rfl (.cons_ (.tmp (.one (cexp_n rfl rfl))) (.cons_ (rv_en rfl (by decide) rfl) .nil_))
    rw [if_neg hb] at hres
    rw [if_neg hb, okQ_z rfl] at EV
    rw [Bool.not_eq_true] at hb
    unfold aIws at EV
    have hlb := hI.lb hb
    have hvl : (rgV ps bs l).length = bs.length := rgV_len
    obtain ⟨w, hwd⟩ : ∃ w, decide (rd < (r : Int)) = w := ⟨_, rfl⟩
    rw [hwd] at hres
    repeat' (with_reducible first | apply qa | apply qb | apply qc | apply qd | apply qe | apply qf | apply qg | apply qh | apply qi | apply qj | apply qk | apply ql rfl | apply qm rfl | apply qn rfl | apply Je | (refine Tx 20 ?_; refine Jo (xLa tk_Diagram) ?_; refine Jm ?_; refine Jo (xCl Tryz.func12 (EV)) ?_; refine Jo xMt ?_; refine Jo xEx ?_; refine Jo xEx ?_; refine Ja ?_; refine Ja ?_) | (refine Tx 21 ?_; refine Jm ?_; refine Jo (xNE ti_error) ?_) | (refine Tx 23 ?_; refine Ja ?_) | (refine Tx 24 ?_; refine Jm ?_; refine Jo (xLn ts_s_Interval) ?_; refine Jn (by first | exact ok_makeIw (n := l.length) rfl rfl rfl ts_s_Interval tz_Interval (by omega) (by decide) | exact ok_makeSlice rfl rfl rfl ts_s_Interval tz_Interval (by omega) (by decide)) ?_; refine Ja ?_) | (refine Tx 25 ?_; refine Jm ?_; refine Jo (xLn ts_s_int) ?_; refine Jm ?_))
    refine cw_wk (F' := ofL [(1, vd (.val (.int .i64 rd))), (2, vr 0), (8, vd (rowI false (natI (delL bs)))), (9, vd (.row false 6 l.length (flatD (dIw false) l))), (13, vi ((r : Nat))), (14, vd (.row false 6 (rgV ps bs l).length (flatD (dIw false) (rgV ps bs l)))), (16, vd (.val (.bool (chgK ps bs l 0)))), (17, vo 1 l.length), (79, vd (rowI false (natI (delL bs)))), (80, vi ((delL bs).length)), (81, vi ((0 : Nat)))]) (H' := [.box 26 [.d (rowP t ps), .d (rowB t bs), .d (rowI t os)], .row 55 6 l.length (kWs (nxS ps bs w l (0)))]) (wk_go _ 2 ?_ ?_ ?_) ?_
    · rw [← nxS_0, ← hll]; rfl
    · rw [← hnl]; exact mB rfl rfl
    · exact ⟨bel_lit rfl, bel_kWs, trivial⟩
    refine cw_loopW (fun n Fr H => ∃ k : Nat, k ≤ (delL bs).length ∧ n = (delL bs).length - k ∧ Fr = ofL [(1, vd (.val (.int .i64 rd))), (2, vr 0), (8, vd (rowI false (natI (delL bs)))), (9, vd (.row false 6 l.length (flatD (dIw false) l))), (13, vi ((r : Nat))), (14, vd (.row false 6 (rgV ps bs l).length (flatD (dIw false) (rgV ps bs l)))), (16, vd (.val (.bool (chgK ps bs l k)))), (17, vo 1 l.length), (79, vd (rowI false (natI (delL bs)))), (80, vi ((delL bs).length)), (81, vi ((k : Nat)))] ∧ H = [.box 26 [.d (rowP t ps), .d (rowB t bs), .d (rowI t os)], .row 55 6 l.length (kWs (nxS ps bs w l (k)))]) (n0 := (delL bs).length) ⟨0, Nat.zero_le _, rfl, rfl, rfl⟩ ?_
    rintro m Fr H ⟨k, hk, rfl, rfl, rfl⟩
    by_cases hlt : k < (delL bs).length
    case pos =>
      obtain ⟨i, hi⟩ : ∃ i, (delL bs)[k]? = some i := ⟨_, List.getElem?_eq_getElem hlt⟩
      have hid := del_at hi
      have hil := hid.1
      obtain ⟨y, hy⟩ : ∃ y, bs[i]? = some y := ⟨_, List.getElem?_eq_getElem hil⟩
      have hk2 := hid.2
      rw [kind_at hy] at hk2
      obtain ⟨b, hA0, hbl⟩ := del_arg h0 hy hk2
      obtain ⟨rr, hr, _, hrs⟩ := rgV_at h0 hlb hll hb hbl
      have hal := (List.getElem?_eq_some_iff.1 hA0).1
      obtain ⟨a, ha⟩ : ∃ a, l[k]? = some a := ⟨_, List.getElem?_eq_getElem (by omega)⟩
      have has := hlb a (List.mem_of_getElem? ha)
      have has2 := has.more (show LB ≤ 20000 by decide) (show LB ≤ 20000 by decide)
      have hrs2 := hrs.more (show LB ≤ 20000 by decide) (show LB ≤ 20000 by decide)
      have HU := pihull_cv a rr has2 hrs2
      have RO : CV Tryz.prog TabAt 59 [aIw false (iHull a rr), aI (64 : Int)] [aIw false (rndI a rr), aE 0] := piround_cv (iHull a rr) 64 (has2.hull hrs2) (by decide)
      obtain ⟨hq, _, _, _, _⟩ := rnd_iw has hrs
      have q1 := hq.s1
      have q2 := hq.s2
      have l1 := Nat.le_trans (q1.lenN 128 (by decide)) (show 128 ≤ 40000 by decide)
      have l2 := Nat.le_trans (q2.lenN 128 (by decide)) (show 128 ≤ 40000 by decide)
      have m1 := Nat.le_trans (has.s1.lenN 128 (by decide)) (show 128 ≤ 40000 by decide)
      have m2 := Nat.le_trans (has.s2.lenN 128 (by decide)) (show 128 ≤ 40000 by decide)
      have C1 := pdcmp_cv (rndI a rr).1.1 (rndI a rr).1.2 a.1.1 a.1.2 q1.ok has.s1.ok l1 m1
      have C2 := pdcmp_cv (rndI a rr).2.1 (rndI a rr).2.2 a.2.1 a.2.2 q2.ok has.s2.ok l2 m2
      have hb1 : (dyCmp (rndI a rr).1.1 (rndI a rr).1.2 a.1.1 a.1.2 != 0) = loC a rr := cmp_ne q1 has.s1
      have hb2 : (dyCmp (rndI a rr).2.1 (rndI a rr).2.2 a.2.1 a.2.2 != 0) = hiC a rr := cmp_ne q2 has.s2
      have NG1 := pdneg_cv (rndI a rr).1.1 (rndI a rr).1.2 q1.ok l1
      obtain ⟨u1, _, _⟩ : Sm (upP (qNeg (rndI a rr).1)) 20000 20000 ∧ gv (qNeg (rndI a rr).1) ≤ gv (upP (qNeg (rndI a rr).1)) ∧ inU (gv (upP (qNeg (rndI a rr).1))) := step_up q1.neg
      have UP1 := rgup_cv (qNeg (rndI a rr).1) (q1.neg.more (by decide) (by decide))
      have NG2 := pdneg_cv (upP (qNeg (rndI a rr).1)).1 (upP (qNeg (rndI a rr).1)).2 u1.ok (Nat.le_trans (u1.lenN 625 (by decide)) (by decide))
      have UP2 := rgup_cv (rndI a rr).2 (q2.more (by decide) (by decide))
      obtain ⟨hck, hnx⟩ := chgK_next hi hy hA0 ha hr
      have tl : k < (nxS ps bs w l k).length := by rw [nxS_len]; exact hlt
      have stV := nxS_set (ps := ps) (bs := bs) (w := w) (l := l) hlt
      rw [hnx w, show stepI w a rr = (if (decide (rd < (r : Int)) && loC a rr) = true then qNeg (upP (qNeg (rndI a rr).1)) else (rndI a rr).1, if (decide (rd < (r : Int)) && hiC a rr) = true then upP (rndI a rr).2 else (rndI a rr).2) from by rw [hwd]; rfl] at stV
      clear hq
      generalize upP (qNeg (rndI a rr).1) = u at *
      generalize upP (rndI a rr).2 = v at *
      generalize rndI a rr = q at *
      repeat' (with_reducible first | apply qa | apply qb | apply qc | apply qd | apply qe | apply qf | apply qg | apply qh | apply qi | apply qj | apply qk | apply ql rfl | apply qm rfl | apply qn rfl | apply Je | (refine Tx 26 ?_; refine Jo xLt ?_) | (refine Tx 27 ?_; refine Jm ?_; refine Jo (by first | exact xIr ts_s_int (int_at (natI_at hi)) | exact xIr ts_s_int (iw_at ha)) ?_; refine Jo (xLd tk_int) ?_; refine Ja ?_; refine Ja ?_) | (refine cw_partE (id := 28) 21 [(21, 19)] mixed (by kernel_rfl) ?_; dsimp only [List.take, List.drop]; refine Km ?_; refine Km ?_; refine Ko (xIr ts_s_Interval (iw_at ha)) ?_; refine Ko (xLa tk_Interval) ?_; refine Km ?_; refine Ko (xFa tf_Diagram1 tk_s_Block) ?_; refine Ko (xLd tk_s_Block) ?_; refine Km ?_; refine Ko (by first | exact xIr ts_s_Block (bk_at hy) | exact xIr ts_s_Block (iw_at ha)) ?_; refine Ko (xFa tf_Block1 tk_s_int) ?_; refine Ko (xLd tk_s_int) ?_; refine Ko (by first | exact xIr ts_s_int (int_at hA0) | exact xIr ts_s_int (iw_at ha)) ?_; refine Ko (xLd tk_int) ?_; refine Ko (by first | exact xIr ts_s_Interval (iw_at hr) | exact xIr ts_s_Interval (iw_at ha)) ?_; refine Ko (xLa tk_Interval) ?_; refine Ko (xCl Tryz.func45 (HU)) ?_; refine Ko (xCl Tryz.func59 (RO)) ?_; refine Ko xMt ?_; refine Ko (by exact ok_exA rfl rfl rfl) ?_; refine Ko xEx ?_; refine Kn (xAl tz_Interval) ?_; refine Ke ?_; refine Js (xSk tk_Interval) ?_; refine Ja ?_) | (refine Tx 29 ?_; refine Jm ?_; refine Jo (xNE ti_error) ?_) | (refine cw_any (id := 31) mixed (by kernel_rfl) ?_; refine Ko (xFa tf_Interval0 tk_Dyadic) ?_; refine Ko (xLa tk_Dyadic) ?_; refine Km ?_; refine Km ?_; refine Ko (xIr ts_s_Interval (iw_at ha)) ?_; refine Ko (xFa tf_Interval0 tk_Dyadic) ?_; refine Ko (xLa tk_Dyadic) ?_; refine Ko (xCl Tryz.func60 (C1)) ?_; refine Ko (by first | exact ok_neqD rfl rfl rfl hb1 | exact xNe) ?_; refine Ko (xFa tf_Interval1 tk_Dyadic) ?_; refine Ko (xLa tk_Dyadic) ?_; refine Km ?_; refine Km ?_; refine Ko (xIr ts_s_Interval (iw_at ha)) ?_; refine Ko (xFa tf_Interval1 tk_Dyadic) ?_; refine Ko (xLa tk_Dyadic) ?_; refine Ko (xCl Tryz.func60 (C2)) ?_; refine Ko (by first | exact ok_neqD rfl rfl rfl hb2 | exact xNe) ?_; refine Ka ?_; refine Ka ?_; refine Ke ?_))
      refine cw_wk (F' := ofL [(1, vd (.val (.int .i64 rd))), (2, vr 0), (8, vd (rowI false (natI (delL bs)))), (9, vd (.row false 6 l.length (flatD (dIw false) l))), (13, vi ((r : Nat))), (14, vd (.row false 6 (rgV ps bs l).length (flatD (dIw false) (rgV ps bs l)))), (16, vd (.val (.bool (chgK ps bs l k)))), (17, vo 1 l.length), (79, vd (rowI false (natI (delL bs)))), (80, vi ((delL bs).length)), (81, vi ((k : Nat))), (18, vi ((k : Nat))), (20, vr 2), (22, vd (.val (.bool (loC a rr)))), (23, vd (.val (.bool (hiC a rr))))]) (H' := [.box 26 [.d (rowP t ps), .d (rowB t bs), .d (rowI t os)], .row 55 6 l.length (kWs (nxS ps bs w l k)), .box 55 ((dIw false q).map C.d)]) (wk_go _ 3 ?_ ?_ ?_) ?_
      · rfl
      · exact mB rfl rfl
      · exact ⟨bel_lit rfl, bel_kWs, bel_D, trivial⟩
      clear hb1 hb2 C1 C2 HU RO m1 m2 SC EV DL
      cases hb1 : loC a rr <;> cases hb2 : hiC a rr <;> cases hc : chgK ps bs l k <;> by_cases hw : rd < (r : Int)
      all_goals
        rw [hb1, hb2] at stV
        simp only [hw, decide_true, decide_false, Bool.true_and, Bool.false_and, Bool.false_eq_true, if_true, if_false] at stV
        skip
        repeat' (with_reducible first | apply qa | apply qb | apply qc | apply qd | apply qe | apply qf | apply qg | apply qh | apply qi | apply qj | apply qk | apply ql rfl | apply qm rfl | apply qn rfl | apply Je | (refine Tx 32 ?_; refine Jm ?_; refine Jm ?_; (first | refine Jd ?_ | refine Jy xM1 ?_); refine Jo xPk ?_; refine Jm ?_; (first | refine Jd ?_ | refine Jy xM1 ?_); refine Jo xPk ?_; refine Ja ?_) | (refine Tx 33 ?_; refine Jm ?_; refine Jm ?_; refine Jo xGt ?_; refine Jm ?_; (first | refine Jd ?_ | refine Jy xM1 ?_); refine Jo xPk ?_) | (refine Tx 34 ?_; refine Jo (xFa tf_Interval0 tk_Dyadic) ?_; refine Jo (xLa tk_Dyadic) ?_; refine Jo (xCl Tryz.func61 (NG1)) ?_; refine Jo (xCl Tryz.func62 (UP1)) ?_; refine Jo (xCl Tryz.func61 (NG2)) ?_; refine Jo (xFa tf_Interval0 tk_Dyadic) ?_; refine Js (xSk tk_Dyadic) ?_) | (refine Tx 35 ?_; refine Jm ?_; refine Jm ?_; refine Jo xGt ?_; refine Jm ?_; (first | refine Jd ?_ | refine Jy xM1 ?_); refine Jo xPk ?_) | (refine Tx 36 ?_; refine Jo (xFa tf_Interval1 tk_Dyadic) ?_; refine Jo (xLa tk_Dyadic) ?_; refine Jo (xCl Tryz.func62 (UP2)) ?_; refine Jo (xFa tf_Interval1 tk_Dyadic) ?_; refine Js (xSk tk_Dyadic) ?_) | (refine Tx 37 ?_; refine Jm ?_; refine Jm ?_; refine Jo (xLa tk_Interval) ?_; refine Jo (xIo (i := k) ts_s_Interval) ?_; refine Js (by first | exact to_stIw rfl rfl rfl rfl tk_Interval tl stV | exact xSk tk_Interval) ?_) | (refine Tx 38 ?_; refine Jo xAd ?_; refine Jm ?_))
        refine ⟨_, _, wk_go _ 2 ?_ ?_ ?_, _, ?_, k + 1, by omega, rfl, rfl, rfl⟩
        · rfl
        · rw [hck, hc, hb1, hb2]; exact mB rfl rfl
        · exact ⟨bel_lit rfl, bel_kWs, trivial⟩
        · omega
    obtain rfl : k = (delL bs).length := by omega
    clear hlt hk
    rw [nxS_all]
    have hnL : (nextL ps bs w l).length = (delL bs).length := nextL_len w
    by_cases hch : chgK ps bs l (delL bs).length = false
    case pos =>
      rw [if_pos hch] at hres
      cases hres
      rw [hch]
      repeat' (with_reducible first | apply qa | apply qb | apply qc | apply qd | apply qe | apply qf | apply qg | apply qh | apply qi | apply qj | apply qk | apply ql rfl | apply qm rfl | apply qn rfl | apply Je | (refine Tx 26 ?_; refine Jo xLt ?_) | (refine Tx 39 ?_; refine Jm ?_; refine Jo (by first | exact xNt | exact xNg) ?_) | (refine Tx 40 ?_; refine Jm ?_; refine Ja ?_; refine Ja ?_))
      exact ret_q rfl (.cons_ (.tmp (.one (cexp_d rfl fun _ => .row (flatD_free (f := dIw false) iw_free l)))) (.cons_ (rv_e0 rfl rfl) .nil_))
    rw [if_neg hch] at hres
    rw [Bool.not_eq_false] at hch
    rw [hch]
    repeat' (with_reducible first | apply qa | apply qb | apply qc | apply qd | apply qe | apply qf | apply qg | apply qh | apply qi | apply qj | apply qk | apply ql rfl | apply qm rfl | apply qn rfl | apply Je | (refine Tx 26 ?_; refine Jo xLt ?_) | (refine Tx 39 ?_; refine Jm ?_; refine Jo (by first | exact xNt | exact xNg) ?_))
    refine cw_wk (wk_freeze (ds := flatD (dIw false) (nextL ps bs w l)) 17 1 rfl rfl) ?_
    repeat' (with_reducible first | apply qa | apply qb | apply qc | apply qd | apply qe | apply qf | apply qg | apply qh | apply qi | apply qj | apply qk | apply ql rfl | apply qm rfl | apply qn rfl | apply Je | (refine Tx 41 ?_; refine Jm ?_; refine Jo (xLn ts_s_Interval) ?_; refine Jm ?_))
    refine cw_wk (F' := ofL [(1, vd (.val (.int .i64 rd))), (2, vr 0), (8, vd (rowI false (natI (delL bs)))), (13, vi ((r : Nat))), (17, vd (.row false 6 (nextL ps bs w l).length (flatD (dIw false) (nextL ps bs w l)))), (164, vd (.row false 6 (nextL ps bs w l).length (flatD (dIw false) (nextL ps bs w l)))), (165, vi ((nextL ps bs w l).length)), (166, vi ((0 : Nat)))]) (H' := [.box 26 [.d (rowP t ps), .d (rowB t bs), .d (rowI t os)]]) (wk_go _ 1 ?_ ?_ ?_) ?_
    · rfl
    · rw [hnL, ← hll]; exact mB rfl rfl
    · exact ⟨bel_lit rfl, trivial⟩
    refine cw_loopW (fun n Fr H => ∃ k : Nat, k ≤ (nextL ps bs w l).length ∧ n = (nextL ps bs w l).length - k ∧ (∀ p ∈ (nextL ps bs w l).take k, farB p = false) ∧ Fr = ofL [(1, vd (.val (.int .i64 rd))), (2, vr 0), (8, vd (rowI false (natI (delL bs)))), (13, vi ((r : Nat))), (17, vd (.row false 6 (nextL ps bs w l).length (flatD (dIw false) (nextL ps bs w l)))), (164, vd (.row false 6 (nextL ps bs w l).length (flatD (dIw false) (nextL ps bs w l)))), (165, vi ((nextL ps bs w l).length)), (166, vi ((k : Nat)))] ∧ H = [.box 26 [.d (rowP t ps), .d (rowB t bs), .d (rowI t os)]]) (n0 := (nextL ps bs w l).length) ⟨0, Nat.zero_le _, rfl, (fun p hp => by simp at hp), rfl, rfl⟩ ?_
    rintro m Fr H ⟨k, hk, rfl, hnf, rfl, rfl⟩
    by_cases hlt : k < (nextL ps bs w l).length
    case pos =>
      obtain ⟨x, hx⟩ : ∃ x, (nextL ps bs w l)[k]? = some x := ⟨_, List.getElem?_eq_getElem hlt⟩
      have hxs : IwS x 20000 20000 := by
        obtain ⟨j, hj, rfl⟩ := List.mem_map.1 (List.mem_of_getElem? hx)
        have hj := List.mem_range.1 hj
        exact (step_iw (hlb _ (getD_mem (by omega) iZ)) (rgA_iw h0 hI hb hj)).1
      have FR := rgfar_cv x hxs
      cases hf : farB x
      case true =>
        rw [hf] at FR
        have hany : (nextL ps bs w l).any farB = true := List.any_eq_true.2 ⟨_, List.mem_of_getElem? hx, hf⟩
        rw [if_pos hany] at hres
        cases hres
        repeat' (with_reducible first | apply qa | apply qb | apply qc | apply qd | apply qe | apply qf | apply qg | apply qh | apply qi | apply qj | apply qk | apply ql rfl | apply qm rfl | apply qn rfl | apply Je | (refine Tx 42 ?_; refine Jo xLt ?_) | (refine Tx 43 ?_; refine Jo (xIr ts_s_Interval (iw_at hx)) ?_; refine Jo (xLa tk_Interval) ?_; refine Jn (xAl tz_Interval) ?_; refine Js (xSk tk_Interval) ?_) | (refine Tx 44 ?_; refine Jo (xLa tk_Interval) ?_; refine Jo (xCl Tryz.func58 (FR)) ?_) | (refine Tx 45 ?_; refine Jo (xMi Tryz.underlying48) ?_; refine Ja ?_; refine Ja ?_))
        exact ret_q rfl (.cons_ (.tmp (.one (cexp_n rfl rfl))) (.cons_ (rv_en rfl (by decide) rfl) .nil_))
      case false =>
        rw [hf] at FR
        repeat' (with_reducible first | apply qa | apply qb | apply qc | apply qd | apply qe | apply qf | apply qg | apply qh | apply qi | apply qj | apply qk | apply ql rfl | apply qm rfl | apply qn rfl | apply Je | (refine Tx 42 ?_; refine Jo xLt ?_) | (refine Tx 43 ?_; refine Jo (xIr ts_s_Interval (iw_at hx)) ?_; refine Jo (xLa tk_Interval) ?_; refine Jn (xAl tz_Interval) ?_; refine Js (xSk tk_Interval) ?_) | (refine Tx 44 ?_; refine Jo (xLa tk_Interval) ?_; refine Jo (xCl Tryz.func58 (FR)) ?_) | (refine Tx 46 ?_; refine Jo xAd ?_; refine Jm ?_))
        refine ⟨_, _, wk_go _ 1 ?_ ?_ ?_, _, ?_, k + 1, by omega, rfl, take_all1 hnf hx hf, rfl, rfl⟩
        · rfl
        · exact mB rfl rfl
        · exact ⟨bel_lit rfl, trivial⟩
        · omega
    obtain rfl : k = (nextL ps bs w l).length := by omega
    clear hlt hk
    rw [List.take_length] at hnf
    have hany : (nextL ps bs w l).any farB = false := List.any_eq_false.2 fun p hp => by rw [hnf p hp]; decide
    rw [if_neg (by rw [hany]; decide)] at hres
    repeat' (with_reducible first | apply qa | apply qb | apply qc | apply qd | apply qe | apply qf | apply qg | apply qh | apply qi | apply qj | apply qk | apply ql rfl | apply qm rfl | apply qn rfl | apply Je | (refine Tx 42 ?_; refine Jo xLt ?_) | (refine Tx 47 ?_; refine Jm ?_; refine Ja ?_) | (refine Tx 19 ?_; refine Jm ?_; refine Jo xAd ?_; refine Ja ?_))
    refine ⟨_, _, wk_go _ 1 ?_ ?_ ?_, n, Nat.lt_succ_self n, r + 1, (nextL ps bs w l), hres, hI.next h0 hb w hany, by omega, rfl, rfl⟩
    · rfl
    · exact mB rfl rfl
    · exact ⟨bel_lit rfl, trivial⟩
theorem rport_cvI (p : Prt) (h : PortS p) : CV Tryz.prog TabAt 26 [.agg (dPrt p)] [aIw false (portI p)] := by
  refine cvz Tryz.func26 Tryz.ntmps26 ?_
  have f0 := h.l0
  have f1 := h.le
  have f2 := h.h1
  have f3 := h.f0
  have f4 := h.f1
  have P1 := port_cv p p.lo (by omega) (by omega) (by omega) (by omega)
  have P2 := port_cv p p.hi (by omega) (by omega) (by omega) (by omega)
  repeat' (with_reducible first | apply qa | apply qb | apply qc | apply qd | apply qe | apply qf | apply qg | apply qh | apply qi | apply qj | apply qk | apply ql rfl | apply qm rfl | apply qn rfl | apply Je | (refine Tx 0 ?_; refine Jn xBo ?_; refine Jn (xAl tz_Interval) ?_) | (refine cw_part (id := 1) 9 mixed (by kernel_rfl) ?_; dsimp only [List.take, List.drop]; refine Ko (xLa tk_Port) ?_; refine Ko (xFa tf_Port0 tk_int) ?_; refine Ko (xLd tk_int) ?_; refine Ko (xCl Tryz.func71 (P1)) ?_; refine Ko (xLa tk_Port) ?_; refine Ko (xFa tf_Port1 tk_int) ?_; refine Ko (xLd tk_int) ?_; refine Ko (xCl Tryz.func71 (P2)) ?_; refine Ko (by exact ok_build rfl tb_Interval rfl rfl) ?_; refine Ke ?_; refine Js (xSk tk_Interval) ?_))
  exact ret_q rfl (.cons_ (rvJ tk_Interval rfl) .nil_)
theorem rblockI_cv (t u : Bool) (y : Bk) (l : List Iq) (hll : l.length ≤ 1000000) (hk : y.kind = 1 ∨ y.kind = 3 ∨ y.kind = 4 ∨ y.kind = 5 ∨ y.kind = 6 ∨ y.kind = 7 ∨ y.kind = 8 ∨ y.kind = 9 ∨ y.kind = 10 ∨ y.kind = 11) (h1l : y.kind ≠ 1 → 1 ≤ l.length) (h2l : (y.kind = 3 ∨ y.kind = 4 ∨ y.kind = 7 ∨ y.kind = 8 ∨ y.kind = 9) → 2 ≤ l.length) (hs : ∀ p ∈ l, IwS p 20000 20000)
    (hsv : (y.kind = 1 ∨ y.kind = 6 ∨ y.kind = 11) → scOk y.vn y.ve) (hsu : y.kind = 11 → scOk y.un y.ue) (hcl : y.kind = 11 → qCmp (dyShift y.vn 0 y.ve) (dyShift y.un 0 y.ue) ≤ 0) : CV Tryz.prog TabAt 30 [.agg (dBk t y), .one (.row u 6 l.length (flatD (dIw false) l))] [aIw false (blkI y l)] := by
  refine cvz Tryz.func30 Tryz.ntmps30 ?_
  rcases hk with h | h | h | h | h | h | h | h | h | h
  ·
    have RVs := hsv (by omega)
    have RV := (rvalue_cv (G := TabAt) y.vn y.ve (by have := RVs.1; omega) (by have := RVs.2.1; omega)).cv
    have RVm := (sc_lb RVs).more (show LB ≤ 20000 by decide) (show LB ≤ 20000 by decide)
    have C := ripoint_cv (dyShift y.vn 0 y.ve) RVm.ok (Nat.le_trans (RVm.lenN 625 (by decide)) (by decide))
    have hb : blkI y l = ((dyShift y.vn 0 y.ve), (dyShift y.vn 0 y.ve)) := by unfold blkI; simp [h]
    rw [hb]
    repeat' (with_reducible first | apply qa | apply qb | apply qc | apply qd | apply qe | apply qf | apply qg | apply qh | apply qi | apply qj | apply qk | apply ql rfl | apply qm rfl | apply qn rfl | apply Je | (refine Tx 0 ?_; refine Jn xBo ?_; refine Jn (xAl tz_Interval) ?_) | (refine Tx 1 ?_; refine Jo (xFa tf_Block0 tk_int) ?_; refine Jo (xLd tk_int) ?_) | (refine Tx 2 ?_; refine Jo xEq ?_; refine Ja ?_) | (refine Tx 3 ?_; refine Jo (xFa tf_Block2 tk_Scalar) ?_; refine Jo (by first | exact ok_ixR (i := 0) rfl rfl rfl rfl ts_s_Interval (by omega) (by decide) (iw_at h0) | exact xLa tk_Scalar) ?_; refine Jo (xCl Tryz.func28 (RV)) ?_; refine Jo (xCl Tryz.func74 (C)) ?_; refine Js (xSk tk_Interval) ?_))
    exact ret_q rfl (.cons_ (rvJ tk_Interval rfl) .nil_)
  ·
    have l0 := h1l (by omega)
    obtain ⟨p, h0⟩ : ∃ p, l[0]? = some p := ⟨_, List.getElem?_eq_getElem (by omega)⟩
    have sp := hs p (List.mem_of_getElem? h0)
    have l1 := h2l (by omega)
    obtain ⟨q, h1⟩ : ∃ q, l[1]? = some q := ⟨_, List.getElem?_eq_getElem (by omega)⟩
    have sq := hs q (List.mem_of_getElem? h1)
    have C := riadd_cv p q sp sq
    have hb : blkI y l = iAdd p q := by unfold blkI; simp [h, h0, h1]
    rw [hb]
    repeat' (with_reducible first | apply qa | apply qb | apply qc | apply qd | apply qe | apply qf | apply qg | apply qh | apply qi | apply qj | apply qk | apply ql rfl | apply qm rfl | apply qn rfl | apply Je | (refine Tx 0 ?_; refine Jn xBo ?_; refine Jn (xAl tz_Interval) ?_) | (refine Tx 1 ?_; refine Jo (xFa tf_Block0 tk_int) ?_; refine Jo (xLd tk_int) ?_) | (refine Tx 2 ?_; refine Jo xEq ?_; refine Ja ?_) | (refine Tx 4 ?_; refine Jo xEq ?_; refine Ja ?_) | (refine cw_part (id := 5) 7 mixed (by kernel_rfl) ?_; dsimp only [List.take, List.drop]; refine Km ?_; refine Ko (by exact ok_ixR (i := 0) rfl rfl rfl rfl ts_s_Interval (by omega) (by decide) (iw_at h0)) ?_; refine Ko (xLa tk_Interval) ?_; refine Km ?_; refine Ko (by exact ok_ixR (i := 1) rfl rfl rfl rfl ts_s_Interval (by omega) (by decide) (iw_at h1)) ?_; refine Ko (xLa tk_Interval) ?_; refine Ko (xCl Tryz.func64 (C)) ?_; refine Ke ?_; refine Js (xSk tk_Interval) ?_))
    exact ret_q rfl (.cons_ (rvJ tk_Interval rfl) .nil_)
  ·
    have l0 := h1l (by omega)
    obtain ⟨p, h0⟩ : ∃ p, l[0]? = some p := ⟨_, List.getElem?_eq_getElem (by omega)⟩
    have sp := hs p (List.mem_of_getElem? h0)
    have l1 := h2l (by omega)
    obtain ⟨q, h1⟩ : ∃ q, l[1]? = some q := ⟨_, List.getElem?_eq_getElem (by omega)⟩
    have sq := hs q (List.mem_of_getElem? h1)
    have C := risub_cv p q sp sq
    have hb : blkI y l = iSub p q := by unfold blkI; simp [h, h0, h1]
    rw [hb]
    repeat' (with_reducible first | apply qa | apply qb | apply qc | apply qd | apply qe | apply qf | apply qg | apply qh | apply qi | apply qj | apply qk | apply ql rfl | apply qm rfl | apply qn rfl | apply Je | (refine Tx 0 ?_; refine Jn xBo ?_; refine Jn (xAl tz_Interval) ?_) | (refine Tx 1 ?_; refine Jo (xFa tf_Block0 tk_int) ?_; refine Jo (xLd tk_int) ?_) | (refine Tx 2 ?_; refine Jo xEq ?_; refine Ja ?_) | (refine Tx 4 ?_; refine Jo xEq ?_; refine Ja ?_) | (refine Tx 6 ?_; refine Jo xEq ?_; refine Ja ?_) | (refine cw_part (id := 7) 7 mixed (by kernel_rfl) ?_; dsimp only [List.take, List.drop]; refine Km ?_; refine Ko (by exact ok_ixR (i := 0) rfl rfl rfl rfl ts_s_Interval (by omega) (by decide) (iw_at h0)) ?_; refine Ko (xLa tk_Interval) ?_; refine Km ?_; refine Ko (by exact ok_ixR (i := 1) rfl rfl rfl rfl ts_s_Interval (by omega) (by decide) (iw_at h1)) ?_; refine Ko (xLa tk_Interval) ?_; refine Ko (xCl Tryz.func75 (C)) ?_; refine Ke ?_; refine Js (xSk tk_Interval) ?_))
    exact ret_q rfl (.cons_ (rvJ tk_Interval rfl) .nil_)
  ·
    have l0 := h1l (by omega)
    obtain ⟨p, h0⟩ : ∃ p, l[0]? = some p := ⟨_, List.getElem?_eq_getElem (by omega)⟩
    have sp := hs p (List.mem_of_getElem? h0)
    have C := rineg_cv p sp
    have hb : blkI y l = iNeg p := by unfold blkI; simp [h, h0]
    rw [hb]
    repeat' (with_reducible first | apply qa | apply qb | apply qc | apply qd | apply qe | apply qf | apply qg | apply qh | apply qi | apply qj | apply qk | apply ql rfl | apply qm rfl | apply qn rfl | apply Je | (refine Tx 0 ?_; refine Jn xBo ?_; refine Jn (xAl tz_Interval) ?_) | (refine Tx 1 ?_; refine Jo (xFa tf_Block0 tk_int) ?_; refine Jo (xLd tk_int) ?_) | (refine Tx 2 ?_; refine Jo xEq ?_; refine Ja ?_) | (refine Tx 4 ?_; refine Jo xEq ?_; refine Ja ?_) | (refine Tx 6 ?_; refine Jo xEq ?_; refine Ja ?_) | (refine Tx 8 ?_; refine Jo xEq ?_; refine Ja ?_) | (refine Tx 9 ?_; refine Jm ?_; refine Jo (by exact ok_ixR (i := 0) rfl rfl rfl rfl ts_s_Interval (by omega) (by decide) (iw_at h0)) ?_; refine Jo (xLa tk_Interval) ?_; refine Jo (xCl Tryz.func76 (C)) ?_; refine Js (xSk tk_Interval) ?_))
    exact ret_q rfl (.cons_ (rvJ tk_Interval rfl) .nil_)
  ·
    have l0 := h1l (by omega)
    obtain ⟨p, h0⟩ : ∃ p, l[0]? = some p := ⟨_, List.getElem?_eq_getElem (by omega)⟩
    have sp := hs p (List.mem_of_getElem? h0)
    have RVs := hsv (by omega)
    have RV := (rvalue_cv (G := TabAt) y.vn y.ve (by have := RVs.1; omega) (by have := RVs.2.1; omega)).cv
    have RVm := (sc_lb RVs).more (show LB ≤ 20000 by decide) (show LB ≤ 20000 by decide)
    have C := riscale_cv p (dyShift y.vn 0 y.ve) sp RVm
    have hb : blkI y l = iScale p (dyShift y.vn 0 y.ve) := by unfold blkI; simp [h, h0]
    rw [hb]
    repeat' (with_reducible first | apply qa | apply qb | apply qc | apply qd | apply qe | apply qf | apply qg | apply qh | apply qi | apply qj | apply qk | apply ql rfl | apply qm rfl | apply qn rfl | apply Je | (refine Tx 0 ?_; refine Jn xBo ?_; refine Jn (xAl tz_Interval) ?_) | (refine Tx 1 ?_; refine Jo (xFa tf_Block0 tk_int) ?_; refine Jo (xLd tk_int) ?_) | (refine Tx 2 ?_; refine Jo xEq ?_; refine Ja ?_) | (refine Tx 4 ?_; refine Jo xEq ?_; refine Ja ?_) | (refine Tx 6 ?_; refine Jo xEq ?_; refine Ja ?_) | (refine Tx 8 ?_; refine Jo xEq ?_; refine Ja ?_) | (refine Tx 10 ?_; refine Jo xEq ?_; refine Ja ?_) | (refine cw_part (id := 11) 7 mixed (by kernel_rfl) ?_; dsimp only [List.take, List.drop]; refine Km ?_; refine Ko (by exact ok_ixR (i := 0) rfl rfl rfl rfl ts_s_Interval (by omega) (by decide) (iw_at h0)) ?_; refine Ko (xLa tk_Interval) ?_; refine Ko (xFa tf_Block2 tk_Scalar) ?_; refine Ko (xLa tk_Scalar) ?_; refine Ko (xCl Tryz.func28 (RV)) ?_; refine Ko (xCl Tryz.func77 (C)) ?_; refine Ke ?_; refine Js (xSk tk_Interval) ?_))
    exact ret_q rfl (.cons_ (rvJ tk_Interval rfl) .nil_)
  ·
    have l0 := h1l (by omega)
    obtain ⟨p, h0⟩ : ∃ p, l[0]? = some p := ⟨_, List.getElem?_eq_getElem (by omega)⟩
    have sp := hs p (List.mem_of_getElem? h0)
    have l1 := h2l (by omega)
    obtain ⟨q, h1⟩ : ∃ q, l[1]? = some q := ⟨_, List.getElem?_eq_getElem (by omega)⟩
    have sq := hs q (List.mem_of_getElem? h1)
    have C := rimul_cv p q sp sq
    have hb : blkI y l = iMul p q := by unfold blkI; simp [h, h0, h1]
    rw [hb]
    repeat' (with_reducible first | apply qa | apply qb | apply qc | apply qd | apply qe | apply qf | apply qg | apply qh | apply qi | apply qj | apply qk | apply ql rfl | apply qm rfl | apply qn rfl | apply Je | (refine Tx 0 ?_; refine Jn xBo ?_; refine Jn (xAl tz_Interval) ?_) | (refine Tx 1 ?_; refine Jo (xFa tf_Block0 tk_int) ?_; refine Jo (xLd tk_int) ?_) | (refine Tx 2 ?_; refine Jo xEq ?_; refine Ja ?_) | (refine Tx 4 ?_; refine Jo xEq ?_; refine Ja ?_) | (refine Tx 6 ?_; refine Jo xEq ?_; refine Ja ?_) | (refine Tx 8 ?_; refine Jo xEq ?_; refine Ja ?_) | (refine Tx 10 ?_; refine Jo xEq ?_; refine Ja ?_) | (refine Tx 12 ?_; refine Jo xEq ?_; refine Ja ?_) | (refine cw_part (id := 13) 7 mixed (by kernel_rfl) ?_; dsimp only [List.take, List.drop]; refine Km ?_; refine Ko (by exact ok_ixR (i := 0) rfl rfl rfl rfl ts_s_Interval (by omega) (by decide) (iw_at h0)) ?_; refine Ko (xLa tk_Interval) ?_; refine Km ?_; refine Ko (by exact ok_ixR (i := 1) rfl rfl rfl rfl ts_s_Interval (by omega) (by decide) (iw_at h1)) ?_; refine Ko (xLa tk_Interval) ?_; refine Ko (xCl Tryz.func78 (C)) ?_; refine Ke ?_; refine Js (xSk tk_Interval) ?_))
    exact ret_q rfl (.cons_ (rvJ tk_Interval rfl) .nil_)
  ·
    have l0 := h1l (by omega)
    obtain ⟨p, h0⟩ : ∃ p, l[0]? = some p := ⟨_, List.getElem?_eq_getElem (by omega)⟩
    have sp := hs p (List.mem_of_getElem? h0)
    have l1 := h2l (by omega)
    obtain ⟨q, h1⟩ : ∃ q, l[1]? = some q := ⟨_, List.getElem?_eq_getElem (by omega)⟩
    have sq := hs q (List.mem_of_getElem? h1)
    have C := rimin_cv p q sp sq
    have hb : blkI y l = iMin p q := by unfold blkI; simp [h, h0, h1]
    rw [hb]
    repeat' (with_reducible first | apply qa | apply qb | apply qc | apply qd | apply qe | apply qf | apply qg | apply qh | apply qi | apply qj | apply qk | apply ql rfl | apply qm rfl | apply qn rfl | apply Je | (refine Tx 0 ?_; refine Jn xBo ?_; refine Jn (xAl tz_Interval) ?_) | (refine Tx 1 ?_; refine Jo (xFa tf_Block0 tk_int) ?_; refine Jo (xLd tk_int) ?_) | (refine Tx 2 ?_; refine Jo xEq ?_; refine Ja ?_) | (refine Tx 4 ?_; refine Jo xEq ?_; refine Ja ?_) | (refine Tx 6 ?_; refine Jo xEq ?_; refine Ja ?_) | (refine Tx 8 ?_; refine Jo xEq ?_; refine Ja ?_) | (refine Tx 10 ?_; refine Jo xEq ?_; refine Ja ?_) | (refine Tx 12 ?_; refine Jo xEq ?_; refine Ja ?_) | (refine Tx 14 ?_; refine Jo xEq ?_; refine Ja ?_) | (refine cw_part (id := 15) 7 mixed (by kernel_rfl) ?_; dsimp only [List.take, List.drop]; refine Km ?_; refine Ko (by exact ok_ixR (i := 0) rfl rfl rfl rfl ts_s_Interval (by omega) (by decide) (iw_at h0)) ?_; refine Ko (xLa tk_Interval) ?_; refine Km ?_; refine Ko (by exact ok_ixR (i := 1) rfl rfl rfl rfl ts_s_Interval (by omega) (by decide) (iw_at h1)) ?_; refine Ko (xLa tk_Interval) ?_; refine Ko (xCl Tryz.func79 (C)) ?_; refine Ke ?_; refine Js (xSk tk_Interval) ?_))
    exact ret_q rfl (.cons_ (rvJ tk_Interval rfl) .nil_)
  ·
    have l0 := h1l (by omega)
    obtain ⟨p, h0⟩ : ∃ p, l[0]? = some p := ⟨_, List.getElem?_eq_getElem (by omega)⟩
    have sp := hs p (List.mem_of_getElem? h0)
    have l1 := h2l (by omega)
    obtain ⟨q, h1⟩ : ∃ q, l[1]? = some q := ⟨_, List.getElem?_eq_getElem (by omega)⟩
    have sq := hs q (List.mem_of_getElem? h1)
    have C := rimax_cv p q sp sq
    have hb : blkI y l = iMax p q := by unfold blkI; simp [h, h0, h1]
    rw [hb]
    repeat' (with_reducible first | apply qa | apply qb | apply qc | apply qd | apply qe | apply qf | apply qg | apply qh | apply qi | apply qj | apply qk | apply ql rfl | apply qm rfl | apply qn rfl | apply Je | (refine Tx 0 ?_; refine Jn xBo ?_; refine Jn (xAl tz_Interval) ?_) | (refine Tx 1 ?_; refine Jo (xFa tf_Block0 tk_int) ?_; refine Jo (xLd tk_int) ?_) | (refine Tx 2 ?_; refine Jo xEq ?_; refine Ja ?_) | (refine Tx 4 ?_; refine Jo xEq ?_; refine Ja ?_) | (refine Tx 6 ?_; refine Jo xEq ?_; refine Ja ?_) | (refine Tx 8 ?_; refine Jo xEq ?_; refine Ja ?_) | (refine Tx 10 ?_; refine Jo xEq ?_; refine Ja ?_) | (refine Tx 12 ?_; refine Jo xEq ?_; refine Ja ?_) | (refine Tx 14 ?_; refine Jo xEq ?_; refine Ja ?_) | (refine Tx 16 ?_; refine Jo xEq ?_; refine Ja ?_) | (refine cw_part (id := 17) 7 mixed (by kernel_rfl) ?_; dsimp only [List.take, List.drop]; refine Km ?_; refine Ko (by exact ok_ixR (i := 0) rfl rfl rfl rfl ts_s_Interval (by omega) (by decide) (iw_at h0)) ?_; refine Ko (xLa tk_Interval) ?_; refine Km ?_; refine Ko (by exact ok_ixR (i := 1) rfl rfl rfl rfl ts_s_Interval (by omega) (by decide) (iw_at h1)) ?_; refine Ko (xLa tk_Interval) ?_; refine Ko (xCl Tryz.func80 (C)) ?_; refine Ke ?_; refine Js (xSk tk_Interval) ?_))
    exact ret_q rfl (.cons_ (rvJ tk_Interval rfl) .nil_)
  ·
    have l0 := h1l (by omega)
    obtain ⟨p, h0⟩ : ∃ p, l[0]? = some p := ⟨_, List.getElem?_eq_getElem (by omega)⟩
    have sp := hs p (List.mem_of_getElem? h0)
    have C := riabs_cv p sp
    have hb : blkI y l = iAbs p := by unfold blkI; simp [h, h0]
    rw [hb]
    repeat' (with_reducible first | apply qa | apply qb | apply qc | apply qd | apply qe | apply qf | apply qg | apply qh | apply qi | apply qj | apply qk | apply ql rfl | apply qm rfl | apply qn rfl | apply Je | (refine Tx 0 ?_; refine Jn xBo ?_; refine Jn (xAl tz_Interval) ?_) | (refine Tx 1 ?_; refine Jo (xFa tf_Block0 tk_int) ?_; refine Jo (xLd tk_int) ?_) | (refine Tx 2 ?_; refine Jo xEq ?_; refine Ja ?_) | (refine Tx 4 ?_; refine Jo xEq ?_; refine Ja ?_) | (refine Tx 6 ?_; refine Jo xEq ?_; refine Ja ?_) | (refine Tx 8 ?_; refine Jo xEq ?_; refine Ja ?_) | (refine Tx 10 ?_; refine Jo xEq ?_; refine Ja ?_) | (refine Tx 12 ?_; refine Jo xEq ?_; refine Ja ?_) | (refine Tx 14 ?_; refine Jo xEq ?_; refine Ja ?_) | (refine Tx 16 ?_; refine Jo xEq ?_; refine Ja ?_) | (refine Tx 18 ?_; refine Jo xEq ?_; refine Ja ?_) | (refine Tx 19 ?_; refine Jm ?_; refine Jo (by exact ok_ixR (i := 0) rfl rfl rfl rfl ts_s_Interval (by omega) (by decide) (iw_at h0)) ?_; refine Jo (xLa tk_Interval) ?_; refine Jo (xCl Tryz.func81 (C)) ?_; refine Js (xSk tk_Interval) ?_))
    exact ret_q rfl (.cons_ (rvJ tk_Interval rfl) .nil_)
  ·
    have l0 := h1l (by omega)
    obtain ⟨p, h0⟩ : ∃ p, l[0]? = some p := ⟨_, List.getElem?_eq_getElem (by omega)⟩
    have sp := hs p (List.mem_of_getElem? h0)
    have RVs := hsv (by omega)
    have RV := (rvalue_cv (G := TabAt) y.vn y.ve (by have := RVs.1; omega) (by have := RVs.2.1; omega)).cv
    have RVm := (sc_lb RVs).more (show LB ≤ 20000 by decide) (show LB ≤ 20000 by decide)
    have RUs := hsu h
    have RU := (rvalue_cv (G := TabAt) y.un y.ue (by have := RUs.1; omega) (by have := RUs.2.1; omega)).cv
    have RUm := (sc_lb RUs).more (show LB ≤ 20000 by decide) (show LB ≤ 20000 by decide)
    have C := riclip_cv p (dyShift y.vn 0 y.ve) (dyShift y.un 0 y.ue) sp RVm RUm (hcl h)
    have hb : blkI y l = iClip p (dyShift y.vn 0 y.ve) (dyShift y.un 0 y.ue) := by unfold blkI; simp [h, h0]
    rw [hb]
    repeat' (with_reducible first | apply qa | apply qb | apply qc | apply qd | apply qe | apply qf | apply qg | apply qh | apply qi | apply qj | apply qk | apply ql rfl | apply qm rfl | apply qn rfl | apply Je | (refine Tx 0 ?_; refine Jn xBo ?_; refine Jn (xAl tz_Interval) ?_) | (refine Tx 1 ?_; refine Jo (xFa tf_Block0 tk_int) ?_; refine Jo (xLd tk_int) ?_) | (refine Tx 2 ?_; refine Jo xEq ?_; refine Ja ?_) | (refine Tx 4 ?_; refine Jo xEq ?_; refine Ja ?_) | (refine Tx 6 ?_; refine Jo xEq ?_; refine Ja ?_) | (refine Tx 8 ?_; refine Jo xEq ?_; refine Ja ?_) | (refine Tx 10 ?_; refine Jo xEq ?_; refine Ja ?_) | (refine Tx 12 ?_; refine Jo xEq ?_; refine Ja ?_) | (refine Tx 14 ?_; refine Jo xEq ?_; refine Ja ?_) | (refine Tx 16 ?_; refine Jo xEq ?_; refine Ja ?_) | (refine Tx 18 ?_; refine Jo xEq ?_; refine Ja ?_) | (refine cw_partE (id := 20) 14 [(14, 12)] mixed (by kernel_rfl) ?_; dsimp only [List.take, List.drop]; refine Km ?_; refine Ko (by exact ok_ixR (i := 0) rfl rfl rfl rfl ts_s_Interval (by omega) (by decide) (iw_at h0)) ?_; refine Ko (xLa tk_Interval) ?_; refine Ko (xFa tf_Block2 tk_Scalar) ?_; refine Ko (xLa tk_Scalar) ?_; refine Ko (by first | exact xCl Tryz.func28 (RV) | exact xCl Tryz.func28 (RU)) ?_; refine Ko (xFa tf_Block3 tk_Scalar) ?_; refine Ko (xLa tk_Scalar) ?_; refine Ko (by first | exact xCl Tryz.func28 (RV) | exact xCl Tryz.func28 (RU)) ?_; refine Ko (xCl Tryz.func82 (C)) ?_; refine Ko xMt ?_; refine Ko (by exact ok_exA rfl rfl rfl) ?_; refine Ko xEx ?_; refine Kn (xAl tz_Interval) ?_; refine Ke ?_; refine Js (xSk tk_Interval) ?_; refine Ja ?_) | (refine Tx 21 ?_; refine Jo (xLa tk_Interval) ?_; refine Js (xSk tk_Interval) ?_))
    exact ret_q rfl (.cons_ (rvJ tk_Interval rfl) .nil_)
theorem range_blk {y : Bk} {l : List Iq} {ps : List Prt} (h : y.kind ≠ 0) : rangeV y l ps = blkI y l := by unfold rangeV; rw [if_neg h]
def exP : List Prt := [⟨-8, 8, 0⟩]
def exB : List Bk := [⟨0, none, [0], 0, 0, 0, 0, 0⟩, ⟨3, none, [0, 2], 0, 0, 0, 0, 0⟩, ⟨2, none, [1], 0, 0, 0, 0, 0⟩]
def exO : List Int := [1]
def exL : List (List Int) := [[3], [4], [-2]]
def exR : List (List (Int × Nat)) := [[(3, 0)], [(7, 0)], [(5, 0)]]
def light11 (ps : List Prt) (bs : List Bk) (os : List Int) (ls : List (List Int)) : Bool := lightB ps bs os && decide (ls.length ≤ 300 ∧ ls.length * bs.length ≤ 3000) && ls.all fun l => decide (l.length ≤ 40)
def lean11B (rs : List Rv) : Bool := (rs.all fun r => decide (r.ws.length ≤ 300 ∧ r.den ≤ 20000)) && decide (rs.length ≤ 100)
def fitL (ps : List Prt) (ls : List (List Int)) : List (List Int) := ls.map fun l => inpV ps l ps.length
theorem dlK_pre (bs : List Bk) {i n : Nat} (h : i ≤ n) : dlK bs i <+: dlK bs n := by
  induction n with
  | zero => rw [show i = 0 by omega]; exact List.prefix_refl _
  | succ n ih =>
    by_cases e : i = n + 1
    · rw [e]; exact List.prefix_refl _
    · refine (ih (by omega)).trans ?_
      rw [dlK_succ]
      split
      · exact List.prefix_append _ _
      · exact List.prefix_refl _
theorem del_rank {bs : List Bk} {i : Nat} (hi : i < bs.length) (hk : kindAt bs i = 2) : (delL bs)[(dlK bs i).length]? = some i := by
  have h1 := dlK_pre bs (i := i + 1) (n := bs.length) hi
  rw [delL_is]
  refine getElem?_pre h1 ?_
  rw [dlK_succ, if_pos hk, List.getElem?_append_right (Nat.le_refl _), Nat.sub_self]
  rfl
theorem dlK_yes {bs : List Bk} {i : Nat} (hk : kindAt bs i = 2) : (dlK bs (i + 1)).length = (dlK bs i).length + 1 := by rw [dlK_succ, if_pos hk, List.length_append]; rfl
theorem dlK_no {bs : List Bk} {i : Nat} (hk : kindAt bs i ≠ 2) : (dlK bs (i + 1)).length = (dlK bs i).length := by rw [dlK_succ, if_neg hk]
def flP : List Prt := [⟨-1, 1, 0⟩]
def flB : List Bk := [⟨0, none, [0], 0, 0, 0, 0, 0⟩, ⟨6, none, [3], 0, 1, -1, 0, 0⟩, ⟨3, none, [0, 1], 0, 0, 0, 0, 0⟩, ⟨2, none, [2], 0, 0, 0, 0, 0⟩]
def flO : List Int := [2]
def flL : List Iq := [((-2, 0), (2, 0))]
theorem flq_len : DgLen flP flB flO := ⟨by decide, by decide, by decide, by decide⟩
theorem flq_err : dgErr flP flB flO = 0 := by decide +kernel
theorem flq_inf : inferA flP flB 2 40 = some (0, flL) := by decide +kernel
theorem flq_sm : Sm (-2, 0) 64 64 ∧ Sm (2, 0) 64 64 := ⟨⟨⟨by decide, fun h => absurd rfl h⟩, by decide, by decide⟩, ⟨⟨by decide, fun h => absurd rfl h⟩, by decide, by decide⟩⟩
theorem flq_iw : ∀ a ∈ flL, IwS a 64 64 := fun a ha => by
  rcases List.mem_singleton.1 ha with rfl
  refine ⟨flq_sm.1, flq_sm.2, ?_⟩
  show (-2 : Int) * 2 ^ (GQ - 0) ≤ 2 * 2 ^ (GQ - 0)
  have := two_pos (GQ - 0)
  omega
theorem flq_rg : rgE flP flB flO (flL.map rvI2) = 0 := by rw [rgE_of flq_err flq_iw rfl]; decide +kernel
theorem flq_cl : clE flP flB flO (flL.map rvI2) = true := by
  unfold clE
  rw [if_pos flq_rg, rvI2_map]
  decide +kernel
theorem cl_of {ps : List Prt} {bs : List Bk} {os : List Int} {l : List Iq} {n d : Nat} (h0 : dgErr ps bs os = 0) (h : ∀ a ∈ l, IwS a n d) (hl : l.length = (delL bs).length) (hb : rgBad ps bs l = false) : rgE ps bs os (l.map rvI2) = 0 ∧ clE ps bs os (l.map rvI2) = closB ps bs l := by
  have e : rgE ps bs os (l.map rvI2) = 0 := by rw [rgE_of h0 h hl, hb]; rfl
  exact ⟨e, by unfold clE; rw [if_pos e, rvI2_map]⟩
theorem infer_get {ps : List Prt} {bs : List Bk} {os : List Int} (h0 : dgErr ps bs os = 0) (hl : DgLen ps bs os) (rd : Int) (r1 : rd ≤ 16) : ∃ (f : Nat) (e : Int) (l : List Iq), f ≤ 1000000000 ∧ inferA ps bs rd f = some (e, l) ∧ ((e = 0 ∧ InvL bs l ∧ rgBad ps bs l = false ∧ closB ps bs l = true) ∨ ((e = 4 ∨ e = 22) ∧ l = [])) := by
  have hdb := delL_le bs
  have hl2 := hl.l2
  refine ⟨300000000, ?_⟩
  unfold inferA
  by_cases hf : (startI bs).any farB = true
  · exact ⟨22, [], by decide, by rw [if_pos hf], .inr ⟨.inr rfl, rfl⟩⟩
  · rw [if_neg hf]
    rw [Bool.not_eq_true] at hf
    have hI := startI_inv h0 hf
    obtain ⟨⟨e, l⟩, hr⟩ := infer_ends (rd := rd) h0 20 300000000 1 (startI bs) hI (by omega) (by omega)
    exact ⟨e, l, by decide, hr, infer_ok h0 _ _ _ _ _ hI hr⟩
theorem filter_cv  : CV Tryz.prog TabAt 39 [] [aDg false flP flB flO] := by
  refine cvz Tryz.func39 Tryz.ntmps39 ?_
  repeat' (with_reducible first | apply qa | apply qb | apply qc | apply qd | apply qe | apply qf | apply qg | apply qh | apply qi | apply qj | apply qk | apply ql rfl | apply qm rfl | apply qn rfl | apply Je | (refine Tx 0 ?_; refine Jn (xAl tz_Diagram) ?_) | (refine Tx 1 ?_; refine Jo (by exact ok_build rfl tb_Port rfl rfl) ?_; refine Jn (by exact ok_build1 rfl ts_s_Port tz_Port rfl rfl (by decide) (by decide)) ?_; refine Jn (by exact ok_build1 rfl ts_s_int tz_int rfl rfl (by decide) (by decide)) ?_; refine Jn (by exact ok_build1 rfl ts_s_int tz_int rfl rfl (by decide) (by decide)) ?_; refine Jo (by exact ok_build rfl tb_Block rfl rfl) ?_; refine Jn (by exact ok_build1 rfl ts_s_int tz_int rfl rfl (by decide) (by decide)) ?_; refine Jo (by exact ok_build rfl tb_Scalar rfl rfl) ?_; refine Jo (by exact ok_build rfl tb_Block rfl rfl) ?_; refine Jn (by exact ok_build2 rfl ts_s_int tz_int rfl rfl rfl rfl (by decide) (by decide)) ?_; refine Jo (by exact ok_build rfl tb_Block rfl rfl) ?_; refine Jn (by exact ok_build1 rfl ts_s_int tz_int rfl rfl (by decide) (by decide)) ?_; refine Jo (by exact ok_build rfl tb_Block rfl rfl) ?_; refine Jn (by exact ok_buildN rfl rfl ts_s_Block tz_Block (by decide) (by decide) (by decide) rfl rfl rfl) ?_; refine Jo (by exact ok_build rfl tb_Diagram rfl rfl) ?_; refine Js (xSk tk_Diagram) ?_))
  exact ret_q rfl (.cons_ (rv_box rfl rfl tk_Diagram rfl rfl (by first | ((repeat' first | exact lrel_n rfl rfl | refine lrel_c rfl rfl ?_ ?_ | refine xexp_1 rfl rfl ?_ | refine xexp_a rfl rfl ?_ | exact cexp_d rfl (fun _ => DFree.val _) | exact cexp_n rfl rfl | exact cexp_e rfl rfl | refine cexp_o rfl rfl rfl ?_) <;> fail) | fail)) .nil_)
theorem awake12_cv  : CV Tryz.prog TabAt 9 [] [aB true] := by
  refine cvz Tryz.func9 Tryz.ntmps9 ?_
  have IN := rginfer_cv false flq_len flq_err 2 (by decide) (by decide) (0, flL) 40 (by decide) flq_inf
  rw [show aIws ((0 : Int), flL).2 = .one (.row false 6 1 (flatD (dIw false) flL)) from rfl] at IN
  have CL := rgclosed_cv false flq_len (flL.map rvI2) (rvI2_L flq_iw (by decide)) (by decide)
  rw [flq_cl, flq_rg, rowV_of, show flL.length = 1 from rfl] at CL
  have IT := riints_cv (-2) 2 (by decide) (by decide)
  rw [show spanL [((-2 : Int), 0), (2, 0)] = ((-2, 0), (2, 0)) by decide +kernel] at IT
  have iw := flq_iw _ (List.mem_singleton.2 rfl)
  have SM := risame_cv ((-2, 0), (2, 0)) ((-2, 0), (2, 0)) (iw.L (by decide)) (iw.L (by decide))
  rw [decide_eq_true rfl] at SM
  repeat' (with_reducible first | apply qa | apply qb | apply qc | apply qd | apply qe | apply qf | apply qg | apply qh | apply qi | apply qj | apply qk | apply ql rfl | apply qm rfl | apply qn rfl | apply Je | (refine Tx 0 ?_; refine Ja ?_) | (refine Tx 1 ?_; refine Jo (xCl Tryz.func39 (filter_cv)) ?_; refine Jo (xCl Tryz.func20 (IN)) ?_; refine Jo xMt ?_; refine Jo xEx ?_; refine Jo xEx ?_; refine Ja ?_; refine Ja ?_) | (refine Tx 2 ?_; refine Jo (xCl Tryz.func39 (filter_cv)) ?_; refine Jm ?_; refine Jo (xCl Tryz.func13 (CL)) ?_; refine Jo xMt ?_; refine Jo xEx ?_; refine Jo xEx ?_; refine Ja ?_; refine Ja ?_) | (refine cw_any (id := 3) mixed (by kernel_rfl) ?_; refine Km ?_; refine Ko (by first | exact ok_eqlE rfl ti_error rfl (beq_t rfl) | exact ok_eqlE rfl ti_error rfl (beq_t (by first | rfl | omega)) | exact ok_eqlE rfl ti_error rfl (beq_f (by first | assumption | omega)) | exact ok_eqlE rfl ti_error rfl rfl) ?_; refine Km ?_; (first | iterate 2 refine Kd ?_ | (refine Ky xM1 ?_; refine Ky (by first | exact ok_eqlE rfl ti_error rfl (beq_t rfl) | exact ok_eqlE rfl ti_error rfl (beq_t (by first | rfl | omega)) | exact ok_eqlE rfl ti_error rfl (beq_f (by first | assumption | omega)) | exact ok_eqlE rfl ti_error rfl rfl) ?_)); refine Ko xPk ?_; refine Km ?_; (first | refine Kd ?_ | refine Ky xM1 ?_); refine Ko xPk ?_; refine Km ?_; (first | iterate 3 refine Kd ?_ | (refine Ky xM1 ?_; refine Ky (xLn ts_s_Interval) ?_; refine Ky xEq ?_)); refine Ko xPk ?_; refine Km ?_; (first | iterate 5 refine Kd ?_ | (refine Ky xM1 ?_; refine Ky (by exact ok_ixR (i := 0) rfl rfl rfl rfl ts_s_Interval (by decide) (by decide) rfl) ?_; refine Ky (xLa tk_Interval) ?_; refine Ky (xCl Tryz.func40 (IT)) ?_; refine Ky (xCl Tryz.func31 (SM)) ?_)); refine Ko xPk ?_; refine Ka ?_; refine Ke ?_))
  exact ret_q rfl (.cons_ (rv_b rfl (rfl)) .nil_)
section
variable {ps : List Prt} {bs : List Bk} {os : List Int} {st : List Iq}
theorem rg_keep {t u i : Nat} (htu : t ≤ u) (hu : u ≤ (ordM bs).length) (h : ∀ v, t ≤ v → v < u → (ordM bs)[v]? ≠ some i) : (rgS ps bs st u)[i]? = (rgS ps bs st t)[i]? := by
  induction u with
  | zero => rw [show t = 0 by omega]
  | succ u ih =>
    by_cases e : t = u + 1
    · rw [e]
    · obtain ⟨j, hj⟩ : ∃ j, (ordM bs)[u]? = some j := ⟨_, List.getElem?_eq_getElem (by omega)⟩
      have hne : j ≠ i := fun hji => h u (by omega) (by omega) (by rw [hj, hji])
      rw [rgS_next hj, List.getElem?_set_ne hne]
      exact ih (by omega) (by omega) fun v h1 h2 => h v h1 (by omega)
theorem rgstd_keep {t u i : Nat} (htu : t ≤ u) (hu : u ≤ (ordM bs).length) (h : stdS bs t i) : (rgS ps bs st u)[i]? = (rgS ps bs st t)[i]? := by
  refine rg_keep htu hu fun v h1 h2 hv => ?_
  rcases h with ⟨_, hk⟩ | hm
  · exact (ord_at hv).2 hk
  · obtain ⟨w, hw⟩ := List.mem_iff_getElem?.1 hm
    rw [List.getElem?_take] at hw
    split at hw
    · have := nodup_at (ord_nodup bs) hw hv
      omega
    · cases hw
def argsJ (V : List Iq) (y : Bk) : List Iq := if y.kind = 0 then [] else y.args.map fun a => V[a.toNat]?.getD iZ
theorem rg_block (he : dgErr ps bs os = 0) (hs : ∀ p ∈ st, IwS p LB LB) (hl : st.length = (delL bs).length) (hb : rgBad ps bs st = false) {i : Nat} {y : Bk} (hy : bs[i]? = some y) (hk : y.kind ≠ 2) :
    (rgV ps bs st)[i]? = some (rangeV y (argsJ (rgV ps bs st) y) ps) := by
  have H := rgS_has he hs hl hb
  have hil := (List.getElem?_eq_some_iff.1 hy).1
  obtain ⟨t, ht⟩ := List.mem_iff_getElem?.1 (ord_all (pre_of he).2.2 hil (by rw [kind_at hy]; exact hk))
  have htl := (List.getElem?_eq_some_iff.1 ht).1
  obtain ⟨y', hy', _, T⟩ := tickW_of he ht (H t (by omega))
  obtain rfl : y' = y := Option.some.inj (hy'.symm.trans hy)
  have e1 : (rgS ps bs st (ordM bs).length)[i]? = some (some (rgN ps bs st t)) := by
    rw [rg_keep (t := t + 1) htl (Nat.le_refl _) fun v k1 k2 kv => by have := nodup_at (ord_nodup bs) ht kv; omega]
    rw [rgS_next ht, List.getElem?_set_self (by rw [rgS_len]; exact hil)]
  rw [show rgV ps bs st = gW (rgS ps bs st (ordM bs).length) from rfl, gW_at e1, rgN_at ht hy']
  congr 2
  unfold argsW argsJ
  by_cases h0 : y'.kind = 0
  · rw [if_pos h0, if_pos h0]
  · rw [if_neg h0, if_neg h0]
    refine List.map_congr_left fun a ha => ?_
    obtain ⟨k, hk'⟩ := List.mem_iff_getElem?.1 ha
    obtain ⟨p, a0, a1, a2, _⟩ := T.args h0 k a hk'
    have hst : stdS bs t a.toNat := by
      have hsplit : ordM bs = (ordM bs).take t ++ i :: (ordM bs).drop (t + 1) := by
        obtain ⟨hlt, he⟩ := List.getElem?_eq_some_iff.1 ht
        rw [← he, ← List.drop_eq_getElem_cons hlt, List.take_append_drop]
      exact (ord_done hsplit (a := a) (by rw [preds_at hy h0]; exact ha)).imp (fun q => ⟨a1, q⟩) id
    have e2 := rgstd_keep (ps := ps) (st := st) (Nat.le_of_lt htl) (Nat.le_refl _) hst
    rw [a2] at e2
    rw [a2, gW_at e2]
    rfl
theorem delW_vals {dl : List Nat} (hd : dl.Nodup) {vs : List (Option Iq)} (hl : st.length = dl.length) (hb : ∀ i ∈ dl, i < vs.length) {k i : Nat} (hk : dl[k]? = some i) : (delW dl st vs)[i]? = (st[k]?).map some := by
  have key : ∀ t, t ≤ dl.length → k < t → (delW (dl.take t) (st.take t) vs)[i]? = (st[k]?).map some := fun t => by
    induction t with
    | zero => intro _ h; omega
    | succ t ih =>
      intro ht hkt
      obtain ⟨j, hj⟩ : ∃ j, dl[t]? = some j := ⟨_, List.getElem?_eq_getElem (by omega)⟩
      obtain ⟨p, hp⟩ : ∃ p, st[t]? = some p := ⟨_, List.getElem?_eq_getElem (by omega)⟩
      rw [delW_next _ hj hp]
      by_cases e : k = t
      · subst e
        obtain rfl : j = i := Option.some.inj (hj.symm.trans hk)
        rw [List.getElem?_set_self (by rw [delW_len]; exact hb j (List.mem_of_getElem? hj)), hp]
        rfl
      · have hne : j ≠ i := fun h => e (nodup_at hd hk (h ▸ hj))
        rw [List.getElem?_set_ne hne]
        exact ih (by omega) (by omega)
  have hkl := (List.getElem?_eq_some_iff.1 hk).1
  have h := key dl.length (Nat.le_refl _) hkl
  rwa [List.take_length, List.take_of_length_le (by omega)] at h
theorem rg_delay (hl : st.length = (delL bs).length) {k i : Nat} (hk : (delL bs)[k]? = some i) : (rgV ps bs st)[i]? = st[k]? := by
  have hd := del_at hk
  have e := rgstd_keep (ps := ps) (st := st) (t := 0) (u := (ordM bs).length) (Nat.zero_le _) (Nat.le_refl _) (.inl hd)
  rw [rgS_0, delW_vals (delL_nodup bs) hl (fun j hj => by obtain ⟨n, hn⟩ := List.mem_iff_getElem?.1 hj; rw [List.length_replicate]; exact (del_at hn).1) hk] at e
  obtain ⟨p, hp⟩ : ∃ p, st[k]? = some p := ⟨_, List.getElem?_eq_getElem (by rw [hl]; exact (List.getElem?_eq_some_iff.1 hk).1)⟩
  rw [hp] at e ⊢
  exact gW_at e
theorem clos_at (h : closB ps bs st = true) {k : Nat} (hk : k < (delL bs).length) : clOk ps bs st k = true := List.all_eq_true.1 h k (List.mem_range.2 hk)
theorem argsJ_len {V : List Iq} {y : Bk} (h : y.kind ≠ 0) : (argsJ V y).length = y.args.length := by unfold argsJ; rw [if_neg h, List.length_map]
theorem argsJ_at {V : List Iq} {y : Bk} (h : y.kind ≠ 0) {k : Nat} {a : Int} (ha : y.args[k]? = some a) {p : Iq} (hp : V[a.toNat]? = some p) : (argsJ V y)[k]? = some p := by
  unfold argsJ
  rw [if_neg h, List.getElem?_map, ha, Option.map_some, hp]
  rfl
theorem argsJ_iw {V : List Iq} {y : Bk} (hV : ∀ p ∈ V, IwS p LB LB) : ∀ p ∈ argsJ V y, IwS p LB LB := fun p hp => by
  unfold argsJ at hp
  split at hp
  · cases hp
  · obtain ⟨a, _, rfl⟩ := List.mem_map.1 hp
    exact getD_iw hV _
theorem rgV_all (he : dgErr ps bs os = 0) (hs : ∀ p ∈ st, IwS p LB LB) (hl : st.length = (delL bs).length) (hb : rgBad ps bs st = false) : ∀ p ∈ rgV ps bs st, IwS p LB LB := fun p hp => by
  obtain ⟨i, hi⟩ := List.mem_iff_getElem?.1 hp
  have hil := (List.getElem?_eq_some_iff.1 hi).1
  rw [rgV_len] at hil
  obtain ⟨q, hq, _, hs⟩ := rgV_at he hs hl hb hil
  rw [hi] at hq
  cases hq
  exact hs
end
theorem rangesLocal_cv (ps : List Prt) (bs : List Bk) (os : List Int) (k : Int) (hk0 : 0 ≤ k) (hk1 : k < 256) : CV Tryz.prog TabAt 6 [aDg true ps bs os, .one (.val (.int .u8 k))] [aB true] := by
  refine cvz Tryz.func6 Tryz.ntmps6 ?_
  have LT := light_cvT true ps bs os
  by_cases h1 : lightB ps bs os = true
  case neg =>
    rw [Bool.not_eq_true] at h1
    rw [h1] at LT
    repeat' (with_reducible first | apply qa | apply qb | apply qc | apply qd | apply qe | apply qf | apply qg | apply qh | apply qi | apply qj | apply qk | apply ql rfl | apply qm rfl | apply qn rfl | apply Je | (refine Tx 0 ?_; refine Jn xBo ?_; refine Ja ?_) | (refine Tx 1 ?_; refine Jo (xCl Tryz.func9 (awake12_cv)) ?_; refine Jo (by first | exact xNt | exact xNg) ?_; refine Jm ?_; (first | iterate 3 refine Jd ?_ | (refine Jy (xLa tk_Diagram) ?_; refine Jy (xCl Tryz.func10 (LT)) ?_; refine Jy (by first | exact xNt | exact xNg) ?_)); refine Jo xPk ?_; refine Jm ?_; (first | iterate 3 refine Jd ?_ | (refine Jy (xLa tk_Diagram) ?_; refine Jy (xCl Tryz.func14 (RC.cv)) ?_; refine Jy xNe ?_)); refine Jo xPk ?_) | (refine Tx 2 ?_; refine Jo (xCl Tryz.func9 (awake12_cv)) ?_; refine Ja ?_))
    exact ret_q rfl (.cons_ (rv_b rfl (rfl)) .nil_)
  rw [h1] at LT
  have hl := (light_len h1).1
  have RC := rcheck_cv true hl
  by_cases h0 : dgErr ps bs os = 0
  case neg =>
    repeat' (with_reducible first | apply qa | apply qb | apply qc | apply qd | apply qe | apply qf | apply qg | apply qh | apply qi | apply qj | apply qk | apply ql rfl | apply qm rfl | apply qn rfl | apply Je | (refine Tx 0 ?_; refine Jn xBo ?_; refine Ja ?_) | (refine Tx 1 ?_; refine Jo (xCl Tryz.func9 (awake12_cv)) ?_; refine Jo (by first | exact xNt | exact xNg) ?_; refine Jm ?_; (first | iterate 3 refine Jd ?_ | (refine Jy (xLa tk_Diagram) ?_; refine Jy (xCl Tryz.func10 (LT)) ?_; refine Jy (by first | exact xNt | exact xNg) ?_)); refine Jo xPk ?_; refine Jm ?_; (first | iterate 3 refine Jd ?_ | (refine Jy (xLa tk_Diagram) ?_; refine Jy (xCl Tryz.func14 (RC.cv)) ?_; refine Jy xNe ?_)); refine Jo xPk ?_) | (refine Tx 2 ?_; refine Jo (xCl Tryz.func9 (awake12_cv)) ?_; refine Ja ?_))
    exact ret_q rfl (.cons_ (rv_b rfl (rfl)) .nil_)
  obtain ⟨m, hm⟩ : ∃ m, k.tmod 16 = m := ⟨_, rfl⟩
  have hm2 : 0 ≤ m ∧ m < 16 := by rw [← hm, Int.tmod_eq_emod_of_nonneg hk0]; omega
  have hwr : IntKind.i64.wrap m = m := IntWalk.i64_in m (by omega)
  rw [h0] at RC
  obtain ⟨f, e, l, hf, hr, hres⟩ := infer_get h0 hl (1 + m) (by omega)
  have IN := rginfer_cv true hl h0 (1 + m) (by omega) (by omega) (e, l) f hf hr
  rcases hres with ⟨rfl, hI, hb, hc⟩ | ⟨he, rfl⟩
  case inr =>
    rcases he with rfl | rfl
    ·
      repeat' (with_reducible first | apply qa | apply qb | apply qc | apply qd | apply qe | apply qf | apply qg | apply qh | apply qi | apply qj | apply qk | apply ql rfl | apply qm rfl | apply qn rfl | apply Je | (refine Tx 0 ?_; refine Jn xBo ?_; refine Ja ?_) | (refine Tx 1 ?_; refine Jo (xCl Tryz.func9 (awake12_cv)) ?_; refine Jo (by first | exact xNt | exact xNg) ?_; refine Jm ?_; (first | iterate 3 refine Jd ?_ | (refine Jy (xLa tk_Diagram) ?_; refine Jy (xCl Tryz.func10 (LT)) ?_; refine Jy (by first | exact xNt | exact xNg) ?_)); refine Jo xPk ?_; refine Jm ?_; (first | iterate 3 refine Jd ?_ | (refine Jy (xLa tk_Diagram) ?_; refine Jy (xCl Tryz.func14 (RC.cv)) ?_; refine Jy xNe ?_)); refine Jo xPk ?_) | (refine Tx 3 ?_; refine Jo (xLa tk_Diagram) ?_; refine Jm ?_; refine Jo (by first | exact ok_remR rfl rfl rfl (by decide) hm | exact ok_rem rfl rfl rfl (by omega)) ?_; refine Jo (by first | exact ok_convR rfl Tryz.underlying5 Tryz.underlying3 rfl hwr | exact ok_conv rfl Tryz.underlying5 Tryz.underlying3 rfl) ?_; refine Jo xAd ?_; refine Jo (xCl Tryz.func20 (IN)) ?_; refine Jo xMt ?_; refine Jo xEx ?_; refine Jo xEx ?_; refine Ja ?_; refine Ja ?_) | (refine Tx 4 ?_; refine Jm ?_; refine Jo (by first | exact ok_neqE rfl ti_error rfl (bne_t (by decide)) | exact ok_neqE rfl ti_error rfl (bne_f (by first | rfl | omega)) | exact ok_neqE rfl ti_error rfl (bne_t (by first | assumption | omega)) | exact ok_neqE rfl ti_error rfl rfl) ?_) | (refine Tx 5 ?_; refine Ja ?_))
      exact ret_q rfl (.cons_ (rv_b rfl (rfl)) .nil_)
    ·
      repeat' (with_reducible first | apply qa | apply qb | apply qc | apply qd | apply qe | apply qf | apply qg | apply qh | apply qi | apply qj | apply qk | apply ql rfl | apply qm rfl | apply qn rfl | apply Je | (refine Tx 0 ?_; refine Jn xBo ?_; refine Ja ?_) | (refine Tx 1 ?_; refine Jo (xCl Tryz.func9 (awake12_cv)) ?_; refine Jo (by first | exact xNt | exact xNg) ?_; refine Jm ?_; (first | iterate 3 refine Jd ?_ | (refine Jy (xLa tk_Diagram) ?_; refine Jy (xCl Tryz.func10 (LT)) ?_; refine Jy (by first | exact xNt | exact xNg) ?_)); refine Jo xPk ?_; refine Jm ?_; (first | iterate 3 refine Jd ?_ | (refine Jy (xLa tk_Diagram) ?_; refine Jy (xCl Tryz.func14 (RC.cv)) ?_; refine Jy xNe ?_)); refine Jo xPk ?_) | (refine Tx 3 ?_; refine Jo (xLa tk_Diagram) ?_; refine Jm ?_; refine Jo (by first | exact ok_remR rfl rfl rfl (by decide) hm | exact ok_rem rfl rfl rfl (by omega)) ?_; refine Jo (by first | exact ok_convR rfl Tryz.underlying5 Tryz.underlying3 rfl hwr | exact ok_conv rfl Tryz.underlying5 Tryz.underlying3 rfl) ?_; refine Jo xAd ?_; refine Jo (xCl Tryz.func20 (IN)) ?_; refine Jo xMt ?_; refine Jo xEx ?_; refine Jo xEx ?_; refine Ja ?_; refine Ja ?_) | (refine Tx 4 ?_; refine Jm ?_; refine Jo (by first | exact ok_neqE rfl ti_error rfl (bne_t (by decide)) | exact ok_neqE rfl ti_error rfl (bne_f (by first | rfl | omega)) | exact ok_neqE rfl ti_error rfl (bne_t (by first | assumption | omega)) | exact ok_neqE rfl ti_error rfl rfl) ?_) | (refine Tx 5 ?_; refine Ja ?_))
      exact ret_q rfl (.cons_ (rv_b rfl (rfl)) .nil_)
  obtain ⟨q1, q2⟩ := cl_of h0 hI.iw hI.len hb
  have hdb := delL_le bs
  have hl2 := hl.l2
  have hl1 := hl.l1
  have hll := hI.len
  have hlb := hI.lb hb
  have EV := rgeval_cv true hl (l.map rvI2) (rvI2_L hI.iw (by decide)) (by rw [List.length_map]; omega)
  rw [q1, okQ_z rfl, rvI2_map, rowV_of] at EV
  unfold aIws at EV IN
  have hvl : (rgV ps bs l).length = bs.length := rgV_len
  have hvs := rgV_all h0 hlb hll hb
  have hVb := fun (i : Nat) (y : Bk) (hy : bs[i]? = some y) (hk : y.kind ≠ 2) => rg_block h0 hlb hll hb hy hk
  have hVd := fun (k i : Nat) (hk : (delL bs)[k]? = some i) => rg_delay (ps := ps) hll hk
  have hck := fun (k : Nat) (hk : k < (delL bs).length) => clos_at hc hk
  have hcd := fun (k i b : Nat) (y : Bk) (a r : Iq) (hi : (delL bs)[k]? = some i) (hy : bs[i]? = some y) (ha : y.args[0]? = some (b : Int)) (hs : l[k]? = some a) (hr : (rgV ps bs l)[b]? = some r) => clOk_at hi hy ha hs hr
  rw [hvl] at EV
  repeat' (with_reducible first | apply qa | apply qb | apply qc | apply qd | apply qe | apply qf | apply qg | apply qh | apply qi | apply qj | apply qk | apply ql rfl | apply qm rfl | apply qn rfl | apply Je | (refine Tx 0 ?_; refine Jn xBo ?_; refine Ja ?_) | (refine Tx 1 ?_; refine Jo (xCl Tryz.func9 (awake12_cv)) ?_; refine Jo (by first | exact xNt | exact xNg) ?_; refine Jm ?_; (first | iterate 3 refine Jd ?_ | (refine Jy (xLa tk_Diagram) ?_; refine Jy (xCl Tryz.func10 (LT)) ?_; refine Jy (by first | exact xNt | exact xNg) ?_)); refine Jo xPk ?_; refine Jm ?_; (first | iterate 3 refine Jd ?_ | (refine Jy (xLa tk_Diagram) ?_; refine Jy (xCl Tryz.func14 (RC.cv)) ?_; refine Jy xNe ?_)); refine Jo xPk ?_) | (refine Tx 3 ?_; refine Jo (xLa tk_Diagram) ?_; refine Jm ?_; refine Jo (by first | exact ok_remR rfl rfl rfl (by decide) hm | exact ok_rem rfl rfl rfl (by omega)) ?_; refine Jo (by first | exact ok_convR rfl Tryz.underlying5 Tryz.underlying3 rfl hwr | exact ok_conv rfl Tryz.underlying5 Tryz.underlying3 rfl) ?_; refine Jo xAd ?_; refine Jo (xCl Tryz.func20 (IN)) ?_; refine Jo xMt ?_; refine Jo xEx ?_; refine Jo xEx ?_; refine Ja ?_; refine Ja ?_) | (refine Tx 4 ?_; refine Jm ?_; refine Jo (xNE ti_error) ?_) | (refine Tx 6 ?_; refine Jo (xLa tk_Diagram) ?_; refine Jm ?_; refine Jo (xCl Tryz.func12 (EV)) ?_; refine Jo xMt ?_; refine Jo xEx ?_; refine Jo xEx ?_; refine Ja ?_; refine Ja ?_) | (refine Tx 7 ?_; refine Jm ?_; refine Jo (xNE ti_error) ?_; refine Jm ?_; (first | iterate 6 refine Jd ?_ | (refine Jy xM1 ?_; refine Jy (xLn ts_s_Interval) ?_; refine Jy (xFa tf_Diagram1 tk_s_Block) ?_; refine Jy (xLd tk_s_Block) ?_; refine Jy (xLn ts_s_Block) ?_; refine Jy xNe ?_)); refine Jo xPk ?_) | (refine Tx 9 ?_; refine Ja ?_) | (refine Tx 10 ?_; refine Jo (xFa tf_Diagram1 tk_s_Block) ?_; refine Jo (xLd tk_s_Block) ?_; refine Jo (xLn ts_s_Block) ?_; refine Jm ?_))
  generalize rgV ps bs l = V at *
  refine cw_wk (F' := ofL [(2, vr 0), (5, vd (.row false 6 l.length (flatD (dIw false) l))), (7, vd (.row false 6 bs.length (flatD (dIw false) V))), (9, vi (((dlK bs 0).length : Nat))), (57, vd (rowB true bs)), (58, vi bs.length), (59, vi ((0 : Nat)))]) (H' := [.box 26 [.d (rowP true ps), .d (rowB true bs), .d (rowI true os)]]) (wk_go _ 1 ?_ ?_ ?_) ?_
  · rfl
  · exact mB rfl rfl
  · exact ⟨bel_lit rfl, trivial⟩
  refine cw_loopW (fun n Fr H => ∃ j : Nat, j ≤ bs.length ∧ n = bs.length - j ∧ Fr = ofL [(2, vr 0), (5, vd (.row false 6 l.length (flatD (dIw false) l))), (7, vd (.row false 6 bs.length (flatD (dIw false) V))), (9, vi (((dlK bs j).length : Nat))), (57, vd (rowB true bs)), (58, vi bs.length), (59, vi ((j : Nat)))] ∧ H = [.box 26 [.d (rowP true ps), .d (rowB true bs), .d (rowI true os)]]) (n0 := bs.length) ⟨0, Nat.zero_le _, rfl, rfl, rfl⟩ ?_
  rintro n Fr H ⟨j, hj, rfl, rfl, rfl⟩
  by_cases hlj : j < bs.length
  case pos =>
    obtain ⟨y, hy⟩ : ∃ y, bs[j]? = some y := ⟨_, List.getElem?_eq_getElem hlj⟩
    obtain ⟨q, hq⟩ : ∃ q, V[j]? = some q := ⟨_, List.getElem?_eq_getElem (by omega)⟩
    have hqs := hvs q (List.mem_of_getElem? hq)
    have hqL := hqs.L (by decide)
    have SQ := risame_cv q q hqL hqL
    rw [decide_eq_true rfl] at SQ
    have hA2 := acc_args h0 hy
    have hjl := dlK_len bs j
    skip
    have hT : y.kind ≠ 2 → TickW ps bs (V.map some) y := fun hk => tickW_of2 h0 hy hk fun _ a _ a0 a1 => by
      obtain ⟨p, hp⟩ : ∃ p, V[a.toNat]? = some p := ⟨_, List.getElem?_eq_getElem (by omega)⟩
      exact ⟨p, by rw [List.getElem?_map, hp]; rfl, hvs p (List.mem_of_getElem? hp)⟩
    by_cases k0 : y.kind = 0
    case pos =>
      obtain ⟨i0, pp, q0, w0, ps0⟩ := (hT (by omega)).hin k0
      have hb := hVb j y hy (by omega)
      have m1 := (List.getElem?_eq_some_iff.1 q0).1
      have m3 := (List.getElem?_eq_some_iff.1 w0).1
      have PO := rport_cvI pp ps0
      have hb2 : rangeV y (argsJ V y) ps = portI pp := by unfold rangeV; rw [if_pos k0, q0]; simp [w0]
      rw [hb2, hq] at hb
      obtain rfl := Option.some.inj hb
      have hkn : kindAt bs j ≠ 2 := by rw [kind_at hy]; omega
      repeat' (with_reducible first | apply qa | apply qb | apply qc | apply qd | apply qe | apply qf | apply qg | apply qh | apply qi | apply qj | apply qk | apply ql rfl | apply qm rfl | apply qn rfl | apply Je | (refine Tx 11 ?_; refine Jo xLt ?_) | (refine Tx 12 ?_; refine Jm ?_; refine Jo (xIr ts_s_Block (bk_at hy)) ?_; refine Jo (xLa tk_Block) ?_; refine Jn (xAl tz_Block) ?_; refine Ja ?_; refine Js (xSk tk_Block) ?_) | (refine Tx 13 ?_; refine Jn (xAl tz_Interval) ?_) | (refine Tx 14 ?_; refine Jo (xFa tf_Block0 tk_int) ?_; refine Jo (xLd tk_int) ?_) | (refine Tx 22 ?_; refine Jo xEq ?_; refine Ja ?_) | (refine cw_part (id := 23) 9 mixed (by kernel_rfl) ?_; dsimp only [List.take, List.drop]; refine Ko (xFa tf_Diagram0 tk_s_Port) ?_; refine Ko (xLd tk_s_Port) ?_; refine Ko (xFa tf_Block1 tk_s_int) ?_; refine Ko (xLd tk_s_int) ?_; refine Ko (xIr ts_s_int (int_at q0)) ?_; refine Ko (xLd tk_int) ?_; refine Ko (xIr ts_s_Port (prt_at w0)) ?_; refine Ko (xLa tk_Port) ?_; refine Ko (xCl Tryz.func26 (PO)) ?_; refine Ke ?_; refine Js (xSk tk_Interval) ?_) | (refine cw_any (id := 29) mixed (by kernel_rfl) ?_; refine Km ?_; refine Km ?_; refine Ko (xIr ts_s_Interval (iw_at hq)) ?_; refine Ko (xLa tk_Interval) ?_; refine Ko (xLa tk_Interval) ?_; refine Ko (xCl Tryz.func31 (SQ)) ?_; refine Ko (by first | exact xNt | exact xNg) ?_; refine Ke ?_) | (refine Tx 31 ?_; refine Jo xAd ?_; refine Jm ?_))
      rw [← dlK_no hkn]
      refine ⟨_, _, wk_go _ 1 ?_ ?_ ?_, _, ?_, j + 1, by omega, rfl, rfl, rfl⟩
      · rfl
      · exact mB rfl rfl
      · exact ⟨bel_lit rfl, trivial⟩
      · omega
    by_cases k2 : y.kind = 2
    case pos =>
      have hkn : kindAt bs j = 2 := by rw [kind_at hy]; exact k2
      have hdr := del_rank hlj hkn
      have hdl := (List.getElem?_eq_some_iff.1 hdr).1
      obtain ⟨b, hA0, hbl⟩ := del_arg h0 hy k2
      obtain ⟨p, hp⟩ : ∃ p, V[b]? = some p := ⟨_, List.getElem?_eq_getElem (by omega)⟩
      have hps := hvs p (List.mem_of_getElem? hp)
      have hst := hVd _ _ hdr
      rw [hq] at hst
      have hst := hst.symm
      have hal := (List.getElem?_eq_some_iff.1 hA0).1
      have hce := hcd _ _ _ _ _ _ hdr hy hA0 hst hp
      rw [hck _ hdl] at hce
      have hce := Bool.and_eq_true_iff.1 hce.symm
      have hsc := acc_sc h0 hy (by unfold valU; rw [k2]; rfl)
      have RV := (rvalue_cv (G := TabAt) y.vn y.ve (by have := hsc.1; omega) (by have := hsc.2.1; omega)).cv
      have CO := ricontains_cv q (dyShift y.vn 0 y.ve) (hqs.more (show LB ≤ 20000 by decide) (show LB ≤ 20000 by decide)) ((sc_lb hsc).more (show LB ≤ 20000 by decide) (show LB ≤ 20000 by decide))
      have IN2 := riinside_cv p q (hps.more (show LB ≤ 20000 by decide) (show LB ≤ 20000 by decide)) (hqs.more (show LB ≤ 20000 by decide) (show LB ≤ 20000 by decide))
      rw [hce.1] at CO
      rw [hce.2] at IN2
      repeat' (with_reducible first | apply qa | apply qb | apply qc | apply qd | apply qe | apply qf | apply qg | apply qh | apply qi | apply qj | apply qk | apply ql rfl | apply qm rfl | apply qn rfl | apply Je | (refine Tx 11 ?_; refine Jo xLt ?_) | (refine Tx 12 ?_; refine Jm ?_; refine Jo (xIr ts_s_Block (bk_at hy)) ?_; refine Jo (xLa tk_Block) ?_; refine Jn (xAl tz_Block) ?_; refine Ja ?_; refine Js (xSk tk_Block) ?_) | (refine Tx 13 ?_; refine Jn (xAl tz_Interval) ?_) | (refine Tx 14 ?_; refine Jo (xFa tf_Block0 tk_int) ?_; refine Jo (xLd tk_int) ?_) | (refine Tx 22 ?_; refine Jo xEq ?_; refine Ja ?_) | (refine Tx 24 ?_; refine Jo xEq ?_; refine Ja ?_) | (refine cw_any (id := 25) mixed (by kernel_rfl) ?_; refine Km ?_; refine Km ?_; refine Ko (xLn ts_s_Interval) ?_; refine Ko xGe ?_; refine Km ?_; (first | iterate 9 refine Kd ?_ | (refine Ky xM1 ?_; refine Ky xM1 ?_; refine Ky (xIr ts_s_Interval (iw_at hst)) ?_; refine Ky (xLa tk_Interval) ?_; refine Ky (xFa tf_Block2 tk_Scalar) ?_; refine Ky (xLa tk_Scalar) ?_; refine Ky (xCl Tryz.func28 (RV)) ?_; refine Ky (xCl Tryz.func27 (CO)) ?_; refine Ky (by first | exact xNt | exact xNg) ?_)); refine Ko xPk ?_; refine Km ?_; (first | iterate 13 refine Kd ?_ | (refine Ky xM1 ?_; refine Ky (xFa tf_Block1 tk_s_int) ?_; refine Ky (xLd tk_s_int) ?_; refine Ky (xIr ts_s_int (int_at hA0)) ?_; refine Ky (xLd tk_int) ?_; refine Ky (xIr ts_s_Interval (iw_at hp)) ?_; refine Ky (xLa tk_Interval) ?_; refine Ky xM1 ?_; refine Ky xM1 ?_; refine Ky (xIr ts_s_Interval (iw_at hst)) ?_; refine Ky (xLa tk_Interval) ?_; refine Ky (xCl Tryz.func29 (IN2)) ?_; refine Ky (by first | exact xNt | exact xNg) ?_)); refine Ko xPk ?_; refine Ke ?_) | (refine Tx 27 ?_; refine Jm ?_; refine Jm ?_; refine Jo (xIr ts_s_Interval (iw_at hst)) ?_; refine Jo (xLa tk_Interval) ?_; refine Js (xSk tk_Interval) ?_) | (refine Tx 28 ?_; refine Jm ?_; refine Jo xAd ?_; refine Ja ?_) | (refine cw_any (id := 29) mixed (by kernel_rfl) ?_; refine Km ?_; refine Km ?_; refine Ko (xIr ts_s_Interval (iw_at hq)) ?_; refine Ko (xLa tk_Interval) ?_; refine Ko (xLa tk_Interval) ?_; refine Ko (xCl Tryz.func31 (SQ)) ?_; refine Ko (by first | exact xNt | exact xNg) ?_; refine Ke ?_) | (refine Tx 31 ?_; refine Jo xAd ?_; refine Jm ?_))
      have hcn : (((dlK bs j).length : Nat) : Int) + 1 = (((dlK bs (j + 1)).length : Nat) : Int) := by rw [dlK_yes hkn]; omega
      rw [hcn]
      refine ⟨_, _, wk_go _ 1 ?_ ?_ ?_, _, ?_, j + 1, by omega, rfl, rfl, rfl⟩
      · rfl
      · exact mB rfl rfl
      · exact ⟨bel_lit rfl, trivial⟩
      · omega
    have hkn : kindAt bs j ≠ 2 := by rw [kind_at hy]; exact k2
    have T := hT k2
    have hb := hVb j y hy k2
    rw [range_blk k0, hq] at hb
    have hmo : mostM ps.length bs.length y.kind = bs.length := if_neg k0
    rw [hmo] at hA2
    have hXL := argsJ_len (V := V) k0
    have hal := T.len
    repeat' (with_reducible first | apply qa | apply qb | apply qc | apply qd | apply qe | apply qf | apply qg | apply qh | apply qi | apply qj | apply qk | apply ql rfl | apply qm rfl | apply qn rfl | apply Je | (refine Tx 11 ?_; refine Jo xLt ?_) | (refine Tx 12 ?_; refine Jm ?_; refine Jo (xIr ts_s_Block (bk_at hy)) ?_; refine Jo (xLa tk_Block) ?_; refine Jn (xAl tz_Block) ?_; refine Ja ?_; refine Js (xSk tk_Block) ?_) | (refine Tx 13 ?_; refine Jn (xAl tz_Interval) ?_) | (refine Tx 14 ?_; refine Jo (xFa tf_Block0 tk_int) ?_; refine Jo (xLd tk_int) ?_) | (refine Tx 22 ?_; refine Jo xEq ?_; refine Ja ?_) | (refine Tx 24 ?_; refine Jo xEq ?_; refine Ja ?_) | (refine Tx 15 ?_; refine Ja ?_))
    refine cw_wk (wk_nil 13 55 6 rfl) ?_
    repeat' (with_reducible first | apply qa | apply qb | apply qc | apply qd | apply qe | apply qf | apply qg | apply qh | apply qi | apply qj | apply qk | apply ql rfl | apply qm rfl | apply qn rfl | apply Je | (refine Tx 16 ?_; refine Jo (xFa tf_Block1 tk_s_int) ?_; refine Jo (xLd tk_s_int) ?_; refine Jo (xLn ts_s_int) ?_; refine Jm ?_))
    refine cw_wk (F' := ofL [(2, vr 0), (5, vd (.row false 6 l.length (flatD (dIw false) l))), (7, vd (.row false 6 bs.length (flatD (dIw false) V))), (9, vi (((dlK bs j).length : Nat))), (57, vd (rowB true bs)), (58, vi bs.length), (59, vi ((j : Nat))), (10, vi ((j : Nat))), (11, vr 1), (12, vr 2), (13, vo 3 (((argsJ V y).take 0).length)), (67, vd (rowI true y.args)), (68, vi y.args.length), (69, vi ((0 : Nat)))]) (H' := [.box 26 [.d (rowP true ps), .d (rowB true bs), .d (rowI true os)], .box 65 ((dBk true y).map C.d), .box 55 [.d (.val (.bool false)), .d (.val (.slice none 0 0)), .d (.val (.int .i64 0)), .d (.val (.bool false)), .d (.val (.slice none 0 0)), .d (.val (.int .i64 0))], .row 55 6 ((argsJ V y).take (0)).length ((flatD (dIw false) ((argsJ V y).take (0))).map C.d)]) (wk_go _ 4 ?_ ?_ ?_) ?_
    · rfl
    · exact mB rfl rfl
    · exact ⟨bel_lit rfl, bel_D, bel_lit rfl, bel_D, trivial⟩
    refine cw_loopW (fun n Fr H => ∃ u : Nat, u ≤ y.args.length ∧ n = y.args.length - u ∧ Fr = ofL [(2, vr 0), (5, vd (.row false 6 l.length (flatD (dIw false) l))), (7, vd (.row false 6 bs.length (flatD (dIw false) V))), (9, vi (((dlK bs j).length : Nat))), (57, vd (rowB true bs)), (58, vi bs.length), (59, vi ((j : Nat))), (10, vi ((j : Nat))), (11, vr 1), (12, vr 2), (13, vo 3 (((argsJ V y).take u).length)), (67, vd (rowI true y.args)), (68, vi y.args.length), (69, vi ((u : Nat)))] ∧ H = [.box 26 [.d (rowP true ps), .d (rowB true bs), .d (rowI true os)], .box 65 ((dBk true y).map C.d), .box 55 [.d (.val (.bool false)), .d (.val (.slice none 0 0)), .d (.val (.int .i64 0)), .d (.val (.bool false)), .d (.val (.slice none 0 0)), .d (.val (.int .i64 0))], .row 55 6 ((argsJ V y).take (u)).length ((flatD (dIw false) ((argsJ V y).take (u))).map C.d)]) (n0 := y.args.length) ⟨0, Nat.zero_le _, rfl, rfl, rfl⟩ ?_
    rintro n Fr H ⟨u, hu, rfl, rfl, rfl⟩
    by_cases hlu : u < y.args.length
    case pos =>
      obtain ⟨a, ha⟩ : ∃ a, y.args[u]? = some a := ⟨_, List.getElem?_eq_getElem hlu⟩
      obtain ⟨a0, a1⟩ := hA2.2.2 a (List.mem_of_getElem? ha)
      obtain ⟨p, hp⟩ : ∃ p, V[a.toNat]? = some p := ⟨_, List.getElem?_eq_getElem (by omega)⟩
      have hpl := (List.getElem?_eq_some_iff.1 hp).1
      have hae : a = ((a.toNat : Nat) : Int) := by omega
      have hat := argsJ_at (V := V) k0 ha hp
      obtain ⟨hap, hap2, hoL⟩ := flatI_next hat
      repeat' (with_reducible first | apply qa | apply qb | apply qc | apply qd | apply qe | apply qf | apply qg | apply qh | apply qi | apply qj | apply qk | apply ql rfl | apply qm rfl | apply qn rfl | apply Je | (refine Tx 17 ?_; refine Jo xLt ?_) | (refine Tx 18 ?_; refine Jo (by first | exact xIr ts_s_int (int_at ha) | exact ok_ixR (i := a.toNat) rfl rfl rfl hae ts_s_int (by omega) (by decide) (iw_at hp)) ?_; refine Jo (xLd tk_int) ?_; refine Ja ?_) | (refine Tx 19 ?_; refine Jm ?_; refine Jm ?_; refine Jm ?_; refine Jo (by exact ok_ixR (i := a.toNat) rfl rfl rfl hae ts_s_Interval (by omega) (by decide) (iw_at hp)) ?_; refine Jo (xLa tk_Interval) ?_; refine Jn (by exact ok_build1 rfl ts_s_Interval tz_Interval rfl rfl (by decide) (by decide)) ?_; refine Jt (by exact to_apD rfl rfl rfl rfl rfl rfl ts_s_Interval tz_Interval (by omega) (by decide) (by decide) rfl hap hap2) ?_; refine Ja ?_) | (refine Tx 20 ?_; refine Jo xAd ?_; refine Jm ?_))
      refine ⟨_, _, wk_go _ 4 ?_ ?_ ?_, _, ?_, u + 1, by omega, rfl, rfl, rfl⟩
      · rfl
      · exact mB rfl rfl
      · exact ⟨bel_lit rfl, bel_D, bel_lit rfl, bel_D, trivial⟩
      · omega
    obtain rfl : u = y.args.length := by omega
    clear hlu hu
    rw [← hXL, List.take_length]
    have BL := rblockI_cv true true y (argsJ V y) (by omega) (by have := T.hk; omega) (fun h => by rw [hXL]; have h1 := hA2.1; have h2 := hA2.2.1; have := T.hk; unfold arityM at h1 h2; (repeat' split at h2) <;> omega) (fun h => by rw [hXL]; have h1 := hA2.1; have h2 := hA2.2.1; unfold arityM at h1 h2; (repeat' split at h2) <;> omega) (fun p hp => (argsJ_iw hvs p hp).more (by decide) (by decide)) T.hsv T.hsu T.hcl
    obtain rfl := Option.some.inj hb
    repeat' (with_reducible first | apply qa | apply qb | apply qc | apply qd | apply qe | apply qf | apply qg | apply qh | apply qi | apply qj | apply qk | apply ql rfl | apply qm rfl | apply qn rfl | apply Je | (refine Tx 17 ?_; refine Jo xLt ?_) | (refine Tx 21 ?_; refine Jo (xLa tk_Block) ?_; refine Jm ?_; refine Jo (xCl Tryz.func30 BL (ha := by with_unfolding_all first | ((repeat' first | exact lrel_n rfl rfl | refine lrel_c rfl rfl ?_ ?_ | refine xexp_1 rfl rfl ?_ | refine xexp_a rfl rfl ?_ | exact cexp_d rfl (fun h => by cases h) | exact cexp_oF iw_free rfl rfl rfl) <;> fail) | fail)) ?_; refine Js (xSk tk_Interval) ?_) | (refine cw_any (id := 29) mixed (by kernel_rfl) ?_; refine Km ?_; refine Km ?_; refine Ko (xIr ts_s_Interval (iw_at hq)) ?_; refine Ko (xLa tk_Interval) ?_; refine Ko (xLa tk_Interval) ?_; refine Ko (xCl Tryz.func31 (SQ)) ?_; refine Ko (by first | exact xNt | exact xNg) ?_; refine Ke ?_) | (refine Tx 31 ?_; refine Jo xAd ?_; refine Jm ?_))
    rw [← dlK_no hkn]
    refine ⟨_, _, wk_go _ 1 ?_ ?_ ?_, _, ?_, j + 1, by omega, rfl, rfl, rfl⟩
    · rfl
    · exact mB rfl rfl
    · exact ⟨bel_lit rfl, trivial⟩
    · omega
  obtain rfl : j = bs.length := by omega
  repeat' (with_reducible first | apply qa | apply qb | apply qc | apply qd | apply qe | apply qf | apply qg | apply qh | apply qi | apply qj | apply qk | apply ql rfl | apply qm rfl | apply qn rfl | apply Je | (refine Tx 11 ?_; refine Jo xLt ?_) | (refine Tx 32 ?_; refine Ja ?_))
  exact ret_q rfl (.cons_ (rv_b rfl (rfl)) .nil_)
end Go.Proofs.YtilbehepmkpdbaaGreatDoor
namespace Go.Proofs.YtilbehepmkpdbaaGreatDoor
open Go.ChangeShapes Go.WideShapes Go.ChangeAt Go.RowKit Go.Joins Go.Deep
def AllS (w : World) : Sets := fun t b => t = true ∧ b < w.heap.size
theorem row_in {w : World} {A : Option Addr} {s n c : Nat} {cs : List D} {xs : List Value} (h : CellsAt w w.heap.size A xs) (hc : n ≤ c) (hA : A = none → c = 0) (hl : cs.length = n * s) (hr : LRel (DRel w (AllS w)) cs xs) : DRel w (AllS w) (.row true s n cs) (.slice A n c) := by
  refine .row xs hc hA hl hr.1 (fun hne => ?_) hr.2
  obtain ⟨b, off, h1, _, h2, h3⟩ := h (fun h0 => hne (by have := hr.1; rw [h0] at this; exact List.eq_nil_of_length_eq_zero (by simpa using this)))
  exact ⟨b, off, h1, ⟨rfl, h2⟩, h3⟩
theorem ints_one {zs : List Int} : ∀ v ∈ ints zs, v.oneCell' = true := fun v hv => by
  obtain ⟨z, _, rfl⟩ := List.mem_map.1 hv
  rfl
theorem rowI_in {w : World} {A : Option Addr} {zs : List Int} {c : Nat} (h : CellsAt w w.heap.size A (ints zs)) (hc : zs.length ≤ c) (hA : A = none → c = 0) : DRel w (AllS w) (rowI true zs) (.slice A zs.length c) := by
  unfold rowI
  rw [dI_map]
  exact row_in h hc hA (by simp [ints]) (rel_vals ints_one)
theorem prt_one {ps : List Prt} : ∀ v ∈ flat Prt.cells ps, v.oneCell' = true := fun v hv => by
  obtain ⟨l, hl, hv⟩ := List.mem_flatten.1 hv
  obtain ⟨p, _, rfl⟩ := List.mem_map.1 hl
  simp only [Prt.cells, List.mem_cons, List.not_mem_nil, or_false] at hv
  rcases hv with rfl | rfl | rfl <;> rfl
theorem flat_lenV {α : Type} {f : α → List Value} {s : Nat} (hf : ∀ x, (f x).length = s) : ∀ l : List α, (flat f l).length = l.length * s
  | [] => by simp [flat]
  | x :: l => by
    have ih := flat_lenV hf l
    unfold flat at ih ⊢
    rw [List.map_cons, List.flatten_cons, List.length_append, ih, hf, List.length_cons, Nat.add_mul]
    omega
theorem rowP_in {w : World} {A : Option Addr} {ps : List Prt} {c : Nat} (h : CellsAt w w.heap.size A (flat Prt.cells ps)) (hc : ps.length ≤ c) (hA : A = none → c = 0) : DRel w (AllS w) (rowP true ps) (.slice A ps.length c) := by
  unfold rowP
  rw [flatD_vals dPrt_vals]
  exact row_in h hc hA (by rw [List.length_map]; exact flat_lenV (f := Prt.cells) (s := 3) (fun _ => rfl) ps) (rel_vals prt_one)
theorem bks_in {w : World} : ∀ {bs : List Bk}, (∀ b ∈ bs, CellsAt w w.heap.size b.A (ints b.args) ∧ b.args.length ≤ b.cap ∧ (b.A = none → b.cap = 0)) → LRel (DRel w (AllS w)) (flatD (dBk true) bs) (flat Bk.cells bs)
  | [], _ => .nil_
  | b :: bs, h => by
    have ih := bks_in (w := w) (bs := bs) fun x hx => h x (by simp [hx])
    obtain ⟨h1, h2, h3⟩ := h b (by simp)
    exact .cons_ (.val rfl) (.cons_ (rowI_in h1 h2 h3) (.cons_ (.val rfl) (.cons_ (.val rfl) (.cons_ (.val rfl) (.cons_ (.val rfl) ih)))))
theorem bks_len (t : Bool) : ∀ bs : List Bk, (flatD (dBk t) bs).length = bs.length * 6
  | [] => rfl
  | b :: bs => by
    have ih := bks_len t bs
    show (flatD (dBk t) ([b] ++ bs)).length = _
    rw [flatD_app, List.length_append, ih, List.length_cons, Nat.add_mul]
    show 6 + bs.length * 6 = _
    omega
section
variable {H : Type} {enc : TypeId × Value → H} {w : World} {spare : Nat → Bool} {held : Bool}
theorem open_dgA {r : Go.Reach} {b0 : Nat} {v : Value} {d : DataW H} {p : List MemPlace} (hv : Value.okWide Tryz.prog w r b0 26 v) (h : DataW.Trod enc Tryz.prog w 0 spare held 26 v d p) :
    ∃ (ps : List Prt) (bs : List Bk) (os : List Int), ARel w (AllS w) (aDg true ps bs os) v := by
  obtain ⟨v0, v1, v2, y0, y1, y2, m, rfl, rfl, rfl, g0, g1, g2⟩ := open_agg3 Tryz.underlying26 (by kernel_rfl) (by kernel_rfl) hv h
  obtain ⟨A1, c1, ps, rfl, n1, k1, l1, h1, b1⟩ := rows_of_cell prtOf prtOf_cells (fun _ => rfl) (by decide) Tryz.underlying22 Tryz.underlying68 (by kernel_rfl) (fields_int (by kernel_rfl)) (by kernel_rfl) rfl g0
  obtain ⟨A2, c2, bs, e2, l2, h2, b2⟩ := blks_of_cell g1
  obtain ⟨A3, c3, os, rfl, n3, k3, l3, h3, b3⟩ := ints_of_cell' Tryz.underlying24 Tryz.underlying3 (by kernel_rfl) g2
  have hs : (A2 = none → c2 = 0) ∧ bs.length ≤ c2 := by
    rcases open_slice Tryz.underlying23 g1 with ⟨hcs, _⟩ | ⟨a, len, cap, m, n, D, Pl, hcs, _, hl, hm, hmm, _, hx⟩
    · have e3 : v1 = .slice none 0 0 := by simpa using hcs
      rw [e2] at e3
      simp only [Value.slice.injEq] at e3
      exact ⟨fun _ => e3.2.2, by omega⟩
    · have e3 : v1 = .slice (some a) len cap := by simpa using hcs
      rw [e2] at e3
      simp only [Value.slice.injEq] at e3
      exact ⟨fun h0 => (by rw [e3.1] at h0; cases h0), by omega⟩
  refine ⟨ps, bs, os, [.slice A1 ps.length c1, v1, .slice A3 os.length c3], rfl, ?_⟩
  rw [e2]
  exact .cons_ (rowP_in h1 k1 n1) (.cons_ (row_in h2 hs.2 hs.1 (bks_len true bs) (bks_in fun b hb => ⟨(b2 b hb).2.2.2.1, (b2 b hb).2.1, (b2 b hb).1⟩)) (.cons_ (rowI_in h3 k3 n3) .nil_))
end
def AllF (w : World) : Sets := fun _ b => b < w.heap.size
theorem AllF.of {w : World} {x : A} {v : Value} (h : ARel w (AllS w) x v) : ARel w (AllF w) x v := h.mono (fun _ _ hb => hb.2) fun _ _ _ => rfl
theorem cv_lawA {f : FuncId} {args : List A} (h : CV Tryz.prog TabAt f args [aB true]) {w : World} (ht : TabAt w) {vs : List Value} (ha : LRel (ARel w (AllF w)) args vs) :
    Calls Tryz.prog f vs.toArray w fun e w' => e = .returned (.bool true) ∧ Below w.heap.size w w' :=
  (h w _ vs ht (fun t b hb => hb) ha).mono fun e w' ⟨v, h1, h2, h3⟩ => by
    have h4 : DRel w' _ (dB true) v := h2
    cases h4
    exact ⟨h1, h3⟩
structure RowA (α : Type) (s : Nat) where
  cs : List Value
  len : cs.length = s
  a : α
instance {α : Type} {s : Nat} [Inhabited α] : Inhabited (RowA α s) := ⟨⟨List.replicate s undef, List.length_replicate, default⟩⟩
section
variable {H : Type} {enc : TypeId × Value → H} {w : World} {spare : Nat → Bool} {held : Bool}
instance : Inhabited Rv := ⟨⟨false, [], 0⟩⟩
def RvIn (r : Rv) : Prop := wordsOk r.ws ∧ r.ws.length ≤ maxLen ∧ -9223372036854775808 ≤ r.den ∧ r.den ≤ 9223372036854775807
end
end Go.Proofs.YtilbehepmkpdbaaGreatDoor
