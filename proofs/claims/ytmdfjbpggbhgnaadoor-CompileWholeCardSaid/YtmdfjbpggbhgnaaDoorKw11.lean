/- What the proofs of this claim share, part 11. No conditions. -/
import Derived.Test.YtmdfjbpggbhgnaaDoorKw10
import Derived.Test.YtmdfjbpggbhgnaaDoorKw9
set_option maxRecDepth 100000
set_option maxHeartbeats 8000000
set_option linter.unusedVariables false
set_option linter.unusedSimpArgs false
set_option linter.unusedSectionVars false
namespace Go.Proofs.YtmdfjbpggbhgnaaDoor
open Go.RowKit
def cpE' (ps : List Prt) (bs : List Bk) (os : List Int) (F : List Int) : Int := if dgErr ps bs os = 0 then cpErr ps bs F else dgErr ps bs os
def okL' {α : Type} (e : Int) (l : List α) : List α := if e = 0 then l else []
theorem okL_n {α : Type} {e : Int} (h : e ≠ 0) (l : List α) : okL' e l = [] := if_neg h
theorem okL_z {α : Type} {e : Int} (h : e = 0) (l : List α) : okL' e l = l := if_pos h
theorem rvBx {P : Program} {F : Frm} {H : List Ob} {t : Tmp} {ty ty' id k : Nat} {cs : List C} {ds : List D} {y : A} (hk : TyK P ty true k) (hy : y = .agg ds) (hF : F t = .one (.ref id 0 none) := by with_unfolding_all exact rfl) (hH : H[id]? = some (.box ty' cs) := by with_unfolding_all exact rfl) (hi : cs.length = k := by with_unfolding_all exact rfl) (h : LRel (CExp false H) cs ds := by repeat' first | exact lrel_n rfl rfl | refine lrel_c rfl rfl ?_ ?_ | refine xexp_1 rfl rfl ?_ | refine xexp_a rfl rfl ?_ | exact cexp_d rfl (fun _ => by first | exact DFree.val _ | exact free_I _ | exact DFree.row (flatD_free prt_free _) | exact DFree.row (flatD_free ins_free _)) | exact cexp_n rfl rfl | exact cexp_e rfl rfl) : RV P F H (.cell t ty) y := rv_box hF hH hk hi hy h
theorem compile_cv (ps : List Prt) (bs : List Bk) (os : List Int) (F : List Int) (hl : DgLen ps bs os) (hF : F.length ≤ 1000000) : CV Tryd.prog TabAt 8 [aDg true ps bs os, .one (rowI true F)] [aProg false (okL' (cpE' ps bs os F) ps) (okL' (cpE' ps bs os F) (initM bs F)) (okL' (cpE' ps bs os F) (codeM ps bs F)) (okL' (cpE' ps bs os F) os), aE (cpE' ps bs os F)] := by
  refine cvz Tryd.func8 Tryd.ntmps8 ?_
  have HO := order_cv true hl
  have hl2 := hl.l2
  have hl1 := hl.l1
  by_cases he : dgErr ps bs os = 0
  case neg =>
    have hV : cpE' ps bs os F = dgErr ps bs os := if_neg he
    have hVn : cpE' ps bs os F ≠ 0 := by rw [hV]; exact he
    rw [if_neg he] at HO
    repeat' (with_reducible first | apply qa | apply qb | apply qc | apply qd | apply qe | apply qf | apply qg | apply qh | apply qi | apply qj | apply qk | apply ql rfl | apply qm rfl | apply qn rfl | apply Je | (refine Tx 0 ?_; refine Jn xBo ?_; refine Jn (xAl tz_Program) ?_; refine Ja ?_) | (refine Tx 1 ?_; refine Jo (xLa tk_Diagram) ?_; refine Jo (xCl Tryd.func20 (HO.cv)) ?_; refine Jo xMt ?_; refine Jo xEx ?_; refine Jo xEx ?_; refine Ja ?_; refine Ja ?_) | (refine Tx 2 ?_; refine Jm ?_; refine Jo (xNE ti_error) ?_) | (refine Tx 3 ?_; refine Jo (by exact ok_build rfl tb_Program rfl rfl) ?_; refine Jm ?_; refine Js (xSk tk_Program) ?_; refine Ja ?_) | (refine Tx 4 ?_; refine Jm ?_; refine Jo (xLn ts_s_int) ?_; refine Jo (xFa tf_Diagram1 tk_s_Block) ?_; refine Jo (xLd tk_s_Block) ?_; refine Jo (xLn ts_s_Block) ?_; refine Jo xNe ?_) | (refine Tx 5 ?_; refine Jo (by exact ok_build rfl tb_Program rfl rfl) ?_; refine Jo (xMi Tryd.underlying68) ?_; refine Js (xSk tk_Program) ?_; refine Ja ?_) | (refine Tx 6 ?_; refine Jm ?_; refine Jo (xLn ts_s_int) ?_; refine Jm ?_))
    exact ret_q rfl (.cons_ (rvBx tk_Program (by rw [okL_n hVn, okL_n hVn, okL_n hVn, okL_n hVn]; rfl)) (.cons_ (rv_e rfl hV.symm) .nil_))
  have hV : cpE' ps bs os F = cpErr ps bs F := if_pos he
  rw [he, if_pos rfl] at HO
  by_cases hle : F.length = bs.length
  case neg =>
    have hV1 := hV.trans (cp_1 hle)
    repeat' (with_reducible first | apply qa | apply qb | apply qc | apply qd | apply qe | apply qf | apply qg | apply qh | apply qi | apply qj | apply qk | apply ql rfl | apply qm rfl | apply qn rfl | apply Je | (refine Tx 0 ?_; refine Jn xBo ?_; refine Jn (xAl tz_Program) ?_; refine Ja ?_) | (refine Tx 1 ?_; refine Jo (xLa tk_Diagram) ?_; refine Jo (xCl Tryd.func20 (HO.cv)) ?_; refine Jo xMt ?_; refine Jo xEx ?_; refine Jo xEx ?_; refine Ja ?_; refine Ja ?_) | (refine Tx 2 ?_; refine Jm ?_; refine Jo (xNE ti_error) ?_) | (refine Tx 3 ?_; refine Jo (by exact ok_build rfl tb_Program rfl rfl) ?_; refine Jm ?_; refine Js (xSk tk_Program) ?_; refine Ja ?_) | (refine Tx 4 ?_; refine Jm ?_; refine Jo (xLn ts_s_int) ?_; refine Jo (xFa tf_Diagram1 tk_s_Block) ?_; refine Jo (xLd tk_s_Block) ?_; refine Jo (xLn ts_s_Block) ?_; refine Jo xNe ?_) | (refine Tx 5 ?_; refine Jo (by exact ok_build rfl tb_Program rfl rfl) ?_; refine Jo (xMi Tryd.underlying68) ?_; refine Js (xSk tk_Program) ?_; refine Ja ?_) | (refine Tx 6 ?_; refine Jm ?_; refine Jo (xLn ts_s_int) ?_; refine Jm ?_))
    exact ret_q rfl (.cons_ (rvBx tk_Program (by rw [okL_n (by rw [hV1]; decide), okL_n (by rw [hV1]; decide), okL_n (by rw [hV1]; decide), okL_n (by rw [hV1]; decide)]; rfl)) (.cons_ (rv_en rfl (by decide) hV1) .nil_))
  repeat' (with_reducible first | apply qa | apply qb | apply qc | apply qd | apply qe | apply qf | apply qg | apply qh | apply qi | apply qj | apply qk | apply ql rfl | apply qm rfl | apply qn rfl | apply Je | (refine Tx 0 ?_; refine Jn xBo ?_; refine Jn (xAl tz_Program) ?_; refine Ja ?_) | (refine Tx 1 ?_; refine Jo (xLa tk_Diagram) ?_; refine Jo (xCl Tryd.func20 (HO.cv)) ?_; refine Jo xMt ?_; refine Jo xEx ?_; refine Jo xEx ?_; refine Ja ?_; refine Ja ?_) | (refine Tx 2 ?_; refine Jm ?_; refine Jo (xNE ti_error) ?_) | (refine Tx 3 ?_; refine Jo (by exact ok_build rfl tb_Program rfl rfl) ?_; refine Jm ?_; refine Js (xSk tk_Program) ?_; refine Ja ?_) | (refine Tx 4 ?_; refine Jm ?_; refine Jo (xLn ts_s_int) ?_; refine Jo (xFa tf_Diagram1 tk_s_Block) ?_; refine Jo (xLd tk_s_Block) ?_; refine Jo (xLn ts_s_Block) ?_; refine Jo xNe ?_) | (refine Tx 5 ?_; refine Jo (by exact ok_build rfl tb_Program rfl rfl) ?_; refine Jo (xMi Tryd.underlying68) ?_; refine Js (xSk tk_Program) ?_; refine Ja ?_) | (refine Tx 6 ?_; refine Jm ?_; refine Jo (xLn ts_s_int) ?_; refine Jm ?_))
  refine cw_wk (wk_go [(1, vd (rowI true F)), (2, vr 0), (4, vr 1), (5, vd (.val .nilIface)), (6, vd (rowI false (natI (ordM bs)))), (52, vd (rowI true F)), (53, vi F.length), (54, vi (((0 : Nat) : Int)))] 2 rfl (mB rfl rfl) ⟨bel_lit rfl, bel_lit rfl, trivial⟩) ?_
  refine cw_loopW (fun n Fr H => ∃ k : Nat, k ≤ F.length ∧ n = F.length - k ∧ (F.take k).all scOk30 = true ∧ Fr = ofL [(1, vd (rowI true F)), (2, vr 0), (4, vr 1), (5, vd (.val .nilIface)), (6, vd (rowI false (natI (ordM bs)))), (52, vd (rowI true F)), (53, vi F.length), (54, vi ((k : Int)))] ∧ H = [.box 26 [.d (rowP true ps), .d (rowB true bs), .d (rowI true os)], .box 42 [.d (.val (.slice none 0 0)), .d (.val (.slice none 0 0)), .d (.val (.slice none 0 0)), .d (.val (.slice none 0 0))]]) (n0 := F.length) ⟨0, Nat.zero_le _, rfl, rfl, rfl, rfl⟩ ?_
  rintro n Fr H ⟨k, hk, rfl, hall, rfl, rfl⟩
  by_cases hlt : k < F.length
  case pos =>
    obtain ⟨z, hz⟩ : ∃ z, F[k]? = some z := ⟨_, List.getElem?_eq_getElem hlt⟩
    by_cases hs : 0 ≤ z ∧ z ≤ 30
    case pos =>
      obtain ⟨hs1, hs2⟩ := hs
      repeat' (with_reducible first | apply qa | apply qb | apply qc | apply qd | apply qe | apply qf | apply qg | apply qh | apply qi | apply qj | apply qk | apply ql rfl | apply qm rfl | apply qn rfl | apply Je | (refine Tx 7 ?_; refine Jo xLt ?_) | (refine Tx 8 ?_; refine Jo (xIr ts_s_int (int_at hz)) ?_; refine Jo (xLd tk_int) ?_; refine Ja ?_) | (refine Tx 9 ?_; refine Jm ?_; refine Jo xLt ?_; refine Jm ?_; (first | iterate 2 refine Jd ?_ | (refine Jy xM1 ?_; refine Jy xGt ?_)); refine Jo xPk ?_) | (refine Tx 10 ?_; refine Jo (by exact ok_build rfl tb_Program rfl rfl) ?_; refine Jo (xMi Tryd.underlying68) ?_; refine Js (xSk tk_Program) ?_; refine Ja ?_) | (refine Tx 11 ?_; refine Jo xAd ?_; refine Jm ?_))
      refine ⟨_, _, wk_go _ 2 ?_ ?_ ?_, _, ?_, k + 1, by omega, rfl, all_take hz hall (decide_eq_true ⟨hs1, hs2⟩), rfl, rfl⟩
      · rfl
      · exact mB rfl rfl
      · exact ⟨bel_lit rfl, bel_lit rfl, trivial⟩
      · omega
    case neg =>
      have hV1 := hV.trans (cp_2 hle (fun ha => hs (by have := List.all_eq_true.1 ha z (List.mem_of_getElem? hz); exact of_decide_eq_true this)))
      by_cases h0 : z < 0
      ·
        repeat' (with_reducible first | apply qa | apply qb | apply qc | apply qd | apply qe | apply qf | apply qg | apply qh | apply qi | apply qj | apply qk | apply ql rfl | apply qm rfl | apply qn rfl | apply Je | (refine Tx 7 ?_; refine Jo xLt ?_) | (refine Tx 8 ?_; refine Jo (xIr ts_s_int (int_at hz)) ?_; refine Jo (xLd tk_int) ?_; refine Ja ?_) | (refine Tx 9 ?_; refine Jm ?_; refine Jo xLt ?_; refine Jm ?_; (first | iterate 2 refine Jd ?_ | (refine Jy xM1 ?_; refine Jy xGt ?_)); refine Jo xPk ?_) | (refine Tx 10 ?_; refine Jo (by exact ok_build rfl tb_Program rfl rfl) ?_; refine Jo (xMi Tryd.underlying68) ?_; refine Js (xSk tk_Program) ?_; refine Ja ?_) | (refine Tx 11 ?_; refine Jo xAd ?_; refine Jm ?_))
        exact ret_q rfl (.cons_ (rvBx tk_Program (by rw [okL_n (by rw [hV1]; decide), okL_n (by rw [hV1]; decide), okL_n (by rw [hV1]; decide), okL_n (by rw [hV1]; decide)]; rfl)) (.cons_ (rv_en rfl (by decide) hV1) .nil_))
      ·
        repeat' (with_reducible first | apply qa | apply qb | apply qc | apply qd | apply qe | apply qf | apply qg | apply qh | apply qi | apply qj | apply qk | apply ql rfl | apply qm rfl | apply qn rfl | apply Je | (refine Tx 7 ?_; refine Jo xLt ?_) | (refine Tx 8 ?_; refine Jo (xIr ts_s_int (int_at hz)) ?_; refine Jo (xLd tk_int) ?_; refine Ja ?_) | (refine Tx 9 ?_; refine Jm ?_; refine Jo xLt ?_; refine Jm ?_; (first | iterate 2 refine Jd ?_ | (refine Jy xM1 ?_; refine Jy xGt ?_)); refine Jo xPk ?_) | (refine Tx 10 ?_; refine Jo (by exact ok_build rfl tb_Program rfl rfl) ?_; refine Jo (xMi Tryd.underlying68) ?_; refine Js (xSk tk_Program) ?_; refine Ja ?_) | (refine Tx 11 ?_; refine Jo xAd ?_; refine Jm ?_))
        exact ret_q rfl (.cons_ (rvBx tk_Program (by rw [okL_n (by rw [hV1]; decide), okL_n (by rw [hV1]; decide), okL_n (by rw [hV1]; decide), okL_n (by rw [hV1]; decide)]; rfl)) (.cons_ (rv_en rfl (by decide) hV1) .nil_))
  have hall : F.all scOk30 = true := by rwa [List.take_of_length_le (by omega)] at hall
  repeat' (with_reducible first | apply qa | apply qb | apply qc | apply qd | apply qe | apply qf | apply qg | apply qh | apply qi | apply qj | apply qk | apply ql rfl | apply qm rfl | apply qn rfl | apply Je | (refine Tx 7 ?_; refine Jo xLt ?_))
  repeat' (with_reducible first | apply qa | apply qb | apply qc | apply qd | apply qe | apply qf | apply qg | apply qh | apply qi | apply qj | apply qk | apply ql rfl | apply qm rfl | apply qn rfl | apply Je | (refine Tx 12 ?_; refine Jo (xFa tf_Diagram1 tk_s_Block) ?_; refine Jo (xLd tk_s_Block) ?_; refine Jo (xLn ts_s_Block) ?_; refine Ja ?_) | (refine cw_part (id := 13) 8 mixed (by kernel_rfl) ?_; dsimp only [List.take, List.drop]; refine Ko (by exact ok_build0 rfl ts_s_Port) ?_; refine Ko (xFa tf_Diagram0 tk_s_Port) ?_; refine Ko (xLd tk_s_Port) ?_; refine Ko (by exact ok_append0 rfl rfl (.inl rfl) rfl (flatD_free prt_free _) ts_s_Port tz_Port (hl.l1) (by decide) (by decide)) ?_; refine Km ?_; refine Kn (by first | exact ok_makeI rfl rfl rfl ts_s_int tz_int (by omega) (by decide) | exact ok_makeSlice rfl rfl rfl ts_s_int tz_int (by omega) (by decide)) ?_; refine Ko (by exact ok_build rfl tb_Program rfl rfl) ?_; refine Kn (xAl tz_Program) ?_; refine Ke ?_; refine Js (xSk tk_Program) ?_) | (refine cw_any (id := 14) mixed (by kernel_rfl) ?_; refine Km ?_; refine Kn (by first | exact ok_makeI rfl rfl rfl ts_s_int tz_int (by omega) (by decide) | exact ok_makeSlice rfl rfl rfl ts_s_int tz_int (by omega) (by decide)) ?_; refine Km ?_; refine Kn (by first | exact ok_makeI rfl rfl rfl ts_s_int tz_int (by omega) (by decide) | exact ok_makeSlice rfl rfl rfl ts_s_int tz_int (by omega) (by decide)) ?_; refine Km ?_; refine Kn (by first | exact ok_makeI rfl rfl rfl ts_s_int tz_int (by omega) (by decide) | exact ok_makeSlice rfl rfl rfl ts_s_int tz_int (by omega) (by decide)) ?_; refine Ka ?_; refine Ka ?_; refine Ka ?_; refine Ke ?_) | (refine Tx 15 ?_; refine Ja ?_; refine Ja ?_) | (refine Tx 16 ?_; refine Jo (xFa tf_Diagram1 tk_s_Block) ?_; refine Jo (xLd tk_s_Block) ?_; refine Jo (xLn ts_s_Block) ?_; refine Jm ?_))
  have hz0 : ∀ f : Nat → Int, List.replicate bs.length 0 = tab bs.length (upto f 0) := fun f => (upto_zero _ _).symm
  refine cw_wk (wk_nil 15 3 1 rfl) (cw_wk (wk_nil 16 3 1 rfl) ?_)
  refine cw_wk (F' := ofL [(1, vd (rowI true F)), (2, vr 0), (4, vr 1), (5, vd (.val .nilIface)), (6, vd (rowI false (natI (ordM bs)))), (10, vi bs.length), (11, vr 3), (12, vo 4 bs.length), (13, vo 5 bs.length), (14, vo 6 bs.length), (15, vo 7 ((dlK bs 0).length)), (16, vo 8 ((cpK bs 0).length)), (84, vd (rowB true bs)), (85, vi bs.length), (86, vi ((0 : Nat)))]) (H' := [.box 26 [.d (rowP true ps), .d (rowB true bs), .d (rowI true os)], .box 42 [.d (.val (.slice none 0 0)), .d (.val (.slice none 0 0)), .d (.val (.slice none 0 0)), .d (.val (.slice none 0 0))], .row 3 1 (bs.length) (cI (tab bs.length (upto (initF bs F) 0))), .box 42 [.d (rowP false ps), .own 2 bs.length, .d (.val (.slice none 0 0)), .d (.val (.slice none 0 0))], .row 3 1 (bs.length) (cI (tab bs.length (upto (conV bs F) 0))), .row 3 1 (bs.length) (cI (tab bs.length (upto (conU bs F) 0))), .row 3 1 (bs.length) (cI (tab bs.length (upto (cellF bs) 0))), .row 3 1 ((dlK bs 0).length) (cI (natI (dlK bs 0))), .row 3 1 ((cpK bs 0).length) (cI (natI (cpK bs 0)))]) (wk_go _ 9 ?_ ?_ ?_) ?_
  · rw [← hz0, ← hz0, ← hz0, ← hz0]; rfl
  · exact mB rfl rfl
  · exact ⟨bel_lit rfl, bel_lit rfl, bel_cI, bel_lit rfl, bel_cI, bel_cI, bel_cI, bel_cI, bel_cI, trivial⟩
  refine cw_loopW (fun n Fr H => ∃ k : Nat, k ≤ bs.length ∧ n = bs.length - k ∧ (∀ j, j < k → conE bs F j = 0) ∧ Fr = ofL [(1, vd (rowI true F)), (2, vr 0), (4, vr 1), (5, vd (.val .nilIface)), (6, vd (rowI false (natI (ordM bs)))), (10, vi bs.length), (11, vr 3), (12, vo 4 bs.length), (13, vo 5 bs.length), (14, vo 6 bs.length), (15, vo 7 ((dlK bs k).length)), (16, vo 8 ((cpK bs k).length)), (84, vd (rowB true bs)), (85, vi bs.length), (86, vi ((k : Nat)))] ∧ H = [.box 26 [.d (rowP true ps), .d (rowB true bs), .d (rowI true os)], .box 42 [.d (.val (.slice none 0 0)), .d (.val (.slice none 0 0)), .d (.val (.slice none 0 0)), .d (.val (.slice none 0 0))], .row 3 1 (bs.length) (cI (tab bs.length (upto (initF bs F) k))), .box 42 [.d (rowP false ps), .own 2 bs.length, .d (.val (.slice none 0 0)), .d (.val (.slice none 0 0))], .row 3 1 (bs.length) (cI (tab bs.length (upto (conV bs F) k))), .row 3 1 (bs.length) (cI (tab bs.length (upto (conU bs F) k))), .row 3 1 (bs.length) (cI (tab bs.length (upto (cellF bs) 0))), .row 3 1 ((dlK bs k).length) (cI (natI (dlK bs k))), .row 3 1 ((cpK bs k).length) (cI (natI (cpK bs k)))]) (n0 := bs.length) ⟨0, Nat.zero_le _, rfl, fun j hj => absurd hj (Nat.not_lt_zero _), rfl, rfl⟩ ?_
  rintro n Fr H ⟨k, hk, rfl, hcon, rfl, rfl⟩
  clear hz0
  by_cases hlt : k < bs.length
  case pos =>
    obtain ⟨y, hy⟩ : ∃ y, bs[k]? = some y := ⟨_, List.getElem?_eq_getElem hlt⟩
    obtain ⟨z, hz⟩ : ∃ z, F[k]? = some z := ⟨_, List.getElem?_eq_getElem (by omega)⟩
    have hYA := blkA_of hy
    have hYK := kindA_of hy
    have hZ := scA_of hz
    have hdl := dlK_len bs k
    have hcl := cpK_len bs k
    repeat' (with_reducible first | apply qa | apply qb | apply qc | apply qd | apply qe | apply qf | apply qg | apply qh | apply qi | apply qj | apply qk | apply ql rfl | apply qm rfl | apply qn rfl | apply Je | (refine Tx 17 ?_; refine Jo xLt ?_) | (refine Tx 18 ?_; refine Jm ?_; refine Jo (by first | exact xIr ts_s_Block (bk_at hy) | exact xIo ts_s_Block) ?_; refine Jo (xLa tk_Block) ?_; refine Jn (xAl tz_Block) ?_; refine Ja ?_; refine Js (xSk tk_Block) ?_))
    by_cases k11 : y.kind = 11
    case pos =>
      have eV : rawVv bs F k = rawV y.vn y.ve z := by unfold rawVv; rw [hYA, hZ]
      have rV : errVv bs F k = rawErr y.vn y.ve z := by unfold errVv; rw [hYA, hZ]
      have cV : conV bs F k = rawV y.vn y.ve z := by unfold conV; rw [hYK, if_pos (by omega), eV]
      have stV : (tab bs.length (upto (conV bs F) k)).set k (rawV y.vn y.ve z) = tab bs.length (upto (conV bs F) (k + 1)) := by rw [← cV]; exact upto_put
      have tlV : k < (tab bs.length (upto (conV bs F) k)).length := by rw [tab_len]; exact hlt
      have RV := raw_cv y.vn y.ve z
      have eU : rawUu bs F k = rawV y.un y.ue z := by unfold rawUu; rw [hYA, hZ]
      have rU : errUu bs F k = rawErr y.un y.ue z := by unfold errUu; rw [hYA, hZ]
      have cU : conU bs F k = rawV y.un y.ue z := by unfold conU; rw [hYK, if_pos (by omega), eU]
      have stU : (tab bs.length (upto (conU bs F) k)).set k (rawV y.un y.ue z) = tab bs.length (upto (conU bs F) (k + 1)) := by rw [← cU]; exact upto_put
      have tlU : k < (tab bs.length (upto (conU bs F) k)).length := by rw [tab_len]; exact hlt
      have RU := raw_cv y.un y.ue z
      have hc : natI (cpK bs k) ++ [(k : Int)] = natI (cpK bs (k + 1)) := by rw [cpK_succ, hYK, if_pos (by omega), natI_app]
      have hc2 : (cpK bs k).length + 1 = (cpK bs (k + 1)).length := by rw [cpK_succ, hYK, if_pos (by omega)]; simp
      by_cases hr : rawErr y.vn y.ve z = 0
      case neg =>
        have hce : conE bs F k = rawErr y.vn y.ve z := by unfold conE; rw [hYK, if_neg (by omega), if_pos (by omega), rV, if_neg hr]
        have hV1 : cpE' ps bs os F = rawErr y.vn y.ve z := hV.trans ((cp_3 hle hall hlt hcon (by rw [hce]; exact hr)).trans hce)
        have hVn : cpE' ps bs os F ≠ 0 := by rw [hV1]; exact hr
        repeat' (with_reducible first | apply qa | apply qb | apply qc | apply qd | apply qe | apply qf | apply qg | apply qh | apply qi | apply qj | apply qk | apply ql rfl | apply qm rfl | apply qn rfl | apply Je | (refine Tx 19 ?_; refine Jo (xFa tf_Block0 tk_int) ?_; refine Jo (xLd tk_int) ?_; refine Jo xEq ?_; refine Ja ?_) | (refine Tx 20 ?_; refine Jm ?_; refine Jm ?_; (first | iterate 3 refine Jd ?_ | (refine Jy (xFa tf_Block0 tk_int) ?_; refine Jy (xLd tk_int) ?_; refine Jy xEq ?_)); refine Jo xPk ?_; refine Jm ?_; (first | iterate 3 refine Jd ?_ | (refine Jy (xFa tf_Block0 tk_int) ?_; refine Jy (xLd tk_int) ?_; refine Jy xEq ?_)); refine Jo xPk ?_) | (refine cw_partE (id := 21) 13 [(13, 11)] mixed (by kernel_rfl) ?_; dsimp only [List.take, List.drop]; refine Km ?_; refine Km ?_; refine Ko (xFa tf_Block2 tk_Scalar) ?_; refine Ko (xLa tk_Scalar) ?_; refine Km ?_; refine Km ?_; refine Ko (by first | exact xIr ts_s_int (int_at hz) | exact xIo ts_s_int) ?_; refine Ko (xLd tk_int) ?_; refine Ko (by first | exact xCl Tryd.func17 (RV.cv) | exact xCl Tryd.func17 (RU.cv)) ?_; refine Ko xMt ?_; refine Ko xEx ?_; refine Ko xEx ?_; refine Ko (by first | exact xIr ts_s_int (int_at hz) | exact xIo ts_s_int) ?_; refine Ke ?_; refine Js (by first | exact to_stI rfl rfl rfl rfl tk_int tlV stV | exact to_stI rfl rfl rfl rfl tk_int tlU stU | exact xS1 tk_int | exact xSk tk_int) ?_; refine Ja ?_) | (refine Tx 22 ?_; refine Jm ?_; refine Jo (xNE ti_error) ?_) | (refine Tx 23 ?_; refine Jo (by exact ok_build rfl tb_Program rfl rfl) ?_; refine Jm ?_; refine Js (xSk tk_Program) ?_; refine Ja ?_))
        exact ret_q rfl (.cons_ (rvBx tk_Program (by rw [okL_n hVn, okL_n hVn, okL_n hVn, okL_n hVn]; rfl)) (.cons_ (rv_e rfl hV1.symm) .nil_))
      by_cases hr2 : rawErr y.un y.ue z = 0
      case neg =>
        have hce : conE bs F k = rawErr y.un y.ue z := by unfold conE; rw [hYK, if_neg (by omega), if_pos (by omega), rV, if_pos hr, rU]
        have hV1 : cpE' ps bs os F = rawErr y.un y.ue z := hV.trans ((cp_3 hle hall hlt hcon (by rw [hce]; exact hr2)).trans hce)
        have hVn : cpE' ps bs os F ≠ 0 := by rw [hV1]; exact hr2
        repeat' (with_reducible first | apply qa | apply qb | apply qc | apply qd | apply qe | apply qf | apply qg | apply qh | apply qi | apply qj | apply qk | apply ql rfl | apply qm rfl | apply qn rfl | apply Je | (refine Tx 19 ?_; refine Jo (xFa tf_Block0 tk_int) ?_; refine Jo (xLd tk_int) ?_; refine Jo xEq ?_; refine Ja ?_) | (refine Tx 20 ?_; refine Jm ?_; refine Jm ?_; (first | iterate 3 refine Jd ?_ | (refine Jy (xFa tf_Block0 tk_int) ?_; refine Jy (xLd tk_int) ?_; refine Jy xEq ?_)); refine Jo xPk ?_; refine Jm ?_; (first | iterate 3 refine Jd ?_ | (refine Jy (xFa tf_Block0 tk_int) ?_; refine Jy (xLd tk_int) ?_; refine Jy xEq ?_)); refine Jo xPk ?_) | (refine cw_partE (id := 21) 13 [(13, 11)] mixed (by kernel_rfl) ?_; dsimp only [List.take, List.drop]; refine Km ?_; refine Km ?_; refine Ko (xFa tf_Block2 tk_Scalar) ?_; refine Ko (xLa tk_Scalar) ?_; refine Km ?_; refine Km ?_; refine Ko (by first | exact xIr ts_s_int (int_at hz) | exact xIo ts_s_int) ?_; refine Ko (xLd tk_int) ?_; refine Ko (by first | exact xCl Tryd.func17 (RV.cv) | exact xCl Tryd.func17 (RU.cv)) ?_; refine Ko xMt ?_; refine Ko xEx ?_; refine Ko xEx ?_; refine Ko (by first | exact xIr ts_s_int (int_at hz) | exact xIo ts_s_int) ?_; refine Ke ?_; refine Js (by first | exact to_stI rfl rfl rfl rfl tk_int tlV stV | exact to_stI rfl rfl rfl rfl tk_int tlU stU | exact xS1 tk_int | exact xSk tk_int) ?_; refine Ja ?_) | (refine Tx 22 ?_; refine Jm ?_; refine Jo (xNE ti_error) ?_) | (refine Tx 24 ?_; refine Jm ?_) | (refine cw_partE (id := 25) 13 [(13, 11)] mixed (by kernel_rfl) ?_; dsimp only [List.take, List.drop]; refine Km ?_; refine Km ?_; refine Ko (xFa tf_Block3 tk_Scalar) ?_; refine Ko (xLa tk_Scalar) ?_; refine Km ?_; refine Km ?_; refine Ko (by first | exact xIr ts_s_int (int_at hz) | exact xIo ts_s_int) ?_; refine Ko (xLd tk_int) ?_; refine Ko (by first | exact xCl Tryd.func17 (RV.cv) | exact xCl Tryd.func17 (RU.cv)) ?_; refine Ko xMt ?_; refine Ko xEx ?_; refine Ko xEx ?_; refine Ko (by first | exact xIr ts_s_int (int_at hz) | exact xIo ts_s_int) ?_; refine Ke ?_; refine Js (by first | exact to_stI rfl rfl rfl rfl tk_int tlV stV | exact to_stI rfl rfl rfl rfl tk_int tlU stU | exact xS1 tk_int | exact xSk tk_int) ?_; refine Ja ?_) | (refine Tx 26 ?_; refine Jm ?_; refine Jo (xNE ti_error) ?_) | (refine Tx 27 ?_; refine Jo (by exact ok_build rfl tb_Program rfl rfl) ?_; refine Jm ?_; refine Js (xSk tk_Program) ?_; refine Ja ?_))
        exact ret_q rfl (.cons_ (rvBx tk_Program (by rw [okL_n hVn, okL_n hVn, okL_n hVn, okL_n hVn]; rfl)) (.cons_ (rv_e rfl hV1.symm) .nil_))
      have hC1 : ∀ j, j < k + 1 → conE bs F j = 0 := fun j hj => by
        rcases Nat.lt_or_ge j k with h | h
        · exact hcon j h
        · obtain rfl : j = k := by omega
          unfold conE; rw [hYK, if_neg (by omega), if_pos (by omega), rV, if_pos hr, rU]; exact hr2
      have sI : tab bs.length (upto (initF bs F) k) = tab bs.length (upto (initF bs F) (k + 1)) := upto_skip (by unfold initF; rw [hYK, if_neg (by omega)])
      have hd : dlK bs (k + 1) = dlK bs k := by rw [dlK_succ, hYK, if_neg (by omega)]
      repeat' (with_reducible first | apply qa | apply qb | apply qc | apply qd | apply qe | apply qf | apply qg | apply qh | apply qi | apply qj | apply qk | apply ql rfl | apply qm rfl | apply qn rfl | apply Je | (refine Tx 19 ?_; refine Jo (xFa tf_Block0 tk_int) ?_; refine Jo (xLd tk_int) ?_; refine Jo xEq ?_; refine Ja ?_) | (refine Tx 20 ?_; refine Jm ?_; refine Jm ?_; (first | iterate 3 refine Jd ?_ | (refine Jy (xFa tf_Block0 tk_int) ?_; refine Jy (xLd tk_int) ?_; refine Jy xEq ?_)); refine Jo xPk ?_; refine Jm ?_; (first | iterate 3 refine Jd ?_ | (refine Jy (xFa tf_Block0 tk_int) ?_; refine Jy (xLd tk_int) ?_; refine Jy xEq ?_)); refine Jo xPk ?_) | (refine cw_partE (id := 21) 13 [(13, 11)] mixed (by kernel_rfl) ?_; dsimp only [List.take, List.drop]; refine Km ?_; refine Km ?_; refine Ko (xFa tf_Block2 tk_Scalar) ?_; refine Ko (xLa tk_Scalar) ?_; refine Km ?_; refine Km ?_; refine Ko (by first | exact xIr ts_s_int (int_at hz) | exact xIo ts_s_int) ?_; refine Ko (xLd tk_int) ?_; refine Ko (by first | exact xCl Tryd.func17 (RV.cv) | exact xCl Tryd.func17 (RU.cv)) ?_; refine Ko xMt ?_; refine Ko xEx ?_; refine Ko xEx ?_; refine Ko (by first | exact xIr ts_s_int (int_at hz) | exact xIo ts_s_int) ?_; refine Ke ?_; refine Js (by first | exact to_stI rfl rfl rfl rfl tk_int tlV stV | exact to_stI rfl rfl rfl rfl tk_int tlU stU | exact xS1 tk_int | exact xSk tk_int) ?_; refine Ja ?_) | (refine Tx 22 ?_; refine Jm ?_; refine Jo (xNE ti_error) ?_) | (refine Tx 24 ?_; refine Jm ?_) | (refine cw_partE (id := 25) 13 [(13, 11)] mixed (by kernel_rfl) ?_; dsimp only [List.take, List.drop]; refine Km ?_; refine Km ?_; refine Ko (xFa tf_Block3 tk_Scalar) ?_; refine Ko (xLa tk_Scalar) ?_; refine Km ?_; refine Km ?_; refine Ko (by first | exact xIr ts_s_int (int_at hz) | exact xIo ts_s_int) ?_; refine Ko (xLd tk_int) ?_; refine Ko (by first | exact xCl Tryd.func17 (RV.cv) | exact xCl Tryd.func17 (RU.cv)) ?_; refine Ko xMt ?_; refine Ko xEx ?_; refine Ko xEx ?_; refine Ko (by first | exact xIr ts_s_int (int_at hz) | exact xIo ts_s_int) ?_; refine Ke ?_; refine Js (by first | exact to_stI rfl rfl rfl rfl tk_int tlV stV | exact to_stI rfl rfl rfl rfl tk_int tlU stU | exact xS1 tk_int | exact xSk tk_int) ?_; refine Ja ?_) | (refine Tx 26 ?_; refine Jm ?_; refine Jo (xNE ti_error) ?_) | (refine Tx 28 ?_; refine Jm ?_; refine Jm ?_; refine Jn (by exact ok_build1 rfl ts_s_int tz_int rfl rfl (by decide) (by decide)) ?_; refine Jt (by exact to_apI rfl rfl rfl rfl rfl rfl ts_s_int tz_int (by omega) (by decide) hc hc2) ?_; refine Ja ?_) | (refine Tx 29 ?_; refine Jo (xFa tf_Block0 tk_int) ?_; refine Jo (xLd tk_int) ?_; refine Jo xEq ?_) | (refine Tx 32 ?_; refine Jo xAd ?_; refine Jm ?_))
      refine ⟨_, _, wk_go _ 9 ?_ ?_ ?_, _, ?_, k + 1, by omega, rfl, hC1, rfl, rfl⟩
      · rw [hd, ← sI]; rfl
      · rw [hd]; exact mB rfl rfl
      · exact ⟨bel_lit rfl, bel_lit rfl, bel_cI, bel_lit rfl, bel_cI, bel_cI, bel_cI, bel_cI, bel_cI, trivial⟩
      · omega
    by_cases k1 : y.kind = 1
    case pos =>
      have eV : rawVv bs F k = rawV y.vn y.ve z := by unfold rawVv; rw [hYA, hZ]
      have rV : errVv bs F k = rawErr y.vn y.ve z := by unfold errVv; rw [hYA, hZ]
      have cV : conV bs F k = rawV y.vn y.ve z := by unfold conV; rw [hYK, if_pos (by omega), eV]
      have stV : (tab bs.length (upto (conV bs F) k)).set k (rawV y.vn y.ve z) = tab bs.length (upto (conV bs F) (k + 1)) := by rw [← cV]; exact upto_put
      have tlV : k < (tab bs.length (upto (conV bs F) k)).length := by rw [tab_len]; exact hlt
      have RV := raw_cv y.vn y.ve z
      have hce : conE bs F k = rawErr y.vn y.ve z := by unfold conE; rw [hYK, if_pos (by omega), rV]
      by_cases hr : rawErr y.vn y.ve z = 0
      case neg =>
        have hV1 : cpE' ps bs os F = rawErr y.vn y.ve z := hV.trans ((cp_3 hle hall hlt hcon (by rw [hce]; exact hr)).trans hce)
        have hVn : cpE' ps bs os F ≠ 0 := by rw [hV1]; exact hr
        repeat' (with_reducible first | apply qa | apply qb | apply qc | apply qd | apply qe | apply qf | apply qg | apply qh | apply qi | apply qj | apply qk | apply ql rfl | apply qm rfl | apply qn rfl | apply Je | (refine Tx 19 ?_; refine Jo (xFa tf_Block0 tk_int) ?_; refine Jo (xLd tk_int) ?_; refine Jo xEq ?_; refine Ja ?_) | (refine Tx 20 ?_; refine Jm ?_; refine Jm ?_; (first | iterate 3 refine Jd ?_ | (refine Jy (xFa tf_Block0 tk_int) ?_; refine Jy (xLd tk_int) ?_; refine Jy xEq ?_)); refine Jo xPk ?_; refine Jm ?_; (first | iterate 3 refine Jd ?_ | (refine Jy (xFa tf_Block0 tk_int) ?_; refine Jy (xLd tk_int) ?_; refine Jy xEq ?_)); refine Jo xPk ?_) | (refine cw_partE (id := 21) 13 [(13, 11)] mixed (by kernel_rfl) ?_; dsimp only [List.take, List.drop]; refine Km ?_; refine Km ?_; refine Ko (xFa tf_Block2 tk_Scalar) ?_; refine Ko (xLa tk_Scalar) ?_; refine Km ?_; refine Km ?_; refine Ko (by first | exact xIr ts_s_int (int_at hz) | exact xIo ts_s_int) ?_; refine Ko (xLd tk_int) ?_; refine Ko (xCl Tryd.func17 (RV.cv)) ?_; refine Ko xMt ?_; refine Ko xEx ?_; refine Ko xEx ?_; refine Ko (by first | exact xIr ts_s_int (int_at hz) | exact xIo ts_s_int) ?_; refine Ke ?_; refine Js (by first | exact to_stI rfl rfl rfl rfl tk_int tlV stV | exact xS1 tk_int | exact xSk tk_int) ?_; refine Ja ?_) | (refine Tx 22 ?_; refine Jm ?_; refine Jo (xNE ti_error) ?_) | (refine Tx 23 ?_; refine Jo (by exact ok_build rfl tb_Program rfl rfl) ?_; refine Jm ?_; refine Js (xSk tk_Program) ?_; refine Ja ?_))
        exact ret_q rfl (.cons_ (rvBx tk_Program (by rw [okL_n hVn, okL_n hVn, okL_n hVn, okL_n hVn]; rfl)) (.cons_ (rv_e rfl hV1.symm) .nil_))
      have hC1 : ∀ j, j < k + 1 → conE bs F j = 0 := fun j hj => by
        rcases Nat.lt_or_ge j k with h | h
        · exact hcon j h
        · obtain rfl : j = k := by omega
          exact hce.trans hr
      have sU : tab bs.length (upto (conU bs F) k) = tab bs.length (upto (conU bs F) (k + 1)) := upto_skip (by unfold conU; rw [hYK, if_neg (by omega)])
      have sI : tab bs.length (upto (initF bs F) k) = tab bs.length (upto (initF bs F) (k + 1)) := upto_skip (by unfold initF; rw [hYK, if_neg (by omega)])
      have hd : dlK bs (k + 1) = dlK bs k := by rw [dlK_succ, hYK, if_neg (by omega)]
      have hc : cpK bs (k + 1) = cpK bs k := by rw [cpK_succ, hYK, if_neg (by omega)]
      repeat' (with_reducible first | apply qa | apply qb | apply qc | apply qd | apply qe | apply qf | apply qg | apply qh | apply qi | apply qj | apply qk | apply ql rfl | apply qm rfl | apply qn rfl | apply Je | (refine Tx 19 ?_; refine Jo (xFa tf_Block0 tk_int) ?_; refine Jo (xLd tk_int) ?_; refine Jo xEq ?_; refine Ja ?_) | (refine Tx 20 ?_; refine Jm ?_; refine Jm ?_; (first | iterate 3 refine Jd ?_ | (refine Jy (xFa tf_Block0 tk_int) ?_; refine Jy (xLd tk_int) ?_; refine Jy xEq ?_)); refine Jo xPk ?_; refine Jm ?_; (first | iterate 3 refine Jd ?_ | (refine Jy (xFa tf_Block0 tk_int) ?_; refine Jy (xLd tk_int) ?_; refine Jy xEq ?_)); refine Jo xPk ?_) | (refine cw_partE (id := 21) 13 [(13, 11)] mixed (by kernel_rfl) ?_; dsimp only [List.take, List.drop]; refine Km ?_; refine Km ?_; refine Ko (xFa tf_Block2 tk_Scalar) ?_; refine Ko (xLa tk_Scalar) ?_; refine Km ?_; refine Km ?_; refine Ko (by first | exact xIr ts_s_int (int_at hz) | exact xIo ts_s_int) ?_; refine Ko (xLd tk_int) ?_; refine Ko (xCl Tryd.func17 (RV.cv)) ?_; refine Ko xMt ?_; refine Ko xEx ?_; refine Ko xEx ?_; refine Ko (by first | exact xIr ts_s_int (int_at hz) | exact xIo ts_s_int) ?_; refine Ke ?_; refine Js (by first | exact to_stI rfl rfl rfl rfl tk_int tlV stV | exact xS1 tk_int | exact xSk tk_int) ?_; refine Ja ?_) | (refine Tx 22 ?_; refine Jm ?_; refine Jo (xNE ti_error) ?_) | (refine Tx 24 ?_; refine Jm ?_) | (refine Tx 29 ?_; refine Jo (xFa tf_Block0 tk_int) ?_; refine Jo (xLd tk_int) ?_; refine Jo xEq ?_) | (refine Tx 32 ?_; refine Jo xAd ?_; refine Jm ?_))
      refine ⟨_, _, wk_go _ 9 ?_ ?_ ?_, _, ?_, k + 1, by omega, rfl, hC1, rfl, rfl⟩
      · rw [hd, hc, ← sU, ← sI]; rfl
      · rw [hd, hc]; exact mB rfl rfl
      · exact ⟨bel_lit rfl, bel_lit rfl, bel_cI, bel_lit rfl, bel_cI, bel_cI, bel_cI, bel_cI, bel_cI, trivial⟩
      · omega
    by_cases k2 : y.kind = 2
    case pos =>
      have eV : rawVv bs F k = rawV y.vn y.ve z := by unfold rawVv; rw [hYA, hZ]
      have rV : errVv bs F k = rawErr y.vn y.ve z := by unfold errVv; rw [hYA, hZ]
      have cV : conV bs F k = rawV y.vn y.ve z := by unfold conV; rw [hYK, if_pos (by omega), eV]
      have stV : (tab bs.length (upto (conV bs F) k)).set k (rawV y.vn y.ve z) = tab bs.length (upto (conV bs F) (k + 1)) := by rw [← cV]; exact upto_put
      have tlV : k < (tab bs.length (upto (conV bs F) k)).length := by rw [tab_len]; exact hlt
      have RV := raw_cv y.vn y.ve z
      have hd : natI (dlK bs k) ++ [(k : Int)] = natI (dlK bs (k + 1)) := by rw [dlK_succ, hYK, if_pos (by omega), natI_app]
      have hd2 : (dlK bs k).length + 1 = (dlK bs (k + 1)).length := by rw [dlK_succ, hYK, if_pos (by omega)]; simp
      have hcI : initF bs F k = conV bs F k := by unfold initF; rw [hYK, if_pos (by omega)]
      have stI : (tab bs.length (upto (initF bs F) k)).set k (conV bs F k) = tab bs.length (upto (initF bs F) (k + 1)) := by rw [← hcI]; exact upto_put
      have tlI : k < (tab bs.length (upto (initF bs F) k)).length := by rw [tab_len]; exact hlt
      have gV : (tab bs.length (upto (conV bs F) (k + 1)))[k]? = some (conV bs F k) := by rw [tab_get hlt]; unfold upto; rw [if_pos (by omega)]
      have hce : conE bs F k = rawErr y.vn y.ve z := by unfold conE; rw [hYK, if_pos (by omega), rV]
      by_cases hr : rawErr y.vn y.ve z = 0
      case neg =>
        have hV1 : cpE' ps bs os F = rawErr y.vn y.ve z := hV.trans ((cp_3 hle hall hlt hcon (by rw [hce]; exact hr)).trans hce)
        have hVn : cpE' ps bs os F ≠ 0 := by rw [hV1]; exact hr
        repeat' (with_reducible first | apply qa | apply qb | apply qc | apply qd | apply qe | apply qf | apply qg | apply qh | apply qi | apply qj | apply qk | apply ql rfl | apply qm rfl | apply qn rfl | apply Je | (refine Tx 19 ?_; refine Jo (xFa tf_Block0 tk_int) ?_; refine Jo (xLd tk_int) ?_; refine Jo xEq ?_; refine Ja ?_) | (refine Tx 20 ?_; refine Jm ?_; refine Jm ?_; (first | iterate 3 refine Jd ?_ | (refine Jy (xFa tf_Block0 tk_int) ?_; refine Jy (xLd tk_int) ?_; refine Jy xEq ?_)); refine Jo xPk ?_; refine Jm ?_; (first | iterate 3 refine Jd ?_ | (refine Jy (xFa tf_Block0 tk_int) ?_; refine Jy (xLd tk_int) ?_; refine Jy xEq ?_)); refine Jo xPk ?_) | (refine cw_partE (id := 21) 13 [(13, 11)] mixed (by kernel_rfl) ?_; dsimp only [List.take, List.drop]; refine Km ?_; refine Km ?_; refine Ko (xFa tf_Block2 tk_Scalar) ?_; refine Ko (xLa tk_Scalar) ?_; refine Km ?_; refine Km ?_; refine Ko (by first | exact xIr ts_s_int (int_at hz) | exact xIo ts_s_int) ?_; refine Ko (by first | exact xLi gV tk_int | exact xLd tk_int) ?_; refine Ko (xCl Tryd.func17 (RV.cv)) ?_; refine Ko xMt ?_; refine Ko xEx ?_; refine Ko xEx ?_; refine Ko (by first | exact xIr ts_s_int (int_at hz) | exact xIo ts_s_int) ?_; refine Ke ?_; refine Js (by first | exact to_stI rfl rfl rfl rfl tk_int tlV stV | exact to_stI rfl rfl rfl rfl tk_int tlI stI | exact xS1 tk_int | exact xSk tk_int) ?_; refine Ja ?_) | (refine Tx 22 ?_; refine Jm ?_; refine Jo (xNE ti_error) ?_) | (refine Tx 23 ?_; refine Jo (by exact ok_build rfl tb_Program rfl rfl) ?_; refine Jm ?_; refine Js (xSk tk_Program) ?_; refine Ja ?_))
        exact ret_q rfl (.cons_ (rvBx tk_Program (by rw [okL_n hVn, okL_n hVn, okL_n hVn, okL_n hVn]; rfl)) (.cons_ (rv_e rfl hV1.symm) .nil_))
      have hC1 : ∀ j, j < k + 1 → conE bs F j = 0 := fun j hj => by
        rcases Nat.lt_or_ge j k with h | h
        · exact hcon j h
        · obtain rfl : j = k := by omega
          exact hce.trans hr
      have sU : tab bs.length (upto (conU bs F) k) = tab bs.length (upto (conU bs F) (k + 1)) := upto_skip (by unfold conU; rw [hYK, if_neg (by omega)])
      have hc : cpK bs (k + 1) = cpK bs k := by rw [cpK_succ, hYK, if_neg (by omega)]
      repeat' (with_reducible first | apply qa | apply qb | apply qc | apply qd | apply qe | apply qf | apply qg | apply qh | apply qi | apply qj | apply qk | apply ql rfl | apply qm rfl | apply qn rfl | apply Je | (refine Tx 19 ?_; refine Jo (xFa tf_Block0 tk_int) ?_; refine Jo (xLd tk_int) ?_; refine Jo xEq ?_; refine Ja ?_) | (refine Tx 20 ?_; refine Jm ?_; refine Jm ?_; (first | iterate 3 refine Jd ?_ | (refine Jy (xFa tf_Block0 tk_int) ?_; refine Jy (xLd tk_int) ?_; refine Jy xEq ?_)); refine Jo xPk ?_; refine Jm ?_; (first | iterate 3 refine Jd ?_ | (refine Jy (xFa tf_Block0 tk_int) ?_; refine Jy (xLd tk_int) ?_; refine Jy xEq ?_)); refine Jo xPk ?_) | (refine cw_partE (id := 21) 13 [(13, 11)] mixed (by kernel_rfl) ?_; dsimp only [List.take, List.drop]; refine Km ?_; refine Km ?_; refine Ko (xFa tf_Block2 tk_Scalar) ?_; refine Ko (xLa tk_Scalar) ?_; refine Km ?_; refine Km ?_; refine Ko (by first | exact xIr ts_s_int (int_at hz) | exact xIo ts_s_int) ?_; refine Ko (by first | exact xLi gV tk_int | exact xLd tk_int) ?_; refine Ko (xCl Tryd.func17 (RV.cv)) ?_; refine Ko xMt ?_; refine Ko xEx ?_; refine Ko xEx ?_; refine Ko (by first | exact xIr ts_s_int (int_at hz) | exact xIo ts_s_int) ?_; refine Ke ?_; refine Js (by first | exact to_stI rfl rfl rfl rfl tk_int tlV stV | exact to_stI rfl rfl rfl rfl tk_int tlI stI | exact xS1 tk_int | exact xSk tk_int) ?_; refine Ja ?_) | (refine Tx 22 ?_; refine Jm ?_; refine Jo (xNE ti_error) ?_) | (refine Tx 24 ?_; refine Jm ?_) | (refine Tx 29 ?_; refine Jo (xFa tf_Block0 tk_int) ?_; refine Jo (xLd tk_int) ?_; refine Jo xEq ?_) | (refine cw_part (id := 30) 8 mixed (by kernel_rfl) ?_; dsimp only [List.take, List.drop]; refine Ko (xFa tf_Program1 tk_s_int) ?_; refine Ko (xLd tk_s_int) ?_; refine Km ?_; refine Km ?_; refine Km ?_; refine Ko (by first | exact xIr ts_s_int (int_at hz) | exact xIo ts_s_int) ?_; refine Ko (by first | exact xLi gV tk_int | exact xLd tk_int) ?_; refine Ko (by first | exact xIr ts_s_int (int_at hz) | exact xIo ts_s_int) ?_; refine Ke ?_; refine Js (by first | exact to_stI rfl rfl rfl rfl tk_int tlV stV | exact to_stI rfl rfl rfl rfl tk_int tlI stI | exact xS1 tk_int | exact xSk tk_int) ?_) | (refine Tx 31 ?_; refine Jm ?_; refine Jm ?_; refine Jn (by exact ok_build1 rfl ts_s_int tz_int rfl rfl (by decide) (by decide)) ?_; refine Jt (by exact to_apI rfl rfl rfl rfl rfl rfl ts_s_int tz_int (by omega) (by decide) hd hd2) ?_; refine Ja ?_) | (refine Tx 32 ?_; refine Jo xAd ?_; refine Jm ?_))
      refine ⟨_, _, wk_go _ 9 ?_ ?_ ?_, _, ?_, k + 1, by omega, rfl, hC1, rfl, rfl⟩
      · rw [hc, ← sU]; rfl
      · rw [hc]; exact mB rfl rfl
      · exact ⟨bel_lit rfl, bel_lit rfl, bel_cI, bel_lit rfl, bel_cI, bel_cI, bel_cI, bel_cI, bel_cI, trivial⟩
      · omega
    have hC1 : ∀ j, j < k + 1 → conE bs F j = 0 := fun j hj => by
      rcases Nat.lt_or_ge j k with h | h
      · exact hcon j h
      · obtain rfl : j = k := by omega
        unfold conE; rw [hYK, if_neg (by omega), if_neg (by omega)]
    have sU : tab bs.length (upto (conU bs F) k) = tab bs.length (upto (conU bs F) (k + 1)) := upto_skip (by unfold conU; rw [hYK, if_neg (by omega)])
    have sV : tab bs.length (upto (conV bs F) k) = tab bs.length (upto (conV bs F) (k + 1)) := upto_skip (by unfold conV; rw [hYK, if_neg (by omega)])
    have sI : tab bs.length (upto (initF bs F) k) = tab bs.length (upto (initF bs F) (k + 1)) := upto_skip (by unfold initF; rw [hYK, if_neg (by omega)])
    have hd : dlK bs (k + 1) = dlK bs k := by rw [dlK_succ, hYK, if_neg (by omega)]
    have hc : cpK bs (k + 1) = cpK bs k := by rw [cpK_succ, hYK, if_neg (by omega)]
    repeat' (with_reducible first | apply qa | apply qb | apply qc | apply qd | apply qe | apply qf | apply qg | apply qh | apply qi | apply qj | apply qk | apply ql rfl | apply qm rfl | apply qn rfl | apply Je | (refine Tx 19 ?_; refine Jo (xFa tf_Block0 tk_int) ?_; refine Jo (xLd tk_int) ?_; refine Jo xEq ?_; refine Ja ?_) | (refine Tx 20 ?_; refine Jm ?_; refine Jm ?_; (first | iterate 3 refine Jd ?_ | (refine Jy (xFa tf_Block0 tk_int) ?_; refine Jy (xLd tk_int) ?_; refine Jy xEq ?_)); refine Jo xPk ?_; refine Jm ?_; (first | iterate 3 refine Jd ?_ | (refine Jy (xFa tf_Block0 tk_int) ?_; refine Jy (xLd tk_int) ?_; refine Jy xEq ?_)); refine Jo xPk ?_) | (refine Tx 24 ?_; refine Jm ?_) | (refine Tx 29 ?_; refine Jo (xFa tf_Block0 tk_int) ?_; refine Jo (xLd tk_int) ?_; refine Jo xEq ?_) | (refine Tx 32 ?_; refine Jo xAd ?_; refine Jm ?_))
    refine ⟨_, _, wk_go _ 9 ?_ ?_ ?_, _, ?_, k + 1, by omega, rfl, hC1, rfl, rfl⟩
    · rw [hd, hc, ← sU, ← sV, ← sI]; rfl
    · rw [hd, hc]; exact mB rfl rfl
    · exact ⟨bel_lit rfl, bel_lit rfl, bel_cI, bel_lit rfl, bel_cI, bel_cI, bel_cI, bel_cI, bel_cI, trivial⟩
    · omega
  obtain rfl : k = bs.length := by omega
  clear hlt hk
  have hdl := dlK_len bs bs.length
  have hcl := cpK_len bs bs.length
  rw [show tab bs.length (upto (conV bs F) bs.length) = tab bs.length (conV bs F) from upto_all, show tab bs.length (upto (conU bs F) bs.length) = tab bs.length (conU bs F) from upto_all, show tab bs.length (upto (initF bs F) bs.length) = tab bs.length (initF bs F) from upto_all, cellD_zero bs bs.length (cellF bs)]
  repeat' (with_reducible first | apply qa | apply qb | apply qc | apply qd | apply qe | apply qf | apply qg | apply qh | apply qi | apply qj | apply qk | apply ql rfl | apply qm rfl | apply qn rfl | apply Je | (refine Tx 17 ?_; refine Jo xLt ?_) | (refine Tx 33 ?_; refine Jm ?_; refine Jo (xLn ts_s_int) ?_; refine Jm ?_))
  refine cw_wk (F' := ofL [(1, vd (rowI true F)), (2, vr 0), (4, vr 1), (5, vd (.val .nilIface)), (6, vd (rowI false (natI (ordM bs)))), (10, vi bs.length), (11, vr 3), (12, vo 4 bs.length), (13, vo 5 bs.length), (14, vo 6 bs.length), (15, vo 7 ((dlK bs bs.length).length)), (16, vo 8 ((cpK bs bs.length).length)), (160, vo 7 ((dlK bs bs.length).length)), (161, vi ((dlK bs bs.length).length)), (162, vi ((0 : Nat)))]) (H' := [.box 26 [.d (rowP true ps), .d (rowB true bs), .d (rowI true os)], .box 42 [.d (.val (.slice none 0 0)), .d (.val (.slice none 0 0)), .d (.val (.slice none 0 0)), .d (.val (.slice none 0 0))], .row 3 1 (bs.length + (0)) (cI (tab bs.length (initF bs F) ++ List.replicate (0) 0)), .box 42 [.d (rowP false ps), .own 2 (bs.length + (0)), .d (.val (.slice none 0 0)), .d (.val (.slice none 0 0))], .row 3 1 (bs.length) (cI (tab bs.length (conV bs F))), .row 3 1 (bs.length) (cI (tab bs.length (conU bs F))), .row 3 1 (bs.length) (cI (tab bs.length (cellD bs (0)))), .row 3 1 ((dlK bs bs.length).length) (cI (natI (dlK bs bs.length))), .row 3 1 ((cpK bs bs.length).length) (cI (natI (cpK bs bs.length)))]) (wk_go _ 9 ?_ ?_ ?_) ?_
  · rw [List.replicate_zero, List.append_nil]; rfl
  · exact mB rfl rfl
  · exact ⟨bel_lit rfl, bel_lit rfl, bel_cI, bel_lit rfl, bel_cI, bel_cI, bel_cI, bel_cI, bel_cI, trivial⟩
  refine cw_loopW (fun n Fr H => ∃ t : Nat, t ≤ (dlK bs bs.length).length ∧ n = (dlK bs bs.length).length - t ∧ Fr = ofL [(1, vd (rowI true F)), (2, vr 0), (4, vr 1), (5, vd (.val .nilIface)), (6, vd (rowI false (natI (ordM bs)))), (10, vi bs.length), (11, vr 3), (12, vo 4 bs.length), (13, vo 5 bs.length), (14, vo 6 bs.length), (15, vo 7 ((dlK bs bs.length).length)), (16, vo 8 ((cpK bs bs.length).length)), (160, vo 7 ((dlK bs bs.length).length)), (161, vi ((dlK bs bs.length).length)), (162, vi ((t : Nat)))] ∧ H = [.box 26 [.d (rowP true ps), .d (rowB true bs), .d (rowI true os)], .box 42 [.d (.val (.slice none 0 0)), .d (.val (.slice none 0 0)), .d (.val (.slice none 0 0)), .d (.val (.slice none 0 0))], .row 3 1 (bs.length + (t)) (cI (tab bs.length (initF bs F) ++ List.replicate (t) 0)), .box 42 [.d (rowP false ps), .own 2 (bs.length + (t)), .d (.val (.slice none 0 0)), .d (.val (.slice none 0 0))], .row 3 1 (bs.length) (cI (tab bs.length (conV bs F))), .row 3 1 (bs.length) (cI (tab bs.length (conU bs F))), .row 3 1 (bs.length) (cI (tab bs.length (cellD bs (t)))), .row 3 1 ((dlK bs bs.length).length) (cI (natI (dlK bs bs.length))), .row 3 1 ((cpK bs bs.length).length) (cI (natI (cpK bs bs.length)))]) (n0 := (dlK bs bs.length).length) ⟨0, Nat.zero_le _, rfl, rfl, rfl⟩ ?_
  rintro n Fr H ⟨t, ht, rfl, rfl, rfl⟩
  by_cases hlt : t < (dlK bs bs.length).length
  case pos =>
    obtain ⟨j, hj⟩ : ∃ j, (dlK bs bs.length)[t]? = some j := ⟨_, List.getElem?_eq_getElem hlt⟩
    obtain ⟨hj1, hj2, hj3⟩ := dl_at.1 hj
    have hjn := nat_at hj
    have stC : (tab bs.length (cellD bs t)).set j (((bs.length + t : Nat)) : Int) = tab bs.length (cellD bs (t + 1)) := tab_set (by rw [cellD_at hj]; omega) fun i hi => cellD_far hj hi
    have tlC : j < (tab bs.length (cellD bs t)).length := by rw [tab_len]; exact hj1
    have hap : (tab bs.length (initF bs F) ++ List.replicate t 0) ++ [0] = tab bs.length (initF bs F) ++ List.replicate (t + 1) 0 := by rw [List.append_assoc, ← List.replicate_succ']
    repeat' (with_reducible first | apply qa | apply qb | apply qc | apply qd | apply qe | apply qf | apply qg | apply qh | apply qi | apply qj | apply qk | apply ql rfl | apply qm rfl | apply qn rfl | apply Je | (refine Tx 34 ?_; refine Jo xLt ?_) | (refine Tx 35 ?_; refine Jo (xIo ts_s_int) ?_; refine Jo (by first | exact xLi hjn tk_int | exact xLd tk_int) ?_; refine Ja ?_) | (refine Tx 36 ?_; refine Jm ?_; refine Jm ?_; refine Jo (xFa tf_Program1 tk_s_int) ?_; refine Jo (xLd tk_s_int) ?_; refine Jo (xLn ts_s_int) ?_; refine Jo (xIo ts_s_int) ?_; refine Js (by first | exact to_stI rfl rfl rfl rfl tk_int tlC stC | exact xS1 tk_int | exact xSk tk_int) ?_) | (refine Tx 37 ?_; refine Jo (xFa tf_Program1 tk_s_int) ?_; refine Jo (xLd tk_s_int) ?_; refine Jn (by exact ok_build1 rfl ts_s_int tz_int rfl rfl (by decide) (by decide)) ?_; refine Jt (by exact to_apI rfl rfl rfl rfl rfl rfl ts_s_int tz_int (by omega) (by decide) hap rfl) ?_; refine Jo (xFa tf_Program1 tk_s_int) ?_; refine Js (by first | exact xS1 tk_s_int | exact xSk tk_s_int) ?_) | (refine Tx 38 ?_; refine Jo xAd ?_; refine Jm ?_))
    refine ⟨_, _, wk_go _ 9 ?_ ?_ ?_, _, ?_, t + 1, by omega, rfl, rfl, rfl⟩
    · rfl
    · exact mB rfl rfl
    · exact ⟨bel_lit rfl, bel_lit rfl, bel_cI, bel_lit rfl, bel_cI, bel_cI, bel_cI, bel_cI, bel_cI, trivial⟩
    · omega
  obtain rfl : t = (dlK bs bs.length).length := by omega
  clear hlt ht
  rw [cellC_zero]
  repeat' (with_reducible first | apply qa | apply qb | apply qc | apply qd | apply qe | apply qf | apply qg | apply qh | apply qi | apply qj | apply qk | apply ql rfl | apply qm rfl | apply qn rfl | apply Je | (refine Tx 34 ?_; refine Jo xLt ?_) | (refine Tx 39 ?_; refine Jm ?_; refine Jo (xLn ts_s_int) ?_; refine Jm ?_))
  refine cw_wk (F' := ofL [(1, vd (rowI true F)), (2, vr 0), (4, vr 1), (5, vd (.val .nilIface)), (6, vd (rowI false (natI (ordM bs)))), (10, vi bs.length), (11, vr 3), (12, vo 4 bs.length), (13, vo 5 bs.length), (14, vo 6 bs.length), (15, vo 7 ((dlK bs bs.length).length)), (16, vo 8 ((cpK bs bs.length).length)), (178, vo 8 ((cpK bs bs.length).length)), (179, vi ((cpK bs bs.length).length)), (180, vi ((0 : Nat)))]) (H' := [.box 26 [.d (rowP true ps), .d (rowB true bs), .d (rowI true os)], .box 42 [.d (.val (.slice none 0 0)), .d (.val (.slice none 0 0)), .d (.val (.slice none 0 0)), .d (.val (.slice none 0 0))], .row 3 1 (bs.length + (dlK bs bs.length).length + 2 * (0)) (cI (tab bs.length (initF bs F) ++ List.replicate (dlK bs bs.length).length 0 ++ ((cpK bs bs.length).take (0)).flatMap (fun j => [conV bs F j, conU bs F j]))), .box 42 [.d (rowP false ps), .own 2 (bs.length + (dlK bs bs.length).length + 2 * (0)), .d (.val (.slice none 0 0)), .d (.val (.slice none 0 0))], .row 3 1 (bs.length) (cI (tab bs.length (conV bs F))), .row 3 1 (bs.length) (cI (tab bs.length (conU bs F))), .row 3 1 (bs.length) (cI (tab bs.length (cellC bs (0)))), .row 3 1 ((dlK bs bs.length).length) (cI (natI (dlK bs bs.length))), .row 3 1 ((cpK bs bs.length).length) (cI (natI (cpK bs bs.length)))]) (wk_go _ 9 ?_ ?_ ?_) ?_
  · rw [List.take_zero, List.flatMap_nil, List.append_nil]; rfl
  · exact mB rfl rfl
  · exact ⟨bel_lit rfl, bel_lit rfl, bel_cI, bel_lit rfl, bel_cI, bel_cI, bel_cI, bel_cI, bel_cI, trivial⟩
  refine cw_loopW (fun n Fr H => ∃ t : Nat, t ≤ (cpK bs bs.length).length ∧ n = (cpK bs bs.length).length - t ∧ Fr = ofL [(1, vd (rowI true F)), (2, vr 0), (4, vr 1), (5, vd (.val .nilIface)), (6, vd (rowI false (natI (ordM bs)))), (10, vi bs.length), (11, vr 3), (12, vo 4 bs.length), (13, vo 5 bs.length), (14, vo 6 bs.length), (15, vo 7 ((dlK bs bs.length).length)), (16, vo 8 ((cpK bs bs.length).length)), (178, vo 8 ((cpK bs bs.length).length)), (179, vi ((cpK bs bs.length).length)), (180, vi ((t : Nat)))] ∧ H = [.box 26 [.d (rowP true ps), .d (rowB true bs), .d (rowI true os)], .box 42 [.d (.val (.slice none 0 0)), .d (.val (.slice none 0 0)), .d (.val (.slice none 0 0)), .d (.val (.slice none 0 0))], .row 3 1 (bs.length + (dlK bs bs.length).length + 2 * (t)) (cI (tab bs.length (initF bs F) ++ List.replicate (dlK bs bs.length).length 0 ++ ((cpK bs bs.length).take (t)).flatMap (fun j => [conV bs F j, conU bs F j]))), .box 42 [.d (rowP false ps), .own 2 (bs.length + (dlK bs bs.length).length + 2 * (t)), .d (.val (.slice none 0 0)), .d (.val (.slice none 0 0))], .row 3 1 (bs.length) (cI (tab bs.length (conV bs F))), .row 3 1 (bs.length) (cI (tab bs.length (conU bs F))), .row 3 1 (bs.length) (cI (tab bs.length (cellC bs (t)))), .row 3 1 ((dlK bs bs.length).length) (cI (natI (dlK bs bs.length))), .row 3 1 ((cpK bs bs.length).length) (cI (natI (cpK bs bs.length)))]) (n0 := (cpK bs bs.length).length) ⟨0, Nat.zero_le _, rfl, rfl, rfl⟩ ?_
  rintro n Fr H ⟨t, ht, rfl, rfl, rfl⟩
  by_cases hlt : t < (cpK bs bs.length).length
  case pos =>
    obtain ⟨j, hj⟩ : ∃ j, (cpK bs bs.length)[t]? = some j := ⟨_, List.getElem?_eq_getElem hlt⟩
    obtain ⟨hj1, hj2, hj3⟩ := cp_at.1 hj
    have hjn := nat_at hj
    have stC : (tab bs.length (cellC bs t)).set j (((bs.length + (dlK bs bs.length).length + 2 * t : Nat)) : Int) = tab bs.length (cellC bs (t + 1)) := tab_set (by rw [cellC_at hj]; omega) fun i hi => cellC_far hj hi
    have tlC : j < (tab bs.length (cellC bs t)).length := by rw [tab_len]; exact hj1
    have gV : (tab bs.length (conV bs F))[j]? = some (conV bs F j) := tab_get hj1
    have gU : (tab bs.length (conU bs F))[j]? = some (conU bs F j) := tab_get hj1
    have hap : cI (tab bs.length (initF bs F) ++ List.replicate (dlK bs bs.length).length 0 ++ ((cpK bs bs.length).take (t)).flatMap (fun j => [conV bs F j, conU bs F j])) ++ [.d (.val (.int .i64 (conV bs F j))), .d (.val (.int .i64 (conU bs F j)))] = cI (tab bs.length (initF bs F) ++ List.replicate (dlK bs bs.length).length 0 ++ ((cpK bs bs.length).take (t + 1)).flatMap (fun j => [conV bs F j, conU bs F j])) := by rw [cI_app2, flat2_next hj, ← List.append_assoc]
    repeat' (with_reducible first | apply qa | apply qb | apply qc | apply qd | apply qe | apply qf | apply qg | apply qh | apply qi | apply qj | apply qk | apply ql rfl | apply qm rfl | apply qn rfl | apply Je | (refine Tx 40 ?_; refine Jo xLt ?_) | (refine Tx 41 ?_; refine Jo (xIo ts_s_int) ?_; refine Jo (by first | exact xLi hjn tk_int | exact xLi gV tk_int | exact xLi gU tk_int | exact xLd tk_int) ?_; refine Ja ?_) | (refine Tx 42 ?_; refine Jm ?_; refine Jm ?_; refine Jo (xFa tf_Program1 tk_s_int) ?_; refine Jo (xLd tk_s_int) ?_; refine Jo (xLn ts_s_int) ?_; refine Jo (xIo ts_s_int) ?_; refine Js (by first | exact to_stI rfl rfl rfl rfl tk_int tlC stC | exact xS1 tk_int | exact xSk tk_int) ?_) | (refine cw_part (id := 43) 11 mixed (by kernel_rfl) ?_; dsimp only [List.take, List.drop]; refine Ko (xFa tf_Program1 tk_s_int) ?_; refine Ko (xLd tk_s_int) ?_; refine Km ?_; refine Km ?_; refine Ko (xIo ts_s_int) ?_; refine Ko (by first | exact xLi hjn tk_int | exact xLi gV tk_int | exact xLi gU tk_int | exact xLd tk_int) ?_; refine Km ?_; refine Km ?_; refine Ko (xIo ts_s_int) ?_; refine Ko (by first | exact xLi hjn tk_int | exact xLi gV tk_int | exact xLi gU tk_int | exact xLd tk_int) ?_; refine Kn (by exact ok_build2 rfl ts_s_int tz_int rfl rfl rfl rfl (by decide) (by decide)) ?_; refine Ke ?_; refine Jt (by exact to_apD rfl rfl rfl rfl rfl rfl ts_s_int tz_int (by omega) (by decide) (by decide) rfl hap rfl) ?_; refine Jo (xFa tf_Program1 tk_s_int) ?_; refine Js (by first | exact xS1 tk_s_int | exact xSk tk_s_int) ?_) | (refine Tx 44 ?_; refine Jo xAd ?_; refine Jm ?_))
    refine ⟨_, _, wk_go _ 9 ?_ ?_ ?_, _, ?_, t + 1, by omega, rfl, rfl, rfl⟩
    · rfl
    · exact mB rfl rfl
    · exact ⟨bel_lit rfl, bel_lit rfl, bel_cI, bel_lit rfl, bel_cI, bel_cI, bel_cI, bel_cI, bel_cI, trivial⟩
    · omega
  obtain rfl : t = (cpK bs bs.length).length := by omega
  clear hlt ht
  have hIM : tab bs.length (initF bs F) ++ List.replicate (dlK bs bs.length).length 0 ++ ((cpK bs bs.length).take (cpK bs bs.length).length).flatMap (fun j => [conV bs F j, conU bs F j]) = initM bs F := by rw [List.take_length]; rfl
  rw [cellC_all]
  have hM : bs.length + (dlK bs bs.length).length + 2 * (cpK bs bs.length).length = (initM bs F).length := by rw [← hIM, List.length_append, List.length_append, tab_len, List.length_replicate, flat2_len, List.length_take]; omega
  have hol := ord_len (bs := bs)
  rw [hIM]
  repeat' (with_reducible first | apply qa | apply qb | apply qc | apply qd | apply qe | apply qf | apply qg | apply qh | apply qi | apply qj | apply qk | apply ql rfl | apply qm rfl | apply qn rfl | apply Je | (refine Tx 40 ?_; refine Jo xLt ?_) | (refine Tx 45 ?_; refine Jm ?_; refine Jo (xLn ts_s_int) ?_; refine Jm ?_))
  refine cw_wk (wk_nilbox 3 2 67 7 rfl rfl) ?_
  refine cw_wk (F' := ofL [(1, vd (rowI true F)), (2, vr 0), (4, vr 1), (5, vd (.val .nilIface)), (6, vd (rowI false (natI (ordM bs)))), (10, vi bs.length), (11, vr 3), (12, vo 4 bs.length), (13, vo 5 bs.length), (14, vo 6 bs.length), (15, vo 7 ((dlK bs bs.length).length)), (204, vd (rowI false (natI (ordM bs)))), (205, vi ((natI (ordM bs)).length)), (206, vi ((0 : Nat)))]) (H' := [.box 26 [.d (rowP true ps), .d (rowB true bs), .d (rowI true os)], .box 42 [.d (.val (.slice none 0 0)), .d (.val (.slice none 0 0)), .d (.val (.slice none 0 0)), .d (.val (.slice none 0 0))], .row 3 1 (bs.length + (dlK bs bs.length).length + 2 * (cpK bs bs.length).length) (cI (initM bs F)), .box 42 [.d (rowP false ps), .own 2 (bs.length + (dlK bs bs.length).length + 2 * (cpK bs bs.length).length), .own 9 ((cdA ps bs F (0)).length), .d (.val (.slice none 0 0))], .row 3 1 (bs.length) (cI (tab bs.length (conV bs F))), .row 3 1 (bs.length) (cI (tab bs.length (conU bs F))), .row 3 1 (bs.length) (cI (tab bs.length (cellF bs))), .row 3 1 ((dlK bs bs.length).length) (cI (natI (dlK bs bs.length))), .row 3 1 ((cpK bs bs.length).length) (cI (natI (cpK bs bs.length))), .row 67 7 (cdA ps bs F (0)).length (cD (flatD dIns (cdA ps bs F (0))))]) (wk_go _ 10 ?_ ?_ ?_) ?_
  · rfl
  · exact mB rfl rfl
  · exact ⟨bel_lit rfl, bel_lit rfl, bel_cI, bel_lit rfl, bel_cI, bel_cI, bel_cI, bel_cI, bel_cI, bel_d, trivial⟩
  refine cw_loopW (fun n Fr H => ∃ t : Nat, t ≤ (ordM bs).length ∧ n = (ordM bs).length - t ∧ Fr = ofL [(1, vd (rowI true F)), (2, vr 0), (4, vr 1), (5, vd (.val .nilIface)), (6, vd (rowI false (natI (ordM bs)))), (10, vi bs.length), (11, vr 3), (12, vo 4 bs.length), (13, vo 5 bs.length), (14, vo 6 bs.length), (15, vo 7 ((dlK bs bs.length).length)), (204, vd (rowI false (natI (ordM bs)))), (205, vi ((natI (ordM bs)).length)), (206, vi ((t : Nat)))] ∧ H = [.box 26 [.d (rowP true ps), .d (rowB true bs), .d (rowI true os)], .box 42 [.d (.val (.slice none 0 0)), .d (.val (.slice none 0 0)), .d (.val (.slice none 0 0)), .d (.val (.slice none 0 0))], .row 3 1 (bs.length + (dlK bs bs.length).length + 2 * (cpK bs bs.length).length) (cI (initM bs F)), .box 42 [.d (rowP false ps), .own 2 (bs.length + (dlK bs bs.length).length + 2 * (cpK bs bs.length).length), .own 9 ((cdA ps bs F (t)).length), .d (.val (.slice none 0 0))], .row 3 1 (bs.length) (cI (tab bs.length (conV bs F))), .row 3 1 (bs.length) (cI (tab bs.length (conU bs F))), .row 3 1 (bs.length) (cI (tab bs.length (cellF bs))), .row 3 1 ((dlK bs bs.length).length) (cI (natI (dlK bs bs.length))), .row 3 1 ((cpK bs bs.length).length) (cI (natI (cpK bs bs.length))), .row 67 7 (cdA ps bs F (t)).length (cD (flatD dIns (cdA ps bs F (t))))]) (n0 := (ordM bs).length) ⟨0, Nat.zero_le _, rfl, rfl, rfl⟩ ?_
  rintro n Fr H ⟨t, ht, rfl, rfl, rfl⟩
  have hnl := natI_len (ordM bs)
  by_cases hlt : t < (ordM bs).length
  case pos =>
    obtain ⟨j, hj⟩ : ∃ j, (ordM bs)[t]? = some j := ⟨_, List.getElem?_eq_getElem hlt⟩
    obtain ⟨hjn, hjk⟩ := ord_at hj
    have hAl := cdA_len (ps := ps) (bs := bs) (F := F) t
    obtain ⟨y, hy⟩ : ∃ y, bs[j]? = some y := ⟨_, List.getElem?_eq_getElem hjn⟩
    obtain ⟨z, hz⟩ : ∃ z, F[j]? = some z := ⟨_, List.getElem?_eq_getElem (by omega)⟩
    have hac := acc_args he hy
    have hYA := blkA_of hy
    have hYK := kindA_of hy
    have hZ := scA_of hz
    have hzr := sc_range hall j
    rw [hZ] at hzr
    have gC : (tab bs.length (cellF bs))[j]? = some (cellF bs j) := tab_get hjn
    rw [hYK] at hjk
    have gV : (tab bs.length (conV bs F))[j]? = some (conV bs F j) := tab_get hjn
    repeat' (with_reducible first | apply qa | apply qb | apply qc | apply qd | apply qe | apply qf | apply qg | apply qh | apply qi | apply qj | apply qk | apply ql rfl | apply qm rfl | apply qn rfl | apply Je | (refine Tx 46 ?_; refine Jo xLt ?_) | (refine Tx 47 ?_; refine Jo (by first | exact xIr ts_s_int (int_at (nat_at hj)) | exact xIo ts_s_int) ?_; refine Jo (xLd tk_int) ?_; refine Ja ?_) | (refine Tx 48 ?_; refine Jo (xFa tf_Diagram1 tk_s_Block) ?_; refine Jo (xLd tk_s_Block) ?_; refine Jm ?_; refine Jo (by first | exact xIr ts_s_Block (bk_at hy) | exact xIo ts_s_Block) ?_; refine Jo (xLa tk_Block) ?_; refine Jn (xAl tz_Block) ?_; refine Js (xSk tk_Block) ?_) | (refine Tx 49 ?_; refine Jo (xFa tf_Block0 tk_int) ?_; refine Jo (xLd tk_int) ?_))
    by_cases k0 : y.kind = 0
    case pos =>
      have hyl : y.args.length = 1 := by have h := hac.2.1; unfold arityM at h; (repeat' split at h) <;> omega
      obtain ⟨a0, hA0⟩ : ∃ a, y.args[0]? = some a := ⟨_, List.getElem?_eq_getElem (by omega)⟩
      have hr0 := hac.2.2 a0 (List.mem_of_getElem? hA0)
      have hg0 : arg0 y = a0 := by unfold arg0; rw [hA0]; rfl
      rw [show mostM ps.length bs.length y.kind = ps.length from if_pos (by omega)] at hr0
      obtain ⟨p, hp⟩ : ∃ p, ps[a0.toNat]? = some p := ⟨_, List.getElem?_eq_getElem (by omega)⟩
      have hpe := acc_port he hp
      unfold portE at hpe
      have hpr : 0 ≤ p.fr ∧ p.fr ≤ 30 := by
        by_cases h : -2147483648 ≤ p.lo ∧ p.lo ≤ p.hi ∧ p.hi < 2147483648 ∧ 0 ≤ p.fr ∧ p.fr ≤ 30
        · exact h.2.2.2
        · rw [if_neg h] at hpe; cases hpe
      have hpf : portFr ps a0 = p.fr := by unfold portFr; rw [hp]; rfl
      have hB : blkC ps bs F j (cellF bs j) = [⟨0, j, a0, 0, z - p.fr, 0, 0⟩] := by unfold blkC; dsimp only; rw [hYA, hZ, hg0, hpf, if_pos k0]
      have hnx := cdA_next (ps := ps) (F := F) hj
      rw [hB] at hnx
      have hap := ins_put (x := ⟨0, j, a0, 0, z - p.fr, 0, 0⟩) (hnx)
      have hap2 := len_put (hnx)
      repeat' (with_reducible first | apply qa | apply qb | apply qc | apply qd | apply qe | apply qf | apply qg | apply qh | apply qi | apply qj | apply qk | apply ql rfl | apply qm rfl | apply qn rfl | apply Je | (refine Tx 54 ?_; refine Jo xEq ?_; refine Ja ?_) | (refine cw_part (id := 55) 23 mixed (by kernel_rfl) ?_; dsimp only [List.take, List.drop]; refine Ko (xFa tf_Program2 tk_s_Instr) ?_; refine Ko (xLd tk_s_Instr) ?_; refine Km ?_; refine Ko (xFa tf_Block1 tk_s_int) ?_; refine Ko (xLd tk_s_int) ?_; refine Ko (by first | exact xIr ts_s_int (int_at hA0) | exact xIo ts_s_int) ?_; refine Ko (xLd tk_int) ?_; refine Km ?_; refine Km ?_; refine Ko (by first | exact xIr ts_s_int (int_at (nat_at hj)) | exact xIr ts_s_int (int_at hz) | exact xIr ts_s_int (int_at hz0) | exact xIr ts_s_int (int_at hz1) | exact xIo ts_s_int) ?_; refine Ko (xLd tk_int) ?_; refine Ko (xFa tf_Diagram0 tk_s_Port) ?_; refine Ko (xLd tk_s_Port) ?_; refine Ko (xFa tf_Block1 tk_s_int) ?_; refine Ko (xLd tk_s_int) ?_; refine Ko (by first | exact xIr ts_s_int (int_at hA0) | exact xIo ts_s_int) ?_; refine Ko (xLd tk_int) ?_; refine Ko (by first | exact xIr ts_s_Port (prt_at hp) | exact xIo ts_s_Port) ?_; refine Ko (xFa tf_Port2 tk_int) ?_; refine Ko (xLd tk_int) ?_; refine Ko xSb ?_; refine Ko (by exact ok_build rfl tb_Instr rfl rfl) ?_; refine Kn (by exact ok_build1 rfl ts_s_Instr tz_Instr rfl rfl (by decide) (by decide)) ?_; refine Ke ?_; refine Jt (by exact to_apD rfl rfl rfl rfl rfl rfl ts_s_Instr tz_Instr (by omega) (by decide) (by decide) rfl hap hap2) ?_; refine Jo (xFa tf_Program2 tk_s_Instr) ?_; refine Js (by first | exact xS1 tk_s_Instr | exact xSk tk_s_Instr) ?_) | (refine Tx 64 ?_; refine Jo xAd ?_; refine Jm ?_))
      refine ⟨_, _, wk_go _ 10 ?_ ?_ ?_, _, ?_, t + 1, by omega, rfl, rfl, rfl⟩
      · rfl
      · exact mB rfl rfl
      · exact ⟨bel_lit rfl, bel_lit rfl, bel_cI, bel_lit rfl, bel_cI, bel_cI, bel_cI, bel_cI, bel_cI, bel_d, trivial⟩
      · omega
    by_cases k1 : y.kind = 1
    case pos =>
      have hB : blkC ps bs F j (cellF bs j) = [⟨1, j, 0, 0, 0, 0, conV bs F j⟩] := by unfold blkC; dsimp only; rw [hYA, if_neg (by omega), if_pos k1]; unfold conV; rw [hYK, if_pos (by omega)]
      have hnx := cdA_next (ps := ps) (F := F) hj
      rw [hB] at hnx
      have hap := ins_put (x := ⟨1, j, 0, 0, 0, 0, conV bs F j⟩) (hnx)
      have hap2 := len_put (hnx)
      repeat' (with_reducible first | apply qa | apply qb | apply qc | apply qd | apply qe | apply qf | apply qg | apply qh | apply qi | apply qj | apply qk | apply ql rfl | apply qm rfl | apply qn rfl | apply Je | (refine Tx 54 ?_; refine Jo xEq ?_; refine Ja ?_) | (refine Tx 56 ?_; refine Jo xEq ?_; refine Ja ?_) | (refine cw_part (id := 57) 9 mixed (by kernel_rfl) ?_; dsimp only [List.take, List.drop]; refine Ko (xFa tf_Program2 tk_s_Instr) ?_; refine Ko (xLd tk_s_Instr) ?_; refine Km ?_; refine Km ?_; refine Km ?_; refine Ko (by first | exact xIr ts_s_int (int_at (nat_at hj)) | exact xIo ts_s_int) ?_; refine Ko (by first | exact xLi gV tk_int | exact xLd tk_int) ?_; refine Ko (by exact ok_build rfl tb_Instr rfl rfl) ?_; refine Kn (by exact ok_build1 rfl ts_s_Instr tz_Instr rfl rfl (by decide) (by decide)) ?_; refine Ke ?_; refine Jt (by exact to_apD rfl rfl rfl rfl rfl rfl ts_s_Instr tz_Instr (by omega) (by decide) (by decide) rfl hap hap2) ?_; refine Jo (xFa tf_Program2 tk_s_Instr) ?_; refine Js (by first | exact xS1 tk_s_Instr | exact xSk tk_s_Instr) ?_) | (refine Tx 64 ?_; refine Jo xAd ?_; refine Jm ?_))
      refine ⟨_, _, wk_go _ 10 ?_ ?_ ?_, _, ?_, t + 1, by omega, rfl, rfl, rfl⟩
      · rfl
      · exact mB rfl rfl
      · exact ⟨bel_lit rfl, bel_lit rfl, bel_cI, bel_lit rfl, bel_cI, bel_cI, bel_cI, bel_cI, bel_cI, bel_d, trivial⟩
      · omega
    by_cases k6 : y.kind = 6
    case pos =>
      have hyl : y.args.length = 1 := by have h := hac.2.1; unfold arityM at h; (repeat' split at h) <;> omega
      obtain ⟨a0, hA0⟩ : ∃ a, y.args[0]? = some a := ⟨_, List.getElem?_eq_getElem (by omega)⟩
      have hr0 := hac.2.2 a0 (List.mem_of_getElem? hA0)
      have hg0 : arg0 y = a0 := by unfold arg0; rw [hA0]; rfl
      rw [show mostM ps.length bs.length y.kind = bs.length from if_neg (by omega)] at hr0
      obtain ⟨z0, hz0⟩ : ∃ z, F[a0.toNat]? = some z := ⟨_, List.getElem?_eq_getElem (by omega)⟩
      have hZ0 := scA_of hz0
      have hzr0 := sc_range hall a0.toNat
      rw [hZ0] at hzr0
      have hvs := (acc_sc he hy (by rw [k6]; rfl)).2.2
      have hB : blkC ps bs F j (cellF bs j) = [⟨6, j, a0, 0, z - z0 + y.ve, 0, y.vn⟩] := by unfold blkC; dsimp only; rw [hYA, hZ, hg0, hZ0, if_neg (by omega), if_neg (by omega), if_pos k6]
      have hnx := cdA_next (ps := ps) (F := F) hj
      rw [hB] at hnx
      have hap := ins_put (x := ⟨6, j, a0, 0, z - z0 + y.ve, 0, y.vn⟩) (hnx)
      have hap2 := len_put (hnx)
      repeat' (with_reducible first | apply qa | apply qb | apply qc | apply qd | apply qe | apply qf | apply qg | apply qh | apply qi | apply qj | apply qk | apply ql rfl | apply qm rfl | apply qn rfl | apply Je | (refine Tx 54 ?_; refine Jo xEq ?_; refine Ja ?_) | (refine Tx 56 ?_; refine Jo xEq ?_; refine Ja ?_) | (refine Tx 58 ?_; refine Jo xEq ?_; refine Ja ?_) | (refine cw_part (id := 59) 28 mixed (by kernel_rfl) ?_; dsimp only [List.take, List.drop]; refine Ko (xFa tf_Program2 tk_s_Instr) ?_; refine Ko (xLd tk_s_Instr) ?_; refine Km ?_; refine Ko (xFa tf_Block1 tk_s_int) ?_; refine Ko (xLd tk_s_int) ?_; refine Ko (by first | exact xIr ts_s_int (int_at hA0) | exact xIo ts_s_int) ?_; refine Ko (xLd tk_int) ?_; refine Km ?_; refine Km ?_; refine Ko (by first | exact xIr ts_s_int (int_at (nat_at hj)) | exact xIr ts_s_int (int_at hz) | exact xIr ts_s_int (int_at hz0) | exact xIr ts_s_int (int_at hz1) | exact xIo ts_s_int) ?_; refine Ko (xLd tk_int) ?_; refine Km ?_; refine Ko (xFa tf_Block1 tk_s_int) ?_; refine Ko (xLd tk_s_int) ?_; refine Ko (by first | exact xIr ts_s_int (int_at hA0) | exact xIo ts_s_int) ?_; refine Ko (xLd tk_int) ?_; refine Ko (by first | exact xIr ts_s_int (int_at (nat_at hj)) | exact xIr ts_s_int (int_at hz) | exact xIr ts_s_int (int_at hz0) | exact xIr ts_s_int (int_at hz1) | exact xIo ts_s_int) ?_; refine Ko (xLd tk_int) ?_; refine Ko xSb ?_; refine Ko (xFa tf_Block2 tk_Scalar) ?_; refine Ko (xFa tf_Scalar1 tk_int) ?_; refine Ko (xLd tk_int) ?_; refine Ko xAd ?_; refine Ko (xFa tf_Block2 tk_Scalar) ?_; refine Ko (xFa tf_Scalar0 tk_int) ?_; refine Ko (xLd tk_int) ?_; refine Ko (by exact ok_build rfl tb_Instr rfl rfl) ?_; refine Kn (by exact ok_build1 rfl ts_s_Instr tz_Instr rfl rfl (by decide) (by decide)) ?_; refine Ke ?_; refine Jt (by exact to_apD rfl rfl rfl rfl rfl rfl ts_s_Instr tz_Instr (by omega) (by decide) (by decide) rfl hap hap2) ?_; refine Jo (xFa tf_Program2 tk_s_Instr) ?_; refine Js (by first | exact xS1 tk_s_Instr | exact xSk tk_s_Instr) ?_) | (refine Tx 64 ?_; refine Jo xAd ?_; refine Jm ?_))
      refine ⟨_, _, wk_go _ 10 ?_ ?_ ?_, _, ?_, t + 1, by omega, rfl, rfl, rfl⟩
      · rfl
      · exact mB rfl rfl
      · exact ⟨bel_lit rfl, bel_lit rfl, bel_cI, bel_lit rfl, bel_cI, bel_cI, bel_cI, bel_cI, bel_cI, bel_d, trivial⟩
      · omega
    by_cases k7 : y.kind = 7
    case pos =>
      have hyl : y.args.length = 2 := by have h := hac.2.1; unfold arityM at h; (repeat' split at h) <;> omega
      obtain ⟨a0, hA0⟩ : ∃ a, y.args[0]? = some a := ⟨_, List.getElem?_eq_getElem (by omega)⟩
      have hr0 := hac.2.2 a0 (List.mem_of_getElem? hA0)
      have hg0 : arg0 y = a0 := by unfold arg0; rw [hA0]; rfl
      rw [show mostM ps.length bs.length y.kind = bs.length from if_neg (by omega)] at hr0
      obtain ⟨z0, hz0⟩ : ∃ z, F[a0.toNat]? = some z := ⟨_, List.getElem?_eq_getElem (by omega)⟩
      have hZ0 := scA_of hz0
      have hzr0 := sc_range hall a0.toNat
      rw [hZ0] at hzr0
      obtain ⟨a1, hA1⟩ : ∃ a, y.args[1]? = some a := ⟨_, List.getElem?_eq_getElem (by omega)⟩
      have hr1 := hac.2.2 a1 (List.mem_of_getElem? hA1)
      have hg1 : arg1 y = a1 := by unfold arg1; rw [hA1]; rfl
      rw [show mostM ps.length bs.length y.kind = bs.length from if_neg (by omega)] at hr1
      obtain ⟨z1, hz1⟩ : ∃ z, F[a1.toNat]? = some z := ⟨_, List.getElem?_eq_getElem (by omega)⟩
      have hZ1 := scA_of hz1
      have hzr1 := sc_range hall a1.toNat
      rw [hZ1] at hzr1
      have hB : blkC ps bs F j (cellF bs j) = [⟨7, j, a0, a1, z - z0 - z1, 0, 0⟩] := by unfold blkC; dsimp only; rw [hYA, hZ, hg0, hg1, hZ0, hZ1, if_neg (by omega), if_neg (by omega), if_neg (by omega), if_pos k7]
      have hnx := cdA_next (ps := ps) (F := F) hj
      rw [hB] at hnx
      have hap := ins_put (x := ⟨7, j, a0, a1, z - z0 - z1, 0, 0⟩) (hnx)
      have hap2 := len_put (hnx)
      repeat' (with_reducible first | apply qa | apply qb | apply qc | apply qd | apply qe | apply qf | apply qg | apply qh | apply qi | apply qj | apply qk | apply ql rfl | apply qm rfl | apply qn rfl | apply Je | (refine Tx 54 ?_; refine Jo xEq ?_; refine Ja ?_) | (refine Tx 56 ?_; refine Jo xEq ?_; refine Ja ?_) | (refine Tx 58 ?_; refine Jo xEq ?_; refine Ja ?_) | (refine Tx 60 ?_; refine Jo xEq ?_; refine Ja ?_) | (refine cw_part (id := 61) 33 mixed (by kernel_rfl) ?_; dsimp only [List.take, List.drop]; refine Ko (xFa tf_Program2 tk_s_Instr) ?_; refine Ko (xLd tk_s_Instr) ?_; refine Km ?_; refine Ko (xFa tf_Block1 tk_s_int) ?_; refine Ko (xLd tk_s_int) ?_; refine Ko (by first | exact xIr ts_s_int (int_at hA0) | exact xIo ts_s_int) ?_; refine Ko (xLd tk_int) ?_; refine Ko (xFa tf_Block1 tk_s_int) ?_; refine Ko (xLd tk_s_int) ?_; refine Ko (by first | exact xIr ts_s_int (int_at hA1) | exact xIo ts_s_int) ?_; refine Ko (xLd tk_int) ?_; refine Km ?_; refine Km ?_; refine Ko (by first | exact xIr ts_s_int (int_at (nat_at hj)) | exact xIr ts_s_int (int_at hz) | exact xIr ts_s_int (int_at hz0) | exact xIr ts_s_int (int_at hz1) | exact xIo ts_s_int) ?_; refine Ko (xLd tk_int) ?_; refine Km ?_; refine Ko (xFa tf_Block1 tk_s_int) ?_; refine Ko (xLd tk_s_int) ?_; refine Ko (by first | exact xIr ts_s_int (int_at hA0) | exact xIo ts_s_int) ?_; refine Ko (xLd tk_int) ?_; refine Ko (by first | exact xIr ts_s_int (int_at (nat_at hj)) | exact xIr ts_s_int (int_at hz) | exact xIr ts_s_int (int_at hz0) | exact xIr ts_s_int (int_at hz1) | exact xIo ts_s_int) ?_; refine Ko (xLd tk_int) ?_; refine Ko xSb ?_; refine Km ?_; refine Ko (xFa tf_Block1 tk_s_int) ?_; refine Ko (xLd tk_s_int) ?_; refine Ko (by first | exact xIr ts_s_int (int_at hA1) | exact xIo ts_s_int) ?_; refine Ko (xLd tk_int) ?_; refine Ko (by first | exact xIr ts_s_int (int_at (nat_at hj)) | exact xIr ts_s_int (int_at hz) | exact xIr ts_s_int (int_at hz0) | exact xIr ts_s_int (int_at hz1) | exact xIo ts_s_int) ?_; refine Ko (xLd tk_int) ?_; refine Ko xSb ?_; refine Ko (by exact ok_build rfl tb_Instr rfl rfl) ?_; refine Kn (by exact ok_build1 rfl ts_s_Instr tz_Instr rfl rfl (by decide) (by decide)) ?_; refine Ke ?_; refine Jt (by exact to_apD rfl rfl rfl rfl rfl rfl ts_s_Instr tz_Instr (by omega) (by decide) (by decide) rfl hap hap2) ?_; refine Jo (xFa tf_Program2 tk_s_Instr) ?_; refine Js (by first | exact xS1 tk_s_Instr | exact xSk tk_s_Instr) ?_) | (refine Tx 64 ?_; refine Jo xAd ?_; refine Jm ?_))
      refine ⟨_, _, wk_go _ 10 ?_ ?_ ?_, _, ?_, t + 1, by omega, rfl, rfl, rfl⟩
      · rfl
      · exact mB rfl rfl
      · exact ⟨bel_lit rfl, bel_lit rfl, bel_cI, bel_lit rfl, bel_cI, bel_cI, bel_cI, bel_cI, bel_cI, bel_d, trivial⟩
      · omega
    by_cases k11 : y.kind = 11
    case pos =>
      have hyl : y.args.length = 1 := by have h := hac.2.1; unfold arityM at h; (repeat' split at h) <;> omega
      obtain ⟨a0, hA0⟩ : ∃ a, y.args[0]? = some a := ⟨_, List.getElem?_eq_getElem (by omega)⟩
      have hr0 := hac.2.2 a0 (List.mem_of_getElem? hA0)
      have hg0 : arg0 y = a0 := by unfold arg0; rw [hA0]; rfl
      rw [show mostM ps.length bs.length y.kind = bs.length from if_neg (by omega)] at hr0
      obtain ⟨z0, hz0⟩ : ∃ z, F[a0.toNat]? = some z := ⟨_, List.getElem?_eq_getElem (by omega)⟩
      have hZ0 := scA_of hz0
      have hzr0 := sc_range hall a0.toNat
      rw [hZ0] at hzr0
      have hcF : cellF bs j = (bs.length : Int) + ((dlK bs bs.length).length : Int) + 2 * (rank (cpB bs) j : Int) := by unfold cellF; rw [hYK, if_neg (by omega), if_pos k11]
      have hrk := rank_cp_lt hjn (hYK.trans k11)
      have hB : blkC ps bs F j (cellF bs j) = [⟨9, j, a0, cellF bs j, z - z0, 0, 0⟩, ⟨8, j, j, cellF bs j + 1, 0, 0, 0⟩] := by unfold blkC; dsimp only; rw [hYA, hZ, hg0, hZ0, if_neg (by omega), if_neg (by omega), if_neg (by omega), if_neg (by omega), if_pos k11]
      have hnx := cdA_next (ps := ps) (F := F) hj
      rw [hB] at hnx
      have hap := ins_put2 (x := ⟨9, j, a0, cellF bs j, z - z0, 0, 0⟩) (y := ⟨8, j, j, cellF bs j + 1, 0, 0, 0⟩) hnx
      have hap2 := len_put2 hnx
      repeat' (with_reducible first | apply qa | apply qb | apply qc | apply qd | apply qe | apply qf | apply qg | apply qh | apply qi | apply qj | apply qk | apply ql rfl | apply qm rfl | apply qn rfl | apply Je | (refine Tx 54 ?_; refine Jo xEq ?_; refine Ja ?_) | (refine Tx 56 ?_; refine Jo xEq ?_; refine Ja ?_) | (refine Tx 58 ?_; refine Jo xEq ?_; refine Ja ?_) | (refine Tx 60 ?_; refine Jo xEq ?_; refine Ja ?_) | (refine Tx 62 ?_; refine Jo xEq ?_; refine Ja ?_) | (refine cw_part (id := 63) 33 mixed (by kernel_rfl) ?_; dsimp only [List.take, List.drop]; refine Ko (xFa tf_Program2 tk_s_Instr) ?_; refine Ko (xLd tk_s_Instr) ?_; refine Km ?_; refine Ko (xFa tf_Block1 tk_s_int) ?_; refine Ko (xLd tk_s_int) ?_; refine Ko (by first | exact xIr ts_s_int (int_at hA0) | exact xIo ts_s_int) ?_; refine Ko (by first | exact xLi gC tk_int | exact xLd tk_int) ?_; refine Km ?_; refine Km ?_; refine Ko (by first | exact xIr ts_s_int (int_at (nat_at hj)) | exact xIr ts_s_int (int_at hz) | exact xIr ts_s_int (int_at hz0) | exact xIr ts_s_int (int_at hz1) | exact xIo ts_s_int) ?_; refine Ko (by first | exact xLi gC tk_int | exact xLd tk_int) ?_; refine Km ?_; refine Km ?_; refine Ko (by first | exact xIr ts_s_int (int_at (nat_at hj)) | exact xIr ts_s_int (int_at hz) | exact xIr ts_s_int (int_at hz0) | exact xIr ts_s_int (int_at hz1) | exact xIo ts_s_int) ?_; refine Ko (by first | exact xLi gC tk_int | exact xLd tk_int) ?_; refine Km ?_; refine Ko (xFa tf_Block1 tk_s_int) ?_; refine Ko (xLd tk_s_int) ?_; refine Ko (by first | exact xIr ts_s_int (int_at hA0) | exact xIo ts_s_int) ?_; refine Ko (by first | exact xLi gC tk_int | exact xLd tk_int) ?_; refine Ko (by first | exact xIr ts_s_int (int_at (nat_at hj)) | exact xIr ts_s_int (int_at hz) | exact xIr ts_s_int (int_at hz0) | exact xIr ts_s_int (int_at hz1) | exact xIo ts_s_int) ?_; refine Ko (by first | exact xLi gC tk_int | exact xLd tk_int) ?_; refine Ko xSb ?_; refine Ko (by exact ok_build rfl tb_Instr rfl rfl) ?_; refine Km ?_; refine Km ?_; refine Km ?_; refine Km ?_; refine Ko (by first | exact xIr ts_s_int (int_at (nat_at hj)) | exact xIr ts_s_int (int_at hz) | exact xIr ts_s_int (int_at hz0) | exact xIr ts_s_int (int_at hz1) | exact xIo ts_s_int) ?_; refine Ko (by first | exact xLi gC tk_int | exact xLd tk_int) ?_; refine Ko xAd ?_; refine Ko (by exact ok_build rfl tb_Instr rfl rfl) ?_; refine Kn (by exact ok_build2 rfl ts_s_Instr tz_Instr rfl rfl rfl rfl (by decide) (by decide)) ?_; refine Ke ?_; refine Jt (by exact to_apD rfl rfl rfl rfl rfl rfl ts_s_Instr tz_Instr (by omega) (by decide) (by decide) rfl hap hap2) ?_; refine Jo (xFa tf_Program2 tk_s_Instr) ?_; refine Js (by first | exact xS1 tk_s_Instr | exact xSk tk_s_Instr) ?_) | (refine Tx 64 ?_; refine Jo xAd ?_; refine Jm ?_))
      refine ⟨_, _, wk_go _ 10 ?_ ?_ ?_, _, ?_, t + 1, by omega, rfl, rfl, rfl⟩
      · rfl
      · exact mB rfl rfl
      · exact ⟨bel_lit rfl, bel_lit rfl, bel_cI, bel_lit rfl, bel_cI, bel_cI, bel_cI, bel_cI, bel_cI, bel_d, trivial⟩
      · omega
    have OP := op_cv y.kind
    by_cases hl2 : y.args.length = 2
    case pos =>
      obtain ⟨a0, hA0⟩ : ∃ a, y.args[0]? = some a := ⟨_, List.getElem?_eq_getElem (by omega)⟩
      have hr0 := hac.2.2 a0 (List.mem_of_getElem? hA0)
      have hg0 : arg0 y = a0 := by unfold arg0; rw [hA0]; rfl
      rw [show mostM ps.length bs.length y.kind = bs.length from if_neg (by omega)] at hr0
      obtain ⟨z0, hz0⟩ : ∃ z, F[a0.toNat]? = some z := ⟨_, List.getElem?_eq_getElem (by omega)⟩
      have hZ0 := scA_of hz0
      have hzr0 := sc_range hall a0.toNat
      rw [hZ0] at hzr0
      obtain ⟨a1, hA1⟩ : ∃ a, y.args[1]? = some a := ⟨_, List.getElem?_eq_getElem (by omega)⟩
      have hr1 := hac.2.2 a1 (List.mem_of_getElem? hA1)
      have hg1 : arg1 y = a1 := by unfold arg1; rw [hA1]; rfl
      rw [show mostM ps.length bs.length y.kind = bs.length from if_neg (by omega)] at hr1
      obtain ⟨z1, hz1⟩ : ∃ z, F[a1.toNat]? = some z := ⟨_, List.getElem?_eq_getElem (by omega)⟩
      have hZ1 := scA_of hz1
      have hzr1 := sc_range hall a1.toNat
      rw [hZ1] at hzr1
      have hB : blkC ps bs F j (cellF bs j) = [⟨opM y.kind, j, a0, a1, z - z0, z - z1, 0⟩] := by unfold blkC; dsimp only; rw [hYA, hZ, hg0, hg1, hZ0, hZ1, if_neg (by omega), if_neg (by omega), if_neg (by omega), if_neg (by omega), if_neg (by omega), if_pos hl2]
      have hnx := cdA_next (ps := ps) (F := F) hj
      rw [hB] at hnx
      have hap := ins_put (x := ⟨opM y.kind, j, a0, a1, z - z0, z - z1, 0⟩) (hnx)
      have hap2 := len_put (hnx)
      repeat' (with_reducible first | apply qa | apply qb | apply qc | apply qd | apply qe | apply qf | apply qg | apply qh | apply qi | apply qj | apply qk | apply ql rfl | apply qm rfl | apply qn rfl | apply Je | (refine Tx 54 ?_; refine Jo xEq ?_; refine Ja ?_) | (refine Tx 56 ?_; refine Jo xEq ?_; refine Ja ?_) | (refine Tx 58 ?_; refine Jo xEq ?_; refine Ja ?_) | (refine Tx 60 ?_; refine Jo xEq ?_; refine Ja ?_) | (refine Tx 62 ?_; refine Jo xEq ?_; refine Ja ?_) | (refine cw_part (id := 50) 22 mixed (by kernel_rfl) ?_; dsimp only [List.take, List.drop]; refine Ko (xFa tf_Block0 tk_int) ?_; refine Ko (xLd tk_int) ?_; refine Ko (xCl Tryd.func21 (OP.cv)) ?_; refine Km ?_; refine Ko (xFa tf_Block1 tk_s_int) ?_; refine Ko (xLd tk_s_int) ?_; refine Ko (by first | exact xIr ts_s_int (int_at hA0) | exact xIo ts_s_int) ?_; refine Ko (xLd tk_int) ?_; refine Km ?_; refine Km ?_; refine Ko (by first | exact xIr ts_s_int (int_at (nat_at hj)) | exact xIr ts_s_int (int_at hz) | exact xIr ts_s_int (int_at hz0) | exact xIr ts_s_int (int_at hz1) | exact xIo ts_s_int) ?_; refine Ko (xLd tk_int) ?_; refine Km ?_; refine Ko (xFa tf_Block1 tk_s_int) ?_; refine Ko (xLd tk_s_int) ?_; refine Ko (by first | exact xIr ts_s_int (int_at hA0) | exact xIo ts_s_int) ?_; refine Ko (xLd tk_int) ?_; refine Ko (by first | exact xIr ts_s_int (int_at (nat_at hj)) | exact xIr ts_s_int (int_at hz) | exact xIr ts_s_int (int_at hz0) | exact xIr ts_s_int (int_at hz1) | exact xIo ts_s_int) ?_; refine Ko (xLd tk_int) ?_; refine Ko xSb ?_; refine Ko (by exact ok_build rfl tb_Instr rfl rfl) ?_; refine Kn (xAl tz_Instr) ?_; refine Ke ?_; refine Js (xSk tk_Instr) ?_) | (refine Tx 51 ?_; refine Jo (xFa tf_Block1 tk_s_int) ?_; refine Jo (xLd tk_s_int) ?_; refine Jo (xLn ts_s_int) ?_; refine Jo xEq ?_) | (refine cw_stB (id := 52) 17 11 67 [.d (.val (.int .i64 (opM y.kind))), .d (.val (.int .i64 (j))), .d (.val (.int .i64 (a0))), .d (.val (.int .i64 (a1))), .d (.val (.int .i64 (z - z0))), .d (.val (.int .i64 (0))), .d (.val (.int .i64 (0)))] mixed (by kernel_rfl) ?_; dsimp only [List.take, List.drop]; refine c2_o rfl rfl (xFa tf_Block1 tk_s_int) (xFa tf_Block1 tk_s_int) ?_; refine c2_o rfl rfl (xLd tk_s_int) (xLd tk_s_int) ?_; refine c2_o rfl rfl (by first | exact xIr ts_s_int (int_at hA1) | exact xIo ts_s_int) (by first | exact xIr ts_s_int (int_at hA1) | exact xIo ts_s_int) ?_; refine c2_o rfl rfl (xLd tk_int) (xLd tk_int) ?_; refine c2_o rfl rfl xM1 xM1 ?_; refine c2_o rfl rfl xM1 xM1 ?_; refine c2_o rfl rfl (by first | exact xIr ts_s_int (int_at (nat_at hj)) | exact xIr ts_s_int (int_at hz) | exact xIr ts_s_int (int_at hz0) | exact xIr ts_s_int (int_at hz1) | exact xIo ts_s_int) (by first | exact xIr ts_s_int (int_at (nat_at hj)) | exact xIr ts_s_int (int_at hz) | exact xIr ts_s_int (int_at hz0) | exact xIr ts_s_int (int_at hz1) | exact xIo ts_s_int) ?_; refine c2_o rfl rfl (xLd tk_int) (xLd tk_int) ?_; refine c2_o rfl rfl xM1 xM1 ?_; refine c2_o rfl rfl (xFa tf_Block1 tk_s_int) (xFa tf_Block1 tk_s_int) ?_; refine c2_o rfl rfl (xLd tk_s_int) (xLd tk_s_int) ?_; refine c2_o rfl rfl (by first | exact xIr ts_s_int (int_at hA1) | exact xIo ts_s_int) (by first | exact xIr ts_s_int (int_at hA1) | exact xIo ts_s_int) ?_; refine c2_o rfl rfl (xLd tk_int) (xLd tk_int) ?_; refine c2_o rfl rfl (by first | exact xIr ts_s_int (int_at (nat_at hj)) | exact xIr ts_s_int (int_at hz) | exact xIr ts_s_int (int_at hz0) | exact xIr ts_s_int (int_at hz1) | exact xIo ts_s_int) (by first | exact xIr ts_s_int (int_at (nat_at hj)) | exact xIr ts_s_int (int_at hz) | exact xIr ts_s_int (int_at hz0) | exact xIr ts_s_int (int_at hz1) | exact xIo ts_s_int) ?_; refine c2_o rfl rfl (xLd tk_int) (xLd tk_int) ?_; refine c2_o rfl rfl xSb xSb ?_; refine c2_o rfl rfl (xFa tf_Instr3 tk_int) (xFa tf_Instr3 tk_int) ?_; refine c2_nil ?_; refine st_go rfl rfl rfl (by exact to_storeE rfl rfl rfl rfl rfl tk_int (Nat.le_of_ble_eq_true rfl) rfl) ?_; refine Jo (xFa tf_Instr5 tk_int) ?_; refine Js (by first | exact xS1 tk_int | exact xSk tk_int) ?_) | (refine Tx 53 ?_; refine Jo (xFa tf_Program2 tk_s_Instr) ?_; refine Jo (xLd tk_s_Instr) ?_; refine Jo (xLa tk_Instr) ?_; refine Jn (by exact ok_build1 rfl ts_s_Instr tz_Instr rfl rfl (by decide) (by decide)) ?_; refine Jt (by exact to_apD rfl rfl rfl rfl rfl rfl ts_s_Instr tz_Instr (by omega) (by decide) (by decide) rfl hap hap2) ?_; refine Jo (xFa tf_Program2 tk_s_Instr) ?_; refine Js (by first | exact xS1 tk_s_Instr | exact xSk tk_s_Instr) ?_) | (refine Tx 64 ?_; refine Jo xAd ?_; refine Jm ?_))
      refine ⟨_, _, wk_go _ 10 ?_ ?_ ?_, _, ?_, t + 1, by omega, rfl, rfl, rfl⟩
      · rfl
      · exact mB rfl rfl
      · exact ⟨bel_lit rfl, bel_lit rfl, bel_cI, bel_lit rfl, bel_cI, bel_cI, bel_cI, bel_cI, bel_cI, bel_d, trivial⟩
      · omega
    have hyl : y.args.length = 1 := by have h := hac.2.1; have h1 := hac.1; unfold arityM at h h1; (repeat' split at h) <;> omega
    obtain ⟨a0, hA0⟩ : ∃ a, y.args[0]? = some a := ⟨_, List.getElem?_eq_getElem (by omega)⟩
    have hr0 := hac.2.2 a0 (List.mem_of_getElem? hA0)
    have hg0 : arg0 y = a0 := by unfold arg0; rw [hA0]; rfl
    rw [show mostM ps.length bs.length y.kind = bs.length from if_neg (by omega)] at hr0
    obtain ⟨z0, hz0⟩ : ∃ z, F[a0.toNat]? = some z := ⟨_, List.getElem?_eq_getElem (by omega)⟩
    have hZ0 := scA_of hz0
    have hzr0 := sc_range hall a0.toNat
    rw [hZ0] at hzr0
    have hB : blkC ps bs F j (cellF bs j) = [⟨opM y.kind, j, a0, 0, z - z0, 0, 0⟩] := by unfold blkC; dsimp only; rw [hYA, hZ, hg0, hZ0, if_neg (by omega), if_neg (by omega), if_neg (by omega), if_neg (by omega), if_neg (by omega), if_neg hl2]
    have hnx := cdA_next (ps := ps) (F := F) hj
    rw [hB] at hnx
    have hap := ins_put (x := ⟨opM y.kind, j, a0, 0, z - z0, 0, 0⟩) (hnx)
    have hap2 := len_put (hnx)
    repeat' (with_reducible first | apply qa | apply qb | apply qc | apply qd | apply qe | apply qf | apply qg | apply qh | apply qi | apply qj | apply qk | apply ql rfl | apply qm rfl | apply qn rfl | apply Je | (refine Tx 54 ?_; refine Jo xEq ?_; refine Ja ?_) | (refine Tx 56 ?_; refine Jo xEq ?_; refine Ja ?_) | (refine Tx 58 ?_; refine Jo xEq ?_; refine Ja ?_) | (refine Tx 60 ?_; refine Jo xEq ?_; refine Ja ?_) | (refine Tx 62 ?_; refine Jo xEq ?_; refine Ja ?_) | (refine cw_part (id := 50) 22 mixed (by kernel_rfl) ?_; dsimp only [List.take, List.drop]; refine Ko (xFa tf_Block0 tk_int) ?_; refine Ko (xLd tk_int) ?_; refine Ko (xCl Tryd.func21 (OP.cv)) ?_; refine Km ?_; refine Ko (xFa tf_Block1 tk_s_int) ?_; refine Ko (xLd tk_s_int) ?_; refine Ko (by first | exact xIr ts_s_int (int_at hA0) | exact xIo ts_s_int) ?_; refine Ko (xLd tk_int) ?_; refine Km ?_; refine Km ?_; refine Ko (by first | exact xIr ts_s_int (int_at (nat_at hj)) | exact xIr ts_s_int (int_at hz) | exact xIr ts_s_int (int_at hz0) | exact xIr ts_s_int (int_at hz1) | exact xIo ts_s_int) ?_; refine Ko (xLd tk_int) ?_; refine Km ?_; refine Ko (xFa tf_Block1 tk_s_int) ?_; refine Ko (xLd tk_s_int) ?_; refine Ko (by first | exact xIr ts_s_int (int_at hA0) | exact xIo ts_s_int) ?_; refine Ko (xLd tk_int) ?_; refine Ko (by first | exact xIr ts_s_int (int_at (nat_at hj)) | exact xIr ts_s_int (int_at hz) | exact xIr ts_s_int (int_at hz0) | exact xIr ts_s_int (int_at hz1) | exact xIo ts_s_int) ?_; refine Ko (xLd tk_int) ?_; refine Ko xSb ?_; refine Ko (by exact ok_build rfl tb_Instr rfl rfl) ?_; refine Kn (xAl tz_Instr) ?_; refine Ke ?_; refine Js (xSk tk_Instr) ?_) | (refine Tx 51 ?_; refine Jo (xFa tf_Block1 tk_s_int) ?_; refine Jo (xLd tk_s_int) ?_; refine Jo (xLn ts_s_int) ?_; refine Jo xEq ?_) | (refine Tx 53 ?_; refine Jo (xFa tf_Program2 tk_s_Instr) ?_; refine Jo (xLd tk_s_Instr) ?_; refine Jo (xLa tk_Instr) ?_; refine Jn (by exact ok_build1 rfl ts_s_Instr tz_Instr rfl rfl (by decide) (by decide)) ?_; refine Jt (by exact to_apD rfl rfl rfl rfl rfl rfl ts_s_Instr tz_Instr (by omega) (by decide) (by decide) rfl hap hap2) ?_; refine Jo (xFa tf_Program2 tk_s_Instr) ?_; refine Js (by first | exact xS1 tk_s_Instr | exact xSk tk_s_Instr) ?_) | (refine Tx 64 ?_; refine Jo xAd ?_; refine Jm ?_))
    refine ⟨_, _, wk_go _ 10 ?_ ?_ ?_, _, ?_, t + 1, by omega, rfl, rfl, rfl⟩
    · rfl
    · exact mB rfl rfl
    · exact ⟨bel_lit rfl, bel_lit rfl, bel_cI, bel_lit rfl, bel_cI, bel_cI, bel_cI, bel_cI, bel_cI, bel_d, trivial⟩
    · omega
  obtain rfl : t = (ordM bs).length := by omega
  clear hlt ht
  rw [← cdB_zero]
  repeat' (with_reducible first | apply qa | apply qb | apply qc | apply qd | apply qe | apply qf | apply qg | apply qh | apply qi | apply qj | apply qk | apply ql rfl | apply qm rfl | apply qn rfl | apply Je | (refine Tx 46 ?_; refine Jo xLt ?_) | (refine Tx 65 ?_; refine Jm ?_; refine Jo (xLn ts_s_int) ?_; refine Jm ?_))
  refine cw_wk (F' := ofL [(1, vd (rowI true F)), (2, vr 0), (4, vr 1), (5, vd (.val .nilIface)), (6, vd (rowI false (natI (ordM bs)))), (10, vi bs.length), (11, vr 3), (12, vo 4 bs.length), (13, vo 5 bs.length), (14, vo 6 bs.length), (15, vo 7 ((dlK bs bs.length).length)), (413, vo 7 ((dlK bs bs.length).length)), (414, vi ((dlK bs bs.length).length)), (415, vi ((0 : Nat)))]) (H' := [.box 26 [.d (rowP true ps), .d (rowB true bs), .d (rowI true os)], .box 42 [.d (.val (.slice none 0 0)), .d (.val (.slice none 0 0)), .d (.val (.slice none 0 0)), .d (.val (.slice none 0 0))], .row 3 1 (bs.length + (dlK bs bs.length).length + 2 * (cpK bs bs.length).length) (cI (initM bs F)), .box 42 [.d (rowP false ps), .own 2 (bs.length + (dlK bs bs.length).length + 2 * (cpK bs bs.length).length), .own 9 ((cdB ps bs F (0)).length), .d (.val (.slice none 0 0))], .row 3 1 (bs.length) (cI (tab bs.length (conV bs F))), .row 3 1 (bs.length) (cI (tab bs.length (conU bs F))), .row 3 1 (bs.length) (cI (tab bs.length (cellF bs))), .row 3 1 ((dlK bs bs.length).length) (cI (natI (dlK bs bs.length))), .row 3 1 ((cpK bs bs.length).length) (cI (natI (cpK bs bs.length))), .row 67 7 (cdB ps bs F (0)).length (cD (flatD dIns (cdB ps bs F (0))))]) (wk_go _ 10 ?_ ?_ ?_) ?_
  · rfl
  · exact mB rfl rfl
  · exact ⟨bel_lit rfl, bel_lit rfl, bel_cI, bel_lit rfl, bel_cI, bel_cI, bel_cI, bel_cI, bel_cI, bel_d, trivial⟩
  refine cw_loopW (fun n Fr H => ∃ t : Nat, t ≤ (dlK bs bs.length).length ∧ n = (dlK bs bs.length).length - t ∧ Fr = ofL [(1, vd (rowI true F)), (2, vr 0), (4, vr 1), (5, vd (.val .nilIface)), (6, vd (rowI false (natI (ordM bs)))), (10, vi bs.length), (11, vr 3), (12, vo 4 bs.length), (13, vo 5 bs.length), (14, vo 6 bs.length), (15, vo 7 ((dlK bs bs.length).length)), (413, vo 7 ((dlK bs bs.length).length)), (414, vi ((dlK bs bs.length).length)), (415, vi ((t : Nat)))] ∧ H = [.box 26 [.d (rowP true ps), .d (rowB true bs), .d (rowI true os)], .box 42 [.d (.val (.slice none 0 0)), .d (.val (.slice none 0 0)), .d (.val (.slice none 0 0)), .d (.val (.slice none 0 0))], .row 3 1 (bs.length + (dlK bs bs.length).length + 2 * (cpK bs bs.length).length) (cI (initM bs F)), .box 42 [.d (rowP false ps), .own 2 (bs.length + (dlK bs bs.length).length + 2 * (cpK bs bs.length).length), .own 9 ((cdB ps bs F (t)).length), .d (.val (.slice none 0 0))], .row 3 1 (bs.length) (cI (tab bs.length (conV bs F))), .row 3 1 (bs.length) (cI (tab bs.length (conU bs F))), .row 3 1 (bs.length) (cI (tab bs.length (cellF bs))), .row 3 1 ((dlK bs bs.length).length) (cI (natI (dlK bs bs.length))), .row 3 1 ((cpK bs bs.length).length) (cI (natI (cpK bs bs.length))), .row 67 7 (cdB ps bs F (t)).length (cD (flatD dIns (cdB ps bs F (t))))]) (n0 := (dlK bs bs.length).length) ⟨0, Nat.zero_le _, rfl, rfl, rfl⟩ ?_
  rintro n Fr H ⟨t, ht, rfl, rfl, rfl⟩
  by_cases hlt : t < (dlK bs bs.length).length
  case pos =>
    obtain ⟨j, hj⟩ : ∃ j, (dlK bs bs.length)[t]? = some j := ⟨_, List.getElem?_eq_getElem hlt⟩
    obtain ⟨hjn, hjk, hj3⟩ := dl_at.1 hj
    have hjm := nat_at hj
    have hAl := cdB_len (ps := ps) (bs := bs) (F := F) t
    obtain ⟨y, hy⟩ : ∃ y, bs[j]? = some y := ⟨_, List.getElem?_eq_getElem hjn⟩
    obtain ⟨z, hz⟩ : ∃ z, F[j]? = some z := ⟨_, List.getElem?_eq_getElem (by omega)⟩
    have hac := acc_args he hy
    have hYA := blkA_of hy
    have hYK := kindA_of hy
    have hZ := scA_of hz
    have hzr := sc_range hall j
    rw [hZ] at hzr
    have gC : (tab bs.length (cellF bs))[j]? = some (cellF bs j) := tab_get hjn
    rw [hYK] at hjk
    have hyl : y.args.length = 1 := by have h := hac.2.1; unfold arityM at h; (repeat' split at h) <;> omega
    obtain ⟨a0, hA0⟩ : ∃ a, y.args[0]? = some a := ⟨_, List.getElem?_eq_getElem (by omega)⟩
    have hr0 := hac.2.2 a0 (List.mem_of_getElem? hA0)
    have hg0 : arg0 y = a0 := by unfold arg0; rw [hA0]; rfl
    rw [show mostM ps.length bs.length y.kind = bs.length from if_neg (by omega)] at hr0
    obtain ⟨z0, hz0⟩ : ∃ z, F[a0.toNat]? = some z := ⟨_, List.getElem?_eq_getElem (by omega)⟩
    have hZ0 := scA_of hz0
    have hzr0 := sc_range hall a0.toNat
    rw [hZ0] at hzr0
    have hnx := cdB_next (ps := ps) (F := F) hj
    rw [show mv1 bs F j = ⟨2, cellF bs j, a0, 0, z - z0, 0, 0⟩ by unfold mv1; rw [hYA, hZ, hg0, hZ0]] at hnx
    have hap := ins_put hnx
    have hap2 := len_put hnx
    repeat' (with_reducible first | apply qa | apply qb | apply qc | apply qd | apply qe | apply qf | apply qg | apply qh | apply qi | apply qj | apply qk | apply ql rfl | apply qm rfl | apply qn rfl | apply Je | (refine Tx 66 ?_; refine Jo xLt ?_) | (refine Tx 67 ?_; refine Jo (by first | exact xIr ts_s_int (int_at hz) | exact xIr ts_s_int (int_at hz0) | exact xIo ts_s_int) ?_; refine Jo (by first | exact xLi hjm tk_int | exact xLi gC tk_int | exact xLd tk_int) ?_; refine Ja ?_) | (refine Tx 68 ?_; refine Jo (xFa tf_Diagram1 tk_s_Block) ?_; refine Jo (xLd tk_s_Block) ?_; refine Jm ?_; refine Jo (by first | exact xIr ts_s_Block (bk_at hy) | exact xIo ts_s_Block) ?_; refine Jo (xFa tf_Block1 tk_s_int) ?_; refine Jo (by first | exact xLi hjm tk_int | exact xLi gC tk_int | exact xLd tk_s_int) ?_; refine Jo (by first | exact xIr ts_s_int (int_at hA0) | exact xIo ts_s_int) ?_; refine Jo (by first | exact xLi hjm tk_int | exact xLi gC tk_int | exact xLd tk_int) ?_; refine Ja ?_) | (refine cw_part (id := 69) 18 mixed (by kernel_rfl) ?_; dsimp only [List.take, List.drop]; refine Ko (xFa tf_Program2 tk_s_Instr) ?_; refine Ko (xLd tk_s_Instr) ?_; refine Km ?_; refine Km ?_; refine Ko (by first | exact xIr ts_s_int (int_at hz) | exact xIr ts_s_int (int_at hz0) | exact xIo ts_s_int) ?_; refine Ko (by first | exact xLi hjm tk_int | exact xLi gC tk_int | exact xLd tk_int) ?_; refine Km ?_; refine Km ?_; refine Km ?_; refine Ko (by first | exact xIr ts_s_int (int_at hz) | exact xIr ts_s_int (int_at hz0) | exact xIo ts_s_int) ?_; refine Ko (by first | exact xLi hjm tk_int | exact xLi gC tk_int | exact xLd tk_int) ?_; refine Km ?_; refine Km ?_; refine Ko (by first | exact xIr ts_s_int (int_at hz) | exact xIr ts_s_int (int_at hz0) | exact xIo ts_s_int) ?_; refine Ko (by first | exact xLi hjm tk_int | exact xLi gC tk_int | exact xLd tk_int) ?_; refine Ko xSb ?_; refine Ko (by exact ok_build rfl tb_Instr rfl rfl) ?_; refine Kn (by exact ok_build1 rfl ts_s_Instr tz_Instr rfl rfl (by decide) (by decide)) ?_; refine Ke ?_; refine Jt (by exact to_apD rfl rfl rfl rfl rfl rfl ts_s_Instr tz_Instr (by omega) (by decide) (by decide) rfl hap hap2) ?_; refine Jo (xFa tf_Program2 tk_s_Instr) ?_; refine Js (by first | exact xS1 tk_s_Instr | exact xSk tk_s_Instr) ?_) | (refine Tx 70 ?_; refine Jo xAd ?_; refine Jm ?_))
    refine ⟨_, _, wk_go _ 10 ?_ ?_ ?_, _, ?_, t + 1, by omega, rfl, rfl, rfl⟩
    · rfl
    · exact mB rfl rfl
    · exact ⟨bel_lit rfl, bel_lit rfl, bel_cI, bel_lit rfl, bel_cI, bel_cI, bel_cI, bel_cI, bel_cI, bel_d, trivial⟩
    · omega
  obtain rfl : t = (dlK bs bs.length).length := by omega
  clear hlt ht
  rw [← cdC_zero]
  repeat' (with_reducible first | apply qa | apply qb | apply qc | apply qd | apply qe | apply qf | apply qg | apply qh | apply qi | apply qj | apply qk | apply ql rfl | apply qm rfl | apply qn rfl | apply Je | (refine Tx 66 ?_; refine Jo xLt ?_) | (refine Tx 71 ?_; refine Jm ?_; refine Jo (xLn ts_s_int) ?_; refine Jm ?_))
  refine cw_wk (F' := ofL [(1, vd (rowI true F)), (2, vr 0), (4, vr 1), (5, vd (.val .nilIface)), (6, vd (rowI false (natI (ordM bs)))), (10, vi bs.length), (11, vr 3), (12, vo 4 bs.length), (13, vo 5 bs.length), (14, vo 6 bs.length), (15, vo 7 ((dlK bs bs.length).length)), (448, vo 7 ((dlK bs bs.length).length)), (449, vi ((dlK bs bs.length).length)), (450, vi ((0 : Nat)))]) (H' := [.box 26 [.d (rowP true ps), .d (rowB true bs), .d (rowI true os)], .box 42 [.d (.val (.slice none 0 0)), .d (.val (.slice none 0 0)), .d (.val (.slice none 0 0)), .d (.val (.slice none 0 0))], .row 3 1 (bs.length + (dlK bs bs.length).length + 2 * (cpK bs bs.length).length) (cI (initM bs F)), .box 42 [.d (rowP false ps), .own 2 (bs.length + (dlK bs bs.length).length + 2 * (cpK bs bs.length).length), .own 9 ((cdC ps bs F (0)).length), .d (.val (.slice none 0 0))], .row 3 1 (bs.length) (cI (tab bs.length (conV bs F))), .row 3 1 (bs.length) (cI (tab bs.length (conU bs F))), .row 3 1 (bs.length) (cI (tab bs.length (cellF bs))), .row 3 1 ((dlK bs bs.length).length) (cI (natI (dlK bs bs.length))), .row 3 1 ((cpK bs bs.length).length) (cI (natI (cpK bs bs.length))), .row 67 7 (cdC ps bs F (0)).length (cD (flatD dIns (cdC ps bs F (0))))]) (wk_go _ 10 ?_ ?_ ?_) ?_
  · rfl
  · exact mB rfl rfl
  · exact ⟨bel_lit rfl, bel_lit rfl, bel_cI, bel_lit rfl, bel_cI, bel_cI, bel_cI, bel_cI, bel_cI, bel_d, trivial⟩
  refine cw_loopW (fun n Fr H => ∃ t : Nat, t ≤ (dlK bs bs.length).length ∧ n = (dlK bs bs.length).length - t ∧ Fr = ofL [(1, vd (rowI true F)), (2, vr 0), (4, vr 1), (5, vd (.val .nilIface)), (6, vd (rowI false (natI (ordM bs)))), (10, vi bs.length), (11, vr 3), (12, vo 4 bs.length), (13, vo 5 bs.length), (14, vo 6 bs.length), (15, vo 7 ((dlK bs bs.length).length)), (448, vo 7 ((dlK bs bs.length).length)), (449, vi ((dlK bs bs.length).length)), (450, vi ((t : Nat)))] ∧ H = [.box 26 [.d (rowP true ps), .d (rowB true bs), .d (rowI true os)], .box 42 [.d (.val (.slice none 0 0)), .d (.val (.slice none 0 0)), .d (.val (.slice none 0 0)), .d (.val (.slice none 0 0))], .row 3 1 (bs.length + (dlK bs bs.length).length + 2 * (cpK bs bs.length).length) (cI (initM bs F)), .box 42 [.d (rowP false ps), .own 2 (bs.length + (dlK bs bs.length).length + 2 * (cpK bs bs.length).length), .own 9 ((cdC ps bs F (t)).length), .d (.val (.slice none 0 0))], .row 3 1 (bs.length) (cI (tab bs.length (conV bs F))), .row 3 1 (bs.length) (cI (tab bs.length (conU bs F))), .row 3 1 (bs.length) (cI (tab bs.length (cellF bs))), .row 3 1 ((dlK bs bs.length).length) (cI (natI (dlK bs bs.length))), .row 3 1 ((cpK bs bs.length).length) (cI (natI (cpK bs bs.length))), .row 67 7 (cdC ps bs F (t)).length (cD (flatD dIns (cdC ps bs F (t))))]) (n0 := (dlK bs bs.length).length) ⟨0, Nat.zero_le _, rfl, rfl, rfl⟩ ?_
  rintro n Fr H ⟨t, ht, rfl, rfl, rfl⟩
  by_cases hlt : t < (dlK bs bs.length).length
  case pos =>
    obtain ⟨j, hj⟩ : ∃ j, (dlK bs bs.length)[t]? = some j := ⟨_, List.getElem?_eq_getElem hlt⟩
    obtain ⟨hjn, hjk, hj3⟩ := dl_at.1 hj
    have hjm := nat_at hj
    have hAl := cdC_len (ps := ps) (bs := bs) (F := F) t
    obtain ⟨y, hy⟩ : ∃ y, bs[j]? = some y := ⟨_, List.getElem?_eq_getElem hjn⟩
    obtain ⟨z, hz⟩ : ∃ z, F[j]? = some z := ⟨_, List.getElem?_eq_getElem (by omega)⟩
    have hac := acc_args he hy
    have hYA := blkA_of hy
    have hYK := kindA_of hy
    have hZ := scA_of hz
    have hzr := sc_range hall j
    rw [hZ] at hzr
    have gC : (tab bs.length (cellF bs))[j]? = some (cellF bs j) := tab_get hjn
    rw [hYK] at hjk
    have hyl : y.args.length = 1 := by have h := hac.2.1; unfold arityM at h; (repeat' split at h) <;> omega
    obtain ⟨a0, hA0⟩ : ∃ a, y.args[0]? = some a := ⟨_, List.getElem?_eq_getElem (by omega)⟩
    have hr0 := hac.2.2 a0 (List.mem_of_getElem? hA0)
    have hg0 : arg0 y = a0 := by unfold arg0; rw [hA0]; rfl
    rw [show mostM ps.length bs.length y.kind = bs.length from if_neg (by omega)] at hr0
    obtain ⟨z0, hz0⟩ : ∃ z, F[a0.toNat]? = some z := ⟨_, List.getElem?_eq_getElem (by omega)⟩
    have hZ0 := scA_of hz0
    have hzr0 := sc_range hall a0.toNat
    rw [hZ0] at hzr0
    have hnx : cdC ps bs F (t + 1) = cdC ps bs F t ++ [⟨2, j, cellF bs j, 0, 0, 0, 0⟩] := cdC_next hj
    have hap := ins_put hnx
    have hap2 := len_put hnx
    repeat' (with_reducible first | apply qa | apply qb | apply qc | apply qd | apply qe | apply qf | apply qg | apply qh | apply qi | apply qj | apply qk | apply ql rfl | apply qm rfl | apply qn rfl | apply Je | (refine Tx 72 ?_; refine Jo xLt ?_) | (refine Tx 73 ?_; refine Jo (by first | exact xIr ts_s_int (int_at hz) | exact xIr ts_s_int (int_at hz0) | exact xIo ts_s_int) ?_; refine Jo (by first | exact xLi hjm tk_int | exact xLi gC tk_int | exact xLd tk_int) ?_; refine Ja ?_) | (refine cw_part (id := 74) 9 mixed (by kernel_rfl) ?_; dsimp only [List.take, List.drop]; refine Ko (xFa tf_Program2 tk_s_Instr) ?_; refine Ko (xLd tk_s_Instr) ?_; refine Km ?_; refine Km ?_; refine Km ?_; refine Ko (by first | exact xIr ts_s_int (int_at hz) | exact xIr ts_s_int (int_at hz0) | exact xIo ts_s_int) ?_; refine Ko (by first | exact xLi hjm tk_int | exact xLi gC tk_int | exact xLd tk_int) ?_; refine Ko (by exact ok_build rfl tb_Instr rfl rfl) ?_; refine Kn (by exact ok_build1 rfl ts_s_Instr tz_Instr rfl rfl (by decide) (by decide)) ?_; refine Ke ?_; refine Jt (by exact to_apD rfl rfl rfl rfl rfl rfl ts_s_Instr tz_Instr (by omega) (by decide) (by decide) rfl hap hap2) ?_; refine Jo (xFa tf_Program2 tk_s_Instr) ?_; refine Js (by first | exact xS1 tk_s_Instr | exact xSk tk_s_Instr) ?_) | (refine Tx 75 ?_; refine Jo xAd ?_; refine Jm ?_))
    refine ⟨_, _, wk_go _ 10 ?_ ?_ ?_, _, ?_, t + 1, by omega, rfl, rfl, rfl⟩
    · rfl
    · exact mB rfl rfl
    · exact ⟨bel_lit rfl, bel_lit rfl, bel_cI, bel_lit rfl, bel_cI, bel_cI, bel_cI, bel_cI, bel_cI, bel_d, trivial⟩
    · omega
  obtain rfl : t = (dlK bs bs.length).length := by omega
  clear hlt ht
  rw [cdC_all]
  have hcl8 := cdC_len (ps := ps) (bs := bs) (F := F) (dlK bs bs.length).length
  rw [cdC_all] at hcl8
  have hV4 := hV.trans (cp_4 hle hall hcon)
  repeat' (with_reducible first | apply qa | apply qb | apply qc | apply qd | apply qe | apply qf | apply qg | apply qh | apply qi | apply qj | apply qk | apply ql rfl | apply qm rfl | apply qn rfl | apply Je | (refine Tx 72 ?_; refine Jo xLt ?_) | (refine Tx 76 ?_; refine Jo (xFa tf_Program2 tk_s_Instr) ?_; refine Jo (xLd tk_s_Instr) ?_; refine Jo (xLn ts_s_Instr) ?_; refine Jm ?_))
  refine cw_wk (F' := ofL [(1, vd (rowI true F)), (2, vr 0), (4, vr 1), (5, vd (.val .nilIface)), (6, vd (rowI false (natI (ordM bs)))), (10, vi bs.length), (11, vr 3), (12, vo 4 bs.length), (13, vo 5 bs.length), (14, vo 6 bs.length), (467, vo 9 ((codeM ps bs F).length)), (468, vi ((codeM ps bs F).length)), (469, vi ((0 : Nat)))]) (H' := [.box 26 [.d (rowP true ps), .d (rowB true bs), .d (rowI true os)], .box 42 [.d (.val (.slice none 0 0)), .d (.val (.slice none 0 0)), .d (.val (.slice none 0 0)), .d (.val (.slice none 0 0))], .row 3 1 (bs.length + (dlK bs bs.length).length + 2 * (cpK bs bs.length).length) (cI (initM bs F)), .box 42 [.d (rowP false ps), .own 2 (bs.length + (dlK bs bs.length).length + 2 * (cpK bs bs.length).length), .own 9 ((codeM ps bs F).length), .d (.val (.slice none 0 0))], .row 3 1 (bs.length) (cI (tab bs.length (conV bs F))), .row 3 1 (bs.length) (cI (tab bs.length (conU bs F))), .row 3 1 (bs.length) (cI (tab bs.length (cellF bs))), .row 3 1 ((dlK bs bs.length).length) (cI (natI (dlK bs bs.length))), .row 3 1 ((cpK bs bs.length).length) (cI (natI (cpK bs bs.length))), .row 67 7 (codeM ps bs F).length (cD (flatD dIns (codeM ps bs F)))]) (wk_go _ 10 ?_ ?_ ?_) ?_
  · rfl
  · exact mB rfl rfl
  · exact ⟨bel_lit rfl, bel_lit rfl, bel_cI, bel_lit rfl, bel_cI, bel_cI, bel_cI, bel_cI, bel_cI, bel_d, trivial⟩
  refine cw_loopW (fun n Fr H => ∃ t : Nat, t ≤ (codeM ps bs F).length ∧ n = (codeM ps bs F).length - t ∧ ((codeM ps bs F).take t).all shOk = true ∧ Fr = ofL [(1, vd (rowI true F)), (2, vr 0), (4, vr 1), (5, vd (.val .nilIface)), (6, vd (rowI false (natI (ordM bs)))), (10, vi bs.length), (11, vr 3), (12, vo 4 bs.length), (13, vo 5 bs.length), (14, vo 6 bs.length), (467, vo 9 ((codeM ps bs F).length)), (468, vi ((codeM ps bs F).length)), (469, vi ((t : Nat)))] ∧ H = [.box 26 [.d (rowP true ps), .d (rowB true bs), .d (rowI true os)], .box 42 [.d (.val (.slice none 0 0)), .d (.val (.slice none 0 0)), .d (.val (.slice none 0 0)), .d (.val (.slice none 0 0))], .row 3 1 (bs.length + (dlK bs bs.length).length + 2 * (cpK bs bs.length).length) (cI (initM bs F)), .box 42 [.d (rowP false ps), .own 2 (bs.length + (dlK bs bs.length).length + 2 * (cpK bs bs.length).length), .own 9 ((codeM ps bs F).length), .d (.val (.slice none 0 0))], .row 3 1 (bs.length) (cI (tab bs.length (conV bs F))), .row 3 1 (bs.length) (cI (tab bs.length (conU bs F))), .row 3 1 (bs.length) (cI (tab bs.length (cellF bs))), .row 3 1 ((dlK bs bs.length).length) (cI (natI (dlK bs bs.length))), .row 3 1 ((cpK bs bs.length).length) (cI (natI (cpK bs bs.length))), .row 67 7 (codeM ps bs F).length (cD (flatD dIns (codeM ps bs F)))]) (n0 := (codeM ps bs F).length) ⟨0, Nat.zero_le _, rfl, rfl, rfl, rfl⟩ ?_
  rintro n Fr H ⟨t, ht, rfl, hsh, rfl, rfl⟩
  by_cases hlt : t < (codeM ps bs F).length
  case pos =>
    obtain ⟨x, hx⟩ : ∃ x, (codeM ps bs F)[t]? = some x := ⟨_, List.getElem?_eq_getElem hlt⟩
    repeat' (with_reducible first | apply qa | apply qb | apply qc | apply qd | apply qe | apply qf | apply qg | apply qh | apply qi | apply qj | apply qk | apply ql rfl | apply qm rfl | apply qn rfl | apply Je | (refine Tx 77 ?_; refine Jo xLt ?_) | (refine Tx 78 ?_; refine Jo (xIo ts_s_Instr) ?_; refine Jo (by first | exact ok_loadA rfl rfl (At.row rfl) tk_Instr (insC_at hx) rfl | exact xLa tk_Instr) ?_; refine Jn (xAl tz_Instr) ?_; refine Js (xSk tk_Instr) ?_))
    by_cases hs : shOk x = true
    case pos =>
      have hs1 := of_decide_eq_true hs
      obtain ⟨q1, q2, q3, q4⟩ := hs1
      repeat' (with_reducible first | apply qa | apply qb | apply qc | apply qd | apply qe | apply qf | apply qg | apply qh | apply qi | apply qj | apply qk | apply ql rfl | apply qm rfl | apply qn rfl | apply Je | (refine Tx 79 ?_; refine Jo (xFa tf_Instr4 tk_int) ?_; refine Jo (xLd tk_int) ?_; refine Jo xLt ?_; refine Jm ?_; (first | iterate 3 refine Jd ?_ | (refine Jy (xFa tf_Instr4 tk_int) ?_; refine Jy (xLd tk_int) ?_; refine Jy xGt ?_)); refine Jo xPk ?_; refine Jm ?_; (first | iterate 3 refine Jd ?_ | (refine Jy (xFa tf_Instr5 tk_int) ?_; refine Jy (xLd tk_int) ?_; refine Jy xLt ?_)); refine Jo xPk ?_; refine Jm ?_; (first | iterate 3 refine Jd ?_ | (refine Jy (xFa tf_Instr5 tk_int) ?_; refine Jy (xLd tk_int) ?_; refine Jy xGt ?_)); refine Jo xPk ?_) | (refine Tx 80 ?_; refine Jo (by exact ok_build rfl tb_Program rfl rfl) ?_; refine Jo (xMi Tryd.underlying68) ?_; refine Js (xSk tk_Program) ?_; refine Ja ?_) | (refine Tx 81 ?_; refine Jo xAd ?_; refine Jm ?_))
      refine ⟨_, _, wk_go _ 10 ?_ ?_ ?_, _, ?_, t + 1, by omega, rfl, all_take hx hsh hs, rfl, rfl⟩
      · rfl
      · exact mB rfl rfl
      · exact ⟨bel_lit rfl, bel_lit rfl, bel_cI, bel_lit rfl, bel_cI, bel_cI, bel_cI, bel_cI, bel_cI, bel_d, trivial⟩
      · omega
    case neg =>
      have hV1 : cpE' ps bs os F = 3 := hV4.trans (if_neg (fun ha => hs (List.all_eq_true.1 ha x (List.mem_of_getElem? hx))))
      have hs1 : ¬ (-62 ≤ x.sa ∧ x.sa ≤ 30 ∧ -62 ≤ x.sb ∧ x.sb ≤ 30) := fun h => hs (decide_eq_true h)
      by_cases c27 : x.sa < -62
      case pos =>
        repeat' (with_reducible first | apply qa | apply qb | apply qc | apply qd | apply qe | apply qf | apply qg | apply qh | apply qi | apply qj | apply qk | apply ql rfl | apply qm rfl | apply qn rfl | apply Je | (refine Tx 79 ?_; refine Jo (xFa tf_Instr4 tk_int) ?_; refine Jo (xLd tk_int) ?_; refine Jo xLt ?_; refine Jm ?_; (first | iterate 3 refine Jd ?_ | (refine Jy (xFa tf_Instr4 tk_int) ?_; refine Jy (xLd tk_int) ?_; refine Jy xGt ?_)); refine Jo xPk ?_; refine Jm ?_; (first | iterate 3 refine Jd ?_ | (refine Jy (xFa tf_Instr5 tk_int) ?_; refine Jy (xLd tk_int) ?_; refine Jy xLt ?_)); refine Jo xPk ?_; refine Jm ?_; (first | iterate 3 refine Jd ?_ | (refine Jy (xFa tf_Instr5 tk_int) ?_; refine Jy (xLd tk_int) ?_; refine Jy xGt ?_)); refine Jo xPk ?_) | (refine Tx 80 ?_; refine Jo (by exact ok_build rfl tb_Program rfl rfl) ?_; refine Jo (xMi Tryd.underlying68) ?_; refine Js (xSk tk_Program) ?_; refine Ja ?_) | (refine Tx 81 ?_; refine Jo xAd ?_; refine Jm ?_))
        exact ret_q rfl (.cons_ (rvBx tk_Program (by rw [okL_n (by rw [hV1]; decide), okL_n (by rw [hV1]; decide), okL_n (by rw [hV1]; decide), okL_n (by rw [hV1]; decide)]; rfl)) (.cons_ (rv_en rfl (by decide) hV1) .nil_))
      by_cases c245 : 30 < x.sa
      case pos =>
        repeat' (with_reducible first | apply qa | apply qb | apply qc | apply qd | apply qe | apply qf | apply qg | apply qh | apply qi | apply qj | apply qk | apply ql rfl | apply qm rfl | apply qn rfl | apply Je | (refine Tx 79 ?_; refine Jo (xFa tf_Instr4 tk_int) ?_; refine Jo (xLd tk_int) ?_; refine Jo xLt ?_; refine Jm ?_; (first | iterate 3 refine Jd ?_ | (refine Jy (xFa tf_Instr4 tk_int) ?_; refine Jy (xLd tk_int) ?_; refine Jy xGt ?_)); refine Jo xPk ?_; refine Jm ?_; (first | iterate 3 refine Jd ?_ | (refine Jy (xFa tf_Instr5 tk_int) ?_; refine Jy (xLd tk_int) ?_; refine Jy xLt ?_)); refine Jo xPk ?_; refine Jm ?_; (first | iterate 3 refine Jd ?_ | (refine Jy (xFa tf_Instr5 tk_int) ?_; refine Jy (xLd tk_int) ?_; refine Jy xGt ?_)); refine Jo xPk ?_) | (refine Tx 80 ?_; refine Jo (by exact ok_build rfl tb_Program rfl rfl) ?_; refine Jo (xMi Tryd.underlying68) ?_; refine Js (xSk tk_Program) ?_; refine Ja ?_) | (refine Tx 81 ?_; refine Jo xAd ?_; refine Jm ?_))
        exact ret_q rfl (.cons_ (rvBx tk_Program (by rw [okL_n (by rw [hV1]; decide), okL_n (by rw [hV1]; decide), okL_n (by rw [hV1]; decide), okL_n (by rw [hV1]; decide)]; rfl)) (.cons_ (rv_en rfl (by decide) hV1) .nil_))
      by_cases c521 : x.sb < -62
      case pos =>
        repeat' (with_reducible first | apply qa | apply qb | apply qc | apply qd | apply qe | apply qf | apply qg | apply qh | apply qi | apply qj | apply qk | apply ql rfl | apply qm rfl | apply qn rfl | apply Je | (refine Tx 79 ?_; refine Jo (xFa tf_Instr4 tk_int) ?_; refine Jo (xLd tk_int) ?_; refine Jo xLt ?_; refine Jm ?_; (first | iterate 3 refine Jd ?_ | (refine Jy (xFa tf_Instr4 tk_int) ?_; refine Jy (xLd tk_int) ?_; refine Jy xGt ?_)); refine Jo xPk ?_; refine Jm ?_; (first | iterate 3 refine Jd ?_ | (refine Jy (xFa tf_Instr5 tk_int) ?_; refine Jy (xLd tk_int) ?_; refine Jy xLt ?_)); refine Jo xPk ?_; refine Jm ?_; (first | iterate 3 refine Jd ?_ | (refine Jy (xFa tf_Instr5 tk_int) ?_; refine Jy (xLd tk_int) ?_; refine Jy xGt ?_)); refine Jo xPk ?_) | (refine Tx 80 ?_; refine Jo (by exact ok_build rfl tb_Program rfl rfl) ?_; refine Jo (xMi Tryd.underlying68) ?_; refine Js (xSk tk_Program) ?_; refine Ja ?_) | (refine Tx 81 ?_; refine Jo xAd ?_; refine Jm ?_))
        exact ret_q rfl (.cons_ (rvBx tk_Program (by rw [okL_n (by rw [hV1]; decide), okL_n (by rw [hV1]; decide), okL_n (by rw [hV1]; decide), okL_n (by rw [hV1]; decide)]; rfl)) (.cons_ (rv_en rfl (by decide) hV1) .nil_))
      repeat' (with_reducible first | apply qa | apply qb | apply qc | apply qd | apply qe | apply qf | apply qg | apply qh | apply qi | apply qj | apply qk | apply ql rfl | apply qm rfl | apply qn rfl | apply Je | (refine Tx 79 ?_; refine Jo (xFa tf_Instr4 tk_int) ?_; refine Jo (xLd tk_int) ?_; refine Jo xLt ?_; refine Jm ?_; (first | iterate 3 refine Jd ?_ | (refine Jy (xFa tf_Instr4 tk_int) ?_; refine Jy (xLd tk_int) ?_; refine Jy xGt ?_)); refine Jo xPk ?_; refine Jm ?_; (first | iterate 3 refine Jd ?_ | (refine Jy (xFa tf_Instr5 tk_int) ?_; refine Jy (xLd tk_int) ?_; refine Jy xLt ?_)); refine Jo xPk ?_; refine Jm ?_; (first | iterate 3 refine Jd ?_ | (refine Jy (xFa tf_Instr5 tk_int) ?_; refine Jy (xLd tk_int) ?_; refine Jy xGt ?_)); refine Jo xPk ?_) | (refine Tx 80 ?_; refine Jo (by exact ok_build rfl tb_Program rfl rfl) ?_; refine Jo (xMi Tryd.underlying68) ?_; refine Js (xSk tk_Program) ?_; refine Ja ?_) | (refine Tx 81 ?_; refine Jo xAd ?_; refine Jm ?_))
      exact ret_q rfl (.cons_ (rvBx tk_Program (by rw [okL_n (by rw [hV1]; decide), okL_n (by rw [hV1]; decide), okL_n (by rw [hV1]; decide), okL_n (by rw [hV1]; decide)]; rfl)) (.cons_ (rv_en rfl (by decide) hV1) .nil_))
  obtain rfl : t = (codeM ps bs F).length := by omega
  rw [List.take_length] at hsh
  have hV5 := hV4.trans (if_pos hsh)
  repeat' (with_reducible first | apply qa | apply qb | apply qc | apply qd | apply qe | apply qf | apply qg | apply qh | apply qi | apply qj | apply qk | apply ql rfl | apply qm rfl | apply qn rfl | apply Je | (refine Tx 77 ?_; refine Jo xLt ?_) | (refine Tx 82 ?_; refine Jo (by exact ok_build0 rfl ts_s_int) ?_; refine Jo (xFa tf_Diagram2 tk_s_int) ?_; refine Jo (xLd tk_s_int) ?_; refine Jo (by exact ok_append0 rfl rfl (.inl rfl) rfl (ints_free _) ts_s_int tz_int (hl.l3) (by decide) (by decide)) ?_; refine Jo (xFa tf_Program3 tk_s_int) ?_; refine Js (by first | exact xS1 tk_s_int | exact xSk tk_s_int) ?_) | (refine Tx 83 ?_; refine Jo (xLa tk_Program) ?_; refine Js (xSk tk_Program) ?_; refine Ja ?_))
  skip
  exact ret_q rfl (.cons_ (rv_box rfl rfl tk_Program rfl (show aProg false (okL' (cpE' ps bs os F) ps) (okL' (cpE' ps bs os F) (initM bs F)) (okL' (cpE' ps bs os F) (codeM ps bs F)) (okL' (cpE' ps bs os F) os) = .agg [rowP false ps, rowI false (initM bs F), rowN false (codeM ps bs F), rowI false os] by rw [okL_z hV5, okL_z hV5, okL_z hV5, okL_z hV5]; rfl) (lrel_c rfl rfl (cexp_d rfl (fun _ => DFree.row (flatD_free prt_free _))) (lrel_c rfl rfl (cexp_oI rfl rfl hM rfl) (lrel_c rfl rfl (cexp_oDx rfl rfl rfl fun _ => flatD_free ins_free _) (lrel_c rfl rfl (cexp_d rfl (fun _ => free_I _)) (lrel_n rfl rfl)))))) (.cons_ (rv_e0 rfl hV5) .nil_))
def flP : List Prt := [⟨-1, 1, 0⟩]
def flB : List Bk := [⟨0, none, [0], 0, 0, 0, 0, 0⟩, ⟨6, none, [3], 0, 1, -1, 0, 0⟩, ⟨3, none, [0, 1], 0, 0, 0, 0, 0⟩, ⟨2, none, [2], 0, 0, 0, 0, 0⟩]
def flO : List Int := [2]
theorem filter_cv : CV Tryd.prog TabAt 16 [] [aDg false flP flB flO] := by
  refine cvz Tryd.func16 Tryd.ntmps16 ?_
  repeat' (with_reducible first | apply qa | apply qb | apply qc | apply qd | apply qe | apply qf | apply qg | apply qh | apply qi | apply qj | apply qk | apply ql rfl | apply qm rfl | apply qn rfl | apply Je | (refine Tx 0 ?_; refine Jn (xAl tz_Diagram) ?_) | (refine Tx 1 ?_; refine Jo (by exact ok_build rfl tb_Port rfl rfl) ?_; refine Jn (by exact ok_build1 rfl ts_s_Port tz_Port rfl rfl (by decide) (by decide)) ?_; refine Jn (by exact ok_build1 rfl ts_s_int tz_int rfl rfl (by decide) (by decide)) ?_; refine Jn (by exact ok_build1 rfl ts_s_int tz_int rfl rfl (by decide) (by decide)) ?_; refine Jo (by exact ok_build rfl tb_Block rfl rfl) ?_; refine Jn (by exact ok_build1 rfl ts_s_int tz_int rfl rfl (by decide) (by decide)) ?_; refine Jo (by exact ok_build rfl tb_Scalar rfl rfl) ?_; refine Jo (by exact ok_build rfl tb_Block rfl rfl) ?_; refine Jn (by exact ok_build2 rfl ts_s_int tz_int rfl rfl rfl rfl (by decide) (by decide)) ?_; refine Jo (by exact ok_build rfl tb_Block rfl rfl) ?_; refine Jn (by exact ok_build1 rfl ts_s_int tz_int rfl rfl (by decide) (by decide)) ?_; refine Jo (by exact ok_build rfl tb_Block rfl rfl) ?_; refine Jn (by exact ok_buildN rfl rfl ts_s_Block tz_Block (by decide) (by decide) (by decide) rfl rfl rfl) ?_; refine Jo (by exact ok_build rfl tb_Diagram rfl rfl) ?_; refine Js (xSk tk_Diagram) ?_))
  exact ret_q rfl (.cons_ (rv_box rfl rfl tk_Diagram rfl rfl (by first | ((repeat' first | exact lrel_n rfl rfl | refine lrel_c rfl rfl ?_ ?_ | refine xexp_1 rfl rfl ?_ | refine xexp_a rfl rfl ?_ | exact cexp_d rfl (fun _ => DFree.val _) | exact cexp_n rfl rfl | exact cexp_e rfl rfl | refine cexp_o rfl rfl rfl ?_) <;> fail) | fail)) .nil_)
end Go.Proofs.YtmdfjbpggbhgnaaDoor
