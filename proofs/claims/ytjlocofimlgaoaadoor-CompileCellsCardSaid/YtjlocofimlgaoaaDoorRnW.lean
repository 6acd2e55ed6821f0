/- What a program writes; inputs moved into the ports' ranges; told on values. No conditions. -/
import Derived.Test.YtjlocofimlgaoaaDoorRnV
import Derived.Test.YtjlocofimlgaoaaDoorCom
namespace Go.Proofs.YtjlocofimlgaoaaDoor
set_option linter.unusedVariables false
set_option linter.unusedSimpArgs false
set_option linter.unusedSectionVars false
open Go.RowKit Cd
def cB (l : List Bool) : List C := l.map fun b => .d (.val (.bool b))
theorem cB_zero (n : Nat) : valsC (madeCells (Value.bool false).cells (n * 1)).toList = cB (List.replicate n false) := by
  rw [Nat.mul_one, show (Value.bool false).cells = #[Value.bool false] from rfl, toList_madeCells_one]
  simp [valsC, cB]
theorem bel_cB {n : Nat} {l : List Bool} : ∀ c ∈ cB l, C.bel n c := fun c hc => by obtain ⟨z, _, rfl⟩ := List.mem_map.1 hc; trivial
theorem cB_at {l : List Bool} {k : Nat} {z : Bool} (h : l[k]? = some z) : ((cB l).drop (k * 1))[0]? = some (.d (.val (.bool z))) := by
  simp [cB, h]
section
variable {P : Program} {G : World → Prop} {o : Oper} {F : Frm} {H : List Ob}
theorem ok_makeB {t e : TypeId} {x y : Operand} {by_ n : Nat} {k k' : IntKind} (ho : o.op = .makeSlice t x y) (hx : F.ev x = .one (.d (.val (.int k (n : Int))))) (hy : F.ev y = .one (.d (.val (.int k' (n : Int))))) (ht : TyS P t e 1) (hz : TyZ P e (.bool false) 1 by_) (hn : n ≤ 1000000) (hby : by_ ≤ 1000) :
    OpOk P G o F H (.one (.own H.length n)) [.row e 1 n (cB (List.replicate n false))] := by
  have := ok_makeSlice (P := P) (G := G) (H := H) ho hx hy ht hz hn hby
  rwa [cB_zero] at this
theorem ok_ldB {t ty : TypeId} {x : Operand} {id s n i k : Nat} {xs : List Bool} {z : Bool} (ho : o.op = .load t x) (hx : F.ev x = .one (.ref id (i * 1) (some n))) (hH : H[id]? = some (.row ty s n (cB xs))) (hz : xs[i]? = some z) (hk : TyK P t false k) : OpOk P G o F H (.one (.d (.val (.bool z)))) [] :=
  ok_load1 ho hx (.row hH) (cB_at hz) hk
theorem to_stB {t ty : TypeId} {x y : Operand} {id s n i : Nat} {xs : List Bool} {z b : Bool} (ho : o.op = .store t x y) (hx : F.ev x = .one (.ref id (i * 1) (some n))) (hH : H[id]? = some (.row ty s n (cB xs))) (hy : F.ev y = .one (.d (.val (.bool z)))) (hty : TyK P t b 1) (hi : i < xs.length) {ys : List Bool} (hys : xs.set i z = ys) : TOk P G o F H .any (H.set id (.row ty s n (cB ys))) := by
  have := to_store1 (P := P) (G := G) ho hx hH rfl hy hty (by simp [Ob.cs, cB, hi])
  have e : (cB xs).set (i * 1) (.d (.val (.bool z))) = cB ys := by rw [← hys, Nat.mul_one]; simp [cB, List.map_set]
  simp only [Ob.cs, Ob.setC, e] at this
  exact this
end
theorem rv_oI {P : Program} {F : Frm} {H : List Ob} {t id ty n : Nat} {xs : List Int} (hF : F t = .one (.own id n)) (hH : H[id]? = some (.row ty 1 n (cI xs))) (hn : n = xs.length) : RV P F H (.tmp t) (.one (rowI false xs)) := .tmp (by rw [hF]; exact .one (cexp_oI rfl hH hn rfl))
def wrP (xs : List Ins) (i : Nat) : Bool := xs.any fun x => x.dst == (i : Int)
def wrM (xs : List Ins) (n : Nat) : List Bool := (List.range n).map (wrP xs)
def wrL (xs : List Ins) (n : Nat) : List Int := ((List.range n).filter (wrP xs)).map fun i : Nat => (i : Int)
theorem wrM_nil (n : Nat) : wrM [] n = List.replicate n false := by
  refine List.ext_getElem (by simp [wrM]) fun i h1 h2 => ?_
  simp [wrM, wrP]
theorem wrM_len (xs : List Ins) (n : Nat) : (wrM xs n).length = n := by simp [wrM]
theorem wrM_at {xs : List Ins} {n k : Nat} (h : k < n) : (wrM xs n)[k]? = some (wrP xs k) := by simp [wrM, h]
theorem wrM_set {xs : List Ins} {n k : Nat} {x : Ins} (hx : xs[k]? = some x) (hd : 0 ≤ x.dst) : (wrM (xs.take k) n).set x.dst.toNat true = wrM (xs.take (k + 1)) n := by
  refine List.ext_getElem (by simp [wrM]) fun i h1 h2 => ?_
  rw [List.getElem_set]
  simp only [wrM, List.getElem_map, List.getElem_range, wrP]
  rw [List.take_add_one, hx, List.any_append]
  by_cases h : x.dst.toNat = i
  · have : (x.dst == (i : Int)) = true := by simp; omega
    simp [h, this]
  · rw [if_neg h]
    have : (x.dst == (i : Int)) = false := by simp; omega
    simp [this]
theorem wrL_put {xs : List Ins} {k : Nat} (h : wrP xs k = true) : wrL xs (k + 1) = wrL xs k ++ [(k : Int)] := by
  unfold wrL
  rw [List.range_succ, List.filter_append, List.map_append]
  simp [h]
theorem wrL_skip {xs : List Ins} {k : Nat} (h : wrP xs k = false) : wrL xs (k + 1) = wrL xs k := by
  unfold wrL
  rw [List.range_succ, List.filter_append, List.map_append]
  simp [h]
theorem wrL_len (xs : List Ins) (k : Nat) : (wrL xs k).length ≤ k := by
  unfold wrL
  rw [List.length_map]
  exact Nat.le_trans (List.length_filter_le _ _) (by simp)
def prtD : Prt := ⟨0, 0, 0⟩
def inpV (ps : List Prt) (inn : List Int) (n : Nat) : List Int := (List.range n).map fun i => clipI (inn[i]?.getD 0) (ps[i]?.getD prtD).lo (ps[i]?.getD prtD).hi
theorem inpV_len (ps : List Prt) (inn : List Int) (k : Nat) : (inpV ps inn k).length ≤ k := by simp [inpV]
theorem inpV_step {ps : List Prt} {inn : List Int} {k : Nat} {p : Prt} {z : Int} (hp : ps[k]? = some p) (hz : inn[k]?.getD 0 = z) : inpV ps inn (k + 1) = inpV ps inn k ++ [clipI z p.lo p.hi] := by
  unfold inpV
  rw [List.range_succ, List.map_append]
  simp [hp, hz]
theorem bclip_cv (x lo hi : Int) : CVF Tryd.prog TabAt 58 [aI x, aI lo, aI hi] [aI (clipI x lo hi)] := fun w S vs hg hlt ha => by
  obtain ⟨v, vs', rfl, q1, ha⟩ := ha.uncons
  obtain ⟨v2, vs', rfl, q2, ha⟩ := ha.uncons
  obtain ⟨u, hu, q3⟩ := one_arg ha
  subst hu
  cases q1
  cases q2
  cases q3
  refine (bclip_any x lo hi w).mono fun r w' ⟨he, hw⟩ => ?_
  subst hw
  exact ⟨_, he, DRel.val rfl, Below.refl _ _⟩

set_option maxRecDepth 100000 in
set_option maxHeartbeats 4000000 in
theorem writes_cv (t : Bool) {ps : List Prt} {is : List Int} {xs : List Ins} {os : List Int} (hp : progErr ps is xs os = 0) : CV Tryd.prog TabAt 31 [aProg t ps is xs os] [.one (rowI false (wrL xs is.length)), aE 0] := by
  refine cv_of tab_G Tryd.func31 rfl Tryd.ntmps31 (Nat.le_of_ble_eq_true rfl) ?_
  obtain ⟨hp1, hi1, hx1, ho1⟩ := prog_len hp
  have CK := pcheck_t t (Nat.le_trans hp1 (by decide)) (Nat.le_trans hi1 (by decide)) (Nat.le_trans hx1 (by decide)) (Nat.le_trans ho1 (by decide)) hp
  repeat' (with_reducible first | apply qa | apply qb | apply qc | apply qd | apply qe | apply qf | apply qg | apply qh | apply qi | apply qj | apply qk | apply ql rfl | apply qm rfl | apply qn rfl | (refine Tx 0 ?_; refine Jn xBo ?_; refine Ja ?_; refine Ja ?_; refine Je ?_) | (refine Tx 1 ?_; refine Jo (xLa tk_Program) ?_; refine Jo (xCl Tryd.func22 (CK)) ?_; refine Ja ?_; refine Je ?_) | (refine Tx 2 ?_; refine Jm ?_; refine Jo (by first | exact ok_neqE rfl ti_error rfl (bne_f (by first | rfl | omega)) | exact ok_neqE rfl ti_error rfl (bne_t (by first | assumption | omega)) | exact ok_neqE rfl ti_error rfl rfl) ?_; refine Je ?_) | (refine Tx 4 ?_; refine Jo (xFa tf_Program1 tk_s_int) ?_; refine Jo (xLd tk_s_int) ?_; refine Jo (xLn ts_s_int) ?_; refine Jn (by first | exact ok_makeB rfl rfl rfl ts_s_bool tz_bool (by omega) (by decide) | exact ok_makeSlice rfl rfl rfl ts_s_bool tz_bool (by omega) (by decide)) ?_; refine Ja ?_; refine Je ?_) | (refine Tx 5 ?_; refine Jo (xFa tf_Program2 tk_s_Instr) ?_; refine Jo (xLd tk_s_Instr) ?_; refine Jo (xLn ts_s_Instr) ?_; refine Jm ?_; refine Je ?_))
  have hz : List.replicate is.length false = wrM (xs.take 0) is.length := (wrM_nil _).symm
  refine cw_wk (F' := ofL [(1, vr 0), (5, vo 1 is.length), (21, vd (rowN t xs)), (22, vi xs.length), (23, vi ((0 : Nat)))]) (H' := [.box 50 [.d (rowP t ps), .d (rowI t is), .d (rowN t xs), .d (rowI t os)], .row 4 1 is.length (cB (wrM (xs.take (0)) is.length))]) (wk_go [(1, vr 0), (5, vo 1 is.length), (21, vd (rowN t xs)), (22, vi xs.length), (23, vi ((0 : Nat)))] 2 ?_ ?_ ?_) ?_
  · rw [← hz]; rfl
  · exact mB rfl rfl
  · exact ⟨bel_lit rfl, bel_cB, trivial⟩
  refine cw_loopW (fun n Fr H => ∃ k : Nat, k ≤ xs.length ∧ n = xs.length - k ∧ Fr = ofL [(1, vr 0), (5, vo 1 is.length), (21, vd (rowN t xs)), (22, vi xs.length), (23, vi ((k : Nat)))] ∧ H = [.box 50 [.d (rowP t ps), .d (rowI t is), .d (rowN t xs), .d (rowI t os)], .row 4 1 is.length (cB (wrM (xs.take (k)) is.length))]) (n0 := xs.length) ⟨0, Nat.zero_le _, rfl, rfl, rfl⟩ ?_
  rintro n Fr H ⟨k, hk, rfl, rfl, rfl⟩
  by_cases hlt : k < xs.length
  case pos =>
    obtain ⟨x, hx⟩ : ∃ x, xs[k]? = some x := ⟨_, List.getElem?_eq_getElem hlt⟩
    obtain ⟨_, hd0, hd1, _⟩ := ins_facts hp hx
    have st : (wrM (xs.take (k)) is.length).set x.dst.toNat true = (wrM (xs.take (k + 1)) is.length) := wrM_set hx hd0
    have tl : x.dst.toNat < (wrM (xs.take (k)) is.length).length := by rw [wrM_len]; omega
    repeat' (with_reducible first | apply qa | apply qb | apply qc | apply qd | apply qe | apply qf | apply qg | apply qh | apply qi | apply qj | apply qk | apply ql rfl | apply qm rfl | apply qn rfl | (refine Tx 6 ?_; refine Jo xLt ?_; refine Je ?_) | (refine Tx 7 ?_; refine Jo (by first | exact xIr ts_s_Instr (ins_at hx) | exact ok_ixO (i := x.dst.toNat) rfl rfl rfl rfl (by omega) ts_s_Instr (by omega) (by decide)) ?_; refine Jo (xLa tk_Instr) ?_; refine Jn (by exact ok_alloc rfl tz_Instr) ?_; refine Js (xSk tk_Instr) ?_; refine Je ?_) | (refine Tx 8 ?_; refine Jm ?_; refine Jo (xFa tf_Instr1 tk_int) ?_; refine Jo (xLd tk_int) ?_; refine Jo (by exact ok_ixO (i := x.dst.toNat) rfl rfl rfl rfl (by omega) ts_s_bool (by omega) (by decide)) ?_; refine Js (by first | exact to_stB rfl rfl rfl rfl tk_bool tl st | exact xS1 tk_bool | exact xSk tk_bool) ?_; refine Je ?_) | (refine Tx 9 ?_; refine Jo xAd ?_; refine Jm ?_; refine Je ?_))
    refine ⟨_, _, wk_go [(1, vr 0), (5, vo 1 is.length), (21, vd (rowN t xs)), (22, vi xs.length), (23, vi (((k + 1) : Nat)))] 2 ?_ ?_ ?_, _, ?_, k + 1, by omega, rfl, rfl, rfl⟩
    · rfl
    · exact mB rfl rfl
    · exact ⟨bel_lit rfl, bel_cB, trivial⟩
    · omega
  obtain rfl : k = xs.length := by omega
  clear hlt hk hz
  rw [List.take_length]
  repeat' (with_reducible first | apply qa | apply qb | apply qc | apply qd | apply qe | apply qf | apply qg | apply qh | apply qi | apply qj | apply qk | apply ql rfl | apply qm rfl | apply qn rfl | (refine Tx 6 ?_; refine Jo xLt ?_; refine Je ?_) | (refine Tx 10 ?_; refine Ja ?_; refine Je ?_) | (refine Tx 11 ?_; refine Jm ?_; refine Jo (xLn ts_s_bool) ?_; refine Jm ?_; refine Je ?_))
  refine cw_wk (wk_nil 8 3 1 rfl) ?_
  refine cw_wk (F' := ofL [(1, vr 0), (8, vo 2 ((wrL xs 0).length)), (32, vo 1 is.length), (33, vi is.length), (34, vi ((0 : Nat)))]) (H' := [.box 50 [.d (rowP t ps), .d (rowI t is), .d (rowN t xs), .d (rowI t os)], .row 4 1 is.length (cB (wrM xs is.length)), .row 3 1 (wrL xs (0)).length (cI (wrL xs (0)))]) (wk_go [(1, vr 0), (8, vo 2 ((wrL xs 0).length)), (32, vo 1 is.length), (33, vi is.length), (34, vi ((0 : Nat)))] 3 ?_ ?_ ?_) ?_
  · rfl
  · exact mB rfl rfl
  · exact ⟨bel_lit rfl, bel_cB, bel_cI, trivial⟩
  refine cw_loopW (fun n Fr H => ∃ k : Nat, k ≤ is.length ∧ n = is.length - k ∧ Fr = ofL [(1, vr 0), (8, vo 2 ((wrL xs k).length)), (32, vo 1 is.length), (33, vi is.length), (34, vi ((k : Nat)))] ∧ H = [.box 50 [.d (rowP t ps), .d (rowI t is), .d (rowN t xs), .d (rowI t os)], .row 4 1 is.length (cB (wrM xs is.length)), .row 3 1 (wrL xs (k)).length (cI (wrL xs (k)))]) (n0 := is.length) ⟨0, Nat.zero_le _, rfl, rfl, rfl⟩ ?_
  rintro n Fr H ⟨k, hk, rfl, rfl, rfl⟩
  by_cases hlt : k < is.length
  case pos =>
    have gM : (wrM xs is.length)[k]? = some (wrP xs k) := wrM_at hlt
    have hol : (wrL xs (k)).length ≤ k := wrL_len _ _
    cases hw : wrP xs k
    case false =>
      rw [hw] at gM
      have hs : (wrL xs (k + 1)) = (wrL xs (k)) := wrL_skip hw
      repeat' (with_reducible first | apply qa | apply qb | apply qc | apply qd | apply qe | apply qf | apply qg | apply qh | apply qi | apply qj | apply qk | apply ql rfl | apply qm rfl | apply qn rfl | (refine Tx 12 ?_; refine Jo xLt ?_; refine Je ?_) | (refine Tx 13 ?_; refine Jm ?_; refine Jo (xIo ts_s_bool) ?_; refine Jo (by first | exact ok_ldB rfl rfl rfl gM tk_bool | exact xLd tk_bool) ?_; refine Ja ?_; refine Ja ?_; refine Je ?_) | (refine Tx 14 ?_; refine Jm ?_; refine Je ?_) | (refine Tx 16 ?_; refine Jo xAd ?_; refine Jm ?_; refine Je ?_))
      refine ⟨_, _, wk_go [(1, vr 0), (8, vo 2 ((wrL xs ((k + 1))).length)), (32, vo 1 is.length), (33, vi is.length), (34, vi (((k + 1) : Nat)))] 3 ?_ ?_ ?_, _, ?_, k + 1, by omega, rfl, rfl, rfl⟩
      · rw [hs]; rfl
      · rw [hs]; exact mB rfl rfl
      · exact ⟨bel_lit rfl, bel_cB, bel_cI, trivial⟩
      · omega
    case true =>
      rw [hw] at gM
      have hap : (wrL xs (k)) ++ [(k : Int)] = (wrL xs (k + 1)) := (wrL_put hw).symm
      have hap2 : (wrL xs (k)).length + 1 = (wrL xs (k + 1)).length := by rw [← hap]; simp
      repeat' (with_reducible first | apply qa | apply qb | apply qc | apply qd | apply qe | apply qf | apply qg | apply qh | apply qi | apply qj | apply qk | apply ql rfl | apply qm rfl | apply qn rfl | (refine Tx 12 ?_; refine Jo xLt ?_; refine Je ?_) | (refine Tx 13 ?_; refine Jm ?_; refine Jo (xIo ts_s_bool) ?_; refine Jo (by first | exact ok_ldB rfl rfl rfl gM tk_bool | exact xLd tk_bool) ?_; refine Ja ?_; refine Ja ?_; refine Je ?_) | (refine Tx 14 ?_; refine Jm ?_; refine Je ?_) | (refine Tx 15 ?_; refine Jm ?_; refine Jm ?_; refine Jn (by exact ok_build1 rfl ts_s_int tz_int rfl rfl (by decide) (by decide)) ?_; refine Jt (by exact to_apI rfl rfl rfl rfl rfl rfl ts_s_int tz_int (by omega) (by decide) hap hap2) ?_; refine Ja ?_; refine Je ?_) | (refine Tx 16 ?_; refine Jo xAd ?_; refine Jm ?_; refine Je ?_))
      refine ⟨_, _, wk_go [(1, vr 0), (8, vo 2 ((wrL xs ((k + 1))).length)), (32, vo 1 is.length), (33, vi is.length), (34, vi (((k + 1) : Nat)))] 3 ?_ ?_ ?_, _, ?_, k + 1, by omega, rfl, rfl, rfl⟩
      · rfl
      · exact mB rfl rfl
      · exact ⟨bel_lit rfl, bel_cB, bel_cI, trivial⟩
      · omega
  obtain rfl : k = is.length := by omega
  clear hlt hk
  repeat' (with_reducible first | apply qa | apply qb | apply qc | apply qd | apply qe | apply qf | apply qg | apply qh | apply qi | apply qj | apply qk | apply ql rfl | apply qm rfl | apply qn rfl | (refine Tx 12 ?_; refine Jo xLt ?_; refine Je ?_) | (refine Tx 17 ?_; refine Jm ?_; refine Ja ?_; refine Ja ?_; refine Je ?_))
  exact ret_q rfl (.cons_ (rv_oI rfl rfl rfl) (.cons_ (rv_e0 rfl rfl) .nil_))
set_option maxRecDepth 100000 in
set_option maxHeartbeats 4000000 in
theorem inputs_cv (t u : Bool) {ps : List Prt} {bs : List Bk} {os : List Int} (inn : List Int) (hl : DgLen ps bs os) (h2 : inn.length ≤ 1000000) : CV Tryd.prog TabAt 24 [aDg t ps bs os, .one (rowI u inn)] [.one (rowI false (inpV ps inn ps.length))] := by
  refine cv_of tab_G Tryd.func24 rfl Tryd.ntmps24 (Nat.le_of_ble_eq_true rfl) ?_
  have hl1 := hl.l1
  repeat' (with_reducible first | apply qa | apply qb | apply qc | apply qd | apply qe | apply qf | apply qg | apply qh | apply qi | apply qj | apply qk | apply ql rfl | apply qm rfl | apply qn rfl | (refine Tx 0 ?_; refine Jn xBo ?_; refine Ja ?_; refine Je ?_) | (refine Tx 1 ?_; refine Ja ?_; refine Je ?_) | (refine Tx 2 ?_; refine Jo (xFa tf_Diagram0 tk_s_Port) ?_; refine Jo (xLd tk_s_Port) ?_; refine Jo (xLn ts_s_Port) ?_; refine Jm ?_; refine Je ?_))
  refine cw_wk (wk_nil 5 3 1 rfl) ?_
  refine cw_wk (F' := ofL [(1, vd (rowI u inn)), (2, vr 0), (5, vo 1 ((inpV ps inn 0).length)), (10, vd (rowP t ps)), (11, vi ps.length), (12, vi ((0 : Nat)))]) (H' := [.box 46 [.d (rowP t ps), .d (rowB t bs), .d (rowI t os)], .row 3 1 (inpV ps inn (0)).length (cI (inpV ps inn (0)))]) (wk_go [(1, vd (rowI u inn)), (2, vr 0), (5, vo 1 ((inpV ps inn 0).length)), (10, vd (rowP t ps)), (11, vi ps.length), (12, vi ((0 : Nat)))] 2 ?_ ?_ ?_) ?_
  · rfl
  · exact mB rfl rfl
  · exact ⟨bel_lit rfl, bel_cI, trivial⟩
  refine cw_loopW (fun n Fr H => ∃ k : Nat, k ≤ ps.length ∧ n = ps.length - k ∧ Fr = ofL [(1, vd (rowI u inn)), (2, vr 0), (5, vo 1 ((inpV ps inn k).length)), (10, vd (rowP t ps)), (11, vi ps.length), (12, vi ((k : Nat)))] ∧ H = [.box 46 [.d (rowP t ps), .d (rowB t bs), .d (rowI t os)], .row 3 1 (inpV ps inn (k)).length (cI (inpV ps inn (k)))]) (n0 := ps.length) ⟨0, Nat.zero_le _, rfl, rfl, rfl⟩ ?_
  rintro n Fr H ⟨k, hk, rfl, rfl, rfl⟩
  by_cases hlt : k < ps.length
  case pos =>
    obtain ⟨p, hp⟩ : ∃ p, ps[k]? = some p := ⟨_, List.getElem?_eq_getElem hlt⟩
    have hol : (inpV ps inn (k)).length ≤ k := inpV_len _ _ _
    by_cases hki : k < inn.length
    case pos =>
      obtain ⟨z, hz⟩ : ∃ z, inn[k]? = some z := ⟨_, List.getElem?_eq_getElem hki⟩
      have hap : (inpV ps inn (k)) ++ [clipI z p.lo p.hi] = (inpV ps inn (k + 1)) := (inpV_step hp (by rw [hz]; rfl)).symm
      have hap2 : (inpV ps inn (k)).length + 1 = (inpV ps inn (k + 1)).length := by rw [← hap]; simp
      have BC := bclip_cv z p.lo p.hi
      repeat' (with_reducible first | apply qa | apply qb | apply qc | apply qd | apply qe | apply qf | apply qg | apply qh | apply qi | apply qj | apply qk | apply ql rfl | apply qm rfl | apply qn rfl | (refine Tx 3 ?_; refine Jo xLt ?_; refine Je ?_) | (refine Tx 4 ?_; refine Jm ?_; refine Jo (xIr ts_s_Port (prt_at hp)) ?_; refine Jo (xLa tk_Port) ?_; refine Jn (by exact ok_alloc rfl tz_Port) ?_; refine Ja ?_; refine Js (xSk tk_Port) ?_; refine Je ?_) | (refine Tx 5 ?_; refine Ja ?_; refine Je ?_) | (refine Tx 6 ?_; refine Jm ?_; refine Jm ?_; refine Jo (xLn ts_s_int) ?_; refine Jo xLt ?_; refine Je ?_) | (refine Tx 7 ?_; refine Jm ?_; refine Jm ?_; refine Jo (xIr ts_s_int (int_at hz)) ?_; refine Jo (xLd tk_int) ?_; refine Ja ?_; refine Je ?_) | (refine Tx 8 ?_; refine Jm ?_; refine Jm ?_; refine Jo (xFa tf_Port0 tk_int) ?_; refine Jo (xLd tk_int) ?_; refine Jo (xFa tf_Port1 tk_int) ?_; refine Jo (xLd tk_int) ?_; refine Jo (xCl Tryd.func58 (BC.cv)) ?_; refine Jn (by exact ok_build1 rfl ts_s_int tz_int rfl rfl (by decide) (by decide)) ?_; refine Jt (by exact to_apI rfl rfl rfl rfl rfl rfl ts_s_int tz_int (by omega) (by decide) hap hap2) ?_; refine Ja ?_; refine Je ?_) | (refine Tx 9 ?_; refine Jo xAd ?_; refine Jm ?_; refine Je ?_))
      refine ⟨_, _, wk_go [(1, vd (rowI u inn)), (2, vr 0), (5, vo 1 ((inpV ps inn ((k + 1))).length)), (10, vd (rowP t ps)), (11, vi ps.length), (12, vi (((k + 1) : Nat)))] 2 ?_ ?_ ?_, _, ?_, k + 1, by omega, rfl, rfl, rfl⟩
      · rfl
      · exact mB rfl rfl
      · exact ⟨bel_lit rfl, bel_cI, trivial⟩
      · omega
    case neg =>
      have hap : (inpV ps inn (k)) ++ [clipI 0 p.lo p.hi] = (inpV ps inn (k + 1)) := (inpV_step hp (by rw [List.getElem?_eq_none (by omega)]; rfl)).symm
      have hap2 : (inpV ps inn (k)).length + 1 = (inpV ps inn (k + 1)).length := by rw [← hap]; simp
      have BC := bclip_cv 0 p.lo p.hi
      repeat' (with_reducible first | apply qa | apply qb | apply qc | apply qd | apply qe | apply qf | apply qg | apply qh | apply qi | apply qj | apply qk | apply ql rfl | apply qm rfl | apply qn rfl | (refine Tx 3 ?_; refine Jo xLt ?_; refine Je ?_) | (refine Tx 4 ?_; refine Jm ?_; refine Jo (xIr ts_s_Port (prt_at hp)) ?_; refine Jo (xLa tk_Port) ?_; refine Jn (by exact ok_alloc rfl tz_Port) ?_; refine Ja ?_; refine Js (xSk tk_Port) ?_; refine Je ?_) | (refine Tx 5 ?_; refine Ja ?_; refine Je ?_) | (refine Tx 6 ?_; refine Jm ?_; refine Jm ?_; refine Jo (xLn ts_s_int) ?_; refine Jo xLt ?_; refine Je ?_) | (refine Tx 8 ?_; refine Jm ?_; refine Jm ?_; refine Jo (xFa tf_Port0 tk_int) ?_; refine Jo (xLd tk_int) ?_; refine Jo (xFa tf_Port1 tk_int) ?_; refine Jo (xLd tk_int) ?_; refine Jo (xCl Tryd.func58 (BC.cv)) ?_; refine Jn (by exact ok_build1 rfl ts_s_int tz_int rfl rfl (by decide) (by decide)) ?_; refine Jt (by exact to_apI rfl rfl rfl rfl rfl rfl ts_s_int tz_int (by omega) (by decide) hap hap2) ?_; refine Ja ?_; refine Je ?_) | (refine Tx 9 ?_; refine Jo xAd ?_; refine Jm ?_; refine Je ?_))
      refine ⟨_, _, wk_go [(1, vd (rowI u inn)), (2, vr 0), (5, vo 1 ((inpV ps inn ((k + 1))).length)), (10, vd (rowP t ps)), (11, vi ps.length), (12, vi (((k + 1) : Nat)))] 2 ?_ ?_ ?_, _, ?_, k + 1, by omega, rfl, rfl, rfl⟩
      · rfl
      · exact mB rfl rfl
      · exact ⟨bel_lit rfl, bel_cI, trivial⟩
      · omega
  obtain rfl : k = ps.length := by omega
  clear hlt hk
  repeat' (with_reducible first | apply qa | apply qb | apply qc | apply qd | apply qe | apply qf | apply qg | apply qh | apply qi | apply qj | apply qk | apply ql rfl | apply qm rfl | apply qn rfl | (refine Tx 3 ?_; refine Jo xLt ?_; refine Je ?_) | (refine Tx 10 ?_; refine Jm ?_; refine Ja ?_; refine Je ?_))
  exact ret_q rfl (.cons_ (rv_oI rfl rfl rfl) .nil_)
end Go.Proofs.YtjlocofimlgaoaaDoor
