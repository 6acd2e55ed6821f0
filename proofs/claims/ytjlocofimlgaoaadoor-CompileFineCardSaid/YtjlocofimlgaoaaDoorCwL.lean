/- The law CompileFine on values. No conditions. -/
import Derived.Test.YtjlocofimlgaoaaDoorCwF
import Derived.Test.YtjlocofimlgaoaaDoorVsY
namespace Go.Proofs.YtjlocofimlgaoaaDoor
set_option linter.unusedVariables false
set_option linter.unusedSimpArgs false
set_option linter.unusedSectionVars false
open Go.RowKit
theorem free_w (x : Int) : DFree (.row false 1 (canon x.natAbs).length (wds x)) := .row fun d hd => by obtain ⟨v, _, rfl⟩ := List.mem_map.1 hd; exact .val _
theorem rvW {P : Program} {F : Frm} {H : List Ob} {t : Tmp} {ty ty' id k : Nat} {x : Int} {d : Nat} (hk : TyK P ty true k) (hi : 3 = k) (hF : F t = .one (.ref id 0 none) := by with_unfolding_all exact rfl) (hH : H[id]? = some (.box ty' ((dDy false x d).map C.d)) := by with_unfolding_all exact rfl) : RV P F H (.cell t ty) (aDy false x d) :=
  rv_box hF hH hk hi rfl (.cons_ (cexp_d rfl fun _ => .val _) (.cons_ (cexp_d rfl fun _ => free_w x) (.cons_ (cexp_d rfl fun _ => .val _) .nil_)))
theorem ok_convD {P : Program} {G : World → Prop} {o : Oper} {F : Frm} {H : List Ob} {s t : TypeId} {x : Operand} {k k' : IntKind} {p r : Int} (ho : o.op = .convert s t x) (hs : P.underlying s = some (.int k)) (ht : P.underlying t = some (.int k')) (hx : F.ev x = .one (.d (.val (.int k p)))) (hr : k'.wrap p = r) : OpOk P G o F H (.one (.d (.val (.int k' r)))) [] := hr ▸ ok_conv ho hs ht hx
theorem ok_remD {P : Program} {G : World → Prop} {o : Oper} {F : Frm} {H : List Ob} {t t' : TypeId} {x y : Operand} {k : IntKind} {p q r : Int} (ho : o.op = .binOp .rem t x y t') (hx : F.ev x = .one (.d (.val (.int k p)))) (hy : F.ev y = .one (.d (.val (.int k q)))) (h0 : q ≠ 0) (hr : p.tmod q = r) : OpOk P G o F H (.one (.d (.val (.int k r)))) [] := hr ▸ ok_rem ho hx hy h0
theorem ok_eqlB {P : Program} {G : World → Prop} {o : Oper} {F : Frm} {H : List Ob} {t t' : TypeId} {x y : Operand} {p q : Bool} (ho : o.op = .binOp .eql t x y t') (ht : P.underlying t = some .bool) (hx : F.ev x = .one (.d (.val (.bool p)))) (hy : F.ev y = .one (.d (.val (.bool q)))) : OpOk P G o F H (.one (.d (.val (.bool (p == q))))) [] := by
  refine ok_bin ho hx hy (fun w => ?_) rfl
  have h1 : (Op.equal t (.bool p) (.bool q)).run P w = .ok (p == q) w := by
    have key : ∀ d : Nat, (Op.equalIn (d + 1) t (.bool p) (.bool q)).run P w = .ok (p == q) w := fun d => by simp [Op.equalIn, run_underlying ht]
    exact key 9999
  simp [eqGuard, binOp, h1]
theorem fine_ok {n e k : Int} (h : rawErr n e k = 0) : rawOk n e k ∧ rawV n e k = shE n (e + k) ∧ -2147483648 ≤ rawV n e k ∧ rawV n e k < 2147483648 ∧ dyCmp (dyShift (rawV n e k) 0 (-k)).1 (dyShift (rawV n e k) 0 (-k)).2 (dyShift n 0 e).1 (dyShift n 0 e).2 ≤ 0 ∧ 0 < dyCmp (dyShift (rawV n e k + 1) 0 (-k)).1 (dyShift (rawV n e k + 1) 0 (-k)).2 (dyShift n 0 e).1 (dyShift n 0 e).2 := by
  have hok : rawOk n e k := Classical.byContradiction fun hn => by rw [(raw_no hn).1] at h; cases h
  have hb : -2147483648 ≤ shE n (e + k) ∧ shE n (e + k) < 2147483648 := Classical.byContradiction fun hn => by rw [(raw_far hok hn).1] at h; cases h
  have hv := (raw_yes hok hb).2
  refine ⟨hok, hv, by omega, by omega, ?_⟩
  obtain ⟨_, _, he0, he1, hk0, hk1⟩ := hok
  have pw : ∀ n : Nat, (0 : Int) < 2 ^ n := fun n => Int.pow_pos (by decide)
  rw [cmp_sgn (shift_val (q := 100) (by omega) (by omega) (by omega)) (shift_val (q := 100) (by omega) (by omega) (by omega)), cmp_sgn (shift_val (q := 100) (by omega) (by omega) (by omega)) (shift_val (q := 100) (by omega) (by omega) (by omega)), sgI_three, sgI_three, hv]
  have key : shE n (e + k) * 2 ^ (-k + (100 : Nat)).toNat ≤ n * 2 ^ (e + (100 : Nat)).toNat ∧ n * 2 ^ (e + (100 : Nat)).toNat < (shE n (e + k) + 1) * 2 ^ (-k + (100 : Nat)).toNat := by
    unfold shE
    by_cases hneg : e + k < 0
    · rw [if_pos hneg, show (-k + (100 : Nat)).toNat = (-(e + k)).toNat + (e + (100 : Nat)).toNat by omega, Int.pow_add, ← Int.mul_assoc, ← Int.mul_assoc]
      have h1 := Int.mul_ediv_add_emod n (2 ^ (-(e + k)).toNat)
      have h2 := Int.emod_nonneg n (Int.ne_of_gt (pw (-(e + k)).toNat))
      have h3 := Int.emod_lt_of_pos n (pw (-(e + k)).toNat)
      rw [Int.mul_comm] at h1
      refine ⟨Int.mul_le_mul_of_nonneg_right (by omega) (Int.le_of_lt (pw _)), Int.mul_lt_mul_of_pos_right ?_ (pw _)⟩
      rw [Int.add_mul, Int.one_mul]
      omega
    · rw [if_neg hneg, show (e + (100 : Nat)).toNat = (e + k).toNat + (-k + (100 : Nat)).toNat by omega, Int.pow_add, ← Int.mul_assoc]
      have h4 := pw (-k + (100 : Nat)).toNat
      refine ⟨Int.le_refl _, ?_⟩
      rw [Int.add_mul, Int.one_mul]
      omega
  obtain ⟨k1, k2⟩ := key
  rw [if_neg (Int.not_lt.2 (Int.le_of_lt k2)), if_pos k2]
  refine ⟨?_, by decide⟩
  by_cases h : shE n (e + k) * 2 ^ (-k + (100 : Nat)).toNat < n * 2 ^ (e + (100 : Nat)).toNat
  · rw [if_pos h]; decide
  · rw [if_neg h, if_neg (by omega)]; decide
theorem fine_next {n e k : Int} : shE n (e + (k + 1)) = 2 * shE n (e + k) ∨ shE n (e + (k + 1)) = 2 * shE n (e + k) + 1 := by
  unfold shE
  by_cases h : e + k < 0
  · rw [if_pos h]
    have e1 : (if e + (k + 1) < 0 then n / 2 ^ (-(e + (k + 1))).toNat else n * 2 ^ (e + (k + 1)).toNat) = n / 2 ^ (-(e + (k + 1))).toNat := by
      by_cases h2 : e + (k + 1) < 0
      · rw [if_pos h2]
      · rw [if_neg h2, show (e + (k + 1)).toNat = 0 by omega, show (-(e + (k + 1))).toNat = 0 by omega, Int.pow_zero, Int.mul_one, Int.ediv_one]
    rw [e1, show (-(e + k)).toNat = (-(e + (k + 1))).toNat + 1 by omega, Int.pow_succ, ← Int.ediv_ediv_of_nonneg (Int.le_of_lt (Int.pow_pos (by decide)))]
    omega
  · rw [if_neg h, if_neg (by omega), show (e + (k + 1)).toNat = (e + k).toNat + 1 by omega, Int.pow_succ, ← Int.mul_assoc, Int.mul_comm _ 2]
    exact .inl rfl
theorem fine_errs {n e k : Int} (h0 : 0 ≤ k) (h1 : k < 30) : (rawErr n e k = 0 ∧ rawErr n e (k + 1) = 0 ∧ (rawV n e (k + 1) = 2 * rawV n e k ∨ rawV n e (k + 1) = 2 * rawV n e k + 1)) ∨ (rawErr n e k = 0 ∧ rawErr n e (k + 1) = 13) ∨ (rawErr n e k = 3 ∧ rawErr n e (k + 1) = 3) ∨ (rawErr n e k = 13 ∧ rawErr n e (k + 1) = 13) := by
  by_cases hok : rawOk n e k
  · have hok2 : rawOk n e (k + 1) := by unfold rawOk at hok ⊢; omega
    have hn := fine_next (n := n) (e := e) (k := k)
    by_cases hb : -2147483648 ≤ shE n (e + k) ∧ shE n (e + k) < 2147483648
    · obtain ⟨q1, q2⟩ := raw_yes hok hb
      by_cases hb2 : -2147483648 ≤ shE n (e + (k + 1)) ∧ shE n (e + (k + 1)) < 2147483648
      · obtain ⟨q3, q4⟩ := raw_yes hok2 hb2
        exact .inl ⟨q1, q3, by omega⟩
      · exact .inr (.inl ⟨q1, (raw_far hok2 hb2).1⟩)
    · exact .inr (.inr (.inr ⟨(raw_far hok hb).1, (raw_far hok2 (by omega)).1⟩))
  · have hok2 : ¬ rawOk n e (k + 1) := by unfold rawOk at hok ⊢; omega
    exact .inr (.inr (.inl ⟨(raw_no hok).1, (raw_no hok2).1⟩))
set_option maxRecDepth 100000 in
set_option maxHeartbeats 4000000 in
theorem scaled_cv (n f : Int) (h1 : -9223372036854775808 ≤ n) (h2 : n < 9223372036854775808) (f1 : -100 ≤ f) (f2 : f ≤ 100) : CV Tryd.prog TabAt 15 [aI n, aI f] [aDy false (dyShift n 0 (-f)).1 (dyShift n 0 (-f)).2] := by
  refine cv_of tab_G Tryd.func15 rfl Tryd.ntmps15 (Nat.le_of_ble_eq_true rfl) ?_
  have OF := of_cv (G := TabAt) n h1 h2
  have SH := dshift_cv (G := TabAt) false n 0 (-f) ⟨by decide, fun h => absurd rfl h⟩ (Nat.le_trans (canon_len_le (k := 2) (by omega)) (by decide)) (by omega)
  repeat' (with_reducible first | apply qa | apply qb | apply qc | apply qd | apply qe | apply qf | apply qg | apply qh | apply qi | apply qj | apply qk | apply ql rfl | apply qm rfl | apply qn rfl | (refine Tx 0 ?_; refine Jn (by exact ok_alloc rfl tz_Dyadic) ?_; refine Je ?_) | (refine Tx 1 ?_; refine Jm ?_; refine Jo (xCl Tryd.func46 (OF.cv)) ?_; refine Jm ?_; refine Jo (by first | exact ok_not rfl rfl | exact ok_neg64 rfl rfl (by omega)) ?_; refine Jo (xCl Tryd.func44 (SH.cv)) ?_; refine Js (xSk tk_Dyadic) ?_; refine Je ?_))
  exact ret_q rfl (.cons_ (rvW tk_Dyadic rfl) .nil_)
set_option maxRecDepth 100000 in
set_option maxHeartbeats 4000000 in
theorem compileFine_cv (n e f : Int) (f0 : 0 ≤ f) (f1 : f ≤ 255) : CV Tryd.prog TabAt 4 [.agg [dI n, dI e], .one (.val (.int .u8 f))] [aB true] := by
  refine cv_of tab_G Tryd.func4 rfl Tryd.ntmps4 (Nat.le_of_ble_eq_true rfl) ?_
  have hw : IntKind.wrap .i64 f = f := IntWalk.i64_in (by omega) (by omega)
  obtain ⟨k, hk, hk0, hk1⟩ : ∃ k : Int, f.tmod 30 = k ∧ 0 ≤ k ∧ k < 30 := ⟨f % 30, Int.tmod_eq_emod_of_nonneg f0, by omega, by omega⟩
  have RP := raw_cv n e k
  have RQ := raw_cv n e (k + 1)
  have hc := fine_errs (n := n) (e := e) hk0 hk1
  by_cases he : rawErr n e k = 0
  case neg =>
    rcases hc with ⟨h, _⟩ | ⟨h, _⟩ | ⟨hE, hG⟩ | ⟨hE, hG⟩
    · exact absurd h he
    · exact absurd h he
    all_goals
      rw [hE] at RP
      rw [hG] at RQ
      repeat' (with_reducible first | apply qa | apply qb | apply qc | apply qd | apply qe | apply qf | apply qg | apply qh | apply qi | apply qj | apply qk | apply ql rfl | apply qm rfl | apply qn rfl | (refine Tx 0 ?_; refine Jn xBo ?_; refine Ja ?_; refine Je ?_) | (refine Tx 1 ?_; refine Jo (xCl Tryd.func9 (awake15_cv)) ?_; refine Jo (by first | exact ok_not rfl rfl | exact ok_neg64 rfl rfl (by omega)) ?_; refine Je ?_) | (refine Tx 2 ?_; refine Ja ?_; refine Je ?_) | (refine Tx 3 ?_; refine Jm ?_; refine Jo (by first | exact ok_convD rfl Tryd.underlying5 Tryd.underlying3 rfl hw | exact ok_conv rfl Tryd.underlying5 Tryd.underlying3 rfl) ?_; refine Jo (by first | exact ok_remD rfl rfl rfl (by omega) hk | exact ok_rem rfl rfl rfl (by omega)) ?_; refine Ja ?_; refine Je ?_) | (refine Tx 4 ?_; refine Jo (xLa tk_Scalar) ?_; refine Jm ?_; refine Jo (by first | exact xCl Tryd.func10 (RP.cv) | exact xCl Tryd.func10 (RQ.cv)) ?_; refine Jo (by exact ok_mvT rfl rfl) ?_; refine Jo xEx ?_; refine Jo xEx ?_; refine Ja ?_; refine Ja ?_; refine Je ?_) | (refine Tx 5 ?_; refine Jo (xLa tk_Scalar) ?_; refine Jm ?_; refine Jo xAd ?_; refine Jo (by first | exact xCl Tryd.func10 (RP.cv) | exact xCl Tryd.func10 (RQ.cv)) ?_; refine Jo (by exact ok_mvT rfl rfl) ?_; refine Jo xEx ?_; refine Jo xEx ?_; refine Ja ?_; refine Ja ?_; refine Je ?_) | (refine Tx 6 ?_; refine Jm ?_; refine Jo (by first | exact ok_neqE rfl ti_error rfl (bne_f (by first | rfl | omega)) | exact ok_neqE rfl ti_error rfl (bne_t (by first | assumption | omega)) | exact ok_neqE rfl ti_error rfl rfl) ?_; refine Je ?_) | (refine Tx 7 ?_; refine Jm ?_; refine Jo (xCl Tryd.func13 ((bis_cv _ _).cv)) ?_; refine Jm ?_; refine Jo (xCl Tryd.func13 ((bis_cv _ _).cv)) ?_; refine Jo (by first | exact ok_eqlB rfl Tryd.underlying4 rfl rfl | exact xEq) ?_; refine Jm ?_; (first | refine Jd ?_ | refine Jy (by exact ok_mv1 rfl rfl) ?_); (first | refine Jd ?_ | refine Jy (by first | exact ok_neqE rfl ti_error rfl (bne_f (by first | rfl | omega)) | exact ok_neqE rfl ti_error rfl (bne_t (by first | assumption | omega)) | exact ok_neqE rfl ti_error rfl rfl) ?_); refine Jo xPk ?_; refine Ja ?_; refine Je ?_))
      exact ret_q rfl (.cons_ (rv_b rfl rfl) .nil_)
  obtain ⟨hok, hrV, hlo, hhi, hrl, hrh⟩ := fine_ok he
  have hok2 := hok
  obtain ⟨hn0, hn1, he0, he1, _, _⟩ := hok2
  have RV := rvalue_cv (G := TabAt) n e (by omega) (by omega)
  have S1 := scaled_cv (rawV n e k) k (by omega) (by omega) (by omega) (by omega)
  have S2 := scaled_cv (rawV n e k + 1) k (by omega) (by omega) (by omega) (by omega)
  have C1 := dcmp_cv (G := TabAt) false false (dyShift (rawV n e k) 0 (-k)).1 (dyShift (rawV n e k) 0 (-k)).2 (dyShift n 0 e).1 (dyShift n 0 e).2 (Nf.shift (by omega) (by decide)) (Nf.shift (by omega) (by decide)) (Nat.le_trans (sh_len (by omega) (by omega) (by omega)) (by decide)) (Nat.le_trans (sh_len (by omega) (by omega) (by omega)) (by decide))
  have C2 := dcmp_cv (G := TabAt) false false (dyShift (rawV n e k + 1) 0 (-k)).1 (dyShift (rawV n e k + 1) 0 (-k)).2 (dyShift n 0 e).1 (dyShift n 0 e).2 (Nf.shift (by omega) (by decide)) (Nf.shift (by omega) (by decide)) (Nat.le_trans (sh_len (by omega) (by omega) (by omega)) (by decide)) (Nat.le_trans (sh_len (by omega) (by omega) (by omega)) (by decide))
  rw [he] at RP
  rcases hc with ⟨_, hG, hm⟩ | ⟨_, hG⟩ | ⟨h, _⟩ | ⟨h, _⟩
  · rw [hG] at RQ
    rcases hm with hm | hm
    all_goals
      repeat' (with_reducible first | apply qa | apply qb | apply qc | apply qd | apply qe | apply qf | apply qg | apply qh | apply qi | apply qj | apply qk | apply ql rfl | apply qm rfl | apply qn rfl | (refine Tx 0 ?_; refine Jn xBo ?_; refine Ja ?_; refine Je ?_) | (refine Tx 1 ?_; refine Jo (xCl Tryd.func9 (awake15_cv)) ?_; refine Jo (by first | exact ok_not rfl rfl | exact ok_neg64 rfl rfl (by omega)) ?_; refine Je ?_) | (refine Tx 2 ?_; refine Ja ?_; refine Je ?_) | (refine Tx 3 ?_; refine Jm ?_; refine Jo (by first | exact ok_convD rfl Tryd.underlying5 Tryd.underlying3 rfl hw | exact ok_conv rfl Tryd.underlying5 Tryd.underlying3 rfl) ?_; refine Jo (by first | exact ok_remD rfl rfl rfl (by omega) hk | exact ok_rem rfl rfl rfl (by omega)) ?_; refine Ja ?_; refine Je ?_) | (refine Tx 4 ?_; refine Jo (xLa tk_Scalar) ?_; refine Jm ?_; refine Jo (by first | exact xCl Tryd.func10 (RP.cv) | exact xCl Tryd.func10 (RQ.cv)) ?_; refine Jo (by exact ok_mvT rfl rfl) ?_; refine Jo xEx ?_; refine Jo xEx ?_; refine Ja ?_; refine Ja ?_; refine Je ?_) | (refine Tx 5 ?_; refine Jo (xLa tk_Scalar) ?_; refine Jm ?_; refine Jo xAd ?_; refine Jo (by first | exact xCl Tryd.func10 (RP.cv) | exact xCl Tryd.func10 (RQ.cv)) ?_; refine Jo (by exact ok_mvT rfl rfl) ?_; refine Jo xEx ?_; refine Jo xEx ?_; refine Ja ?_; refine Ja ?_; refine Je ?_) | (refine Tx 6 ?_; refine Jm ?_; refine Jo (by first | exact ok_neqE rfl ti_error rfl (bne_f (by first | rfl | omega)) | exact ok_neqE rfl ti_error rfl (bne_t (by first | assumption | omega)) | exact ok_neqE rfl ti_error rfl rfl) ?_; refine Je ?_) | (refine Tx 7 ?_; refine Jm ?_; refine Jo (xCl Tryd.func13 ((bis_cv _ _).cv)) ?_; refine Jm ?_; refine Jo (xCl Tryd.func13 ((bis_cv _ _).cv)) ?_; refine Jo (by first | exact ok_eqlB rfl Tryd.underlying4 rfl rfl | exact xEq) ?_; refine Jm ?_; (first | refine Jd ?_ | refine Jy (by exact ok_mv1 rfl rfl) ?_); (first | refine Jd ?_ | refine Jy (by first | exact ok_neqE rfl ti_error rfl (bne_f (by first | rfl | omega)) | exact ok_neqE rfl ti_error rfl (bne_t (by first | assumption | omega)) | exact ok_neqE rfl ti_error rfl rfl) ?_); refine Jo xPk ?_; refine Ja ?_; refine Je ?_) | (refine Tx 8 ?_; refine Jo (xLa tk_Scalar) ?_; refine Jo (xCl Tryd.func14 (RV.cv)) ?_; refine Jn (by exact ok_alloc rfl tz_Dyadic) ?_; refine Js (xSk tk_Dyadic) ?_; refine Je ?_) | (refine Tx 9 ?_; refine Jm ?_; refine Jm ?_; refine Jo (by first | exact xCl Tryd.func15 (S1) | exact xCl Tryd.func15 (S2)) ?_; refine Jm ?_; refine Jo xAd ?_; refine Jm ?_; refine Jo (by first | exact xCl Tryd.func15 (S1) | exact xCl Tryd.func15 (S2)) ?_; refine Jn (by exact ok_alloc rfl tz_Dyadic) ?_; refine Jn (by exact ok_alloc rfl tz_Dyadic) ?_; refine Js (xSk tk_Dyadic) ?_; refine Js (xSk tk_Dyadic) ?_; refine Je ?_) | (refine Tx 10 ?_; refine Jo (xLa tk_Dyadic) ?_; refine Jo (xLa tk_Dyadic) ?_; refine Jo (by first | exact xCl Tryd.func16 (C1.cv) | exact xCl Tryd.func16 (C2.cv)) ?_; refine Jo xGt ?_; refine Jm ?_; (first | refine Jd ?_ | refine Jy (xLa tk_Dyadic) ?_); (first | refine Jd ?_ | refine Jy (xLa tk_Dyadic) ?_); (first | refine Jd ?_ | refine Jy (by first | exact xCl Tryd.func16 (C1.cv) | exact xCl Tryd.func16 (C2.cv)) ?_); (first | refine Jd ?_ | refine Jy xLe ?_); refine Jo xPk ?_; refine Je ?_) | (refine Tx 11 ?_; refine Ja ?_; refine Je ?_) | (refine Tx 12 ?_; refine Jm ?_; refine Jo (xCl Tryd.func13 ((bis_cv _ _).cv)) ?_; refine Jm ?_; (first | refine Jd ?_ | refine Jy (by exact ok_mv1 rfl rfl) ?_); (first | refine Jd ?_ | refine Jy (by first | exact ok_eqlE rfl ti_error rfl (beq_t (by first | rfl | omega)) | exact ok_eqlE rfl ti_error rfl (beq_f (by first | assumption | omega)) | exact ok_eqlE rfl ti_error rfl rfl) ?_); (first | refine Jd ?_ | refine Jy (by exact ok_mv1 rfl rfl) ?_); (first | refine Jd ?_ | refine Jy (by exact ok_mv1 rfl rfl) ?_); (first | refine Jd ?_ | refine Jy (by exact ok_mv1 rfl rfl) ?_); (first | refine Jd ?_ | refine Jy (by exact ok_mul64 rfl rfl rfl (by omega)) ?_); (first | refine Jd ?_ | refine Jy xEq ?_); (first | refine Jd ?_ | refine Jy (by exact ok_mv1 rfl rfl) ?_); (first | refine Jd ?_ | refine Jy (by exact ok_mv1 rfl rfl) ?_); (first | refine Jd ?_ | refine Jy (by exact ok_mv1 rfl rfl) ?_); (first | refine Jd ?_ | refine Jy (by exact ok_mul64 rfl rfl rfl (by omega)) ?_); (first | refine Jd ?_ | refine Jy xAd ?_); (first | refine Jd ?_ | refine Jy xEq ?_); (first | refine Jd ?_ | refine Jy xPk ?_); (first | refine Jd ?_ | refine Jy xPk ?_); refine Jo xPk ?_; refine Ja ?_; refine Je ?_))
      exact ret_q rfl (.cons_ (rv_b rfl rfl) .nil_)
  · rw [hG] at RQ
    repeat' (with_reducible first | apply qa | apply qb | apply qc | apply qd | apply qe | apply qf | apply qg | apply qh | apply qi | apply qj | apply qk | apply ql rfl | apply qm rfl | apply qn rfl | (refine Tx 0 ?_; refine Jn xBo ?_; refine Ja ?_; refine Je ?_) | (refine Tx 1 ?_; refine Jo (xCl Tryd.func9 (awake15_cv)) ?_; refine Jo (by first | exact ok_not rfl rfl | exact ok_neg64 rfl rfl (by omega)) ?_; refine Je ?_) | (refine Tx 2 ?_; refine Ja ?_; refine Je ?_) | (refine Tx 3 ?_; refine Jm ?_; refine Jo (by first | exact ok_convD rfl Tryd.underlying5 Tryd.underlying3 rfl hw | exact ok_conv rfl Tryd.underlying5 Tryd.underlying3 rfl) ?_; refine Jo (by first | exact ok_remD rfl rfl rfl (by omega) hk | exact ok_rem rfl rfl rfl (by omega)) ?_; refine Ja ?_; refine Je ?_) | (refine Tx 4 ?_; refine Jo (xLa tk_Scalar) ?_; refine Jm ?_; refine Jo (by first | exact xCl Tryd.func10 (RP.cv) | exact xCl Tryd.func10 (RQ.cv)) ?_; refine Jo (by exact ok_mvT rfl rfl) ?_; refine Jo xEx ?_; refine Jo xEx ?_; refine Ja ?_; refine Ja ?_; refine Je ?_) | (refine Tx 5 ?_; refine Jo (xLa tk_Scalar) ?_; refine Jm ?_; refine Jo xAd ?_; refine Jo (by first | exact xCl Tryd.func10 (RP.cv) | exact xCl Tryd.func10 (RQ.cv)) ?_; refine Jo (by exact ok_mvT rfl rfl) ?_; refine Jo xEx ?_; refine Jo xEx ?_; refine Ja ?_; refine Ja ?_; refine Je ?_) | (refine Tx 6 ?_; refine Jm ?_; refine Jo (by first | exact ok_neqE rfl ti_error rfl (bne_f (by first | rfl | omega)) | exact ok_neqE rfl ti_error rfl (bne_t (by first | assumption | omega)) | exact ok_neqE rfl ti_error rfl rfl) ?_; refine Je ?_) | (refine Tx 7 ?_; refine Jm ?_; refine Jo (xCl Tryd.func13 ((bis_cv _ _).cv)) ?_; refine Jm ?_; refine Jo (xCl Tryd.func13 ((bis_cv _ _).cv)) ?_; refine Jo (by first | exact ok_eqlB rfl Tryd.underlying4 rfl rfl | exact xEq) ?_; refine Jm ?_; (first | refine Jd ?_ | refine Jy (by exact ok_mv1 rfl rfl) ?_); (first | refine Jd ?_ | refine Jy (by first | exact ok_neqE rfl ti_error rfl (bne_f (by first | rfl | omega)) | exact ok_neqE rfl ti_error rfl (bne_t (by first | assumption | omega)) | exact ok_neqE rfl ti_error rfl rfl) ?_); refine Jo xPk ?_; refine Ja ?_; refine Je ?_) | (refine Tx 8 ?_; refine Jo (xLa tk_Scalar) ?_; refine Jo (xCl Tryd.func14 (RV.cv)) ?_; refine Jn (by exact ok_alloc rfl tz_Dyadic) ?_; refine Js (xSk tk_Dyadic) ?_; refine Je ?_) | (refine Tx 9 ?_; refine Jm ?_; refine Jm ?_; refine Jo (by first | exact xCl Tryd.func15 (S1) | exact xCl Tryd.func15 (S2)) ?_; refine Jm ?_; refine Jo xAd ?_; refine Jm ?_; refine Jo (by first | exact xCl Tryd.func15 (S1) | exact xCl Tryd.func15 (S2)) ?_; refine Jn (by exact ok_alloc rfl tz_Dyadic) ?_; refine Jn (by exact ok_alloc rfl tz_Dyadic) ?_; refine Js (xSk tk_Dyadic) ?_; refine Js (xSk tk_Dyadic) ?_; refine Je ?_) | (refine Tx 10 ?_; refine Jo (xLa tk_Dyadic) ?_; refine Jo (xLa tk_Dyadic) ?_; refine Jo (by first | exact xCl Tryd.func16 (C1.cv) | exact xCl Tryd.func16 (C2.cv)) ?_; refine Jo xGt ?_; refine Jm ?_; (first | refine Jd ?_ | refine Jy (xLa tk_Dyadic) ?_); (first | refine Jd ?_ | refine Jy (xLa tk_Dyadic) ?_); (first | refine Jd ?_ | refine Jy (by first | exact xCl Tryd.func16 (C1.cv) | exact xCl Tryd.func16 (C2.cv)) ?_); (first | refine Jd ?_ | refine Jy xLe ?_); refine Jo xPk ?_; refine Je ?_) | (refine Tx 11 ?_; refine Ja ?_; refine Je ?_) | (refine Tx 12 ?_; refine Jm ?_; refine Jo (xCl Tryd.func13 ((bis_cv _ _).cv)) ?_; refine Jm ?_; (first | refine Jd ?_ | refine Jy (by exact ok_mv1 rfl rfl) ?_); (first | refine Jd ?_ | refine Jy (by first | exact ok_eqlE rfl ti_error rfl (beq_t (by first | rfl | omega)) | exact ok_eqlE rfl ti_error rfl (beq_f (by first | assumption | omega)) | exact ok_eqlE rfl ti_error rfl rfl) ?_); (first | refine Jd ?_ | refine Jy (by exact ok_mv1 rfl rfl) ?_); (first | refine Jd ?_ | refine Jy (by exact ok_mv1 rfl rfl) ?_); (first | refine Jd ?_ | refine Jy (by exact ok_mv1 rfl rfl) ?_); (first | refine Jd ?_ | refine Jy (by exact ok_mul64 rfl rfl rfl (by omega)) ?_); (first | refine Jd ?_ | refine Jy xEq ?_); (first | refine Jd ?_ | refine Jy (by exact ok_mv1 rfl rfl) ?_); (first | refine Jd ?_ | refine Jy (by exact ok_mv1 rfl rfl) ?_); (first | refine Jd ?_ | refine Jy (by exact ok_mv1 rfl rfl) ?_); (first | refine Jd ?_ | refine Jy (by exact ok_mul64 rfl rfl rfl (by omega)) ?_); (first | refine Jd ?_ | refine Jy xAd ?_); (first | refine Jd ?_ | refine Jy xEq ?_); (first | refine Jd ?_ | refine Jy xPk ?_); (first | refine Jd ?_ | refine Jy xPk ?_); refine Jo xPk ?_; refine Ja ?_; refine Je ?_))
    exact ret_q rfl (.cons_ (rv_b rfl rfl) .nil_)
  · exact absurd (he.symm.trans h) (by decide)
  · exact absurd (he.symm.trans h) (by decide)
end Go.Proofs.YtjlocofimlgaoaaDoor
