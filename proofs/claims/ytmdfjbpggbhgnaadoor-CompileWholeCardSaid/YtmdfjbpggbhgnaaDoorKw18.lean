/- What the proofs of this claim share, part 18. No conditions. -/
import Derived.Test.YtmdfjbpggbhgnaaDoorKw17
import Derived.Test.YtmdfjbpggbhgnaaDoorKw9
import Derived.Test.YtmdfjbpggbhgnaaDoorKw14
import Derived.Test.YtmdfjbpggbhgnaaDoorKw16
import Derived.Test.YtmdfjbpggbhgnaaDoorKw10
import Derived.Test.YtmdfjbpggbhgnaaDoorKw12
import Derived.Tactics2
set_option maxRecDepth 100000
set_option maxHeartbeats 4000000
set_option linter.unusedVariables false
set_option linter.unusedSimpArgs false
set_option linter.unusedSectionVars false
namespace Go.Proofs.YtmdfjbpggbhgnaaDoor
open Go.RowKit
theorem step1_ret (g1 g2 g3 : Nat) (w : World) : CallsD Tryd.prog 29 #[ptrV g1, ptrV g2, ptrV g3] .returning w fun e u' w' => e = .returned (.tuple #[]) ∧ u' = .returning ∧ w' = w := by
  refine callsD_of_wpS Tryd.func29 rfl fun c₀ cs hu => ?_
  apply wpS_seq
  apply wpS_region
  simp [wpOpsS, go_sem, recoverD, hu, Tryd.ntmps29, Exit.thenS]
  apply wpS_seq
  apply wpS_region
  simp [wpOpsS, go_sem, Exit.thenS]
  refine wpS_cond (t := false) (by simp [Act.eval, Array.replicate]) ?_
  simp only [Bool.false_eq_true, if_false]
  refine wpS_of_wp (wp_skip ?_)
  cases c₀
  simp_all [bodyPostS, results, Tryd.results29]
theorem step1_pan (b0 : Nat) (w : World) (g1 g2 g3 : Nat) (v1 v2 v3 : Value) (l1 : b0 ≤ g1) (l2 : b0 ≤ g2) (l3 : b0 ≤ g3) (n12 : g1 ≠ g2) (n13 : g1 ≠ g3) (n23 : g2 ≠ g3) (hb : b0 ≤ w.heap.size)
    (h1 : w.heap[g1]? = some (.cells #[v1] 45 (0, 0))) (h2 : w.heap[g2]? = some (.cells #[v2] 45 (0, 0))) (h3 : w.heap[g3]? = some (.cells #[v3] 32 (0, 0))) :
    CallsD Tryd.prog 29 #[ptrV g1, ptrV g2, ptrV g3] (.panicking [{ v := .iface 79 (.agg #[]), recovered := false }]) w fun e u' w' => (∃ v, e = .returned v) ∧ settle u' = .returning ∧ Below b0 w w' ∧ w'.cell? ⟨g1, 0, none⟩ = some (.slice none 0 0) ∧ w'.cell? ⟨g2, 0, none⟩ = some (.slice none 0 0) ∧ w'.cell? ⟨g3, 0, none⟩ = some (.iface 68 (.int .i64 4)) := by
  refine callsD_of_wpS Tryd.func29 rfl fun c₀ cs hu => ?_
  apply wpS_seq
  apply wpS_region
  simp [wpOpsS, go_sem, recoverD, hu, Tryd.ntmps29, Exit.thenS]
  apply wpS_seq
  apply wpS_region
  simp [wpOpsS, go_sem, Exit.thenS]
  refine wpS_cond (t := true) (by simp [Act.eval, Array.replicate]) ?_
  simp only [if_true]
  apply wpS_seq
  apply wpS_seq
  apply wpS_region
  simp [wpOpsS, go_sem, Exit.thenS, Instr.typeAssert, run_underlying Tryd.underlying79]
  apply wpS_seq
  apply wpS_region
  simp [wpOpsS, go_sem, Exit.thenS]
  refine wpS_cond (t := false) (by simp [Act.eval, Array.replicate]) ?_
  simp only [Bool.false_eq_true, if_false]
  refine wpS_of_wp (wp_skip ?_)
  show Code.wpS _ _ _ _ _ _
  have k1 := (Below.heap_alloc w (.cells #[] 79 (0, 0)) g1 (Array.getElem?_eq_some_iff.1 h1).1).trans h1
  have k2 := (Below.heap_alloc w (.cells #[] 79 (0, 0)) g2 (Array.getElem?_eq_some_iff.1 h2).1).trans h2
  have k3 := (Below.heap_alloc w (.cells #[] 79 (0, 0)) g3 (Array.getElem?_eq_some_iff.1 h3).1).trans h3
  have hbel : Below b0 w (w.alloc (.cells #[] 79 (0, 0))) := (Below.refl _ _).alloc hb _
  generalize w.alloc (.cells #[] 79 (0, 0)) = W at k1 k2 k3 hbel ⊢
  have m1 := one_setCell (u := .slice none 0 0) k1
  have m2 := (Below.heap_setCell W ⟨g1, 0, none⟩ (.slice none 0 0) g2 (fun h => n12 h.symm)).trans k2
  have m3 := (Below.heap_setCell W ⟨g1, 0, none⟩ (.slice none 0 0) g3 (fun h => n13 h.symm)).trans k3
  have hb1 := hbel.setCell (p := ⟨g1, 0, none⟩) l1 (.slice none 0 0)
  have c1 : W.cell? ⟨g1, 0, none⟩ = some v1 := by rw [cell_of_row W g1 0 _ _ (0, 0) k1]; rfl
  have z1 : W.frozen? ⟨g1, 0, none⟩ = false := by unfold World.frozen?; rw [k1]; rfl
  generalize hW1 : W.setCell ⟨g1, 0, none⟩ (.slice none 0 0) = W1 at m1 m2 m3 hb1
  have q1 := (Below.heap_setCell W1 ⟨g2, 0, none⟩ (.slice none 0 0) g1 n12).trans m1
  have q2 := one_setCell (u := .slice none 0 0) m2
  have q3 := (Below.heap_setCell W1 ⟨g2, 0, none⟩ (.slice none 0 0) g3 (fun h => n23 h.symm)).trans m3
  have hb2 := hb1.setCell (p := ⟨g2, 0, none⟩) l2 (.slice none 0 0)
  have c2 : W1.cell? ⟨g2, 0, none⟩ = some v2 := by rw [cell_of_row W1 g2 0 _ _ (0, 0) m2]; rfl
  have z2 : W1.frozen? ⟨g2, 0, none⟩ = false := by unfold World.frozen?; rw [m2]; rfl
  generalize hW2 : W1.setCell ⟨g2, 0, none⟩ (.slice none 0 0) = W2 at q1 q2 q3 hb2
  have r1 := (Below.heap_setCell W2 ⟨g3, 0, none⟩ (.iface 68 (.int .i64 4)) g1 n13).trans q1
  have r2 := (Below.heap_setCell W2 ⟨g3, 0, none⟩ (.iface 68 (.int .i64 4)) g2 n23).trans q2
  have r3 := one_setCell (u := .iface 68 (.int .i64 4)) q3
  have hb3 := hb2.setCell (p := ⟨g3, 0, none⟩) l3 (.iface 68 (.int .i64 4))
  have c3 : W2.cell? ⟨g3, 0, none⟩ = some v3 := by rw [cell_of_row W2 g3 0 _ _ (0, 0) q3]; rfl
  have z3 : W2.frozen? ⟨g3, 0, none⟩ = false := by unfold World.frozen?; rw [q3]; rfl
  generalize hW3 : W2.setCell ⟨g3, 0, none⟩ (.iface 68 (.int .i64 4)) = W3 at r1 r2 r3 hb3
  have d1 : W3.cell? ⟨g1, 0, none⟩ = some (.slice none 0 0) := by rw [cell_of_row W3 g1 0 _ _ (0, 0) r1]; rfl
  have d2 : W3.cell? ⟨g2, 0, none⟩ = some (.slice none 0 0) := by rw [cell_of_row W3 g2 0 _ _ (0, 0) r2]; rfl
  have d3 : W3.cell? ⟨g3, 0, none⟩ = some (.iface 68 (.int .i64 4)) := by rw [cell_of_row W3 g3 0 _ _ (0, 0) r3]; rfl
  have hse : settle (.panicking [{ v := .iface 79 (.agg #[]), recovered := true }]) = .returning := rfl
  apply wpS_region
  simp [wpOpsS, go_sem, ptrV, c1, z1, hW1, c2, z2, hW2, c3, z3, hW3, d1, d2, d3, hb3, hse, bodyPostS, results, Tryd.results29]
theorem nf_uniq {p q : Int × Nat} {X : Int} {Q : Nat} (h1 : Nf p.1 p.2) (h2 : Nf q.1 q.2) (e1 : p.1 * 2 ^ Q = X * 2 ^ p.2) (e2 : q.1 * 2 ^ Q = X * 2 ^ q.2) : p = q := by
  have key : ∀ p q : Int × Nat, Nf q.1 q.2 → p.1 * 2 ^ Q = X * 2 ^ p.2 → q.1 * 2 ^ Q = X * 2 ^ q.2 → p.2 ≤ q.2 → q.1 = p.1 * 2 ^ (q.2 - p.2) := fun p q _ e1 e2 hle => by
    have pw : (2 : Int) ^ Q ≠ 0 := Int.ne_of_gt (Int.pow_pos (by decide))
    refine Int.eq_of_mul_eq_mul_right pw ?_
    rw [e2, Int.mul_right_comm, e1, Int.mul_assoc, ← Int.pow_add]
    congr 2; omega
  have fin : ∀ p q : Int × Nat, Nf q.1 q.2 → p.1 * 2 ^ Q = X * 2 ^ p.2 → q.1 * 2 ^ Q = X * 2 ^ q.2 → p.2 ≤ q.2 → p = q := fun p q hq e1 e2 hle => by
    have h := key p q hq e1 e2 hle
    by_cases hd : p.2 = q.2
    · rw [hd, Nat.sub_self] at h
      refine Prod.ext ?_ hd
      rw [h]; show p.1 = p.1 * 1; omega
    · exfalso
      have ho := hq.2 (by omega)
      obtain ⟨k, hk⟩ : ∃ k, q.2 - p.2 = k + 1 := ⟨q.2 - p.2 - 1, by omega⟩
      rw [hk, Int.pow_succ, ← Int.mul_assoc] at h
      omega
  rcases Nat.le_total p.2 q.2 with h | h
  · exact fin p q h2 e1 e2 h
  · exact (fin q p h1 e2 e1 h).symm
theorem at_grid (p : Int × Nat) {Q : Nat} (h : p.2 ≤ Q) : p.1 * 2 ^ Q = p.1 * 2 ^ (Q - p.2) * 2 ^ p.2 := by
  rw [Int.mul_assoc, ← Int.pow_add]
  congr 2; omega
theorem clip_eq {x v u : Int × Nat} (hx : Nf x.1 x.2) (hv : Nf v.1 v.2) (hu : Nf u.1 u.2) (h : dyCmp v.1 v.2 u.1 u.2 ≤ 0) :
    dyMax v.1 v.2 (dyMin u.1 u.2 x.1 x.2).1 (dyMin u.1 u.2 x.1 x.2).2 = dyMin (dyMax x.1 x.2 v.1 v.2).1 (dyMax x.1 x.2 v.1 v.2).2 u.1 u.2 := by
  obtain ⟨Q, q1, q2, q3⟩ : ∃ Q, x.2 ≤ Q ∧ v.2 ≤ Q ∧ u.2 ≤ Q := ⟨max x.2 (max v.2 u.2), by omega, by omega, by omega⟩
  have ex := at_grid x q1
  have ev := at_grid v q2
  have eu := at_grid u q3
  generalize x.1 * 2 ^ (Q - x.2) = X at ex
  generalize v.1 * 2 ^ (Q - v.2) = V at ev
  generalize u.1 * 2 ^ (Q - u.2) = U at eu
  have cm : ∀ {a b : Int × Nat} {A B : Int}, a.1 * 2 ^ Q = A * 2 ^ a.2 → b.1 * 2 ^ Q = B * 2 ^ b.2 → dyCmp a.1 a.2 b.1 b.2 = sgI (A - B) := fun ha hb => cmp_sgn ha hb
  rw [cm ev eu, sgI_three] at h
  have hVU : V ≤ U := by (repeat' split at h) <;> omega
  have mn : ∀ {a b : Int × Nat} {A B : Int}, a.1 * 2 ^ Q = A * 2 ^ a.2 → b.1 * 2 ^ Q = B * 2 ^ b.2 → dyMin a.1 a.2 b.1 b.2 = if B < A then b else a := fun {a b A B} ha hb => by
    unfold dyMin
    rw [cm ha hb, sgI_three]
    by_cases h1 : A < B
    · rw [if_pos h1, if_neg (by decide), if_neg (by omega)]
    · by_cases h2 : B < A
      · rw [if_neg h1, if_pos h2, if_pos (by decide), if_pos h2]
      · rw [if_neg h1, if_neg h2, if_neg (by decide), if_neg h2]
  have mx : ∀ {a b : Int × Nat} {A B : Int}, a.1 * 2 ^ Q = A * 2 ^ a.2 → b.1 * 2 ^ Q = B * 2 ^ b.2 → dyMax a.1 a.2 b.1 b.2 = if A < B then b else a := fun {a b A B} ha hb => by
    unfold dyMax
    rw [cm ha hb, sgI_three]
    by_cases h1 : A < B
    · rw [if_pos h1, if_pos (by decide), if_pos h1]
    · by_cases h2 : B < A
      · rw [if_neg h1, if_pos h2, if_neg (by decide), if_neg h1]
      · rw [if_neg h1, if_neg h2, if_neg (by decide), if_neg h1]
  rw [mn eu ex, mx ex ev]
  by_cases h1 : X < U
  · rw [if_pos h1, mx ev ex]
    by_cases h2 : X < V
    · rw [if_pos h2, mn ev eu, if_neg (by omega), if_neg (by omega)]
    · rw [if_neg h2, mn ex eu, if_neg (c := U < X) (by omega)]
      by_cases h3 : V < X
      · rw [if_pos h3]
      · rw [if_neg h3]
        have : X = V := by omega
        subst this
        exact nf_uniq hv hx ev ex
  · rw [if_neg h1, mx ev eu]
    by_cases h2 : X < V
    · omega
    · rw [if_neg h2, mn ex eu]
      by_cases h3 : U < X
      · rw [if_pos h3]
        by_cases h4 : V < U
        · rw [if_pos h4]
        · rw [if_neg h4]
          have : V = U := by omega
          subst this
          exact nf_uniq hv hu ev eu
      · rw [if_neg h3]
        have hXU : X = U := by omega
        subst hXU
        by_cases h4 : V < X
        · rw [if_pos h4]
          exact nf_uniq hu hx eu ex
        · rw [if_neg h4]
          have : V = X := by omega
          subst this
          exact nf_uniq hv hx ev ex
theorem dy_zero : aDy false 0 0 = .agg [.val (.bool false), .row false 1 0 [], .val (.int .i64 0)] := by
  unfold aDy dDy wds
  rw [show (0 : Int).natAbs = 0 from rfl, canon_zero]
  rfl
theorem rv_z {P : Program} {F : Frm} {H : List Ob} {t : Tmp} {ty ty' id k : Nat} (hk : TyK P ty true k) (hi : 3 = k) (hF : F t = .one (.ref id 0 none) := by with_unfolding_all exact rfl) (hH : H[id]? = some (.box ty' [.d (.val (.bool false)), .d (.val (.slice none 0 0)), .d (.val (.int .i64 0))]) := by with_unfolding_all exact rfl) : RV P F H (.cell t ty) (.agg [.val (.bool false), .row false 1 0 [], .val (.int .i64 0)]) := by
  obtain ⟨⟨dd, hu, hd⟩, hz⟩ := hk
  exact .cellA hF hH hu hd (by rw [hz, ← hi]; rfl) (.cons_ (.d fun _ => .val _) (.cons_ .nil (.cons_ (.d fun _ => .val _) .nil_)))
def tickV (y : Bk) (l : List (Int × Nat)) (ps : List Prt) (ins : List Int) : Int × Nat :=
  if y.kind = 0 then dyShift (ins[((y.args[0]?).getD 0).toNat]?.getD 0) 0 (-((ps[((y.args[0]?).getD 0).toNat]?.map Prt.fr).getD 0)) else blkD y l
theorem value_cv (n e : Int) : CV Tryd.prog TabAt 44 [.agg [dI n, dI e]] [aDy false (if scOk n e then dyShift n 0 e else (0, 0)).1 (if scOk n e then dyShift n 0 e else (0, 0)).2, aE (if scOk n e then 0 else 3)] := by
  refine cvz Tryd.func44 Tryd.ntmps44 ?_
  by_cases hs : scOk n e
  case pos =>
    rw [if_pos hs, if_pos hs]
    obtain ⟨s1, s2, s3, s4⟩ := hs
    have OF := pdof_cv n (by omega) (by omega)
    have SH := pdshift_cv n 0 e ⟨by decide, fun h => absurd rfl h⟩ (Nat.le_trans (canon_len_le (k := 2) (by omega)) (by decide)) (by omega)
    repeat' (with_reducible first | apply qa | apply qb | apply qc | apply qd | apply qe | apply qf | apply qg | apply qh | apply qi | apply qj | apply qk | apply ql rfl | apply qm rfl | apply qn rfl | apply Je | (refine Tx 0 ?_; refine Jn xBo ?_; refine Jn (xAl tz_Dyadic) ?_; refine Ja ?_) | (refine Tx 1 ?_; refine Jo (xFa tf_Scalar0 tk_int) ?_; refine Jo (xLd tk_int) ?_; refine Jo xLe ?_; refine Jm ?_; (first | iterate 3 refine Jd ?_ | (refine Jy (xFa tf_Scalar0 tk_int) ?_; refine Jy (xLd tk_int) ?_; refine Jy xGe ?_)); refine Jo xPk ?_; refine Jm ?_; (first | iterate 3 refine Jd ?_ | (refine Jy (xFa tf_Scalar1 tk_int) ?_; refine Jy (xLd tk_int) ?_; refine Jy xLt ?_)); refine Jo xPk ?_; refine Jm ?_; (first | iterate 3 refine Jd ?_ | (refine Jy (xFa tf_Scalar1 tk_int) ?_; refine Jy (xLd tk_int) ?_; refine Jy xGt ?_)); refine Jo xPk ?_) | (refine cw_part (id := 3) 6 mixed (by kernel_rfl) ?_; dsimp only [List.take, List.drop]; refine Ko (xFa tf_Scalar0 tk_int) ?_; refine Ko (xLd tk_int) ?_; refine Ko (xCl Tryd.func15 (OF)) ?_; refine Ko (xFa tf_Scalar1 tk_int) ?_; refine Ko (xLd tk_int) ?_; refine Ko (xCl Tryd.func30 (SH)) ?_; refine Ke ?_; refine Js (xSk tk_Dyadic) ?_; refine Ja ?_))
    exact ret_q rfl (.cons_ (rvW tk_Dyadic rfl) (.cons_ (rv_e0 rfl rfl) .nil_))
  rw [if_neg hs, if_neg hs, dy_zero]
  unfold scOk at hs
  by_cases c : n ≤ -2147483648
  case pos =>
    repeat' (with_reducible first | apply qa | apply qb | apply qc | apply qd | apply qe | apply qf | apply qg | apply qh | apply qi | apply qj | apply qk | apply ql rfl | apply qm rfl | apply qn rfl | apply Je | (refine Tx 0 ?_; refine Jn xBo ?_; refine Jn (xAl tz_Dyadic) ?_; refine Ja ?_) | (refine Tx 1 ?_; refine Jo (xFa tf_Scalar0 tk_int) ?_; refine Jo (xLd tk_int) ?_; refine Jo xLe ?_; refine Jm ?_; (first | iterate 3 refine Jd ?_ | (refine Jy (xFa tf_Scalar0 tk_int) ?_; refine Jy (xLd tk_int) ?_; refine Jy xGe ?_)); refine Jo xPk ?_; refine Jm ?_; (first | iterate 3 refine Jd ?_ | (refine Jy (xFa tf_Scalar1 tk_int) ?_; refine Jy (xLd tk_int) ?_; refine Jy xLt ?_)); refine Jo xPk ?_; refine Jm ?_; (first | iterate 3 refine Jd ?_ | (refine Jy (xFa tf_Scalar1 tk_int) ?_; refine Jy (xLd tk_int) ?_; refine Jy xGt ?_)); refine Jo xPk ?_) | (refine Tx 2 ?_; refine Jo (by exact ok_build rfl tb_Dyadic rfl rfl) ?_; refine Jo (xMi Tryd.underlying68) ?_; refine Js (xSk tk_Dyadic) ?_; refine Ja ?_))
    exact ret_q rfl (.cons_ (rv_z tk_Dyadic rfl) (.cons_ (.tmp (.one (cexp_d rfl fun _ => .val _))) .nil_))
  have ca := c
  clear c
  by_cases c : 2147483648 ≤ n
  case pos =>
    repeat' (with_reducible first | apply qa | apply qb | apply qc | apply qd | apply qe | apply qf | apply qg | apply qh | apply qi | apply qj | apply qk | apply ql rfl | apply qm rfl | apply qn rfl | apply Je | (refine Tx 0 ?_; refine Jn xBo ?_; refine Jn (xAl tz_Dyadic) ?_; refine Ja ?_) | (refine Tx 1 ?_; refine Jo (xFa tf_Scalar0 tk_int) ?_; refine Jo (xLd tk_int) ?_; refine Jo xLe ?_; refine Jm ?_; (first | iterate 3 refine Jd ?_ | (refine Jy (xFa tf_Scalar0 tk_int) ?_; refine Jy (xLd tk_int) ?_; refine Jy xGe ?_)); refine Jo xPk ?_; refine Jm ?_; (first | iterate 3 refine Jd ?_ | (refine Jy (xFa tf_Scalar1 tk_int) ?_; refine Jy (xLd tk_int) ?_; refine Jy xLt ?_)); refine Jo xPk ?_; refine Jm ?_; (first | iterate 3 refine Jd ?_ | (refine Jy (xFa tf_Scalar1 tk_int) ?_; refine Jy (xLd tk_int) ?_; refine Jy xGt ?_)); refine Jo xPk ?_) | (refine Tx 2 ?_; refine Jo (by exact ok_build rfl tb_Dyadic rfl rfl) ?_; refine Jo (xMi Tryd.underlying68) ?_; refine Js (xSk tk_Dyadic) ?_; refine Ja ?_))
    exact ret_q rfl (.cons_ (rv_z tk_Dyadic rfl) (.cons_ (.tmp (.one (cexp_d rfl fun _ => .val _))) .nil_))
  have cb := c
  clear c
  by_cases c : e < -62
  case pos =>
    repeat' (with_reducible first | apply qa | apply qb | apply qc | apply qd | apply qe | apply qf | apply qg | apply qh | apply qi | apply qj | apply qk | apply ql rfl | apply qm rfl | apply qn rfl | apply Je | (refine Tx 0 ?_; refine Jn xBo ?_; refine Jn (xAl tz_Dyadic) ?_; refine Ja ?_) | (refine Tx 1 ?_; refine Jo (xFa tf_Scalar0 tk_int) ?_; refine Jo (xLd tk_int) ?_; refine Jo xLe ?_; refine Jm ?_; (first | iterate 3 refine Jd ?_ | (refine Jy (xFa tf_Scalar0 tk_int) ?_; refine Jy (xLd tk_int) ?_; refine Jy xGe ?_)); refine Jo xPk ?_; refine Jm ?_; (first | iterate 3 refine Jd ?_ | (refine Jy (xFa tf_Scalar1 tk_int) ?_; refine Jy (xLd tk_int) ?_; refine Jy xLt ?_)); refine Jo xPk ?_; refine Jm ?_; (first | iterate 3 refine Jd ?_ | (refine Jy (xFa tf_Scalar1 tk_int) ?_; refine Jy (xLd tk_int) ?_; refine Jy xGt ?_)); refine Jo xPk ?_) | (refine Tx 2 ?_; refine Jo (by exact ok_build rfl tb_Dyadic rfl rfl) ?_; refine Jo (xMi Tryd.underlying68) ?_; refine Js (xSk tk_Dyadic) ?_; refine Ja ?_))
    exact ret_q rfl (.cons_ (rv_z tk_Dyadic rfl) (.cons_ (.tmp (.one (cexp_d rfl fun _ => .val _))) .nil_))
  have cc := c
  clear c
  have cd : 30 < e := by omega
  repeat' (with_reducible first | apply qa | apply qb | apply qc | apply qd | apply qe | apply qf | apply qg | apply qh | apply qi | apply qj | apply qk | apply ql rfl | apply qm rfl | apply qn rfl | apply Je | (refine Tx 0 ?_; refine Jn xBo ?_; refine Jn (xAl tz_Dyadic) ?_; refine Ja ?_) | (refine Tx 1 ?_; refine Jo (xFa tf_Scalar0 tk_int) ?_; refine Jo (xLd tk_int) ?_; refine Jo xLe ?_; refine Jm ?_; (first | iterate 3 refine Jd ?_ | (refine Jy (xFa tf_Scalar0 tk_int) ?_; refine Jy (xLd tk_int) ?_; refine Jy xGe ?_)); refine Jo xPk ?_; refine Jm ?_; (first | iterate 3 refine Jd ?_ | (refine Jy (xFa tf_Scalar1 tk_int) ?_; refine Jy (xLd tk_int) ?_; refine Jy xLt ?_)); refine Jo xPk ?_; refine Jm ?_; (first | iterate 3 refine Jd ?_ | (refine Jy (xFa tf_Scalar1 tk_int) ?_; refine Jy (xLd tk_int) ?_; refine Jy xGt ?_)); refine Jo xPk ?_) | (refine Tx 2 ?_; refine Jo (by exact ok_build rfl tb_Dyadic rfl rfl) ?_; refine Jo (xMi Tryd.underlying68) ?_; refine Js (xSk tk_Dyadic) ?_; refine Ja ?_))
  exact ret_q rfl (.cons_ (rv_z tk_Dyadic rfl) (.cons_ (.tmp (.one (cexp_d rfl fun _ => .val _))) .nil_))
theorem number_cv2 (n e : Int) (hs : scOk n e) : CV Tryd.prog TabAt 23 [.agg [dI n, dI e]] [aDy false (dyShift n 0 e).1 (dyShift n 0 e).2] := by
  refine cvz Tryd.func23 Tryd.ntmps23 ?_
  have VA := value_cv n e
  rw [if_pos hs, if_pos hs] at VA
  repeat' (with_reducible first | apply qa | apply qb | apply qc | apply qd | apply qe | apply qf | apply qg | apply qh | apply qi | apply qj | apply qk | apply ql rfl | apply qm rfl | apply qn rfl | apply Je | (refine Tx 0 ?_; refine Jn xBo ?_; refine Jn (xAl tz_Dyadic) ?_) | (refine Tx 1 ?_; refine Jo (xLa tk_Scalar) ?_; refine Jo (xCl Tryd.func44 (VA)) ?_; refine Jo xMt ?_; refine Jo (by exact ok_exA rfl rfl rfl) ?_; refine Jo xEx ?_; refine Jn (xAl tz_Dyadic) ?_; refine Js (xSk tk_Dyadic) ?_; refine Ja ?_) | (refine Tx 2 ?_; refine Jo (xLa tk_Dyadic) ?_; refine Js (xSk tk_Dyadic) ?_))
  exact ret_q rfl (.cons_ (rvW tk_Dyadic rfl) .nil_)
theorem arg_cv (t u : Bool) (y : Bk) (vals : List (Int × Nat)) (k : Nat) {i : Nat} {p : Int × Nat} (hk : y.args[k]? = some (i : Int)) (hp : vals[i]? = some p) (ha : y.args.length ≤ 1000000) (hv : vals.length ≤ 1000000) : CV Tryd.prog TabAt 49 [aI (k : Int), .one (.ptr true [.row u 3 vals.length (flatD dyP vals)]), .one (.ptr true (dBk t y))] [aDy false p.1 p.2] := by
  refine cvz Tryd.func49 Tryd.ntmps49 ?_
  have l1 := (List.getElem?_eq_some_iff.1 hk).1
  have l2 := (List.getElem?_eq_some_iff.1 hp).1
  repeat' (with_reducible first | apply qa | apply qb | apply qc | apply qd | apply qe | apply qf | apply qg | apply qh | apply qi | apply qj | apply qk | apply ql rfl | apply qm rfl | apply qn rfl | apply Je | (refine Tx 0 ?_; refine Jn (xAl tz_Dyadic) ?_) | (refine cw_part (id := 1) 8 mixed (by kernel_rfl) ?_; dsimp only [List.take, List.drop]; refine Ko (xLd tk_s_Dyadic) ?_; refine Ko (xFa tf_Block1 tk_s_int) ?_; refine Ko (xLd tk_s_int) ?_; refine Km ?_; refine Ko (by first | exact xIr ts_s_int (int_at hk) | exact xIr ts_s_int (dy_at hp)) ?_; refine Ko (xLd tk_int) ?_; refine Ko (xIr ts_s_Dyadic (dy_at hp)) ?_; refine Ko (xLa tk_Dyadic) ?_; refine Ke ?_; refine Js (xSk tk_Dyadic) ?_))
  exact ret_q rfl (.cons_ (rvW tk_Dyadic rfl) .nil_)
theorem pblock_cv (t v : Bool) (ps : List Prt) (bs : List Bk) (os : List Int) (y : Bk) (vals l : List (Int × Nat)) (ins : List Int) (hk : y.kind = 0 ∨ y.kind = 1 ∨ y.kind = 3 ∨ y.kind = 4 ∨ y.kind = 5 ∨ y.kind = 6 ∨ y.kind = 7 ∨ y.kind = 8 ∨ y.kind = 9 ∨ y.kind = 10 ∨ y.kind = 11) (ha : y.args.length ≤ 1000000) (hvl : vals.length ≤ 1000000) (hil : ins.length ≤ 1000000) (hpl : ps.length ≤ 1000000)
    (hl : ∀ k : Nat, (k = 0 ∧ y.kind ≠ 0 ∧ y.kind ≠ 1 ∨ k = 1 ∧ (y.kind = 3 ∨ y.kind = 4 ∨ y.kind = 7 ∨ y.kind = 8 ∨ y.kind = 9)) → ∃ p i, l[k]? = some p ∧ y.args[k]? = some ((i : Nat) : Int) ∧ vals[i]? = some p) (hs : ∀ p ∈ l, Sm p 20000 20000)
    (hin : y.kind = 0 → ∃ (i : Nat) (z : Int) (pp : Prt), y.args[0]? = some (i : Int) ∧ ins[i]? = some z ∧ ps[i]? = some pp ∧ -9223372036854775808 ≤ z ∧ z < 9223372036854775808 ∧ -100 ≤ pp.fr ∧ pp.fr ≤ 100)
    (hsv : (y.kind = 1 ∨ y.kind = 6 ∨ y.kind = 11) → scOk y.vn y.ve) (hsu : y.kind = 11 → scOk y.un y.ue) (hcl : y.kind = 11 → dyCmp (dyShift y.vn 0 y.ve).1 (dyShift y.vn 0 y.ve).2 (dyShift y.un 0 y.ue).1 (dyShift y.un 0 y.ue).2 ≤ 0) : CV Tryd.prog TabAt 32 [aDg t ps bs os, .agg (dBk t y), .one (.row true 3 vals.length (flatD dyP vals)), .one (rowI v ins)] [aDy false (tickV y l ps ins).1 (tickV y l ps ins).2] := by
  refine cvz Tryd.func32 Tryd.ntmps32 ?_
  rcases hk with h | h | h | h | h | h | h | h | h | h | h
  ·
    obtain ⟨i0, z, pp, q0, r0, w0, z0, z1, f0, f1⟩ := hin h
    have l1 := (List.getElem?_eq_some_iff.1 q0).1
    have l2 := (List.getElem?_eq_some_iff.1 r0).1
    have l3 := (List.getElem?_eq_some_iff.1 w0).1
    have OF := pdof_cv z z0 z1
    have SH := pdshift_cv z 0 (-pp.fr) ⟨by decide, fun h => absurd rfl h⟩ (Nat.le_trans (canon_len_le (k := 2) (by omega)) (by decide)) (by omega)
    have hb : tickV y l ps ins = dyShift z 0 (-pp.fr) := by unfold tickV; rw [if_pos h, q0]; simp [r0, w0]
    rw [hb]
    repeat' (with_reducible first | apply qa | apply qb | apply qc | apply qd | apply qe | apply qf | apply qg | apply qh | apply qi | apply qj | apply qk | apply ql rfl | apply qm rfl | apply qn rfl | apply Je | (refine Tx 0 ?_; refine Jn xBo ?_; refine Jn xBo ?_; refine Jn xBo ?_; refine Jn (xAl tz_Dyadic) ?_) | (refine Tx 1 ?_; refine Jo (by first | exact xMf [(2, 0, none), (1, 0, none)] | exact ok_makeFunc rfl (by repeat' first | exact lrel_n rfl rfl | refine lrel_c rfl rfl rfl ?_)) ?_; refine Ja ?_) | (refine Tx 2 ?_; refine Jo (xFa tf_Block0 tk_int) ?_; refine Jo (xLd tk_int) ?_) | (refine Tx 3 ?_; refine Jo xEq ?_; refine Ja ?_) | (refine cw_part (id := 4) 19 mixed (by kernel_rfl) ?_; dsimp only [List.take, List.drop]; refine Km ?_; refine Ko (xFa tf_Block1 tk_s_int) ?_; refine Ko (xLd tk_s_int) ?_; refine Ko (xIr ts_s_int (int_at q0)) ?_; refine Ko (xLd tk_int) ?_; refine Ko (by first | exact xIr ts_s_int (int_at q0) | exact xIr ts_s_int (int_at r0)) ?_; refine Ko (xLd tk_int) ?_; refine Ko (xCl Tryd.func15 (OF)) ?_; refine Ko (xFa tf_Diagram0 tk_s_Port) ?_; refine Ko (xLd tk_s_Port) ?_; refine Ko (xFa tf_Block1 tk_s_int) ?_; refine Ko (xLd tk_s_int) ?_; refine Ko (xIr ts_s_int (int_at q0)) ?_; refine Ko (xLd tk_int) ?_; refine Ko (xIr ts_s_Port (prt_at w0)) ?_; refine Ko (xFa tf_Port2 tk_int) ?_; refine Ko (xLd tk_int) ?_; refine Ko (by first | exact ok_neg64 rfl rfl (by omega) | exact ok_not rfl rfl) ?_; refine Ko (xCl Tryd.func30 (SH)) ?_; refine Ke ?_; refine Js (xSk tk_Dyadic) ?_))
    exact ret_q rfl (.cons_ (rvW tk_Dyadic rfl) .nil_)
  ·
    have hv := hsv (by omega)
    have RV := number_cv2 y.vn y.ve hv
    obtain ⟨v0, v1, e0, e1⟩ := hv
    have sv : Sm (dyShift y.vn 0 y.ve) (32 + 200) 200 := Sm.shift (by omega) (by omega) (by omega)
    have lv := Nat.le_trans (sv.len (by decide)) (show 50 ≤ 40000 by decide)
    have hb : tickV y l ps ins = (dyShift y.vn 0 y.ve) := by unfold tickV blkD; simp [h]
    rw [hb]
    repeat' (with_reducible first | apply qa | apply qb | apply qc | apply qd | apply qe | apply qf | apply qg | apply qh | apply qi | apply qj | apply qk | apply ql rfl | apply qm rfl | apply qn rfl | apply Je | (refine Tx 0 ?_; refine Jn xBo ?_; refine Jn xBo ?_; refine Jn xBo ?_; refine Jn (xAl tz_Dyadic) ?_) | (refine Tx 1 ?_; refine Jo (by first | exact xMf [(2, 0, none), (1, 0, none)] | exact ok_makeFunc rfl (by repeat' first | exact lrel_n rfl rfl | refine lrel_c rfl rfl rfl ?_)) ?_; refine Ja ?_) | (refine Tx 2 ?_; refine Jo (xFa tf_Block0 tk_int) ?_; refine Jo (xLd tk_int) ?_) | (refine Tx 3 ?_; refine Jo xEq ?_; refine Ja ?_) | (refine Tx 5 ?_; refine Jo xEq ?_; refine Ja ?_) | (refine Tx 6 ?_; refine Jo (xFa tf_Block2 tk_Scalar) ?_; refine Jo (xLa tk_Scalar) ?_; refine Jo (xCl Tryd.func23 (RV)) ?_; refine Js (xSk tk_Dyadic) ?_))
    exact ret_q rfl (.cons_ (rvW tk_Dyadic rfl) .nil_)
  ·
    obtain ⟨p, i0, h0, q0, r0⟩ := hl 0 (by omega)
    have sp := hs p (List.mem_of_getElem? h0)
    have lp := sp.l4
    have A0 := arg_cv t true y vals 0 q0 r0 ha hvl
    obtain ⟨q, i1, h1, q1, r1⟩ := hl 1 (by omega)
    have sq := hs q (List.mem_of_getElem? h1)
    have lq := sq.l4
    have A1 := arg_cv t true y vals 1 q1 r1 ha hvl
    have C := pdadd_cv p.1 p.2 q.1 q.2 sp.ok sq.ok lp lq
    have hb : tickV y l ps ins = dySum p.1 p.2 q.1 q.2 := by unfold tickV blkD; simp [h, h0, h1]
    rw [hb]
    repeat' (with_reducible first | apply qa | apply qb | apply qc | apply qd | apply qe | apply qf | apply qg | apply qh | apply qi | apply qj | apply qk | apply ql rfl | apply qm rfl | apply qn rfl | apply Je | (refine Tx 0 ?_; refine Jn xBo ?_; refine Jn xBo ?_; refine Jn xBo ?_; refine Jn (xAl tz_Dyadic) ?_) | (refine Tx 1 ?_; refine Jo (by first | exact xMf [(2, 0, none), (1, 0, none)] | exact ok_makeFunc rfl (by repeat' first | exact lrel_n rfl rfl | refine lrel_c rfl rfl rfl ?_)) ?_; refine Ja ?_) | (refine Tx 2 ?_; refine Jo (xFa tf_Block0 tk_int) ?_; refine Jo (xLd tk_int) ?_) | (refine Tx 3 ?_; refine Jo xEq ?_; refine Ja ?_) | (refine Tx 5 ?_; refine Jo xEq ?_; refine Ja ?_) | (refine Tx 7 ?_; refine Jo xEq ?_; refine Ja ?_) | (refine Tx 8 ?_; refine Jm ?_; refine Jo (xCc Tryd.func49 A0 (args := [_]) rfl) ?_; refine Jm ?_; refine Jo (xCc Tryd.func49 A1 (args := [_]) rfl) ?_; refine Jo (xCl Tryd.func50 (C)) ?_; refine Js (xSk tk_Dyadic) ?_))
    exact ret_q rfl (.cons_ (rvW tk_Dyadic rfl) .nil_)
  ·
    obtain ⟨p, i0, h0, q0, r0⟩ := hl 0 (by omega)
    have sp := hs p (List.mem_of_getElem? h0)
    have lp := sp.l4
    have A0 := arg_cv t true y vals 0 q0 r0 ha hvl
    obtain ⟨q, i1, h1, q1, r1⟩ := hl 1 (by omega)
    have sq := hs q (List.mem_of_getElem? h1)
    have lq := sq.l4
    have A1 := arg_cv t true y vals 1 q1 r1 ha hvl
    have C := pdsub_cv p.1 p.2 q.1 q.2 sp.ok sq.ok lp lq
    have hb : tickV y l ps ins = dySum p.1 p.2 (-q.1) q.2 := by unfold tickV blkD; simp [h, h0, h1]
    rw [hb]
    repeat' (with_reducible first | apply qa | apply qb | apply qc | apply qd | apply qe | apply qf | apply qg | apply qh | apply qi | apply qj | apply qk | apply ql rfl | apply qm rfl | apply qn rfl | apply Je | (refine Tx 0 ?_; refine Jn xBo ?_; refine Jn xBo ?_; refine Jn xBo ?_; refine Jn (xAl tz_Dyadic) ?_) | (refine Tx 1 ?_; refine Jo (by first | exact xMf [(2, 0, none), (1, 0, none)] | exact ok_makeFunc rfl (by repeat' first | exact lrel_n rfl rfl | refine lrel_c rfl rfl rfl ?_)) ?_; refine Ja ?_) | (refine Tx 2 ?_; refine Jo (xFa tf_Block0 tk_int) ?_; refine Jo (xLd tk_int) ?_) | (refine Tx 3 ?_; refine Jo xEq ?_; refine Ja ?_) | (refine Tx 5 ?_; refine Jo xEq ?_; refine Ja ?_) | (refine Tx 7 ?_; refine Jo xEq ?_; refine Ja ?_) | (refine Tx 9 ?_; refine Jo xEq ?_; refine Ja ?_) | (refine Tx 10 ?_; refine Jm ?_; refine Jo (xCc Tryd.func49 A0 (args := [_]) rfl) ?_; refine Jm ?_; refine Jo (xCc Tryd.func49 A1 (args := [_]) rfl) ?_; refine Jo (xCl Tryd.func51 (C)) ?_; refine Js (xSk tk_Dyadic) ?_))
    exact ret_q rfl (.cons_ (rvW tk_Dyadic rfl) .nil_)
  ·
    obtain ⟨p, i0, h0, q0, r0⟩ := hl 0 (by omega)
    have sp := hs p (List.mem_of_getElem? h0)
    have lp := sp.l4
    have A0 := arg_cv t true y vals 0 q0 r0 ha hvl
    have C := pdneg_cv p.1 p.2 sp.ok lp
    have hb : tickV y l ps ins = (-p.1, p.2) := by unfold tickV blkD; simp [h, h0]
    rw [hb]
    repeat' (with_reducible first | apply qa | apply qb | apply qc | apply qd | apply qe | apply qf | apply qg | apply qh | apply qi | apply qj | apply qk | apply ql rfl | apply qm rfl | apply qn rfl | apply Je | (refine Tx 0 ?_; refine Jn xBo ?_; refine Jn xBo ?_; refine Jn xBo ?_; refine Jn (xAl tz_Dyadic) ?_) | (refine Tx 1 ?_; refine Jo (by first | exact xMf [(2, 0, none), (1, 0, none)] | exact ok_makeFunc rfl (by repeat' first | exact lrel_n rfl rfl | refine lrel_c rfl rfl rfl ?_)) ?_; refine Ja ?_) | (refine Tx 2 ?_; refine Jo (xFa tf_Block0 tk_int) ?_; refine Jo (xLd tk_int) ?_) | (refine Tx 3 ?_; refine Jo xEq ?_; refine Ja ?_) | (refine Tx 5 ?_; refine Jo xEq ?_; refine Ja ?_) | (refine Tx 7 ?_; refine Jo xEq ?_; refine Ja ?_) | (refine Tx 9 ?_; refine Jo xEq ?_; refine Ja ?_) | (refine Tx 11 ?_; refine Jo xEq ?_; refine Ja ?_) | (refine Tx 13 ?_; refine Jo xEq ?_; refine Ja ?_) | (refine Tx 14 ?_; refine Jm ?_; refine Jo (xCc Tryd.func49 A0 (args := [_]) rfl) ?_; refine Jo (xCl Tryd.func53 (C)) ?_; refine Js (xSk tk_Dyadic) ?_))
    exact ret_q rfl (.cons_ (rvW tk_Dyadic rfl) .nil_)
  ·
    obtain ⟨p, i0, h0, q0, r0⟩ := hl 0 (by omega)
    have sp := hs p (List.mem_of_getElem? h0)
    have lp := sp.l4
    have A0 := arg_cv t true y vals 0 q0 r0 ha hvl
    have hv := hsv (by omega)
    have RV := number_cv2 y.vn y.ve hv
    obtain ⟨v0, v1, e0, e1⟩ := hv
    have sv : Sm (dyShift y.vn 0 y.ve) (32 + 200) 200 := Sm.shift (by omega) (by omega) (by omega)
    have lv := Nat.le_trans (sv.len (by decide)) (show 50 ≤ 40000 by decide)
    have C := pmul_cv (dyShift y.vn 0 y.ve).1 (dyShift y.vn 0 y.ve).2 p.1 p.2 sv.ok sp.ok lv lp (by have := sv.d; have := sp.d; omega)
    have hb : tickV y l ps ins = dyMul (dyShift y.vn 0 y.ve).1 (dyShift y.vn 0 y.ve).2 p.1 p.2 := by unfold tickV blkD; simp [h, h0]
    rw [hb]
    repeat' (with_reducible first | apply qa | apply qb | apply qc | apply qd | apply qe | apply qf | apply qg | apply qh | apply qi | apply qj | apply qk | apply ql rfl | apply qm rfl | apply qn rfl | apply Je | (refine Tx 0 ?_; refine Jn xBo ?_; refine Jn xBo ?_; refine Jn xBo ?_; refine Jn (xAl tz_Dyadic) ?_) | (refine Tx 1 ?_; refine Jo (by first | exact xMf [(2, 0, none), (1, 0, none)] | exact ok_makeFunc rfl (by repeat' first | exact lrel_n rfl rfl | refine lrel_c rfl rfl rfl ?_)) ?_; refine Ja ?_) | (refine Tx 2 ?_; refine Jo (xFa tf_Block0 tk_int) ?_; refine Jo (xLd tk_int) ?_) | (refine Tx 3 ?_; refine Jo xEq ?_; refine Ja ?_) | (refine Tx 5 ?_; refine Jo xEq ?_; refine Ja ?_) | (refine Tx 7 ?_; refine Jo xEq ?_; refine Ja ?_) | (refine Tx 9 ?_; refine Jo xEq ?_; refine Ja ?_) | (refine Tx 11 ?_; refine Jo xEq ?_; refine Ja ?_) | (refine Tx 13 ?_; refine Jo xEq ?_; refine Ja ?_) | (refine Tx 15 ?_; refine Jo xEq ?_; refine Ja ?_) | (refine Tx 17 ?_; refine Jo xEq ?_; refine Ja ?_) | (refine Tx 18 ?_; refine Jo (xFa tf_Block2 tk_Scalar) ?_; refine Jo (xLa tk_Scalar) ?_; refine Jo (xCl Tryd.func23 (RV)) ?_; refine Jm ?_; refine Jo (xCc Tryd.func49 A0 (args := [_]) rfl) ?_; refine Jo (xCl Tryd.func52 (C)) ?_; refine Js (xSk tk_Dyadic) ?_))
    exact ret_q rfl (.cons_ (rvW tk_Dyadic rfl) .nil_)
  ·
    obtain ⟨p, i0, h0, q0, r0⟩ := hl 0 (by omega)
    have sp := hs p (List.mem_of_getElem? h0)
    have lp := sp.l4
    have A0 := arg_cv t true y vals 0 q0 r0 ha hvl
    obtain ⟨q, i1, h1, q1, r1⟩ := hl 1 (by omega)
    have sq := hs q (List.mem_of_getElem? h1)
    have lq := sq.l4
    have A1 := arg_cv t true y vals 1 q1 r1 ha hvl
    have C := pmul_cv p.1 p.2 q.1 q.2 sp.ok sq.ok lp lq (by have := sp.d; have := sq.d; omega)
    have hb : tickV y l ps ins = dyMul p.1 p.2 q.1 q.2 := by unfold tickV blkD; simp [h, h0, h1]
    rw [hb]
    repeat' (with_reducible first | apply qa | apply qb | apply qc | apply qd | apply qe | apply qf | apply qg | apply qh | apply qi | apply qj | apply qk | apply ql rfl | apply qm rfl | apply qn rfl | apply Je | (refine Tx 0 ?_; refine Jn xBo ?_; refine Jn xBo ?_; refine Jn xBo ?_; refine Jn (xAl tz_Dyadic) ?_) | (refine Tx 1 ?_; refine Jo (by first | exact xMf [(2, 0, none), (1, 0, none)] | exact ok_makeFunc rfl (by repeat' first | exact lrel_n rfl rfl | refine lrel_c rfl rfl rfl ?_)) ?_; refine Ja ?_) | (refine Tx 2 ?_; refine Jo (xFa tf_Block0 tk_int) ?_; refine Jo (xLd tk_int) ?_) | (refine Tx 3 ?_; refine Jo xEq ?_; refine Ja ?_) | (refine Tx 5 ?_; refine Jo xEq ?_; refine Ja ?_) | (refine Tx 7 ?_; refine Jo xEq ?_; refine Ja ?_) | (refine Tx 9 ?_; refine Jo xEq ?_; refine Ja ?_) | (refine Tx 11 ?_; refine Jo xEq ?_; refine Ja ?_) | (refine Tx 12 ?_; refine Jm ?_; refine Jo (xCc Tryd.func49 A0 (args := [_]) rfl) ?_; refine Jm ?_; refine Jo (xCc Tryd.func49 A1 (args := [_]) rfl) ?_; refine Jo (xCl Tryd.func52 (C)) ?_; refine Js (xSk tk_Dyadic) ?_))
    exact ret_q rfl (.cons_ (rvW tk_Dyadic rfl) .nil_)
  ·
    obtain ⟨p, i0, h0, q0, r0⟩ := hl 0 (by omega)
    have sp := hs p (List.mem_of_getElem? h0)
    have lp := sp.l4
    have A0 := arg_cv t true y vals 0 q0 r0 ha hvl
    obtain ⟨q, i1, h1, q1, r1⟩ := hl 1 (by omega)
    have sq := hs q (List.mem_of_getElem? h1)
    have lq := sq.l4
    have A1 := arg_cv t true y vals 1 q1 r1 ha hvl
    have C := pdmin_cv p.1 p.2 q.1 q.2 sp.ok sq.ok lp lq
    have hb : tickV y l ps ins = dyMin p.1 p.2 q.1 q.2 := by unfold tickV blkD; simp [h, h0, h1]
    rw [hb]
    repeat' (with_reducible first | apply qa | apply qb | apply qc | apply qd | apply qe | apply qf | apply qg | apply qh | apply qi | apply qj | apply qk | apply ql rfl | apply qm rfl | apply qn rfl | apply Je | (refine Tx 0 ?_; refine Jn xBo ?_; refine Jn xBo ?_; refine Jn xBo ?_; refine Jn (xAl tz_Dyadic) ?_) | (refine Tx 1 ?_; refine Jo (by first | exact xMf [(2, 0, none), (1, 0, none)] | exact ok_makeFunc rfl (by repeat' first | exact lrel_n rfl rfl | refine lrel_c rfl rfl rfl ?_)) ?_; refine Ja ?_) | (refine Tx 2 ?_; refine Jo (xFa tf_Block0 tk_int) ?_; refine Jo (xLd tk_int) ?_) | (refine Tx 3 ?_; refine Jo xEq ?_; refine Ja ?_) | (refine Tx 5 ?_; refine Jo xEq ?_; refine Ja ?_) | (refine Tx 7 ?_; refine Jo xEq ?_; refine Ja ?_) | (refine Tx 9 ?_; refine Jo xEq ?_; refine Ja ?_) | (refine Tx 11 ?_; refine Jo xEq ?_; refine Ja ?_) | (refine Tx 13 ?_; refine Jo xEq ?_; refine Ja ?_) | (refine Tx 15 ?_; refine Jo xEq ?_; refine Ja ?_) | (refine Tx 17 ?_; refine Jo xEq ?_; refine Ja ?_) | (refine Tx 19 ?_; refine Jo xEq ?_; refine Ja ?_) | (refine Tx 20 ?_; refine Jm ?_; refine Jo (xCc Tryd.func49 A0 (args := [_]) rfl) ?_; refine Jm ?_; refine Jo (xCc Tryd.func49 A1 (args := [_]) rfl) ?_; refine Jo (xCl Tryd.func55 (C)) ?_; refine Js (xSk tk_Dyadic) ?_))
    exact ret_q rfl (.cons_ (rvW tk_Dyadic rfl) .nil_)
  ·
    obtain ⟨p, i0, h0, q0, r0⟩ := hl 0 (by omega)
    have sp := hs p (List.mem_of_getElem? h0)
    have lp := sp.l4
    have A0 := arg_cv t true y vals 0 q0 r0 ha hvl
    obtain ⟨q, i1, h1, q1, r1⟩ := hl 1 (by omega)
    have sq := hs q (List.mem_of_getElem? h1)
    have lq := sq.l4
    have A1 := arg_cv t true y vals 1 q1 r1 ha hvl
    have C := pdmax_cv p.1 p.2 q.1 q.2 sp.ok sq.ok lp lq
    have hb : tickV y l ps ins = dyMax p.1 p.2 q.1 q.2 := by unfold tickV blkD; simp [h, h0, h1]
    rw [hb]
    repeat' (with_reducible first | apply qa | apply qb | apply qc | apply qd | apply qe | apply qf | apply qg | apply qh | apply qi | apply qj | apply qk | apply ql rfl | apply qm rfl | apply qn rfl | apply Je | (refine Tx 0 ?_; refine Jn xBo ?_; refine Jn xBo ?_; refine Jn xBo ?_; refine Jn (xAl tz_Dyadic) ?_) | (refine Tx 1 ?_; refine Jo (by first | exact xMf [(2, 0, none), (1, 0, none)] | exact ok_makeFunc rfl (by repeat' first | exact lrel_n rfl rfl | refine lrel_c rfl rfl rfl ?_)) ?_; refine Ja ?_) | (refine Tx 2 ?_; refine Jo (xFa tf_Block0 tk_int) ?_; refine Jo (xLd tk_int) ?_) | (refine Tx 3 ?_; refine Jo xEq ?_; refine Ja ?_) | (refine Tx 5 ?_; refine Jo xEq ?_; refine Ja ?_) | (refine Tx 7 ?_; refine Jo xEq ?_; refine Ja ?_) | (refine Tx 9 ?_; refine Jo xEq ?_; refine Ja ?_) | (refine Tx 11 ?_; refine Jo xEq ?_; refine Ja ?_) | (refine Tx 13 ?_; refine Jo xEq ?_; refine Ja ?_) | (refine Tx 15 ?_; refine Jo xEq ?_; refine Ja ?_) | (refine Tx 17 ?_; refine Jo xEq ?_; refine Ja ?_) | (refine Tx 19 ?_; refine Jo xEq ?_; refine Ja ?_) | (refine Tx 21 ?_; refine Jo xEq ?_; refine Ja ?_) | (refine Tx 22 ?_; refine Jm ?_; refine Jo (xCc Tryd.func49 A0 (args := [_]) rfl) ?_; refine Jm ?_; refine Jo (xCc Tryd.func49 A1 (args := [_]) rfl) ?_; refine Jo (xCl Tryd.func56 (C)) ?_; refine Js (xSk tk_Dyadic) ?_))
    exact ret_q rfl (.cons_ (rvW tk_Dyadic rfl) .nil_)
  ·
    obtain ⟨p, i0, h0, q0, r0⟩ := hl 0 (by omega)
    have sp := hs p (List.mem_of_getElem? h0)
    have lp := sp.l4
    have A0 := arg_cv t true y vals 0 q0 r0 ha hvl
    have C := pdabs_cv p.1 p.2 sp.ok lp
    have hb : tickV y l ps ins = (((p.1.natAbs : Nat) : Int), p.2) := by unfold tickV blkD; simp [h, h0]
    rw [hb]
    repeat' (with_reducible first | apply qa | apply qb | apply qc | apply qd | apply qe | apply qf | apply qg | apply qh | apply qi | apply qj | apply qk | apply ql rfl | apply qm rfl | apply qn rfl | apply Je | (refine Tx 0 ?_; refine Jn xBo ?_; refine Jn xBo ?_; refine Jn xBo ?_; refine Jn (xAl tz_Dyadic) ?_) | (refine Tx 1 ?_; refine Jo (by first | exact xMf [(2, 0, none), (1, 0, none)] | exact ok_makeFunc rfl (by repeat' first | exact lrel_n rfl rfl | refine lrel_c rfl rfl rfl ?_)) ?_; refine Ja ?_) | (refine Tx 2 ?_; refine Jo (xFa tf_Block0 tk_int) ?_; refine Jo (xLd tk_int) ?_) | (refine Tx 3 ?_; refine Jo xEq ?_; refine Ja ?_) | (refine Tx 5 ?_; refine Jo xEq ?_; refine Ja ?_) | (refine Tx 7 ?_; refine Jo xEq ?_; refine Ja ?_) | (refine Tx 9 ?_; refine Jo xEq ?_; refine Ja ?_) | (refine Tx 11 ?_; refine Jo xEq ?_; refine Ja ?_) | (refine Tx 13 ?_; refine Jo xEq ?_; refine Ja ?_) | (refine Tx 15 ?_; refine Jo xEq ?_; refine Ja ?_) | (refine Tx 16 ?_; refine Jm ?_; refine Jo (xCc Tryd.func49 A0 (args := [_]) rfl) ?_; refine Jo (xCl Tryd.func54 (C)) ?_; refine Js (xSk tk_Dyadic) ?_))
    exact ret_q rfl (.cons_ (rvW tk_Dyadic rfl) .nil_)
  ·
    obtain ⟨p, i0, h0, q0, r0⟩ := hl 0 (by omega)
    have sp := hs p (List.mem_of_getElem? h0)
    have lp := sp.l4
    have A0 := arg_cv t true y vals 0 q0 r0 ha hvl
    have hv := hsv (by omega)
    have RV := number_cv2 y.vn y.ve hv
    obtain ⟨v0, v1, e0, e1⟩ := hv
    have sv : Sm (dyShift y.vn 0 y.ve) (32 + 200) 200 := Sm.shift (by omega) (by omega) (by omega)
    have lv := Nat.le_trans (sv.len (by decide)) (show 50 ≤ 40000 by decide)
    have hu := hsu h
    have RU := number_cv2 y.un y.ue hu
    obtain ⟨u0, u1, d0, d1⟩ := hu
    have su : Sm (dyShift y.un 0 y.ue) (32 + 200) 200 := Sm.shift (by omega) (by omega) (by omega)
    have lu := Nat.le_trans (su.len (by decide)) (show 50 ≤ 40000 by decide)
    have sm : Sm (dyMin (dyShift y.un 0 y.ue).1 (dyShift y.un 0 y.ue).2 p.1 p.2) 20000 20000 := Sm.min (su.more (by decide) (by decide)) sp
    have lm := sm.l4
    have C := pdmin_cv (dyShift y.un 0 y.ue).1 (dyShift y.un 0 y.ue).2 p.1 p.2 su.ok sp.ok lu lp
    have C2 := pdmax_cv (dyShift y.vn 0 y.ve).1 (dyShift y.vn 0 y.ve).2 (dyMin (dyShift y.un 0 y.ue).1 (dyShift y.un 0 y.ue).2 p.1 p.2).1 (dyMin (dyShift y.un 0 y.ue).1 (dyShift y.un 0 y.ue).2 p.1 p.2).2 sv.ok sm.ok lv lm
    rw [clip_eq sp.ok sv.ok su.ok (hcl h)] at C2
    have hb : tickV y l ps ins = dyMin (dyMax p.1 p.2 (dyShift y.vn 0 y.ve).1 (dyShift y.vn 0 y.ve).2).1 (dyMax p.1 p.2 (dyShift y.vn 0 y.ve).1 (dyShift y.vn 0 y.ve).2).2 (dyShift y.un 0 y.ue).1 (dyShift y.un 0 y.ue).2 := by unfold tickV blkD; simp [h, h0]
    rw [hb]
    repeat' (with_reducible first | apply qa | apply qb | apply qc | apply qd | apply qe | apply qf | apply qg | apply qh | apply qi | apply qj | apply qk | apply ql rfl | apply qm rfl | apply qn rfl | apply Je | (refine Tx 0 ?_; refine Jn xBo ?_; refine Jn xBo ?_; refine Jn xBo ?_; refine Jn (xAl tz_Dyadic) ?_) | (refine Tx 1 ?_; refine Jo (by first | exact xMf [(2, 0, none), (1, 0, none)] | exact ok_makeFunc rfl (by repeat' first | exact lrel_n rfl rfl | refine lrel_c rfl rfl rfl ?_)) ?_; refine Ja ?_) | (refine Tx 2 ?_; refine Jo (xFa tf_Block0 tk_int) ?_; refine Jo (xLd tk_int) ?_) | (refine Tx 3 ?_; refine Jo xEq ?_; refine Ja ?_) | (refine Tx 5 ?_; refine Jo xEq ?_; refine Ja ?_) | (refine Tx 7 ?_; refine Jo xEq ?_; refine Ja ?_) | (refine Tx 9 ?_; refine Jo xEq ?_; refine Ja ?_) | (refine Tx 11 ?_; refine Jo xEq ?_; refine Ja ?_) | (refine Tx 13 ?_; refine Jo xEq ?_; refine Ja ?_) | (refine Tx 15 ?_; refine Jo xEq ?_; refine Ja ?_) | (refine Tx 17 ?_; refine Jo xEq ?_; refine Ja ?_) | (refine Tx 19 ?_; refine Jo xEq ?_; refine Ja ?_) | (refine Tx 21 ?_; refine Jo xEq ?_; refine Ja ?_) | (refine cw_part (id := 23) 10 mixed (by kernel_rfl) ?_; dsimp only [List.take, List.drop]; refine Ko (xFa tf_Block2 tk_Scalar) ?_; refine Ko (xLa tk_Scalar) ?_; refine Ko (by first | exact xCl Tryd.func23 (RV) | exact xCl Tryd.func23 (RU)) ?_; refine Ko (xFa tf_Block3 tk_Scalar) ?_; refine Ko (xLa tk_Scalar) ?_; refine Ko (by first | exact xCl Tryd.func23 (RV) | exact xCl Tryd.func23 (RU)) ?_; refine Km ?_; refine Ko (xCc Tryd.func49 A0 (args := [_]) rfl) ?_; refine Ko (xCl Tryd.func55 (C)) ?_; refine Ko (xCl Tryd.func56 (C2)) ?_; refine Ke ?_; refine Js (xSk tk_Dyadic) ?_))
    exact ret_q rfl (.cons_ (rvW tk_Dyadic rfl) .nil_)
theorem tb_tooLong : TyB Tryd.prog 79 [] [] := ⟨⟨_, Tryd.underlying79, by kernel_rfl⟩, by kernel_rfl, by kernel_rfl⟩
abbrev longP (p : Int × Nat) : Bool := longB p.1.natAbs p.2
def tlV : Value := .iface 79 (.agg #[])
def tlC : List PanicEntry := [{ v := tlV, recovered := false }]
def cV : Option (Int × Nat) → List C
  | none => [.d (.val (.bool false)), .d (.val (.slice none 0 0)), .d (.val (.int .i64 0))]
  | some p => (dDy false p.1 p.2).map C.d
def cVs (l : List (Option (Int × Nat))) : List C := (l.map cV).flatten
def gV (l : List (Option (Int × Nat))) : List (Int × Nat) := l.map (·.getD (0, 0))
theorem cV_len (o : Option (Int × Nat)) : (cV o).length = 3 := by cases o <;> rfl
theorem cVs_len (l : List (Option (Int × Nat))) : (cVs l).length = l.length * 3 := by
  induction l with
  | nil => rfl
  | cons o l ih =>
    have : (cVs (o :: l)).length = (cV o).length + (cVs l).length := by simp [cVs]
    rw [this, ih, cV_len, List.length_cons]; omega
theorem cVs_cons (o : Option (Int × Nat)) (l : List (Option (Int × Nat))) : cVs (o :: l) = cV o ++ cVs l := by simp [cVs]
theorem cVs_at : ∀ {l : List (Option (Int × Nat))} {i : Nat} {o : Option (Int × Nat)}, l[i]? = some o → ((cVs l).drop (i * 3)).take 3 = cV o
  | [], i, o, h => by simp at h
  | q :: l, 0, o, h => by
    simp only [List.getElem?_cons_zero, Option.some.injEq] at h
    subst h
    rw [cVs_cons, Nat.zero_mul, List.drop_zero, List.take_append_of_le_length (by rw [cV_len]; omega), List.take_of_length_le (by rw [cV_len]; omega)]
  | q :: l, i + 1, o, h => by
    simp only [List.getElem?_cons_succ] at h
    rw [cVs_cons, show (i + 1) * 3 = (cV q).length + i * 3 by rw [cV_len]; omega, ← List.drop_drop, List.drop_left]
    exact cVs_at h
theorem cVs_set : ∀ {l : List (Option (Int × Nat))} {i : Nat} (p : Int × Nat), i < l.length → (cVs l).take (i * 3) ++ (dDy false p.1 p.2).map C.d ++ (cVs l).drop (i * 3 + 3) = cVs (l.set i (some p))
  | [], i, p, h => by simp at h
  | q :: l, 0, p, h => by
    rw [cVs_cons, Nat.zero_mul, List.take_zero, List.nil_append, Nat.zero_add, List.set_cons_zero, cVs_cons, show (3 : Nat) = (cV q).length from (cV_len q).symm, List.drop_left]
    rfl
  | q :: l, i + 1, p, h => by
    have ih := cVs_set (l := l) (i := i) p (by simpa using h)
    rw [cVs_cons, List.set_cons_succ, cVs_cons, ← ih, show (i + 1) * 3 + 3 = (cV q).length + (i * 3 + 3) by rw [cV_len]; omega, ← List.drop_drop, List.drop_left, show (i + 1) * 3 = (cV q).length + i * 3 by rw [cV_len]; omega, List.take_length_add_append]
    simp
theorem cVs_new (n : Nat) : valsC (madeCells (Value.agg #[.bool false, .slice none 0 0, .int .i64 0]).cells (n * 3)).toList = cVs (List.replicate n none) := by
  have h1 : ∀ a : Nat, (madeCells (Value.agg #[.bool false, .slice none 0 0, .int .i64 0]).cells a).toList = (List.range a).map (fun j => #[Value.bool false, .slice none 0 0, .int .i64 0][j % 3]!) := fun a => by
    unfold madeCells
    rw [Array.toList_map, Array.toList_range]
    rfl
  rw [h1]
  induction n with
  | zero => rfl
  | succ n ih =>
    rw [show (n + 1) * 3 = n * 3 + 1 + 1 + 1 by omega, List.range_succ, List.range_succ, List.range_succ, List.replicate_succ']
    simp only [List.map_append, valsC] at ih ⊢
    rw [ih]
    simp only [cVs, List.map_append, List.flatten_append, List.map_cons, List.map_nil, show n * 3 % 3 = 0 by omega, show (n * 3 + 1) % 3 = 1 by omega, show (n * 3 + 1 + 1) % 3 = 2 by omega, List.append_assoc]
    rfl
theorem bel_cVs {n : Nat} {l : List (Option (Int × Nat))} : ∀ c ∈ cVs l, C.bel n c := fun c hc => by
  obtain ⟨cs, hcs, hc⟩ := List.mem_flatten.1 hc
  obtain ⟨o, _, rfl⟩ := List.mem_map.1 hcs
  cases o with
  | none => simp [cV] at hc; rcases hc with rfl | rfl | rfl <;> trivial
  | some p => exact bel_D c hc
theorem dy_free (x : Int) (d : Nat) : ∀ u ∈ dDy false x d, DFree u := fun u hu => by
  simp only [dDy, List.mem_cons, List.not_mem_nil, or_false] at hu
  rcases hu with rfl | rfl | rfl
  · exact .val _
  · refine .row fun u hu => ?_
    obtain ⟨v, _, rfl⟩ := List.mem_map.1 hu
    exact .val _
  · exact .val _
theorem cV_exp {t : Bool} {H : List Ob} (o : Option (Int × Nat)) : LRel (CExp t H) (cV o) (dyP (o.getD (0, 0))) := by
  cases o with
  | none =>
    show LRel (CExp t H) _ (dDy false 0 0)
    have e : dDy false 0 0 = [.val (.bool false), .row false 1 0 [], .val (.int .i64 0)] := A.agg.inj dy_zero
    rw [e]
    exact .cons_ (.d fun _ => .val _) (.cons_ .nil (.cons_ (.d fun _ => .val _) .nil_))
  | some p => exact LRel.map_l.2 ⟨rfl, fun j a b ha hb => by
      have : (dDy false p.1 p.2)[j]? = some b := hb
      rw [ha] at this
      cases this
      exact .d fun _ => dy_free _ _ a (List.mem_of_getElem? ha)⟩
theorem cVs_exp {t : Bool} {H : List Ob} (l : List (Option (Int × Nat))) : LRel (CExp t H) (cVs l) (flatD dyP (gV l)) := by
  induction l with
  | nil => exact LRel.nil_
  | cons o l ih =>
    rw [cVs_cons]
    exact (cV_exp o).app ih
theorem gV_len (l : List (Option (Int × Nat))) : (gV l).length = l.length := List.length_map ..
theorem gV_at {l : List (Option (Int × Nat))} {i : Nat} {p : Int × Nat} (h : l[i]? = some (some p)) : (gV l)[i]? = some p := by
  unfold gV
  rw [List.getElem?_map, h]
  rfl
theorem cexp_oV {t : Bool} {H : List Ob} {id ty n : Nat} {c : C} {y : D} {l : List (Option (Int × Nat))} (hc : c = .own id n) (hH : H[id]? = some (.row ty 3 n (cVs l))) (hy : y = .row t 3 n (flatD dyP (gV l))) : CExp t H c y := cexp_o hc hH hy (cVs_exp l)
theorem cexp_oD {t : Bool} {H : List Ob} {id ty n : Nat} {c : C} {y : D} {l : List (Int × Nat)} (hc : c = .own id n) (hH : H[id]? = some (.row ty 3 n ((flatD dyP l).map C.d))) (hy : y = .row t 3 n (flatD dyP l)) : CExp t H c y :=
  cexp_o hc hH hy (LRel.map_l.2 ⟨rfl, fun j a b ha hb => by
    rw [ha] at hb
    cases hb
    exact .d fun _ => flatD_free (f := dyP) (fun p => dy_free _ _) l a (List.mem_of_getElem? ha)⟩)
section
variable {P : Program} {G : World → Prop} {o : Oper} {F : Frm} {H : List Ob}
theorem ok_makeV {t e : TypeId} {x y : Operand} {by_ n : Nat} {k k' : IntKind} (ho : o.op = .makeSlice t x y) (hx : F.ev x = .one (.d (.val (.int k (n : Int))))) (hy : F.ev y = .one (.d (.val (.int k' (n : Int))))) (ht : TyS P t e 3) (hz : TyZ P e (.agg #[.bool false, .slice none 0 0, .int .i64 0]) 3 by_) (hn : n ≤ 1000000) (hby : by_ ≤ 1000) :
    OpOk P G o F H (.one (.own H.length n)) [.row e 3 n (cVs (List.replicate n none))] := by
  have := ok_makeSlice (P := P) (G := G) (H := H) ho hx hy ht hz hn hby
  rwa [cVs_new] at this
theorem ok_ldV {t ty : TypeId} {x : Operand} {id n i : Nat} {l : List (Option (Int × Nat))} {p : Int × Nat} (ho : o.op = .load t x) (hx : F.ev x = .one (.ref id (i * 3) (some n))) (hH : H[id]? = some (.row ty 3 n (cVs l))) (hp : l[i]? = some (some p)) (hk : TyK P t true 3) : OpOk P G o F H (.agg ((dDy false p.1 p.2).map C.d)) [] :=
  ok_loadA ho hx (.row hH) hk (cVs_at hp) rfl
theorem to_stV {t ty : TypeId} {x y : Operand} {id n i : Nat} {l l' : List (Option (Int × Nat))} {p : Int × Nat} (ho : o.op = .store t x y) (hx : F.ev x = .one (.ref id (i * 3) (some n))) (hH : H[id]? = some (.row ty 3 n (cVs l))) (hy : F.ev y = .agg ((dDy false p.1 p.2).map C.d)) (hty : TyK P t true 3) (hi : i < l.length) (hl : l.set i (some p) = l') : TOk P G o F H .any (H.set id (.row ty 3 n (cVs l'))) := by
  have h3 : ((dDy false p.1 p.2).map C.d).length = 3 := rfl
  have := to_storeK (P := P) (G := G) ho hx hH rfl (show cellsC (F.ev y) = some ((dDy false p.1 p.2).map C.d) by rw [hy]; rfl) hty rfl (by rw [h3]; show i * 3 + 3 ≤ (cVs l).length; rw [cVs_len]; omega)
  rw [h3] at this
  simp only [Ob.cs, Ob.setC] at this
  rw [cVs_set p hi, hl] at this
  exact this
end
def LB : Nat := 4096
def LC : Nat := 9000
theorem lb_c : LB ≤ LC := by decide
theorem sm_of {p : Int × Nat} (hn : Nf p.1 p.2) (h : longP p = false) : Sm p LB LB := by
  have h1 : ¬ 4096 < max (bitsN p.1.natAbs) p.2 := of_decide_eq_false h
  exact ⟨hn, bitsN_le.1 (by unfold LB; omega), by unfold LB; omega⟩
def argsV (vs : List (Option (Int × Nat))) (y : Bk) : List (Int × Nat) := if y.kind = 0 then [] else y.args.map fun a => (vs[a.toNat]?.getD none).getD (0, 0)
def tkV (ps : List Prt) (bs : List Bk) (ins : List Int) (vs : List (Option (Int × Nat))) (i : Nat) : Int × Nat := match bs[i]? with
  | some y => tickV y (argsV vs y) ps ins
  | none => (0, 0)
def ordV (ps : List Prt) (bs : List Bk) (ins : List Int) (vs : List (Option (Int × Nat))) (l : List Nat) : List (Option (Int × Nat)) := l.foldl (fun v i => v.set i (some (tkV ps bs ins v i))) vs
def delV (dl : List Nat) (st : List (Int × Nat)) (vs : List (Option (Int × Nat))) : List (Option (Int × Nat)) := (dl.zip st).foldl (fun v p => v.set p.1 (some p.2)) vs
theorem ordV_len (ps : List Prt) (bs : List Bk) (ins : List Int) : ∀ (l : List Nat) (vs : List (Option (Int × Nat))), (ordV ps bs ins vs l).length = vs.length
  | [], vs => rfl
  | i :: l, vs => by show (ordV ps bs ins _ l).length = _; rw [ordV_len ps bs ins l]; simp
theorem delV_len : ∀ (dl : List Nat) (st : List (Int × Nat)) (vs : List (Option (Int × Nat))), (delV dl st vs).length = vs.length
  | [], st, vs => rfl
  | i :: dl, [], vs => rfl
  | i :: dl, x :: st, vs => by show (delV dl st _).length = _; rw [delV_len dl st]; simp
theorem ordV_next (ps : List Prt) (bs : List Bk) (ins : List Int) (vs : List (Option (Int × Nat))) {l : List Nat} {t j : Nat} (h : l[t]? = some j) : ordV ps bs ins vs (l.take (t + 1)) = (ordV ps bs ins vs (l.take t)).set j (some (tkV ps bs ins (ordV ps bs ins vs (l.take t)) j)) := by
  unfold ordV
  rw [List.take_add_one, h, Option.toList_some, List.foldl_append]
  rfl
theorem delV_next (vs : List (Option (Int × Nat))) {dl : List Nat} {st : List (Int × Nat)} {t j : Nat} {p : Int × Nat} (h : dl[t]? = some j) (h2 : st[t]? = some p) : delV (dl.take (t + 1)) (st.take (t + 1)) vs = (delV (dl.take t) (st.take t) vs).set j (some p) := by
  have l1 := (List.getElem?_eq_some_iff.1 h).1
  have l2 := (List.getElem?_eq_some_iff.1 h2).1
  unfold delV
  rw [List.take_add_one, List.take_add_one, h, h2, Option.toList_some, Option.toList_some, List.zip_append (by simp; omega), List.foldl_append]
  rfl
def valS (ps : List Prt) (bs : List Bk) (st : List (Int × Nat)) (ins : List Int) (t : Nat) : List (Option (Int × Nat)) := ordV ps bs ins (delV (delL bs) st (List.replicate bs.length none)) ((ordM bs).take t)
def valN (ps : List Prt) (bs : List Bk) (st : List (Int × Nat)) (ins : List Int) (t : Nat) : Int × Nat := tkV ps bs ins (valS ps bs st ins t) ((ordM bs)[t]?.getD 0)
def stepBad (ps : List Prt) (bs : List Bk) (st : List (Int × Nat)) (ins : List Int) : Bool := st.any longP || (List.range (ordM bs).length).any fun t => longP (valN ps bs st ins t)
def valE (ps : List Prt) (bs : List Bk) (st : List (Int × Nat)) (ins : List Int) : List (Int × Nat) := gV (valS ps bs st ins (ordM bs).length)
def argZ (bs : List Bk) (i : Nat) : Nat := (((bs[i]?.map Bk.args).getD [])[0]?.getD 0).toNat
def nextE (ps : List Prt) (bs : List Bk) (st : List (Int × Nat)) (ins : List Int) : List (Int × Nat) := (delL bs).map fun i => ((valE ps bs st ins)[argZ bs i]?).getD (0, 0)
theorem valS_len (ps : List Prt) (bs : List Bk) (st : List (Int × Nat)) (ins : List Int) (t : Nat) : (valS ps bs st ins t).length = bs.length := by unfold valS; rw [ordV_len, delV_len, List.length_replicate]
theorem valS_next {ps : List Prt} {bs : List Bk} {st : List (Int × Nat)} {ins : List Int} {t j : Nat} (h : (ordM bs)[t]? = some j) : valS ps bs st ins (t + 1) = (valS ps bs st ins t).set j (some (valN ps bs st ins t)) := by
  unfold valN
  rw [h]
  exact ordV_next ps bs ins _ h
theorem valS_0 (ps : List Prt) (bs : List Bk) (st : List (Int × Nat)) (ins : List Int) : valS ps bs st ins 0 = delV (delL bs) st (List.replicate bs.length none) := rfl
structure Has (vs : List (Option (Int × Nat))) (D : Nat → Prop) : Prop where
  at_ : ∀ i, D i → ∃ p, vs[i]? = some (some p) ∧ Sm p LB LB
theorem Has.set {vs : List (Option (Int × Nat))} {D D' : Nat → Prop} (h : Has vs D) {j : Nat} {p : Int × Nat} (hj : j < vs.length) (hp : Sm p LB LB) (hD : ∀ i, D' i → D i ∨ i = j) : Has (vs.set j (some p)) D' := ⟨fun i hi => by
  rw [List.getElem?_set]
  by_cases hij : j = i
  · rw [if_pos hij, if_pos hj]
    exact ⟨p, rfl, hp⟩
  · rw [if_neg hij]
    rcases hD i hi with h1 | h1
    · exact h.at_ i h1
    · exact absurd h1.symm hij⟩
theorem Sm.zero (n d : Nat) : Sm (0, 0) n d := ⟨⟨by decide, fun h => absurd rfl h⟩, Nat.two_pow_pos n, Nat.zero_le d⟩
theorem getD_sm {l : List (Int × Nat)} {n d : Nat} (h : ∀ p ∈ l, Sm p n d) (k : Nat) : Sm (l[k]?.getD (0, 0)) n d := by
  cases hk : l[k]? with
  | none => exact Sm.zero n d
  | some p => exact h p (List.mem_of_getElem? hk)
theorem blk_sm {y : Bk} {l : List (Int × Nat)} (hl : ∀ p ∈ l, Sm p LB LB) (hv : (y.kind = 1 ∨ y.kind = 6 ∨ y.kind = 11) → scOk y.vn y.ve) (hu : y.kind = 11 → scOk y.un y.ue) (hk : y.kind = 1 ∨ y.kind = 3 ∨ y.kind = 4 ∨ y.kind = 5 ∨ y.kind = 6 ∨ y.kind = 7 ∨ y.kind = 8 ∨ y.kind = 9 ∨ y.kind = 10 ∨ y.kind = 11) : Sm (blkD y l) LC LC := by
  have a := getD_sm hl 0
  have b := getD_sm hl 1
  have sc : ∀ {n e : Int}, scOk n e → Sm (dyShift n 0 e) LB LB := fun h => by
    obtain ⟨h1, h2, h3, h4⟩ := h
    exact (Sm.shift (n := 32) (by omega) (by omega) (by omega)).more (by decide) (by decide)
  have up : ∀ {r : Int × Nat}, Sm r LB LB → Sm r LC LC := fun h => h.more (by decide) (by decide)
  unfold blkD
  generalize l[0]?.getD (0, 0) = p at a ⊢
  generalize l[1]?.getD (0, 0) = q at b ⊢
  rcases hk with h | h | h | h | h | h | h | h | h | h <;> simp only [h, Int.reduceEq, if_true, if_false, reduceIte]
  · exact up (sc (hv (.inl h)))
  · exact (Sm.sum a b (by decide : LB ≤ 65536)).more (by decide : LB + LB + 1 ≤ LC) lb_c
  · exact (Sm.sum a b.neg (by decide : LB ≤ 65536)).more (by decide : LB + LB + 1 ≤ LC) lb_c
  · exact up a.neg
  · exact (Sm.mul (sc (hv (.inr (.inl h)))) a (by decide : LB ≤ 30000)).more (by decide : LB + LB ≤ LC) (by decide : LB + LB ≤ LC)
  · exact (Sm.mul a b (by decide : LB ≤ 30000)).more (by decide : LB + LB ≤ LC) (by decide : LB + LB ≤ LC)
  · exact up (Sm.min a b)
  · exact up (Sm.max a b)
  · exact up a.abs
  · exact up (Sm.min (Sm.max a (sc (hv (.inr (.inr h))))) (sc (hu h)))
theorem acc_clip {ps : List Prt} {bs : List Bk} {os : List Int} (h : dgErr ps bs os = 0) {i : Nat} {y : Bk} (hy : bs[i]? = some y) (hk : y.kind = 11) : scOk y.vn y.ve ∧ scOk y.un y.ue ∧ dyCmp (dyShift y.vn 0 y.ve).1 (dyShift y.vn 0 y.ve).2 (dyShift y.un 0 y.ue).1 (dyShift y.un 0 y.ue).2 ≤ 0 := by
  have h1 := acc_blk h hy
  have ha := acc_args h hy
  have hv := acc_sc h hy (by unfold valU; rw [hk]; rfl)
  unfold blkErr at h1
  rw [if_neg (by omega), if_neg (not_not_intro ha.2.1)] at h1
  by_cases h3 : firstErr (y.args.map (outE (mostM ps.length bs.length y.kind))) = 0
  · rw [if_neg (not_not_intro h3)] at h1
    by_cases h4 : scalE y.vn y.ve (valU y.kind) = 0
    · rw [if_neg (not_not_intro h4)] at h1
      by_cases h5 : scalE y.un y.ue (clipU y.kind) = 0
      · rw [if_neg (not_not_intro h5)] at h1
        have hc : clipU y.kind = true := by unfold clipU; rw [hk]; rfl
        rw [hc] at h5
        have hu := scOk_of h5
        refine ⟨hv, hu, ?_⟩
        rw [cmp_sgn (sc62_shift hv.2.2.1 hv.2.2.2) (sc62_shift hu.2.2.1 hu.2.2.2)]
        by_cases h6 : 0 < scCmp y.vn y.ve y.un y.ue
        · rw [if_pos ⟨hc, h6⟩] at h1; cases h1
        · exact Int.not_lt.1 h6
      · rw [if_pos h5] at h1; exact absurd h1 h5
    · rw [if_pos h4] at h1; exact absurd h1 h4
  · rw [if_pos h3] at h1; cases h1
theorem acc_kind {ps : List Prt} {bs : List Bk} {os : List Int} (h : dgErr ps bs os = 0) {i : Nat} {y : Bk} (hy : bs[i]? = some y) : y.kind = 0 ∨ y.kind = 1 ∨ y.kind = 2 ∨ y.kind = 3 ∨ y.kind = 4 ∨ y.kind = 5 ∨ y.kind = 6 ∨ y.kind = 7 ∨ y.kind = 8 ∨ y.kind = 9 ∨ y.kind = 10 ∨ y.kind = 11 := by
  have := (acc_args h hy).1
  unfold arityM at this
  (repeat' split at this) <;> omega
theorem kind_at {bs : List Bk} {i : Nat} {y : Bk} (h : bs[i]? = some y) : kindAt bs i = y.kind := by unfold kindAt; rw [h]; rfl
theorem preds_at {bs : List Bk} {i : Nat} {y : Bk} (h : bs[i]? = some y) (h0 : y.kind ≠ 0) : preds bs i = y.args := by
  unfold preds argsAt
  rw [kind_at h, if_neg h0, h]
  rfl
def rngB (ps : List Prt) (ins : List Int) (i : Nat) : Bool := match ps[i]?, ins[i]? with
  | some p, some z => decide (p.lo ≤ z ∧ z ≤ p.hi)
  | _, _ => true
def inOk (ps : List Prt) (ins : List Int) : Bool := (List.range ins.length).all (rngB ps ins)
theorem rng_at {ps : List Prt} {ins : List Int} (h : inOk ps ins = true) {i : Nat} {p : Prt} {z : Int} (hp : ps[i]? = some p) (hz : ins[i]? = some z) : p.lo ≤ z ∧ z ≤ p.hi := by
  have := List.all_eq_true.1 h i (List.mem_range.2 (List.getElem?_eq_some_iff.1 hz).1)
  unfold rngB at this
  rw [hp, hz] at this
  exact of_decide_eq_true this
def stdS (bs : List Bk) (t : Nat) (i : Nat) : Prop := (i < bs.length ∧ kindAt bs i = 2) ∨ i ∈ (ordM bs).take t
structure Tick (ps : List Prt) (bs : List Bk) (ins : List Int) (vs : List (Option (Int × Nat))) (y : Bk) : Prop where
  hk : y.kind = 0 ∨ y.kind = 1 ∨ y.kind = 3 ∨ y.kind = 4 ∨ y.kind = 5 ∨ y.kind = 6 ∨ y.kind = 7 ∨ y.kind = 8 ∨ y.kind = 9 ∨ y.kind = 10 ∨ y.kind = 11
  args : y.kind ≠ 0 → ∀ (k : Nat) (a : Int), y.args[k]? = some a → ∃ p, 0 ≤ a ∧ a.toNat < bs.length ∧ vs[a.toNat]? = some (some p) ∧ (argsV vs y)[k]? = some p
  len : y.args.length ≤ 2
  hl : ∀ k : Nat, (k = 0 ∧ y.kind ≠ 0 ∧ y.kind ≠ 1 ∨ k = 1 ∧ (y.kind = 3 ∨ y.kind = 4 ∨ y.kind = 7 ∨ y.kind = 8 ∨ y.kind = 9)) → ∃ p i, (argsV vs y)[k]? = some p ∧ y.args[k]? = some ((i : Nat) : Int) ∧ (gV vs)[i]? = some p
  hs : ∀ p ∈ argsV vs y, Sm p LB LB
  hin : y.kind = 0 → ∃ (i : Nat) (z : Int) (pp : Prt), y.args[0]? = some (i : Int) ∧ ins[i]? = some z ∧ ps[i]? = some pp ∧ -9223372036854775808 ≤ z ∧ z < 9223372036854775808 ∧ -100 ≤ pp.fr ∧ pp.fr ≤ 100
  hsv : (y.kind = 1 ∨ y.kind = 6 ∨ y.kind = 11) → scOk y.vn y.ve
  hsu : y.kind = 11 → scOk y.un y.ue
  hcl : y.kind = 11 → dyCmp (dyShift y.vn 0 y.ve).1 (dyShift y.vn 0 y.ve).2 (dyShift y.un 0 y.ue).1 (dyShift y.un 0 y.ue).2 ≤ 0
  sm : Sm (tickV y (argsV vs y) ps ins) LC LC
theorem tick_of2 {ps : List Prt} {bs : List Bk} {os : List Int} (he : dgErr ps bs os = 0) {ins : List Int} (hi : inOk ps ins = true) (hil : ins.length = ps.length) {vs : List (Option (Int × Nat))} {j : Nat} {y : Bk} (hy : bs[j]? = some y) (hk2 : y.kind ≠ 2) (hv : y.kind ≠ 0 → ∀ a ∈ y.args, 0 ≤ a → a < (bs.length : Int) → ∃ p, vs[a.toNat]? = some (some p) ∧ Sm p LB LB) : Tick ps bs ins vs y := by
  have hK := acc_kind he hy
  have hA := acc_args he hy
  have hlen : y.args.length ≤ 2 := by
    have h1 := hA.1
    have h2 := hA.2.1
    unfold arityM at h1 h2
    (repeat' split at h2) <;> omega
  have args : y.kind ≠ 0 → ∀ (k : Nat) (a : Int), y.args[k]? = some a → ∃ p, 0 ≤ a ∧ a.toNat < bs.length ∧ vs[a.toNat]? = some (some p) ∧ (argsV vs y)[k]? = some p ∧ Sm p LB LB := fun h0 k a ha => by
    have hm := List.mem_of_getElem? ha
    have hb := hA.2.2 a hm
    rw [show mostM ps.length bs.length y.kind = bs.length from if_neg h0] at hb
    obtain ⟨p, hp, hsm⟩ := hv h0 a hm hb.1 hb.2
    exact ⟨p, hb.1, by omega, hp, by unfold argsV; rw [if_neg h0, List.getElem?_map, ha, Option.map_some, hp]; rfl, hsm⟩
  have hs : y.kind ≠ 0 → ∀ p ∈ argsV vs y, Sm p LB LB := fun h0 p hp => by
    obtain ⟨k, hk⟩ := List.mem_iff_getElem?.1 hp
    have hk' := hk
    unfold argsV at hk'
    rw [if_neg h0, List.getElem?_map, Option.map_eq_some_iff] at hk'
    obtain ⟨a, ha, _⟩ := hk'
    obtain ⟨q, _, _, _, h4, h5⟩ := args h0 k a ha
    rw [hk] at h4
    cases h4
    exact h5
  have hin : y.kind = 0 → ∃ (i : Nat) (z : Int) (pp : Prt), y.args[0]? = some (i : Int) ∧ ins[i]? = some z ∧ ps[i]? = some pp ∧ -9223372036854775808 ≤ z ∧ z < 9223372036854775808 ∧ -100 ≤ pp.fr ∧ pp.fr ≤ 100 := fun h0 => by
    have h1 := hA.2.1
    rw [h0] at h1
    have hl1 : y.args.length = 1 := by unfold arityM at h1; (repeat' split at h1) <;> omega
    obtain ⟨a, ha⟩ : ∃ a, y.args[0]? = some a := ⟨_, List.getElem?_eq_getElem (by omega)⟩
    have hb := hA.2.2 a (List.mem_of_getElem? ha)
    rw [show mostM ps.length bs.length y.kind = ps.length from if_pos h0] at hb
    obtain ⟨z, hz⟩ : ∃ z, ins[a.toNat]? = some z := ⟨_, List.getElem?_eq_getElem (by omega)⟩
    obtain ⟨p, hp⟩ : ∃ p, ps[a.toNat]? = some p := ⟨_, List.getElem?_eq_getElem (by omega)⟩
    have hr := rng_at hi hp hz
    have hpp := acc_port he hp
    have h3 : -2147483648 ≤ p.lo ∧ p.lo ≤ p.hi ∧ p.hi < 2147483648 ∧ 0 ≤ p.fr ∧ p.fr ≤ 30 := Classical.byContradiction fun hn => by unfold portE at hpp; rw [if_neg hn] at hpp; cases hpp
    exact ⟨a.toNat, z, p, by rw [ha]; congr 1; omega, hz, hp, by omega, by omega, by omega, by omega⟩
  have hsv : (y.kind = 1 ∨ y.kind = 6 ∨ y.kind = 11) → scOk y.vn y.ve := fun h => acc_sc he hy (by unfold valU; rcases h with h | h | h <;> rw [h] <;> rfl)
  have hsu : y.kind = 11 → scOk y.un y.ue := fun h => (acc_clip he hy h).2.1
  have h0s : y.kind = 0 → ∀ p ∈ ([] : List (Int × Nat)), Sm p LB LB := fun _ p hp => by cases hp
  have hk3 : y.kind = 0 ∨ y.kind = 1 ∨ y.kind = 3 ∨ y.kind = 4 ∨ y.kind = 5 ∨ y.kind = 6 ∨ y.kind = 7 ∨ y.kind = 8 ∨ y.kind = 9 ∨ y.kind = 10 ∨ y.kind = 11 := by clear hin args hs; omega
  refine ⟨hk3, fun h0 k a ha => ?_, hlen, fun k hk => ?_, ?_, hin, hsv, hsu, fun h => (acc_clip he hy h).2.2, ?_⟩
  · obtain ⟨p, h1, h2, h3, h4, _⟩ := args h0 k a ha
    exact ⟨p, h1, h2, h3, h4⟩
  · have h0 : y.kind ≠ 0 := by omega
    have hkl : k < y.args.length := by
      have h1 := hA.2.1
      unfold arityM at h1
      (repeat' split at h1) <;> omega
    obtain ⟨a, ha⟩ : ∃ a, y.args[k]? = some a := ⟨_, List.getElem?_eq_getElem hkl⟩
    obtain ⟨p, h1, h2, h3, h4, _⟩ := args h0 k a ha
    exact ⟨p, a.toNat, h4, by rw [ha]; congr 1; omega, gV_at h3⟩
  · by_cases h0 : y.kind = 0
    · unfold argsV; rw [if_pos h0]; exact h0s h0
    · exact hs h0
  · unfold tickV
    by_cases h0 : y.kind = 0
    · rw [if_pos h0]
      obtain ⟨i, z, pp, q1, q2, q3, q4, q5, q6, q7⟩ := hin h0
      rw [q1]
      simp only [Option.getD_some, Int.toNat_natCast, q2, q3, Option.map_some]
      exact (Sm.shift (n := 64) (by omega) (by omega) (by omega)).more (by decide) (by decide)
    · rw [if_neg h0]
      exact blk_sm (hs h0) hsv hsu (by clear hin args hs; omega)
theorem tick_of {ps : List Prt} {bs : List Bk} {os : List Int} (he : dgErr ps bs os = 0) {ins : List Int} (hi : inOk ps ins = true) (hil : ins.length = ps.length) {vs : List (Option (Int × Nat))} {t j : Nat} (hj : (ordM bs)[t]? = some j) (hv : Has vs (stdS bs t)) : ∃ y, bs[j]? = some y ∧ y.kind ≠ 2 ∧ Tick ps bs ins vs y := by
  obtain ⟨hjl, hk2⟩ := ord_at hj
  obtain ⟨y, hy⟩ : ∃ y, bs[j]? = some y := ⟨_, List.getElem?_eq_getElem hjl⟩
  rw [kind_at hy] at hk2
  refine ⟨y, hy, hk2, tick_of2 he hi hil hy hk2 fun h0 a ha a0 a1 => ?_⟩
  have hsplit : ordM bs = (ordM bs).take t ++ j :: (ordM bs).drop (t + 1) := by
    obtain ⟨hlt, he⟩ := List.getElem?_eq_some_iff.1 hj
    rw [← he, ← List.drop_eq_getElem_cons hlt, List.take_append_drop]
  have hd := ord_done hsplit (a := a) (by rw [preds_at hy h0]; exact ha)
  exact hv.at_ a.toNat (hd.imp (fun h => ⟨by omega, h⟩) id)
theorem pbrief_cv (p : Int × Nat) (hn : Nf p.1 p.2) (lp : (canon p.1.natAbs).length ≤ 40000) (h : longP p = false) : CV Tryd.prog TabAt 31 [aDy false p.1 p.2] [aDy false p.1 p.2] := by
  refine cvz Tryd.func31 Tryd.ntmps31 ?_
  have BT := pbits_cv p.1 p.2 hn lp
  have hm : max ((bitsN p.1.natAbs : Nat) : Int) (p.2 : Int) = ((max (bitsN p.1.natAbs) p.2 : Nat) : Int) := by omega
  have hl : ¬ 4096 < max (bitsN p.1.natAbs) p.2 := of_decide_eq_false h
  repeat' (with_reducible first | apply qa | apply qb | apply qc | apply qd | apply qe | apply qf | apply qg | apply qh | apply qi | apply qj | apply qk | apply ql rfl | apply qm rfl | apply qn rfl | apply Je | (refine Tx 0 ?_; refine Jn xBo ?_; refine Jn (xAl tz_Dyadic) ?_) | (refine cw_any (id := 1) mixed (by kernel_rfl) ?_; refine Ko (xLa tk_Dyadic) ?_; refine Ko (xCl Tryd.func48 (BT)) ?_; refine Ko (xFa tf_Dyadic2 tk_int) ?_; refine Ko (xLd tk_int) ?_; refine Ko (by first | exact ok_maxR rfl rfl rfl hm | exact ok_max2 rfl rfl rfl) ?_; refine Ko xGt ?_; refine Ke ?_) | (refine Tx 3 ?_; refine Jo (xLa tk_Dyadic) ?_; refine Js (xSk tk_Dyadic) ?_))
  exact ret_q rfl (.cons_ (rvW tk_Dyadic rfl) .nil_)
theorem pbrief_pan (p : Int × Nat) (hn : Nf p.1 p.2) (lp : (canon p.1.natAbs).length ≤ 40000) (h : longP p = true) : CVP Tryd.prog TabAt 31 [aDy false p.1 p.2] tlC := by
  refine cvp_of tab_G Tryd.func31 rfl Tryd.ntmps31 (Nat.le_of_ble_eq_true rfl) ?_
  have BT := pbits_cv p.1 p.2 hn lp
  have hm : max ((bitsN p.1.natAbs : Nat) : Int) (p.2 : Int) = ((max (bitsN p.1.natAbs) p.2 : Nat) : Int) := by omega
  have hl : 4096 < max (bitsN p.1.natAbs) p.2 := of_decide_eq_true h
  repeat' (with_reducible first | (refine cw_tpanic (id := 2) (chain := tlC) 2 (by kernel_rfl) (by with_unfolding_all exact rfl) (by with_unfolding_all exact rfl) ?_; dsimp only [List.take]; refine Jo (by exact ok_build rfl tb_tooLong rfl rfl) ?_; refine Jo (by exact ok_mkIface0 rfl rfl Tryd.underlying79 rfl) ?_; refine Je ?_; exact ⟨by with_unfolding_all exact pn_panic rfl rfl, by with_unfolding_all exact rfl⟩) | apply qa | apply qb | apply qc | apply qd | apply qe | apply qf | apply qg | apply qh | apply qi | apply qj | apply qk | apply ql rfl | apply qm rfl | apply qn rfl | apply Je | (refine Tx 0 ?_; refine Jn xBo ?_; refine Jn (xAl tz_Dyadic) ?_) | (refine cw_any (id := 1) mixed (by kernel_rfl) ?_; refine Ko (xLa tk_Dyadic) ?_; refine Ko (xCl Tryd.func48 (BT)) ?_; refine Ko (xFa tf_Dyadic2 tk_int) ?_; refine Ko (xLd tk_int) ?_; refine Ko (by first | exact ok_maxR rfl rfl rfl hm | exact ok_max2 rfl rfl rfl) ?_; refine Ko xGt ?_; refine Ke ?_))
theorem natI_at {l : List Nat} {t j : Nat} (h : l[t]? = some j) : (natI l)[t]? = some (j : Int) := by simp [natI, h]
def okQ {α : Type} (e : Int) (l : List α) : List α := if e = 0 then l else []
theorem okQ_n {α : Type} {e : Int} (h : e ≠ 0) (l : List α) : okQ e l = [] := if_neg h
theorem okQ_z {α : Type} {e : Int} (h : e = 0) (l : List α) : okQ e l = l := if_pos h
def aDys (l : List (Int × Nat)) : A := .one (.row false 3 l.length (flatD dyP l))
def rvP (r : Rv) : Int × Nat := (r.rw.x, r.rw.d)
def rowR (rs : List Rv) : D := .row false 3 rs.length (flatD (dRv false) rs)
theorem rv_at {rs : List Rv} {k : Nat} {r : Rv} (h : rs[k]? = some r) : ((flatD (dRv false) rs).drop (k * 3)).take 3 = dRv false r := flatD_at (f := dRv false) (s := 3) (fun _ => rfl) h
def stE (ps : List Prt) (bs : List Bk) (os : List Int) (rs : List Rv) (ins : List Int) : Int :=
  if dgErr ps bs os ≠ 0 then dgErr ps bs os else if rs.length ≠ (delL bs).length then 11 else if rs.all (fun r => vdB r.rw) = false then 2
  else if ins.length ≠ ps.length then 11 else if inOk ps ins = false then 3 else if stepBad ps bs (rs.map rvP) ins = true then 4 else 0
section
variable {ps : List Prt} {bs : List Bk} {os : List Int} {rs : List Rv} {ins : List Int}
theorem stE1 (h : dgErr ps bs os ≠ 0) : stE ps bs os rs ins = dgErr ps bs os := by unfold stE; rw [if_pos h]
theorem stE2 (h : dgErr ps bs os = 0) (h2 : rs.length ≠ (delL bs).length) : stE ps bs os rs ins = 11 := by unfold stE; rw [if_neg (not_not_intro h), if_pos h2]
theorem stE3 (h : dgErr ps bs os = 0) (h2 : rs.length = (delL bs).length) (h3 : rs.all (fun r => vdB r.rw) = false) : stE ps bs os rs ins = 2 := by unfold stE; rw [if_neg (not_not_intro h), if_neg (not_not_intro h2), if_pos h3]
theorem stE4 (h : dgErr ps bs os = 0) (h2 : rs.length = (delL bs).length) (h3 : ¬ rs.all (fun r => vdB r.rw) = false) (h4 : ins.length ≠ ps.length) : stE ps bs os rs ins = 11 := by unfold stE; rw [if_neg (not_not_intro h), if_neg (not_not_intro h2), if_neg h3, if_pos h4]
theorem stE5 (h : dgErr ps bs os = 0) (h2 : rs.length = (delL bs).length) (h3 : ¬ rs.all (fun r => vdB r.rw) = false) (h4 : ins.length = ps.length) (h5 : inOk ps ins = false) : stE ps bs os rs ins = 3 := by unfold stE; rw [if_neg (not_not_intro h), if_neg (not_not_intro h2), if_neg h3, if_neg (not_not_intro h4), if_pos h5]
theorem stE6 (h : dgErr ps bs os = 0) (h2 : rs.length = (delL bs).length) (h3 : ¬ rs.all (fun r => vdB r.rw) = false) (h4 : ins.length = ps.length) (h5 : ¬ inOk ps ins = false) : stE ps bs os rs ins = if stepBad ps bs (rs.map rvP) ins = true then 4 else 0 := by unfold stE; rw [if_neg (not_not_intro h), if_neg (not_not_intro h2), if_neg h3, if_neg (not_not_intro h4), if_neg h5]
end
theorem take_all1 {α : Type} {p : α → Prop} {l : List α} {k : Nat} {x : α} (h : ∀ q ∈ l.take k, p q) (hx : l[k]? = some x) (hp : p x) : ∀ q ∈ l.take (k + 1), p q := fun q hq => by
  rw [List.take_add_one, hx] at hq
  rcases List.mem_append.1 hq with hq | hq
  · exact h q hq
  · simp only [Option.toList_some, List.mem_cons, List.not_mem_nil, or_false] at hq
    rw [hq]; exact hp
theorem lt_step {p : Nat → Prop} {k : Nat} (h : ∀ i, i < k → p i) (hk : p k) : ∀ i, i < k + 1 → p i := fun i hi => by
  by_cases hik : i = k
  · rw [hik]; exact hk
  · exact h i (by omega)
theorem not_all {rs : List Rv} {k : Nat} {r : Rv} (h : rs[k]? = some r) (hv : vdB r.rw = false) : rs.all (fun r => vdB r.rw) = false := by
  rw [List.all_eq_false]
  exact ⟨r, List.mem_of_getElem? h, by rw [hv]; decide⟩
theorem not_rng {ps : List Prt} {ins : List Int} {k : Nat} {p : Prt} {z : Int} (hp : ps[k]? = some p) (hz : ins[k]? = some z) (h : z < p.lo ∨ p.hi < z) : inOk ps ins = false := by
  unfold inOk
  rw [List.all_eq_false]
  refine ⟨k, List.mem_range.2 (List.getElem?_eq_some_iff.1 hz).1, ?_⟩
  unfold rngB
  rw [hp, hz]
  simp only [decide_eq_true_eq]
  omega
theorem bad_del {ps : List Prt} {bs : List Bk} {st : List (Int × Nat)} {ins : List Int} {k : Nat} {p : Int × Nat} (h : st[k]? = some p) (hl : longP p = true) : stepBad ps bs st ins = true := by
  unfold stepBad
  rw [Bool.or_eq_true]
  exact .inl (List.any_eq_true.2 ⟨p, List.mem_of_getElem? h, hl⟩)
theorem bad_ord {ps : List Prt} {bs : List Bk} {st : List (Int × Nat)} {ins : List Int} {t : Nat} (h : t < (ordM bs).length) (hl : longP (valN ps bs st ins t) = true) : stepBad ps bs st ins = true := by
  unfold stepBad
  rw [Bool.or_eq_true]
  exact .inr (List.any_eq_true.2 ⟨t, List.mem_range.2 h, hl⟩)
theorem good_of {ps : List Prt} {bs : List Bk} {st : List (Int × Nat)} {ins : List Int} (h1 : ∀ p ∈ st, longP p = false) (h2 : ∀ t, t < (ordM bs).length → longP (valN ps bs st ins t) = false) : stepBad ps bs st ins = false := by
  unfold stepBad
  rw [Bool.or_eq_false_iff]
  exact ⟨List.any_eq_false.2 fun p hp => by rw [h1 p hp]; decide, List.any_eq_false.2 fun t ht => by rw [h2 t (List.mem_range.1 ht)]; decide⟩
theorem has_del {bs : List Bk} {st : List (Int × Nat)} (hn : ∀ p ∈ st, Nf p.1 p.2 ∧ longP p = false) (hl : st.length = (delL bs).length) : Has (delV (delL bs) st (List.replicate bs.length none)) (stdS bs 0) := by
  have key : ∀ t, t ≤ (delL bs).length → Has (delV ((delL bs).take t) (st.take t) (List.replicate bs.length none)) (fun i => i ∈ (delL bs).take t) := fun t => by
    induction t with
    | zero => intro _; exact ⟨fun i hi => by simp at hi⟩
    | succ t ih =>
      intro ht
      obtain ⟨j, hj⟩ : ∃ j, (delL bs)[t]? = some j := ⟨_, List.getElem?_eq_getElem (by omega)⟩
      obtain ⟨p, hp⟩ : ∃ p, st[t]? = some p := ⟨_, List.getElem?_eq_getElem (by omega)⟩
      obtain ⟨h1, h2⟩ := hn p (List.mem_of_getElem? hp)
      rw [delV_next _ hj hp]
      refine (ih (by omega)).set (by rw [delV_len, List.length_replicate]; have := List.mem_of_getElem? hj; unfold delL at this; rw [List.mem_filter, List.mem_range] at this; exact this.1) (sm_of h1 h2) fun i hi => ?_
      rw [List.take_add_one, hj] at hi
      simpa using hi
  have h := key (delL bs).length (Nat.le_refl _)
  rw [List.take_length, List.take_of_length_le (by omega)] at h
  refine ⟨fun i hi => h.at_ i ?_⟩
  rcases hi with ⟨h1, h2⟩ | h1
  · unfold delL
    rw [List.mem_filter, List.mem_range, h2]
    exact ⟨h1, rfl⟩
  · simp at h1
theorem has_next {ps : List Prt} {bs : List Bk} {st : List (Int × Nat)} {ins : List Int} {t j : Nat} (h : Has (valS ps bs st ins t) (stdS bs t)) (hj : (ordM bs)[t]? = some j) (hsm : Sm (valN ps bs st ins t) LB LB) : Has (valS ps bs st ins (t + 1)) (stdS bs (t + 1)) := by
  rw [valS_next hj]
  refine h.set (by rw [valS_len]; exact (ord_at hj).1) hsm fun i hi => ?_
  rcases hi with h1 | h1
  · exact .inl (.inl h1)
  · rw [List.take_add_one, hj] at h1
    rcases List.mem_append.1 h1 with h1 | h1
    · exact .inl (.inr h1)
    · exact .inr (by simpa using h1)
theorem del_at {bs : List Bk} {k i : Nat} (h : (delL bs)[k]? = some i) : i < bs.length ∧ kindAt bs i = 2 := by
  have := List.mem_of_getElem? h
  unfold delL at this
  rw [List.mem_filter, List.mem_range] at this
  exact ⟨this.1, by simpa using this.2⟩
theorem has_all {ps : List Prt} {bs : List Bk} {os : List Int} (he : dgErr ps bs os = 0) {st : List (Int × Nat)} {ins : List Int} (h : Has (valS ps bs st ins (ordM bs).length) (stdS bs (ordM bs).length)) {i : Nat} (hi : i < bs.length) : ∃ p, (valS ps bs st ins (ordM bs).length)[i]? = some (some p) ∧ Sm p LB LB := by
  refine h.at_ i ?_
  by_cases hk : kindAt bs i = 2
  · exact .inl ⟨hi, hk⟩
  · refine .inr ?_
    rw [List.take_length]
    exact ord_all (pre_of he).2.2 hi hk
theorem nil_row (w : World) (S : Sets) : DRel w S (.row false 3 0 []) (.slice none 0 0) := .row [] (Nat.le_refl _) (fun _ => rfl) rfl rfl (fun h => absurd rfl h) (fun j u x h => by simp at h)
theorem del_arg {ps : List Prt} {bs : List Bk} {os : List Int} (h : dgErr ps bs os = 0) {i : Nat} {y : Bk} (hy : bs[i]? = some y) (hk : y.kind = 2) : ∃ b : Nat, y.args[0]? = some (b : Int) ∧ b < bs.length := by
  have hA := acc_args h hy
  have h1 := hA.2.1
  rw [hk] at h1
  have hl1 : y.args.length = 1 := by unfold arityM at h1; (repeat' split at h1) <;> omega
  obtain ⟨a, ha⟩ : ∃ a, y.args[0]? = some a := ⟨_, List.getElem?_eq_getElem (by omega)⟩
  have hb := hA.2.2 a (List.mem_of_getElem? ha)
  rw [show mostM ps.length bs.length y.kind = bs.length from if_neg (by omega)] at hb
  exact ⟨a.toNat, by rw [ha]; congr 1; omega, by omega⟩
theorem argZ_at {bs : List Bk} {i b : Nat} {y : Bk} (hy : bs[i]? = some y) (ha : y.args[0]? = some (b : Int)) : argZ bs i = b := by
  unfold argZ
  rw [hy, Option.map_some, Option.getD_some, ha]
  rfl
theorem pstep_cv (t v : Bool) {ps : List Prt} {bs : List Bk} {os : List Int} (hl : DgLen ps bs os) (rs : List Rv) (hw : ∀ r ∈ rs, wordsOk r.ws ∧ r.ws.length ≤ 1000) (hrl : rs.length ≤ 1000000) (ins : List Int) (hil : ins.length ≤ 1000000) : CV Tryd.prog TabAt 13 [aDg t ps bs os, .one (rowR rs), .one (rowI v ins)] [aDys (okQ (stE ps bs os rs ins) (nextE ps bs (rs.map rvP) ins)), aDys (okQ (stE ps bs os rs ins) (valE ps bs (rs.map rvP) ins)), aE (stE ps bs os rs ins)] := by
  refine cv_ofD tab_G Tryd.func13 rfl Tryd.ntmps13 (Nat.le_of_ble_eq_true rfl) (fc := 29) Tryd.func29 (by kernel_rfl) rfl (i1 := 1) (i2 := 2) (i3 := 3) (t1 := 6) (t2 := 7) (t3 := 8) (chain := tlC) (d1 := .row false 3 0 []) (d2 := .row false 3 0 []) (d3 := .val (errV 4)) (r1 := .slice none 0 0) (r2 := .slice none 0 0) (r3 := .iface 68 (.int .i64 4)) Tryd.results13 Tryd.underlying45 Tryd.underlying45 Tryd.underlying32 rfl rfl rfl (by decide) (fun w g1 g2 g3 => (step1_ret g1 g2 g3 w).mono fun e u' w' h => ⟨⟨_, h.1⟩, h.2.1, h.2.2 ▸ Below.refl _ _⟩) (fun b0 w g1 g2 g3 v1 v2 v3 a1 a2 a3 a4 a5 a6 a7 a8 a9 b1 => step1_pan b0 w g1 g2 g3 v1 v2 v3 a1 a2 a3 a4 a5 a6 a7 a8 a9 b1) (fun w S => nil_row w S) (fun w S => nil_row w S) (fun w S => .val rfl) ?_
  have DL := (delays_cv t hl (ps := ps) (bs := bs) (os := os)).cv
  have OL := (order_cv t hl (ps := ps) (bs := bs) (os := os)).cv
  have hnl := natI_len (delL bs)
  have hol := natI_len (ordM bs)
  have hl1 := hl.l1
  have hl2 := hl.l2
  have hl3 := hl.l3
  have hob := ord_len (bs := bs)
  by_cases h0 : dgErr ps bs os = 0
  case neg =>
    rw [if_neg h0] at DL
    have hE := stE1 (rs := rs) (ins := ins) h0
    rw [hE, okQ_n h0, okQ_n h0]
    repeat' (with_reducible first | apply cwd_seq | apply qa | apply qb | apply qc | apply qd | apply qe | apply qf | apply qg | apply qh | apply qi | apply qj | apply qk | apply ql rfl | apply qm rfl | apply qn rfl | apply Je | (refine Tx 0 ?_; refine Jn xBo ?_; refine Jn (xAl tz_s_Dyadic) ?_; refine Jn (xAl tz_s_Dyadic) ?_; refine Jn (xAl tz_error) ?_) | (refine Tx 1 ?_; refine Jo (xLa tk_Diagram) ?_; refine Jo (xCl Tryd.func22 (DL)) ?_; refine Jo xMt ?_; refine Jo xEx ?_; refine Jo xEx ?_; refine Ja ?_; refine Ja ?_) | (refine Tx 2 ?_; refine Jm ?_; refine Jo (xNE ti_error) ?_) | (refine Tx 3 ?_; refine Jm ?_; refine Js (by first | exact xS1 tk_s_Dyadic | exact xSk tk_s_Dyadic) ?_; refine Js (by first | exact xS1 tk_s_Dyadic | exact xSk tk_s_Dyadic) ?_; refine Js (by first | exact xS1 tk_error | exact xSk tk_error) ?_))
    exact ret_q rfl (.cons_ (rvB tk_s_Dyadic (cexp_n rfl rfl)) (.cons_ (rvB tk_s_Dyadic (cexp_n rfl rfl)) (.cons_ (rvB tk_error (cexp_d rfl fun _ => .val _)) .nil_)))
  rw [if_pos h0, h0] at DL
  rw [if_pos h0, h0] at OL
  by_cases hL : rs.length = (delL bs).length
  case neg =>
    have hE := stE2 (os := os) (ins := ins) h0 hL
    rw [hE, okQ_n (by decide), okQ_n (by decide)]
    repeat' (with_reducible first | apply cwd_seq | apply qa | apply qb | apply qc | apply qd | apply qe | apply qf | apply qg | apply qh | apply qi | apply qj | apply qk | apply ql rfl | apply qm rfl | apply qn rfl | apply Je | (refine Tx 0 ?_; refine Jn xBo ?_; refine Jn (xAl tz_s_Dyadic) ?_; refine Jn (xAl tz_s_Dyadic) ?_; refine Jn (xAl tz_error) ?_) | (refine Tx 1 ?_; refine Jo (xLa tk_Diagram) ?_; refine Jo (xCl Tryd.func22 (DL)) ?_; refine Jo xMt ?_; refine Jo xEx ?_; refine Jo xEx ?_; refine Ja ?_; refine Ja ?_) | (refine Tx 2 ?_; refine Jm ?_; refine Jo (xNE ti_error) ?_) | (refine Tx 4 ?_; refine Jm ?_; refine Jo (xLn ts_s_Dyadic) ?_; refine Jm ?_; refine Jo (xLn ts_s_int) ?_; refine Jo xNe ?_) | (refine Tx 5 ?_; refine Jo (xMi Tryd.underlying68) ?_; refine Js (by first | exact xS1 tk_s_Dyadic | exact xSk tk_s_Dyadic) ?_; refine Js (by first | exact xS1 tk_s_Dyadic | exact xSk tk_s_Dyadic) ?_; refine Js (by first | exact xS1 tk_error | exact xSk tk_error) ?_))
    exact ret_q rfl (.cons_ (rvB tk_s_Dyadic (cexp_n rfl rfl)) (.cons_ (rvB tk_s_Dyadic (cexp_n rfl rfl)) (.cons_ (rvB tk_error (cexp_d rfl fun _ => .val _)) .nil_)))
  repeat' (with_reducible first | apply cwd_seq | apply qa | apply qb | apply qc | apply qd | apply qe | apply qf | apply qg | apply qh | apply qi | apply qj | apply qk | apply ql rfl | apply qm rfl | apply qn rfl | apply Je | (refine Tx 0 ?_; refine Jn xBo ?_; refine Jn (xAl tz_s_Dyadic) ?_; refine Jn (xAl tz_s_Dyadic) ?_; refine Jn (xAl tz_error) ?_) | (refine Tx 1 ?_; refine Jo (xLa tk_Diagram) ?_; refine Jo (xCl Tryd.func22 (DL)) ?_; refine Jo xMt ?_; refine Jo xEx ?_; refine Jo xEx ?_; refine Ja ?_; refine Ja ?_) | (refine Tx 2 ?_; refine Jm ?_; refine Jo (xNE ti_error) ?_) | (refine Tx 4 ?_; refine Jm ?_; refine Jo (xLn ts_s_Dyadic) ?_; refine Jm ?_; refine Jo (xLn ts_s_int) ?_; refine Jo xNe ?_) | (refine Tx 6 ?_; refine Jm ?_; refine Jo (xLn ts_s_Dyadic) ?_; refine Jm ?_))
  refine cw_wk (F' := ofL [(1, vd (rowR rs)), (2, vd (rowI v ins)), (3, vr 0), (6, vr 1), (7, vr 2), (8, vr 3), (9, vd (rowI false (natI (delL bs)))), (36, vd (rowR rs)), (37, vi rs.length), (38, vi ((0 : Nat)))]) (H' := [.box 26 [.d (rowP t ps), .d (rowB t bs), .d (rowI t os)], .box 45 [.d (.val (.slice none 0 0))], .box 45 [.d (.val (.slice none 0 0))], .box 32 [.d (.val .nilIface)]]) (wk_go _ 4 ?_ ?_ ?_) ?_
  · rfl
  · exact mB rfl rfl
  · exact ⟨bel_lit rfl, bel_lit rfl, bel_lit rfl, bel_lit rfl, trivial⟩
  refine cw_loopW (fun n Fr H => ∃ k : Nat, k ≤ rs.length ∧ n = rs.length - k ∧ (∀ r ∈ rs.take k, vdB r.rw = true) ∧ Fr = ofL [(1, vd (rowR rs)), (2, vd (rowI v ins)), (3, vr 0), (6, vr 1), (7, vr 2), (8, vr 3), (9, vd (rowI false (natI (delL bs)))), (36, vd (rowR rs)), (37, vi rs.length), (38, vi ((k : Nat)))] ∧ H = [.box 26 [.d (rowP t ps), .d (rowB t bs), .d (rowI t os)], .box 45 [.d (.val (.slice none 0 0))], .box 45 [.d (.val (.slice none 0 0))], .box 32 [.d (.val .nilIface)]]) (n0 := rs.length) ⟨0, Nat.zero_le _, rfl, (fun r hr => by simp at hr), rfl, rfl⟩ ?_
  rintro n Fr H ⟨k, hk, rfl, hv, rfl, rfl⟩
  by_cases hlt : k < rs.length
  case pos =>
    obtain ⟨r, hr⟩ : ∃ r, rs[k]? = some r := ⟨_, List.getElem?_eq_getElem hlt⟩
    have hrm := hw r (List.mem_of_getElem? hr)
    have VA := pvalid_cv (G := TabAt) false r hrm.1 (by omega)
    cases hb : vdB r.rw
    case false =>
      rw [hb] at VA
      have hE := stE3 (os := os) (ins := ins) h0 hL (not_all hr hb)
      rw [hE, okQ_n (by decide), okQ_n (by decide)]
      repeat' (with_reducible first | apply cwd_seq | apply qa | apply qb | apply qc | apply qd | apply qe | apply qf | apply qg | apply qh | apply qi | apply qj | apply qk | apply ql rfl | apply qm rfl | apply qn rfl | apply Je | (refine Tx 7 ?_; refine Jo xLt ?_) | (refine Tx 8 ?_; refine Jo (xIr ts_s_Dyadic (rv_at hr)) ?_; refine Jo (xLa tk_Dyadic) ?_; refine Jn (xAl tz_Dyadic) ?_; refine Js (xSk tk_Dyadic) ?_) | (refine Tx 9 ?_; refine Jo (xLa tk_Dyadic) ?_; refine Jo (xCl Tryd.func28 (VA.cv)) ?_; refine Jo (by first | exact xNt | exact xNg) ?_) | (refine Tx 10 ?_; refine Jo (xMi Tryd.underlying68) ?_; refine Js (by first | exact xS1 tk_s_Dyadic | exact xSk tk_s_Dyadic) ?_; refine Js (by first | exact xS1 tk_s_Dyadic | exact xSk tk_s_Dyadic) ?_; refine Js (by first | exact xS1 tk_error | exact xSk tk_error) ?_))
      exact ret_q rfl (.cons_ (rvB tk_s_Dyadic (cexp_n rfl rfl)) (.cons_ (rvB tk_s_Dyadic (cexp_n rfl rfl)) (.cons_ (rvB tk_error (cexp_d rfl fun _ => .val _)) .nil_)))
    case true =>
      rw [hb] at VA
      repeat' (with_reducible first | apply cwd_seq | apply qa | apply qb | apply qc | apply qd | apply qe | apply qf | apply qg | apply qh | apply qi | apply qj | apply qk | apply ql rfl | apply qm rfl | apply qn rfl | apply Je | (refine Tx 7 ?_; refine Jo xLt ?_) | (refine Tx 8 ?_; refine Jo (xIr ts_s_Dyadic (rv_at hr)) ?_; refine Jo (xLa tk_Dyadic) ?_; refine Jn (xAl tz_Dyadic) ?_; refine Js (xSk tk_Dyadic) ?_) | (refine Tx 9 ?_; refine Jo (xLa tk_Dyadic) ?_; refine Jo (xCl Tryd.func28 (VA.cv)) ?_; refine Jo (by first | exact xNt | exact xNg) ?_) | (refine Tx 11 ?_; refine Jo xAd ?_; refine Jm ?_))
      refine ⟨_, _, wk_go _ 4 ?_ ?_ ?_, _, by omega, k + 1, by omega, rfl, take_all1 hv hr hb, rfl, rfl⟩
      · rfl
      · exact mB rfl rfl
      · exact ⟨bel_lit rfl, bel_lit rfl, bel_lit rfl, bel_lit rfl, trivial⟩
  obtain rfl : k = rs.length := by omega
  rw [List.take_length] at hv
  clear hlt hk
  have hva : ¬ rs.all (fun r => vdB r.rw) = false := by rw [Bool.not_eq_false]; exact List.all_eq_true.2 hv
  by_cases hI : ins.length = ps.length
  case neg =>
    have hE := stE4 (os := os) h0 hL hva hI
    rw [hE, okQ_n (by decide), okQ_n (by decide)]
    repeat' (with_reducible first | apply cwd_seq | apply qa | apply qb | apply qc | apply qd | apply qe | apply qf | apply qg | apply qh | apply qi | apply qj | apply qk | apply ql rfl | apply qm rfl | apply qn rfl | apply Je | (refine Tx 7 ?_; refine Jo xLt ?_) | (refine Tx 12 ?_; refine Jm ?_; refine Jo (xLn ts_s_int) ?_; refine Jo (xFa tf_Diagram0 tk_s_Port) ?_; refine Jo (xLd tk_s_Port) ?_; refine Jo (xLn ts_s_Port) ?_; refine Jo xNe ?_) | (refine Tx 13 ?_; refine Jo (xMi Tryd.underlying68) ?_; refine Js (by first | exact xS1 tk_s_Dyadic | exact xSk tk_s_Dyadic) ?_; refine Js (by first | exact xS1 tk_s_Dyadic | exact xSk tk_s_Dyadic) ?_; refine Js (by first | exact xS1 tk_error | exact xSk tk_error) ?_))
    exact ret_q rfl (.cons_ (rvB tk_s_Dyadic (cexp_n rfl rfl)) (.cons_ (rvB tk_s_Dyadic (cexp_n rfl rfl)) (.cons_ (rvB tk_error (cexp_d rfl fun _ => .val _)) .nil_)))
  repeat' (with_reducible first | apply cwd_seq | apply qa | apply qb | apply qc | apply qd | apply qe | apply qf | apply qg | apply qh | apply qi | apply qj | apply qk | apply ql rfl | apply qm rfl | apply qn rfl | apply Je | (refine Tx 7 ?_; refine Jo xLt ?_) | (refine Tx 12 ?_; refine Jm ?_; refine Jo (xLn ts_s_int) ?_; refine Jo (xFa tf_Diagram0 tk_s_Port) ?_; refine Jo (xLd tk_s_Port) ?_; refine Jo (xLn ts_s_Port) ?_; refine Jo xNe ?_) | (refine Tx 14 ?_; refine Jm ?_; refine Jo (xLn ts_s_int) ?_; refine Jm ?_))
  refine cw_wk (F' := ofL [(1, vd (rowR rs)), (2, vd (rowI v ins)), (3, vr 0), (6, vr 1), (7, vr 2), (8, vr 3), (9, vd (rowI false (natI (delL bs)))), (54, vd (rowI v ins)), (55, vi ins.length), (56, vi ((0 : Nat)))]) (H' := [.box 26 [.d (rowP t ps), .d (rowB t bs), .d (rowI t os)], .box 45 [.d (.val (.slice none 0 0))], .box 45 [.d (.val (.slice none 0 0))], .box 32 [.d (.val .nilIface)]]) (wk_go _ 4 ?_ ?_ ?_) ?_
  · rfl
  · exact mB rfl rfl
  · exact ⟨bel_lit rfl, bel_lit rfl, bel_lit rfl, bel_lit rfl, trivial⟩
  refine cw_loopW (fun n Fr H => ∃ k : Nat, k ≤ ins.length ∧ n = ins.length - k ∧ (∀ i, i < k → rngB ps ins i = true) ∧ Fr = ofL [(1, vd (rowR rs)), (2, vd (rowI v ins)), (3, vr 0), (6, vr 1), (7, vr 2), (8, vr 3), (9, vd (rowI false (natI (delL bs)))), (54, vd (rowI v ins)), (55, vi ins.length), (56, vi ((k : Nat)))] ∧ H = [.box 26 [.d (rowP t ps), .d (rowB t bs), .d (rowI t os)], .box 45 [.d (.val (.slice none 0 0))], .box 45 [.d (.val (.slice none 0 0))], .box 32 [.d (.val .nilIface)]]) (n0 := ins.length) ⟨0, Nat.zero_le _, rfl, (fun i hi => absurd hi (Nat.not_lt_zero i)), rfl, rfl⟩ ?_
  rintro n Fr H ⟨k, hk, rfl, hr, rfl, rfl⟩
  by_cases hlt : k < ins.length
  case pos =>
    obtain ⟨z, hz⟩ : ∃ z, ins[k]? = some z := ⟨_, List.getElem?_eq_getElem hlt⟩
    obtain ⟨p, hp⟩ : ∃ p, ps[k]? = some p := ⟨_, List.getElem?_eq_getElem (by omega)⟩
    by_cases cl : z < p.lo
    case pos =>
      have hE := stE5 (os := os) h0 hL hva hI (not_rng hp hz (.inl cl))
      rw [hE, okQ_n (by decide), okQ_n (by decide)]
      repeat' (with_reducible first | apply cwd_seq | apply qa | apply qb | apply qc | apply qd | apply qe | apply qf | apply qg | apply qh | apply qi | apply qj | apply qk | apply ql rfl | apply qm rfl | apply qn rfl | apply Je | (refine Tx 15 ?_; refine Jo xLt ?_) | (refine Tx 16 ?_; refine Jm ?_; refine Jo (xIr ts_s_int (int_at hz)) ?_; refine Jo (xLd tk_int) ?_; refine Ja ?_; refine Ja ?_) | (refine Tx 17 ?_; refine Jm ?_; refine Jo (xFa tf_Diagram0 tk_s_Port) ?_; refine Jo (xLd tk_s_Port) ?_; refine Jm ?_; refine Jo (xIr ts_s_Port (prt_at hp)) ?_; refine Jo (xFa tf_Port0 tk_int) ?_; refine Jo (xLd tk_int) ?_; refine Jo xLt ?_; refine Jm ?_; (first | iterate 8 refine Jd ?_ | (refine Jy xM1 ?_; refine Jy (xFa tf_Diagram0 tk_s_Port) ?_; refine Jy (xLd tk_s_Port) ?_; refine Jy xM1 ?_; refine Jy (xIr ts_s_Port (prt_at hp)) ?_; refine Jy (xFa tf_Port1 tk_int) ?_; refine Jy (xLd tk_int) ?_; refine Jy xGt ?_)); refine Jo xPk ?_) | (refine Tx 18 ?_; refine Jo (xMi Tryd.underlying68) ?_; refine Js (by first | exact xS1 tk_s_Dyadic | exact xSk tk_s_Dyadic) ?_; refine Js (by first | exact xS1 tk_s_Dyadic | exact xSk tk_s_Dyadic) ?_; refine Js (by first | exact xS1 tk_error | exact xSk tk_error) ?_))
      exact ret_q rfl (.cons_ (rvB tk_s_Dyadic (cexp_n rfl rfl)) (.cons_ (rvB tk_s_Dyadic (cexp_n rfl rfl)) (.cons_ (rvB tk_error (cexp_d rfl fun _ => .val _)) .nil_)))
    by_cases ch : p.hi < z
    case pos =>
      have hE := stE5 (os := os) h0 hL hva hI (not_rng hp hz (.inr ch))
      rw [hE, okQ_n (by decide), okQ_n (by decide)]
      repeat' (with_reducible first | apply cwd_seq | apply qa | apply qb | apply qc | apply qd | apply qe | apply qf | apply qg | apply qh | apply qi | apply qj | apply qk | apply ql rfl | apply qm rfl | apply qn rfl | apply Je | (refine Tx 15 ?_; refine Jo xLt ?_) | (refine Tx 16 ?_; refine Jm ?_; refine Jo (xIr ts_s_int (int_at hz)) ?_; refine Jo (xLd tk_int) ?_; refine Ja ?_; refine Ja ?_) | (refine Tx 17 ?_; refine Jm ?_; refine Jo (xFa tf_Diagram0 tk_s_Port) ?_; refine Jo (xLd tk_s_Port) ?_; refine Jm ?_; refine Jo (xIr ts_s_Port (prt_at hp)) ?_; refine Jo (xFa tf_Port0 tk_int) ?_; refine Jo (xLd tk_int) ?_; refine Jo xLt ?_; refine Jm ?_; (first | iterate 8 refine Jd ?_ | (refine Jy xM1 ?_; refine Jy (xFa tf_Diagram0 tk_s_Port) ?_; refine Jy (xLd tk_s_Port) ?_; refine Jy xM1 ?_; refine Jy (xIr ts_s_Port (prt_at hp)) ?_; refine Jy (xFa tf_Port1 tk_int) ?_; refine Jy (xLd tk_int) ?_; refine Jy xGt ?_)); refine Jo xPk ?_) | (refine Tx 18 ?_; refine Jo (xMi Tryd.underlying68) ?_; refine Js (by first | exact xS1 tk_s_Dyadic | exact xSk tk_s_Dyadic) ?_; refine Js (by first | exact xS1 tk_s_Dyadic | exact xSk tk_s_Dyadic) ?_; refine Js (by first | exact xS1 tk_error | exact xSk tk_error) ?_))
      exact ret_q rfl (.cons_ (rvB tk_s_Dyadic (cexp_n rfl rfl)) (.cons_ (rvB tk_s_Dyadic (cexp_n rfl rfl)) (.cons_ (rvB tk_error (cexp_d rfl fun _ => .val _)) .nil_)))
    repeat' (with_reducible first | apply cwd_seq | apply qa | apply qb | apply qc | apply qd | apply qe | apply qf | apply qg | apply qh | apply qi | apply qj | apply qk | apply ql rfl | apply qm rfl | apply qn rfl | apply Je | (refine Tx 15 ?_; refine Jo xLt ?_) | (refine Tx 16 ?_; refine Jm ?_; refine Jo (xIr ts_s_int (int_at hz)) ?_; refine Jo (xLd tk_int) ?_; refine Ja ?_; refine Ja ?_) | (refine Tx 17 ?_; refine Jm ?_; refine Jo (xFa tf_Diagram0 tk_s_Port) ?_; refine Jo (xLd tk_s_Port) ?_; refine Jm ?_; refine Jo (xIr ts_s_Port (prt_at hp)) ?_; refine Jo (xFa tf_Port0 tk_int) ?_; refine Jo (xLd tk_int) ?_; refine Jo xLt ?_; refine Jm ?_; (first | iterate 8 refine Jd ?_ | (refine Jy xM1 ?_; refine Jy (xFa tf_Diagram0 tk_s_Port) ?_; refine Jy (xLd tk_s_Port) ?_; refine Jy xM1 ?_; refine Jy (xIr ts_s_Port (prt_at hp)) ?_; refine Jy (xFa tf_Port1 tk_int) ?_; refine Jy (xLd tk_int) ?_; refine Jy xGt ?_)); refine Jo xPk ?_) | (refine Tx 19 ?_; refine Jo xAd ?_; refine Jm ?_))
    refine ⟨_, _, wk_go _ 4 ?_ ?_ ?_, _, by omega, k + 1, by omega, rfl, lt_step hr (by unfold rngB; rw [hp, hz]; exact decide_eq_true (by omega)), rfl, rfl⟩
    · rfl
    · exact mB rfl rfl
    · exact ⟨bel_lit rfl, bel_lit rfl, bel_lit rfl, bel_lit rfl, trivial⟩
  obtain rfl : k = ins.length := by omega
  clear hlt hk
  have hin : inOk ps ins = true := List.all_eq_true.2 fun i hi => hr i (List.mem_range.1 hi)
  clear hr
  have hino : ¬ inOk ps ins = false := by rw [hin]; decide
  have hE := stE6 (os := os) h0 hL hva hI hino
  repeat' (with_reducible first | refine cwd_defer ?_ | apply cwd_seq | apply qa | apply qb | apply qc | apply qd | apply qe | apply qf | apply qg | apply qh | apply qi | apply qj | apply qk | apply ql rfl | apply qm rfl | apply qn rfl | apply Je | (refine Tx 15 ?_; refine Jo xLt ?_) | (refine Tx 20 ?_; refine Jo (xLa tk_Diagram) ?_; refine Jo (xCl Tryd.func20 (OL)) ?_; refine Jo xMt ?_; refine Jo xEx ?_; refine Jo xEx ?_; refine Ja ?_; refine Ja ?_) | (refine Tx 21 ?_; refine Jm ?_; refine Jo (xNE ti_error) ?_))
  intro g1 g2 g3
  have hnf : ∀ p ∈ rs.map rvP, Nf p.1 p.2 ∧ (canon p.1.natAbs).length ≤ 1000 := fun p hp => by
    obtain ⟨r, hr, rfl⟩ := List.mem_map.1 hp
    have h1 := rv_dy (t := false) (hw r hr).1 (hv r hr)
    exact ⟨h1.2.1, Nat.le_trans (Nat.le_of_eq h1.2.2) (hw r hr).2⟩
  have hsl : (rs.map rvP).length = (delL bs).length := by rw [List.length_map]; exact hL
  repeat' (with_reducible first | apply qa | apply qb | apply qc | apply qd | apply qe | apply qf | apply qg | apply qh | apply qi | apply qj | apply qk | apply ql rfl | apply qm rfl | apply qn rfl | apply Je | (refine Tx 24 ?_; refine Jo (xFa tf_Diagram1 tk_s_Block) ?_; refine Jo (xLd tk_s_Block) ?_; refine Jo (xLn ts_s_Block) ?_; refine Jn (by first | exact ok_makeV (n := bs.length) rfl rfl rfl ts_s_Dyadic tz_Dyadic (by omega) (by decide) | exact ok_makeSlice rfl rfl rfl ts_s_Dyadic tz_Dyadic (by omega) (by decide)) ?_; refine Js (by first | exact xS1 tk_s_Dyadic | exact xSk tk_s_Dyadic) ?_) | (refine Tx 25 ?_; refine Jm ?_; refine Jo (xLn ts_s_int) ?_; refine Jm ?_))
  refine cw_wk (F' := ofL [(1, vd (rowR rs)), (2, vd (rowI v ins)), (3, vr 0), (6, vr 1), (7, vr 2), (8, vr 3), (9, vd (rowI false (natI (delL bs)))), (15, vd (rowI false (natI (ordM bs)))), (155, pin3 1 2 3 g1 g2 g3), (94, vd (rowI false (natI (delL bs)))), (95, vi ((delL bs).length)), (96, vi ((0 : Nat)))]) (H' := [.box 26 [.d (rowP t ps), .d (rowB t bs), .d (rowI t os)], .box 45 [.d (.val (.slice none 0 0))], .box 45 [.own 4 bs.length], .box 32 [.d (.val .nilIface)], .row 59 3 bs.length (cVs (delV ((delL bs).take (0)) ((rs.map rvP).take (0)) (List.replicate bs.length none)))]) (wk_go _ 5 ?_ ?_ ?_) ?_
  · rfl
  · rw [← hnl]; exact mB rfl rfl
  · exact ⟨bel_lit rfl, bel_lit rfl, bel_lit rfl, bel_lit rfl, bel_cVs, trivial⟩
  refine cw_loopW (fun n Fr H => ∃ k : Nat, k ≤ (delL bs).length ∧ n = (delL bs).length - k ∧ (∀ p ∈ (rs.map rvP).take k, longP p = false) ∧ Fr = ofL [(1, vd (rowR rs)), (2, vd (rowI v ins)), (3, vr 0), (6, vr 1), (7, vr 2), (8, vr 3), (9, vd (rowI false (natI (delL bs)))), (15, vd (rowI false (natI (ordM bs)))), (155, pin3 1 2 3 g1 g2 g3), (94, vd (rowI false (natI (delL bs)))), (95, vi ((delL bs).length)), (96, vi ((k : Nat)))] ∧ H = [.box 26 [.d (rowP t ps), .d (rowB t bs), .d (rowI t os)], .box 45 [.d (.val (.slice none 0 0))], .box 45 [.own 4 bs.length], .box 32 [.d (.val .nilIface)], .row 59 3 bs.length (cVs (delV ((delL bs).take (k)) ((rs.map rvP).take (k)) (List.replicate bs.length none)))]) (n0 := (delL bs).length) ⟨0, Nat.zero_le _, rfl, (fun r hr => by simp at hr), rfl, rfl⟩ ?_
  rintro n Fr H ⟨k, hk, rfl, hnl2, rfl, rfl⟩
  by_cases hlt : k < (delL bs).length
  case pos =>
    obtain ⟨i, hi⟩ : ∃ i, (delL bs)[k]? = some i := ⟨_, List.getElem?_eq_getElem hlt⟩
    obtain ⟨r, hr⟩ : ∃ r, rs[k]? = some r := ⟨_, List.getElem?_eq_getElem (by omega)⟩
    have hrm := List.mem_of_getElem? hr
    have hdy := rv_dy (t := false) (hw r hrm).1 (hv r hrm)
    have hst : (rs.map rvP)[k]? = some (rvP r) := by rw [List.getElem?_map, hr]; rfl
    have hra := rv_at hr
    rw [hdy.1] at hra
    have lp : (canon (rvP r).1.natAbs).length ≤ 40000 := Nat.le_trans (Nat.le_of_eq hdy.2.2) (by have := (hw r hrm).2; omega)
    have hil2 := (del_at hi).1
    have hn2 : Nf (rvP r).1 (rvP r).2 := hdy.2.1
    have hra : ((flatD (dRv false) rs).drop (k * 3)).take 3 = dDy false (rvP r).1 (rvP r).2 := hra
    generalize rvP r = p at *
    by_cases hlg : longP p = true
    case pos =>
      have PB := pbrief_pan p hn2 lp hlg
      rw [bad_del hst hlg, if_pos rfl] at hE
      rw [hE, okQ_n (by decide), okQ_n (by decide)]
      repeat' (with_reducible first | (refine cw_pany (id := 28) (chain := tlC) 6 mixed (by kernel_rfl) ?_ ?_; refine Po (xLd tk_s_Dyadic) ?_; refine Po xM1 ?_; refine Po xM1 ?_; refine Po xM1 ?_; refine Po (by first | exact xIr ts_s_Dyadic (hra) | exact xIo (i := i) ts_s_Dyadic) ?_; refine Po (xLa tk_Dyadic) ?_; refine Pp (xPn Tryd.func31 PB) ?_; refine Pd ?_; (first | refine Pd ?_ | refine Po (by first | exact xIr ts_s_Dyadic (hra) | exact xIo (i := i) ts_s_Dyadic) ?_); refine Pd ?_; exact Pe; with_unfolding_all exact And.intro (by with_unfolding_all exact rfl) (Or.inr (And.intro rfl (And.intro ⟨rfl, rfl, rfl⟩ (And.intro ⟨(by with_unfolding_all exact rfl), (by with_unfolding_all exact rfl), (by with_unfolding_all exact rfl)⟩ ⟨⟨_, (by with_unfolding_all exact rfl)⟩, ⟨_, (by with_unfolding_all exact rfl)⟩, ⟨_, (by with_unfolding_all exact rfl)⟩⟩))))) | apply qa | apply qb | apply qc | apply qd | apply qe | apply qf | apply qg | apply qh | apply qi | apply qj | apply qk | apply ql rfl | apply qm rfl | apply qn rfl | apply Je | (refine Tx 26 ?_; refine Jo xLt ?_) | (refine Tx 27 ?_; refine Jm ?_; refine Jo (by first | exact xIr ts_s_int (int_at (natI_at hi)) | exact xIr ts_s_int (hra) | exact xIo (i := i) ts_s_int) ?_; refine Jo (xLd tk_int) ?_; refine Ja ?_; refine Ja ?_))
    rw [Bool.not_eq_true] at hlg
    have PB := pbrief_cv p hn2 lp hlg
    have SH := pdshift_cv p.1 p.2 0 hn2 (Nat.le_trans lp (by decide)) (by have := hn2.1; omega)
    rw [shift_none hn2] at SH
    have tl : i < (delV ((delL bs).take (k)) ((rs.map rvP).take (k)) (List.replicate bs.length none)).length := by rw [delV_len, List.length_replicate]; exact hil2
    have stV : (delV ((delL bs).take (k)) ((rs.map rvP).take (k)) (List.replicate bs.length none)).set i (some p) = (delV ((delL bs).take (k + 1)) ((rs.map rvP).take (k + 1)) (List.replicate bs.length none)) := (delV_next _ hi hst).symm
    repeat' (with_reducible first | apply qa | apply qb | apply qc | apply qd | apply qe | apply qf | apply qg | apply qh | apply qi | apply qj | apply qk | apply ql rfl | apply qm rfl | apply qn rfl | apply Je | (refine Tx 26 ?_; refine Jo xLt ?_) | (refine Tx 27 ?_; refine Jm ?_; refine Jo (by first | exact xIr ts_s_int (int_at (natI_at hi)) | exact xIr ts_s_int (hra) | exact xIo (i := i) ts_s_int) ?_; refine Jo (xLd tk_int) ?_; refine Ja ?_; refine Ja ?_) | (refine cw_part (id := 28) 9 mixed (by kernel_rfl) ?_; dsimp only [List.take, List.drop]; refine Ko (xLd tk_s_Dyadic) ?_; refine Km ?_; refine Km ?_; refine Km ?_; refine Ko (by first | exact xIr ts_s_Dyadic (hra) | exact xIo (i := i) ts_s_Dyadic) ?_; refine Ko (xLa tk_Dyadic) ?_; refine Ko (xCl Tryd.func31 (PB)) ?_; refine Ko (xCl Tryd.func30 (SH)) ?_; refine Ko (by first | exact xIr ts_s_Dyadic (hra) | exact xIo (i := i) ts_s_Dyadic) ?_; refine Ke ?_; refine Js (by first | exact to_stV rfl rfl rfl rfl tk_Dyadic tl stV | exact xSk tk_Dyadic) ?_) | (refine Tx 29 ?_; refine Jo xAd ?_; refine Jm ?_))
    refine ⟨_, _, wk_go _ 5 ?_ ?_ ?_, _, by omega, k + 1, by omega, rfl, take_all1 hnl2 hst hlg, rfl, rfl⟩
    · rfl
    · exact mB rfl rfl
    · exact ⟨bel_lit rfl, bel_lit rfl, bel_lit rfl, bel_lit rfl, bel_cVs, trivial⟩
  obtain rfl : k = (delL bs).length := by omega
  clear hlt hk
  rw [List.take_of_length_le (by omega)] at hnl2
  have HD := has_del (bs := bs) (st := (rs.map rvP)) (fun p hp => ⟨(hnf p hp).1, hnl2 p hp⟩) hsl
  rw [← valS_0 ps bs (rs.map rvP) ins] at HD
  rw [List.take_length, List.take_of_length_le (l := (rs.map rvP)) (by omega), ← valS_0 ps bs (rs.map rvP) ins]
  repeat' (with_reducible first | apply qa | apply qb | apply qc | apply qd | apply qe | apply qf | apply qg | apply qh | apply qi | apply qj | apply qk | apply ql rfl | apply qm rfl | apply qn rfl | apply Je | (refine Tx 26 ?_; refine Jo xLt ?_) | (refine Tx 30 ?_; refine Jm ?_; refine Jo (xLn ts_s_int) ?_; refine Jm ?_))
  refine cw_wk (F' := ofL [(1, vd (rowR rs)), (2, vd (rowI v ins)), (3, vr 0), (6, vr 1), (7, vr 2), (8, vr 3), (9, vd (rowI false (natI (delL bs)))), (15, vd (rowI false (natI (ordM bs)))), (155, pin3 1 2 3 g1 g2 g3), (111, vd (rowI false (natI (ordM bs)))), (112, vi ((ordM bs).length)), (113, vi ((0 : Nat)))]) (H' := [.box 26 [.d (rowP t ps), .d (rowB t bs), .d (rowI t os)], .box 45 [.d (.val (.slice none 0 0))], .box 45 [.own 4 bs.length], .box 32 [.d (.val .nilIface)], .row 59 3 bs.length (cVs (valS ps bs (rs.map rvP) ins (0)))]) (wk_go _ 5 ?_ ?_ ?_) ?_
  · rfl
  · rw [← hol]; exact mB rfl rfl
  · exact ⟨bel_lit rfl, bel_lit rfl, bel_lit rfl, bel_lit rfl, bel_cVs, trivial⟩
  refine cw_loopW (fun n Fr H => ∃ k : Nat, k ≤ (ordM bs).length ∧ n = (ordM bs).length - k ∧ Has (valS ps bs (rs.map rvP) ins (k)) (stdS bs k) ∧ (∀ s, s < k → longP (valN ps bs (rs.map rvP) ins s) = false) ∧ Fr = ofL [(1, vd (rowR rs)), (2, vd (rowI v ins)), (3, vr 0), (6, vr 1), (7, vr 2), (8, vr 3), (9, vd (rowI false (natI (delL bs)))), (15, vd (rowI false (natI (ordM bs)))), (155, pin3 1 2 3 g1 g2 g3), (111, vd (rowI false (natI (ordM bs)))), (112, vi ((ordM bs).length)), (113, vi ((k : Nat)))] ∧ H = [.box 26 [.d (rowP t ps), .d (rowB t bs), .d (rowI t os)], .box 45 [.d (.val (.slice none 0 0))], .box 45 [.own 4 bs.length], .box 32 [.d (.val .nilIface)], .row 59 3 bs.length (cVs (valS ps bs (rs.map rvP) ins (k)))]) (n0 := (ordM bs).length) ⟨0, Nat.zero_le _, rfl, HD, (fun s hs => absurd hs (Nat.not_lt_zero s)), rfl, rfl⟩ ?_
  rintro n Fr H ⟨k, hk, rfl, HK, hgd, rfl, rfl⟩
  by_cases hlt : k < (ordM bs).length
  case pos =>
    obtain ⟨j, hj⟩ : ∃ j, (ordM bs)[k]? = some j := ⟨_, List.getElem?_eq_getElem hlt⟩
    obtain ⟨y, hy, hk2, T⟩ := tick_of h0 hin hI hj HK
    have hjl := (ord_at hj).1
    have hvn : valN ps bs (rs.map rvP) ins k = tickV y (argsV (valS ps bs (rs.map rvP) ins (k)) y) ps ins := by unfold valN tkV; rw [hj]; simp only [Option.getD_some]; rw [hy]
    have hgl : (gV (valS ps bs (rs.map rvP) ins (k))).length = bs.length := by rw [gV_len, valS_len]
    have BL := pblock_cv t v ps bs os y (gV (valS ps bs (rs.map rvP) ins (k))) (argsV (valS ps bs (rs.map rvP) ins (k)) y) ins T.hk (by have := T.len; omega) (by omega) hil (by omega) T.hl (fun p hp => (T.hs p hp).more (by decide) (by decide)) T.hin T.hsv T.hsu T.hcl
    have TS := T.sm
    rw [← hvn] at BL TS
    rw [hgl] at BL
    have lp := TS.lenN 282 (by decide)
    have lp := Nat.le_trans lp (show 282 ≤ 40000 by decide)
    have hn2 := TS.ok
    have tl : j < (valS ps bs (rs.map rvP) ins (k)).length := by rw [valS_len]; exact hjl
    have stV : (valS ps bs (rs.map rvP) ins (k)).set j (some (valN ps bs (rs.map rvP) ins k)) = (valS ps bs (rs.map rvP) ins (k + 1)) := (valS_next hj).symm
    have hbad := bad_ord (ps := ps) (st := (rs.map rvP)) (ins := ins) hlt
    have hnx := has_next HK hj
    skip
    by_cases hlg : longP (valN ps bs (rs.map rvP) ins k) = true
    case pos =>
      have PB := pbrief_pan (valN ps bs (rs.map rvP) ins k) hn2 lp hlg
      rw [hbad hlg, if_pos rfl] at hE
      rw [hE, okQ_n (by decide), okQ_n (by decide)]
      repeat' (with_reducible first | (refine cw_pany (id := 33) (chain := tlC) 11 mixed (by kernel_rfl) ?_ ?_; refine Po (xLd tk_s_Dyadic) ?_; refine Po xM1 ?_; refine Po (xLa tk_Diagram) ?_; refine Po (xFa tf_Diagram1 tk_s_Block) ?_; refine Po (xLd tk_s_Block) ?_; refine Po xM1 ?_; refine Po (by first | exact xIr ts_s_Block (bk_at hy) | exact xIo (i := j) ts_s_Block) ?_; refine Po (xLa tk_Block) ?_; refine Po (xLd tk_s_Dyadic) ?_; refine Po xM1 ?_; refine Po (xCl Tryd.func32 BL (ha := by with_unfolding_all first | ((repeat' first | exact lrel_n rfl rfl | refine lrel_c rfl rfl ?_ ?_ | refine xexp_1 rfl rfl ?_ | refine xexp_a rfl rfl ?_ | exact cexp_d rfl (fun h => by cases h) | exact cexp_oV rfl rfl rfl) <;> fail) | fail)) ?_; refine Pp (xPn Tryd.func31 PB) ?_; (first | refine Pd ?_ | refine Po (xIo (i := j) ts_s_Dyadic) ?_); refine Pd ?_; exact Pe; with_unfolding_all exact And.intro (by with_unfolding_all exact rfl) (Or.inr (And.intro rfl (And.intro ⟨rfl, rfl, rfl⟩ (And.intro ⟨(by with_unfolding_all exact rfl), (by with_unfolding_all exact rfl), (by with_unfolding_all exact rfl)⟩ ⟨⟨_, (by with_unfolding_all exact rfl)⟩, ⟨_, (by with_unfolding_all exact rfl)⟩, ⟨_, (by with_unfolding_all exact rfl)⟩⟩))))) | apply qa | apply qb | apply qc | apply qd | apply qe | apply qf | apply qg | apply qh | apply qi | apply qj | apply qk | apply ql rfl | apply qm rfl | apply qn rfl | apply Je | (refine Tx 31 ?_; refine Jo xLt ?_) | (refine Tx 32 ?_; refine Jo (by first | exact xIr ts_s_int (int_at (natI_at hj)) | exact xIo (i := j) ts_s_int) ?_; refine Jo (xLd tk_int) ?_; refine Ja ?_))
    rw [Bool.not_eq_true] at hlg
    have PB := pbrief_cv (valN ps bs (rs.map rvP) ins k) hn2 lp hlg
    repeat' (with_reducible first | apply qa | apply qb | apply qc | apply qd | apply qe | apply qf | apply qg | apply qh | apply qi | apply qj | apply qk | apply ql rfl | apply qm rfl | apply qn rfl | apply Je | (refine Tx 31 ?_; refine Jo xLt ?_) | (refine Tx 32 ?_; refine Jo (by first | exact xIr ts_s_int (int_at (natI_at hj)) | exact xIo (i := j) ts_s_int) ?_; refine Jo (xLd tk_int) ?_; refine Ja ?_) | (refine cw_part (id := 33) 13 mixed (by kernel_rfl) ?_; dsimp only [List.take, List.drop]; refine Ko (xLd tk_s_Dyadic) ?_; refine Km ?_; refine Ko (xLa tk_Diagram) ?_; refine Ko (xFa tf_Diagram1 tk_s_Block) ?_; refine Ko (xLd tk_s_Block) ?_; refine Km ?_; refine Ko (by first | exact xIr ts_s_Block (bk_at hy) | exact xIo (i := j) ts_s_Block) ?_; refine Ko (xLa tk_Block) ?_; refine Ko (xLd tk_s_Dyadic) ?_; refine Km ?_; refine Ko (xCl Tryd.func32 BL (ha := by with_unfolding_all first | ((repeat' first | exact lrel_n rfl rfl | refine lrel_c rfl rfl ?_ ?_ | refine xexp_1 rfl rfl ?_ | refine xexp_a rfl rfl ?_ | exact cexp_d rfl (fun h => by cases h) | exact cexp_oV rfl rfl rfl) <;> fail) | fail)) ?_; refine Ko (xCl Tryd.func31 (PB)) ?_; refine Ko (xIo (i := j) ts_s_Dyadic) ?_; refine Ke ?_; refine Js (by first | exact to_stV rfl rfl rfl rfl tk_Dyadic tl stV | exact xSk tk_Dyadic) ?_) | (refine Tx 34 ?_; refine Jo xAd ?_; refine Jm ?_))
    refine ⟨_, _, wk_go _ 5 ?_ ?_ ?_, _, by omega, k + 1, by omega, rfl, hnx (sm_of hn2 hlg), lt_step hgd hlg, rfl, rfl⟩
    · rfl
    · exact mB rfl rfl
    · exact ⟨bel_lit rfl, bel_lit rfl, bel_lit rfl, bel_lit rfl, bel_cVs, trivial⟩
  obtain rfl : k = (ordM bs).length := by omega
  clear hlt hk
  rw [good_of hnl2 hgd, if_neg (by decide)] at hE
  rw [hE, okQ_z rfl, okQ_z rfl]
  repeat' (with_reducible first | apply qa | apply qb | apply qc | apply qd | apply qe | apply qf | apply qg | apply qh | apply qi | apply qj | apply qk | apply ql rfl | apply qm rfl | apply qn rfl | apply Je | (refine Tx 31 ?_; refine Jo xLt ?_) | (refine Tx 35 ?_; refine Jm ?_; refine Jo (xLn ts_s_int) ?_; refine Jm ?_))
  refine cw_wk (wk_nilbox 1 0 59 3 rfl rfl) ?_
  refine cw_wk (F' := ofL [(1, vd (rowR rs)), (2, vd (rowI v ins)), (3, vr 0), (6, vr 1), (7, vr 2), (8, vr 3), (9, vd (rowI false (natI (delL bs)))), (15, vd (rowI false (natI (ordM bs)))), (155, pin3 1 2 3 g1 g2 g3), (131, vd (rowI false (natI (delL bs)))), (132, vi ((delL bs).length)), (133, vi ((0 : Nat)))]) (H' := [.box 26 [.d (rowP t ps), .d (rowB t bs), .d (rowI t os)], .box 45 [.own 5 ((nextE ps bs (rs.map rvP) ins).take (0)).length], .box 45 [.own 4 bs.length], .box 32 [.d (.val .nilIface)], .row 59 3 bs.length (cVs (valS ps bs (rs.map rvP) ins ((ordM bs).length))), .row 59 3 ((nextE ps bs (rs.map rvP) ins).take (0)).length ((flatD dyP ((nextE ps bs (rs.map rvP) ins).take (0))).map C.d)]) (wk_go _ 6 ?_ ?_ ?_) ?_
  · rfl
  · rw [← hnl]; exact mB rfl rfl
  · exact ⟨bel_lit rfl, bel_lit rfl, bel_lit rfl, bel_lit rfl, bel_cVs, bel_D, trivial⟩
  refine cw_loopW (fun n Fr H => ∃ k : Nat, k ≤ (delL bs).length ∧ n = (delL bs).length - k ∧ Fr = ofL [(1, vd (rowR rs)), (2, vd (rowI v ins)), (3, vr 0), (6, vr 1), (7, vr 2), (8, vr 3), (9, vd (rowI false (natI (delL bs)))), (15, vd (rowI false (natI (ordM bs)))), (155, pin3 1 2 3 g1 g2 g3), (131, vd (rowI false (natI (delL bs)))), (132, vi ((delL bs).length)), (133, vi ((k : Nat)))] ∧ H = [.box 26 [.d (rowP t ps), .d (rowB t bs), .d (rowI t os)], .box 45 [.own 5 ((nextE ps bs (rs.map rvP) ins).take (k)).length], .box 45 [.own 4 bs.length], .box 32 [.d (.val .nilIface)], .row 59 3 bs.length (cVs (valS ps bs (rs.map rvP) ins ((ordM bs).length))), .row 59 3 ((nextE ps bs (rs.map rvP) ins).take (k)).length ((flatD dyP ((nextE ps bs (rs.map rvP) ins).take (k))).map C.d)]) (n0 := (delL bs).length) ⟨0, Nat.zero_le _, rfl, rfl, rfl⟩ ?_
  rintro n Fr H ⟨k, hk, rfl, rfl, rfl⟩
  by_cases hlt : k < (delL bs).length
  case pos =>
    obtain ⟨i, hi⟩ : ∃ i, (delL bs)[k]? = some i := ⟨_, List.getElem?_eq_getElem hlt⟩
    have hil2 := (del_at hi).1
    obtain ⟨y, hy⟩ : ∃ y, bs[i]? = some y := ⟨_, List.getElem?_eq_getElem hil2⟩
    obtain ⟨b, hA0, hbl⟩ := del_arg h0 hy (by rw [← kind_at hy]; exact (del_at hi).2)
    obtain ⟨p, hp, hsm⟩ := has_all h0 HK hbl
    have hal := (List.getElem?_eq_some_iff.1 hA0).1
    have hpl : b < (valS ps bs (rs.map rvP) ins ((ordM bs).length)).length := (List.getElem?_eq_some_iff.1 hp).1
    have lp := Nat.le_trans (hsm.lenN 128 (by decide)) (show 128 ≤ 50000 by decide)
    have SH := pdshift_cv p.1 p.2 0 hsm.ok lp (by have := hsm.ok.1; omega)
    rw [shift_none hsm.ok] at SH
    have hne : (nextE ps bs (rs.map rvP) ins)[k]? = some p := by unfold nextE; rw [List.getElem?_map, hi, Option.map_some, argZ_at hy hA0]; unfold valE; rw [gV_at hp]; rfl
    have hap : (flatD dyP ((nextE ps bs (rs.map rvP) ins).take (k))).map C.d ++ (dDy false p.1 p.2).map C.d = (flatD dyP ((nextE ps bs (rs.map rvP) ins).take (k + 1))).map C.d := by rw [List.take_add_one, hne, Option.toList_some, flatD_app, List.map_append]; rfl
    have hap2 : ((nextE ps bs (rs.map rvP) ins).take (k)).length + 1 = ((nextE ps bs (rs.map rvP) ins).take (k + 1)).length := by rw [List.take_add_one, hne, List.length_append]; rfl
    have hoL : ((nextE ps bs (rs.map rvP) ins).take (k)).length ≤ k := by rw [List.length_take]; omega
    repeat' (with_reducible first | apply qa | apply qb | apply qc | apply qd | apply qe | apply qf | apply qg | apply qh | apply qi | apply qj | apply qk | apply ql rfl | apply qm rfl | apply qn rfl | apply Je | (refine Tx 36 ?_; refine Jo xLt ?_) | (refine Tx 37 ?_; refine Jo (by first | exact xIr ts_s_int (int_at (natI_at hi)) | exact xIo (i := b) ts_s_int) ?_; refine Jo (xLd tk_int) ?_; refine Ja ?_) | (refine cw_part (id := 38) 14 mixed (by kernel_rfl) ?_; dsimp only [List.take, List.drop]; refine Ko (xLd tk_s_Dyadic) ?_; refine Ko (xLd tk_s_Dyadic) ?_; refine Ko (xFa tf_Diagram1 tk_s_Block) ?_; refine Ko (xLd tk_s_Block) ?_; refine Km ?_; refine Ko (by first | exact xIr ts_s_Block (bk_at hy) | exact xIo (i := b) ts_s_Block) ?_; refine Ko (xFa tf_Block1 tk_s_int) ?_; refine Ko (xLd tk_s_int) ?_; refine Ko (by first | exact xIr ts_s_int (int_at hA0) | exact xIo (i := b) ts_s_int) ?_; refine Ko (xLd tk_int) ?_; refine Ko (xIo (i := b) ts_s_Dyadic) ?_; refine Ko (by first | exact ok_ldV rfl rfl rfl hp tk_Dyadic | exact xLa tk_Dyadic) ?_; refine Ko (xCl Tryd.func30 (SH)) ?_; refine Kn (by exact ok_build1 rfl ts_s_Dyadic tz_Dyadic rfl rfl (by decide) (by decide)) ?_; refine Ke ?_; refine Jt (by exact to_apD rfl rfl rfl rfl rfl rfl ts_s_Dyadic tz_Dyadic (by omega) (by decide) (by decide) rfl hap hap2) ?_; refine Js (by first | exact xS1 tk_s_Dyadic | exact xSk tk_s_Dyadic) ?_) | (refine Tx 39 ?_; refine Jo xAd ?_; refine Jm ?_))
    refine ⟨_, _, wk_go _ 6 ?_ ?_ ?_, _, by omega, k + 1, by omega, rfl, rfl, rfl⟩
    · rfl
    · exact mB rfl rfl
    · exact ⟨bel_lit rfl, bel_lit rfl, bel_lit rfl, bel_lit rfl, bel_cVs, bel_D, trivial⟩
  obtain rfl : k = (delL bs).length := by omega
  clear hlt hk
  have hnE : (nextE ps bs (rs.map rvP) ins).length = (delL bs).length := by unfold nextE; rw [List.length_map]
  rw [← hnE, List.take_length]
  have hvE : (valE ps bs (rs.map rvP) ins).length = bs.length := by unfold valE; rw [gV_len, valS_len]
  unfold aDys
  rw [hvE]
  repeat' (with_reducible first | apply qa | apply qb | apply qc | apply qd | apply qe | apply qf | apply qg | apply qh | apply qi | apply qj | apply qk | apply ql rfl | apply qm rfl | apply qn rfl | apply Je | (refine Tx 36 ?_; refine Jo xLt ?_) | (refine cw_stB (id := 40) 2 1 45 [.own 5 (nextE ps bs (rs.map rvP) ins).length] mixed (by kernel_rfl) ?_; dsimp only [List.take, List.drop]; refine c2_o rfl rfl (xLd tk_s_Dyadic) (xLd tk_s_Dyadic) ?_; refine c2_o rfl rfl (xLd tk_s_Dyadic) (xLd tk_s_Dyadic) ?_; refine c2_nil ?_; refine st_go rfl rfl rfl (by exact to_storeE rfl rfl rfl rfl rfl tk_s_Dyadic (Nat.le_of_ble_eq_true rfl) rfl) ?_; refine Js (by first | exact xS1 tk_s_Dyadic | exact xSk tk_s_Dyadic) ?_; refine Js (by first | exact xS1 tk_error | exact xSk tk_error) ?_))
  exact ⟨by with_unfolding_all exact rfl, .inl (ret_q rfl (.cons_ (rvB tk_s_Dyadic (cexp_oD rfl rfl rfl)) (.cons_ (rvB tk_s_Dyadic (cexp_oV rfl rfl rfl)) (.cons_ (rvB tk_error (cexp_d rfl fun _ => .val _)) .nil_))))⟩
def tickE (ps : List Prt) (bs : List Bk) (st : List (Int × Nat)) (ins : List Int) : Int :=
  if ins.length ≠ ps.length then 11 else if inOk ps ins = false then 3 else if stepBad ps bs st ins = true then 4 else 0
structure StOk (bs : List Bk) (st : List (Int × Nat)) : Prop where
  len : st.length = (delL bs).length
  sm : ∀ p ∈ st, Sm p LB LB
theorem tick_zero {ps : List Prt} {bs : List Bk} {st : List (Int × Nat)} {ins : List Int} (h : tickE ps bs st ins = 0) : ins.length = ps.length ∧ inOk ps ins = true ∧ stepBad ps bs st ins = false := by
  unfold tickE at h
  by_cases h1 : ins.length ≠ ps.length
  · rw [if_pos h1] at h; cases h
  · rw [if_neg h1] at h
    by_cases h2 : inOk ps ins = false
    · rw [if_pos h2] at h; cases h
    · rw [if_neg h2] at h
      by_cases h3 : stepBad ps bs st ins = true
      · rw [if_pos h3] at h; cases h
      · exact ⟨Decidable.not_not.1 h1, by simpa using h2, by simpa using h3⟩
theorem bad_false {ps : List Prt} {bs : List Bk} {st : List (Int × Nat)} {ins : List Int} (h : stepBad ps bs st ins = false) : (∀ p ∈ st, longP p = false) ∧ ∀ t, t < (ordM bs).length → longP (valN ps bs st ins t) = false := by
  unfold stepBad at h
  rw [Bool.or_eq_false_iff] at h
  exact ⟨fun p hp => by simpa using List.any_eq_false.1 h.1 p hp, fun t ht => by simpa using List.any_eq_false.1 h.2 t (List.mem_range.2 ht)⟩
theorem valN_is {ps : List Prt} {bs : List Bk} {st : List (Int × Nat)} {ins : List Int} {t j : Nat} {y : Bk} (hj : (ordM bs)[t]? = some j) (hy : bs[j]? = some y) : valN ps bs st ins t = tickV y (argsV (valS ps bs st ins t) y) ps ins := by
  unfold valN tkV
  rw [hj, Option.getD_some, hy]
section
variable {ps : List Prt} {bs : List Bk} {os : List Int} {st : List (Int × Nat)} {ins : List Int}
theorem tick_has (he : dgErr ps bs os = 0) (hl : st.length = (delL bs).length) (hn : ∀ p ∈ st, Nf p.1 p.2) (h : tickE ps bs st ins = 0) : ∀ t, t ≤ (ordM bs).length → Has (valS ps bs st ins t) (stdS bs t) := by
  obtain ⟨h1, h2, h3⟩ := tick_zero h
  obtain ⟨h4, h5⟩ := bad_false h3
  intro t
  induction t with
  | zero => intro _; rw [valS_0]; exact has_del (fun p hp => ⟨hn p hp, h4 p hp⟩) hl
  | succ t ih =>
    intro ht
    obtain ⟨j, hj⟩ : ∃ j, (ordM bs)[t]? = some j := ⟨_, List.getElem?_eq_getElem (by omega)⟩
    have hv := ih (by omega)
    obtain ⟨y, hy, hk, T⟩ := tick_of he h2 h1 hj hv
    refine has_next hv hj (sm_of ?_ (h5 t (by omega)))
    rw [valN_is hj hy]
    exact T.sm.ok
theorem delL_nodup (bs : List Bk) : (delL bs).Nodup := List.Pairwise.filter _ List.nodup_range
theorem ord_nodup (bs : List Bk) : (ordM bs).Nodup := (ordN_ok bs.length (OutOk.nil bs)).nodup
theorem nodup_at {l : List Nat} (h : l.Nodup) {i j x : Nat} (hi : l[i]? = some x) (hj : l[j]? = some x) : i = j := by
  obtain ⟨h1, e1⟩ := List.getElem?_eq_some_iff.1 hi
  obtain ⟨h2, e2⟩ := List.getElem?_eq_some_iff.1 hj
  exact (List.getElem_inj (h₀ := h1) (h₁ := h2) h).1 (e1.trans e2.symm)
theorem val_keep {t u i : Nat} (htu : t ≤ u) (hu : u ≤ (ordM bs).length) (h : ∀ v, t ≤ v → v < u → (ordM bs)[v]? ≠ some i) : (valS ps bs st ins u)[i]? = (valS ps bs st ins t)[i]? := by
  induction u with
  | zero => rw [show t = 0 by omega]
  | succ u ih =>
    by_cases e : t = u + 1
    · rw [e]
    · obtain ⟨j, hj⟩ : ∃ j, (ordM bs)[u]? = some j := ⟨_, List.getElem?_eq_getElem (by omega)⟩
      have hne : j ≠ i := fun hji => h u (by omega) (by omega) (by rw [hj, hji])
      rw [valS_next hj, List.getElem?_set_ne hne]
      exact ih (by omega) (by omega) fun v h1 h2 => h v h1 (by omega)
theorem std_keep {t u i : Nat} (htu : t ≤ u) (hu : u ≤ (ordM bs).length) (h : stdS bs t i) : (valS ps bs st ins u)[i]? = (valS ps bs st ins t)[i]? := by
  refine val_keep htu hu fun v h1 h2 hv => ?_
  rcases h with ⟨_, hk⟩ | hm
  · exact (ord_at hv).2 hk
  · obtain ⟨w, hw⟩ := List.mem_iff_getElem?.1 hm
    rw [List.getElem?_take] at hw
    split at hw
    · have := nodup_at (ord_nodup bs) hw hv
      omega
    · cases hw
def argsE (V : List (Int × Nat)) (y : Bk) : List (Int × Nat) := if y.kind = 0 then [] else y.args.map fun a => V[a.toNat]?.getD (0, 0)
theorem valE_len : (valE ps bs st ins).length = bs.length := by unfold valE; rw [gV_len, valS_len]
theorem nextE_len : (nextE ps bs st ins).length = (delL bs).length := by unfold nextE; rw [List.length_map]
theorem val_block (he : dgErr ps bs os = 0) (hl : st.length = (delL bs).length) (hn : ∀ p ∈ st, Nf p.1 p.2) (h : tickE ps bs st ins = 0) {i : Nat} {y : Bk} (hy : bs[i]? = some y) (hk : y.kind ≠ 2) :
    (valE ps bs st ins)[i]? = some (tickV y (argsE (valE ps bs st ins) y) ps ins) := by
  have H := tick_has he hl hn h
  obtain ⟨h1, h2, _⟩ := tick_zero h
  have hil := (List.getElem?_eq_some_iff.1 hy).1
  obtain ⟨t, ht⟩ := List.mem_iff_getElem?.1 (ord_all (pre_of he).2.2 hil (by rw [kind_at hy]; exact hk))
  have htl := (List.getElem?_eq_some_iff.1 ht).1
  obtain ⟨y', hy', _, T⟩ := tick_of he h2 h1 ht (H t (by omega))
  obtain rfl : y' = y := Option.some.inj (hy'.symm.trans hy)
  have e1 : (valS ps bs st ins (ordM bs).length)[i]? = some (some (valN ps bs st ins t)) := by
    rw [val_keep (t := t + 1) htl (Nat.le_refl _) fun v k1 k2 kv => by have := nodup_at (ord_nodup bs) ht kv; omega]
    rw [valS_next ht, List.getElem?_set_self (by rw [valS_len]; exact hil)]
  rw [show valE ps bs st ins = gV (valS ps bs st ins (ordM bs).length) from rfl, gV_at e1, valN_is ht hy']
  congr 2
  unfold argsV argsE
  by_cases h0 : y'.kind = 0
  · rw [if_pos h0, if_pos h0]
  · rw [if_neg h0, if_neg h0]
    refine List.map_congr_left fun a ha => ?_
    obtain ⟨k, hk'⟩ := List.mem_iff_getElem?.1 ha
    obtain ⟨p, a0, a1, a2, _⟩ := T.args h0 k a hk'
    have hst : stdS bs t a.toNat := by
      have hsplit : ordM bs = (ordM bs).take t ++ i :: (ordM bs).drop (t + 1) := by
        obtain ⟨hlt, he⟩ := List.getElem?_eq_some_iff.1 ht
        rw [← he, ← List.drop_eq_getElem_cons hlt, List.take_append_drop]
      exact (ord_done hsplit (a := a) (by rw [preds_at hy h0]; exact ha)).imp (fun q => ⟨a1, q⟩) id
    have e2 := std_keep (ps := ps) (st := st) (ins := ins) (Nat.le_of_lt htl) (Nat.le_refl _) hst
    rw [a2] at e2
    rw [a2, gV_at e2]
    rfl
theorem del_vals {dl : List Nat} (hd : dl.Nodup) {st : List (Int × Nat)} {vs : List (Option (Int × Nat))} (hl : st.length = dl.length) (hb : ∀ i ∈ dl, i < vs.length) {k i : Nat} (hk : dl[k]? = some i) : (delV dl st vs)[i]? = (st[k]?).map some := by
  have key : ∀ t, t ≤ dl.length → k < t → (delV (dl.take t) (st.take t) vs)[i]? = (st[k]?).map some := fun t => by
    induction t with
    | zero => intro _ h; omega
    | succ t ih =>
      intro ht hkt
      obtain ⟨j, hj⟩ : ∃ j, dl[t]? = some j := ⟨_, List.getElem?_eq_getElem (by omega)⟩
      obtain ⟨p, hp⟩ : ∃ p, st[t]? = some p := ⟨_, List.getElem?_eq_getElem (by omega)⟩
      rw [delV_next _ hj hp]
      by_cases e : k = t
      · subst e
        obtain rfl : j = i := Option.some.inj (hj.symm.trans hk)
        rw [List.getElem?_set_self (by rw [delV_len]; exact hb j (List.mem_of_getElem? hj)), hp]
        rfl
      · have hne : j ≠ i := fun h => e (nodup_at hd hk (h ▸ hj))
        rw [List.getElem?_set_ne hne]
        exact ih (by omega) (by omega)
  have := key dl.length (Nat.le_refl _) (List.getElem?_eq_some_iff.1 hk).1
  rwa [List.take_length, List.take_of_length_le (by omega)] at this
theorem del_lt {i : Nat} (h : i ∈ delL bs) : i < bs.length ∧ kindAt bs i = 2 := by
  obtain ⟨k, hk⟩ := List.mem_iff_getElem?.1 h
  exact del_at hk
theorem val_delay (hl : st.length = (delL bs).length) {k i : Nat} (hk : (delL bs)[k]? = some i) : (valE ps bs st ins)[i]? = st[k]? := by
  have hkl := (List.getElem?_eq_some_iff.1 hk).1
  have hi := del_at hk
  have e1 := std_keep (ps := ps) (st := st) (ins := ins) (Nat.zero_le (ordM bs).length) (Nat.le_refl _) (.inl hi : stdS bs 0 i)
  rw [valS_0, del_vals (delL_nodup bs) hl (fun i hi => by rw [List.length_replicate]; exact (del_lt hi).1) hk] at e1
  obtain ⟨p, hp⟩ : ∃ p, st[k]? = some p := ⟨_, List.getElem?_eq_getElem (by omega)⟩
  rw [hp] at e1 ⊢
  exact gV_at e1
theorem val_sm (he : dgErr ps bs os = 0) (hl : st.length = (delL bs).length) (hn : ∀ p ∈ st, Nf p.1 p.2) (h : tickE ps bs st ins = 0) : ∀ p ∈ valE ps bs st ins, Sm p LB LB := fun p hp => by
  obtain ⟨i, hi⟩ := List.mem_iff_getElem?.1 hp
  have hil := (List.getElem?_eq_some_iff.1 hi).1
  rw [valE_len] at hil
  obtain ⟨q, h1, h2⟩ := has_all he (tick_has he hl hn h _ (Nat.le_refl _)) hil
  rw [show valE ps bs st ins = gV (valS ps bs st ins (ordM bs).length) from rfl, gV_at h1] at hi
  cases hi
  exact h2
theorem next_at {k i : Nat} (hk : (delL bs)[k]? = some i) : (nextE ps bs st ins)[k]? = some (((valE ps bs st ins)[argZ bs i]?).getD (0, 0)) := by
  unfold nextE
  rw [List.getElem?_map, hk, Option.map_some]
theorem next_ok (he : dgErr ps bs os = 0) (hl : st.length = (delL bs).length) (hn : ∀ p ∈ st, Nf p.1 p.2) (h : tickE ps bs st ins = 0) : StOk bs (nextE ps bs st ins) := ⟨nextE_len, fun p hp => by
  obtain ⟨k, hk⟩ := List.mem_iff_getElem?.1 hp
  have hkl := (List.getElem?_eq_some_iff.1 hk).1
  rw [nextE_len] at hkl
  obtain ⟨i, hi⟩ : ∃ i, (delL bs)[k]? = some i := ⟨_, List.getElem?_eq_getElem hkl⟩
  rw [next_at hi] at hk
  cases hk
  exact getD_sm (val_sm he hl hn h) _⟩
theorem StOk.nf (h : StOk bs st) : ∀ p ∈ st, Nf p.1 p.2 := fun p hp => (h.sm p hp).ok
end
def vnAt (bs : List Bk) (i : Nat) : Int := (bs[i]?.getD bk0).vn
def veAt (bs : List Bk) (i : Nat) : Int := (bs[i]?.getD bk0).ve
def startM (bs : List Bk) : List (Int × Nat) := (delL bs).map fun i => dyShift (vnAt bs i) 0 (veAt bs i)
theorem start_ok {ps : List Prt} {bs : List Bk} {os : List Int} (he : dgErr ps bs os = 0) : StOk bs (startM bs) := ⟨by unfold startM; rw [List.length_map], fun p hp => by
  obtain ⟨i, hi, rfl⟩ := List.mem_map.1 hp
  obtain ⟨h1, h2⟩ := del_lt hi
  obtain ⟨y, hy⟩ : ∃ y, bs[i]? = some y := ⟨_, List.getElem?_eq_getElem h1⟩
  rw [kind_at hy] at h2
  obtain ⟨s1, s2, s3, s4⟩ := acc_sc he hy (by unfold valU; rw [h2]; rfl)
  unfold vnAt veAt
  rw [hy]
  exact (Sm.shift (n := 32) (by simp only [Option.getD_some]; omega) (by simp only [Option.getD_some]; omega) (by simp only [Option.getD_some]; omega)).more (by decide) (by decide)⟩
def outV (ps : List Prt) (bs : List Bk) (os : List Int) (st : List (Int × Nat)) (ins : List Int) : List (Int × Nat) := os.map fun o => ((valE ps bs st ins)[o.toNat]?).getD (0, 0)
def stN (ps : List Prt) (bs : List Bk) (st : List (Int × Nat)) (ls : List (List Int)) : List (Int × Nat) := ls.foldl (fun s ins => nextE ps bs s ins) st
def runE (ps : List Prt) (bs : List Bk) (st : List (Int × Nat)) : List (List Int) → Int
  | [] => 0
  | ins :: l => if tickE ps bs st ins = 0 then runE ps bs (nextE ps bs st ins) l else tickE ps bs st ins
def runO (ps : List Prt) (bs : List Bk) (os : List Int) (st : List (Int × Nat)) : List (List Int) → List (List (Int × Nat))
  | [] => []
  | ins :: l => outV ps bs os st ins :: runO ps bs os (nextE ps bs st ins) l
section
variable {ps : List Prt} {bs : List Bk} {os : List Int}
def AllT (ps : List Prt) (bs : List Bk) (st : List (Int × Nat)) (ls : List (List Int)) : Prop := ∀ (k : Nat) (ins : List Int), ls[k]? = some ins → tickE ps bs (stN ps bs st (ls.take k)) ins = 0
end
def rvOf (p : Int × Nat) : Rv := ⟨decide (p.1 < 0), canon p.1.natAbs, p.2⟩
theorem rvOf_x (p : Int × Nat) : (rvOf p).rw.x = p.1 := by
  show sg (decide (p.1 < 0)) (wval (canon p.1.natAbs)) = p.1
  rw [wval_canon]
  unfold sg
  split <;> rename_i h
  · have := of_decide_eq_true h; omega
  · have : ¬ p.1 < 0 := by simpa using h
    omega
theorem rvOf_P (p : Int × Nat) : rvP (rvOf p) = p := by
  unfold rvP
  rw [rvOf_x]
  show (p.1, ((p.2 : Nat) : Int).toNat) = p
  rw [Int.toNat_natCast]
theorem rvOf_D (t : Bool) (p : Int × Nat) : dRv t (rvOf p) = dDy t p.1 p.2 := by
  unfold dRv dDy wds
  rw [w32_D]
  rfl
theorem rvOf_ok {p : Int × Nat} (h : Nf p.1 p.2) : vdB (rvOf p).rw = true := by
  refine decide_eq_true ?_
  by_cases h0 : (canon p.1.natAbs).length = 0
  · refine (vdP_0 (r := (rvOf p).rw) h0).2 ?_
    have hz : p.1.natAbs = 0 := by
      have := wval_canon p.1.natAbs
      rw [List.eq_nil_of_length_eq_zero h0] at this
      exact this.symm
    have hd : p.2 = 0 := Classical.byContradiction fun hne => by have := h.2 hne; omega
    exact ⟨decide_eq_false (by omega), by show ((p.2 : Nat) : Int) = 0; omega⟩
  · refine (vdP_n (r := (rvOf p).rw) h0).2 ⟨?_, by show (0 : Int) ≤ (p.2 : Nat); omega, by have := h.1; show ((p.2 : Nat) : Int) ≤ 65536; omega, ?_⟩
    · have hne : p.1.natAbs ≠ 0 := fun hz => h0 (by rw [hz, canon_zero]; rfl)
      obtain ⟨q, L, hL, hq, q0, _, _⟩ := canon_last hne
      show _ ≠ _
      simp only [rvOf, Rv.rw]
      first | (rw [hL]; simpa [hq] using q0) | simp_all
    · by_cases hd : p.2 = 0
      · left; show ((p.2 : Nat) : Int) = 0; omega
      · right
        have := h.2 hd
        have hb := wval_bit (canon_ok p.1.natAbs) 0
        rw [wval_canon] at hb
        simp only [Nat.pow_zero, Nat.div_one, Nat.zero_div, Nat.zero_mod] at hb
        show (canon p.1.natAbs)[0]?.getD 0 % 2 = 1
        omega
theorem rvOf_map (l : List (Int × Nat)) : (l.map rvOf).map rvP = l := by
  rw [List.map_map]
  exact (List.map_congr_left fun p _ => rvOf_P p).trans (List.map_id l)
theorem rowR_of (l : List (Int × Nat)) : rowR (l.map rvOf) = .row false 3 l.length (flatD dyP l) := by
  unfold rowR flatD
  rw [List.length_map, List.map_map]
  congr 2
  exact List.map_congr_left fun p _ => rvOf_D false p
theorem stE_of {ps : List Prt} {bs : List Bk} {os : List Int} {st : List (Int × Nat)} {ins : List Int} (he : dgErr ps bs os = 0) (h : StOk bs st) : stE ps bs os (st.map rvOf) ins = tickE ps bs st ins := by
  unfold stE tickE
  rw [if_neg (not_not_intro he), if_neg (not_not_intro (by rw [List.length_map]; exact h.len)), if_neg (by rw [Bool.not_eq_false]; exact List.all_eq_true.2 fun r hr => by obtain ⟨p, hp, rfl⟩ := List.mem_map.1 hr; exact rvOf_ok (h.nf p hp)), rvOf_map]
theorem acc_out {ps : List Prt} {bs : List Bk} {os : List Int} (h : dgErr ps bs os = 0) {o : Int} (ho : o ∈ os) : 0 ≤ o ∧ o < (bs.length : Int) := by
  have h1 := (pre_of h).2.1
  unfold preErr at h1
  rw [firstErr_append] at h1
  by_cases h2 : firstErr (ps.map portE) = 0
  · rw [if_pos h2, firstErr_append] at h1
    by_cases h3 : firstErr (bs.map (blkErr ps.length bs.length)) = 0
    · rw [if_pos h3] at h1
      have := firstErr_zero h1 _ (List.mem_map_of_mem (f := outE bs.length) ho)
      unfold outE at this
      by_cases h : 0 ≤ o ∧ o < (bs.length : Int)
      · exact h
      · rw [if_neg h] at this; cases this
    · rw [if_neg h3] at h1; exact absurd h1 h3
  · rw [if_neg h2] at h1; exact absurd h1 h2
theorem delL_le (bs : List Bk) : (delL bs).length ≤ bs.length := by unfold delL; exact Nat.le_trans (List.length_filter_le _ _) (Nat.le_of_eq List.length_range)
theorem start_at {bs : List Bk} {k i : Nat} {y : Bk} (hi : (delL bs)[k]? = some i) (hy : bs[i]? = some y) : (startM bs)[k]? = some (dyShift y.vn 0 y.ve) := by
  unfold startM vnAt veAt
  rw [List.getElem?_map, hi, Option.map_some, hy]
  rfl
theorem flat_next {l : List (Int × Nat)} {k : Nat} {p : Int × Nat} (h : l[k]? = some p) : (flatD dyP (l.take k)).map C.d ++ (dDy false p.1 p.2).map C.d = (flatD dyP (l.take (k + 1))).map C.d ∧ (l.take k).length + 1 = (l.take (k + 1)).length ∧ (l.take k).length ≤ k := by
  refine ⟨?_, ?_, by rw [List.length_take]; omega⟩
  · rw [List.take_add_one, h, Option.toList_some, flatD_app, List.map_append]; rfl
  · rw [List.take_add_one, h, List.length_append]; rfl
def rowLI (u : Bool) (ls : List (List Int)) : D := .row u 1 ls.length (ls.map (rowI u))
def dRw (l : List (Int × Nat)) : D := .row false 3 l.length (flatD dyP l)
def rowLJ (u v : Bool) (ls : List (List Int)) : D := .row u 1 ls.length (ls.map (rowI v))
def rowLD (rows : List (List (Int × Nat))) : D := .row false 1 rows.length (rows.map dRw)
theorem lin_at {u : Bool} {ls : List (List Int)} {k : Nat} {l : List Int} (h : ls[k]? = some l) : ((ls.map (rowI u)).drop (k * 1)).take 1 = [rowI u l] := map_at h
def runQE (ps : List Prt) (bs : List Bk) (os : List Int) (ls : List (List Int)) : Int := if dgErr ps bs os ≠ 0 then dgErr ps bs os else if 256 < ls.length then 4 else runE ps bs (startM bs) ls
theorem pstart_cv (t : Bool) {ps : List Prt} {bs : List Bk} {os : List Int} (hl : DgLen ps bs os) : CV Tryd.prog TabAt 9 [aDg t ps bs os] [aDys (okQ (dgErr ps bs os) (startM bs)), aE (dgErr ps bs os)] := by
  refine cvz Tryd.func9 Tryd.ntmps9 ?_
  have DL := (delays_cv t hl (ps := ps) (bs := bs) (os := os)).cv
  have hnl := natI_len (delL bs)
  by_cases h0 : dgErr ps bs os = 0
  case neg =>
    rw [if_neg h0] at DL
    rw [okQ_n h0]
    repeat' (with_reducible first | apply qa | apply qb | apply qc | apply qd | apply qe | apply qf | apply qg | apply qh | apply qi | apply qj | apply qk | apply ql rfl | apply qm rfl | apply qn rfl | apply Je | (refine Tx 0 ?_; refine Jn xBo ?_; refine Ja ?_; refine Ja ?_) | (refine Tx 1 ?_; refine Jo (xLa tk_Diagram) ?_; refine Jo (xCl Tryd.func22 (DL)) ?_; refine Jo xMt ?_; refine Jo xEx ?_; refine Jo xEx ?_; refine Ja ?_; refine Ja ?_) | (refine Tx 2 ?_; refine Jm ?_; refine Jo (xNE ti_error) ?_) | (refine Tx 3 ?_; refine Jm ?_; refine Ja ?_; refine Ja ?_))
    exact ret_q rfl (.cons_ (.tmp (.one (cexp_n rfl rfl))) (.cons_ (rv_e rfl rfl) .nil_))
  rw [if_pos h0, h0] at DL
  rw [h0, okQ_z rfl]
  repeat' (with_reducible first | apply qa | apply qb | apply qc | apply qd | apply qe | apply qf | apply qg | apply qh | apply qi | apply qj | apply qk | apply ql rfl | apply qm rfl | apply qn rfl | apply Je | (refine Tx 0 ?_; refine Jn xBo ?_; refine Ja ?_; refine Ja ?_) | (refine Tx 1 ?_; refine Jo (xLa tk_Diagram) ?_; refine Jo (xCl Tryd.func22 (DL)) ?_; refine Jo xMt ?_; refine Jo xEx ?_; refine Jo xEx ?_; refine Ja ?_; refine Ja ?_) | (refine Tx 2 ?_; refine Jm ?_; refine Jo (xNE ti_error) ?_) | (refine Tx 4 ?_; refine Ja ?_) | (refine Tx 5 ?_; refine Jm ?_; refine Jo (xLn ts_s_int) ?_; refine Jm ?_))
  refine cw_wk (wk_nil 6 59 3 rfl) ?_
  have hl2 := hl.l2
  have hdb := delL_le bs
  have hsl : (startM bs).length = (delL bs).length := (start_ok h0).len
  refine cw_wk (F' := ofL [(1, vr 0), (6, vo 1 (((startM bs).take 0).length)), (17, vd (rowI false (natI (delL bs)))), (18, vi ((natI (delL bs)).length)), (19, vi ((0 : Nat)))]) (H' := [.box 26 [.d (rowP t ps), .d (rowB t bs), .d (rowI t os)], .row 59 3 ((startM bs).take (0)).length ((flatD dyP ((startM bs).take (0))).map C.d)]) (wk_go _ 2 ?_ ?_ ?_) ?_
  · rfl
  · exact mB rfl rfl
  · exact ⟨bel_lit rfl, bel_D, trivial⟩
  refine cw_loopW (fun n Fr H => ∃ k : Nat, k ≤ (delL bs).length ∧ n = (delL bs).length - k ∧ Fr = ofL [(1, vr 0), (6, vo 1 (((startM bs).take k).length)), (17, vd (rowI false (natI (delL bs)))), (18, vi ((natI (delL bs)).length)), (19, vi ((k : Nat)))] ∧ H = [.box 26 [.d (rowP t ps), .d (rowB t bs), .d (rowI t os)], .row 59 3 ((startM bs).take (k)).length ((flatD dyP ((startM bs).take (k))).map C.d)]) (n0 := (delL bs).length) ⟨0, Nat.zero_le _, rfl, rfl, rfl⟩ ?_
  rintro n Fr H ⟨k, hk, rfl, rfl, rfl⟩
  by_cases hlt : k < (delL bs).length
  case pos =>
    obtain ⟨i, hi⟩ : ∃ i, (delL bs)[k]? = some i := ⟨_, List.getElem?_eq_getElem hlt⟩
    have hid := del_at hi
    have hil := hid.1
    obtain ⟨y, hy⟩ : ∃ y, bs[i]? = some y := ⟨_, List.getElem?_eq_getElem hil⟩
    have hk2 := hid.2
    rw [kind_at hy] at hk2
    have hsc := acc_sc h0 hy (by unfold valU; rw [hk2]; rfl)
    have NU := number_cv2 y.vn y.ve hsc
    obtain ⟨hap, hap2, hoL⟩ := flat_next (start_at hi hy)
    repeat' (with_reducible first | apply qa | apply qb | apply qc | apply qd | apply qe | apply qf | apply qg | apply qh | apply qi | apply qj | apply qk | apply ql rfl | apply qm rfl | apply qn rfl | apply Je | (refine Tx 6 ?_; refine Jo xLt ?_) | (refine Tx 7 ?_; refine Jo (xIr ts_s_int (int_at (natI_at hi))) ?_; refine Jo (xLd tk_int) ?_; refine Ja ?_) | (refine Tx 8 ?_; refine Jm ?_; refine Jo (xFa tf_Diagram1 tk_s_Block) ?_; refine Jo (xLd tk_s_Block) ?_; refine Jm ?_; refine Jo (xIr ts_s_Block (bk_at hy)) ?_; refine Jo (xFa tf_Block2 tk_Scalar) ?_; refine Jo (xLa tk_Scalar) ?_; refine Jo (xCl Tryd.func23 (NU)) ?_; refine Jn (by exact ok_build1 rfl ts_s_Dyadic tz_Dyadic rfl rfl (by decide) (by decide)) ?_; refine Jt (by exact to_apD rfl rfl rfl rfl rfl rfl ts_s_Dyadic tz_Dyadic (by omega) (by decide) (by decide) rfl hap hap2) ?_; refine Ja ?_) | (refine Tx 9 ?_; refine Jo xAd ?_; refine Jm ?_))
    refine ⟨_, _, wk_go _ 2 ?_ ?_ ?_, _, ?_, k + 1, by omega, rfl, rfl, rfl⟩
    · rfl
    · exact mB rfl rfl
    · exact ⟨bel_lit rfl, bel_D, trivial⟩
    · omega
  obtain rfl : k = (delL bs).length := by omega
  clear hlt hk
  rw [← hsl, List.take_length]
  unfold aDys
  repeat' (with_reducible first | apply qa | apply qb | apply qc | apply qd | apply qe | apply qf | apply qg | apply qh | apply qi | apply qj | apply qk | apply ql rfl | apply qm rfl | apply qn rfl | apply Je | (refine Tx 6 ?_; refine Jo xLt ?_) | (refine Tx 10 ?_; refine Jm ?_; refine Ja ?_; refine Ja ?_))
  exact ret_q rfl (.cons_ (.tmp (.one (cexp_oD rfl rfl rfl))) (.cons_ (rv_e0 rfl rfl) .nil_))
end Go.Proofs.YtmdfjbpggbhgnaaDoor
namespace Go.Proofs.YtmdfjbpggbhgnaaDoor
open Go.RowKit Cd
structure CsOk (bs : List Bk) (F cs : List Int) : Prop where
  len : cs.length = (initM bs F).length
  short : ∀ z ∈ cs, shortB z = true
  up : ∀ c, bs.length + (delL bs).length ≤ c → cs[c]? = (initM bs F)[c]?
theorem CsOk.init (bs : List Bk) (F : List Int) : CsOk bs F (initM bs F) := ⟨rfl, fun _ hz => init_short hz, fun _ _ => rfl⟩
def befC (bs : List Bk) (cs V : List Int) (a : Nat) : Option Int := if kindAt bs a = 2 then cs[a]? else V[a]?
def zC (bs : List Bk) (cs V : List Int) (a : Int) : Int := (befC bs cs V a.toNat).getD 0
def preC (ps : List Prt) (F inn : List Int) (y : Bk) (s : Int) (z : Int → Int) : Int :=
  if y.kind = 0 then scl (inn[(arg0 y).toNat]?.getD 0) (s - portFr ps (arg0 y))
  else if y.kind = 1 then rawV y.vn y.ve s
  else if y.kind = 6 then scl (z (arg0 y) * y.vn) (s - scA F (arg0 y).toNat + y.ve)
  else if y.kind = 7 then scl (z (arg0 y) * z (arg1 y)) (s - scA F (arg0 y).toNat - scA F (arg1 y).toNat)
  else if y.kind = 11 then max (scl (z (arg0 y)) (s - scA F (arg0 y).toNat)) (rawV y.vn y.ve s)
  else if y.kind = 3 then scl (z (arg0 y)) (s - scA F (arg0 y).toNat) + scl (z (arg1 y)) (s - scA F (arg1 y).toNat)
  else if y.kind = 4 then scl (z (arg0 y)) (s - scA F (arg0 y).toNat) - scl (z (arg1 y)) (s - scA F (arg1 y).toNat)
  else if y.kind = 8 then min (scl (z (arg0 y)) (s - scA F (arg0 y).toNat)) (scl (z (arg1 y)) (s - scA F (arg1 y).toNat))
  else if y.kind = 9 then max (scl (z (arg0 y)) (s - scA F (arg0 y).toNat)) (scl (z (arg1 y)) (s - scA F (arg1 y).toNat))
  else if y.kind = 5 then -scl (z (arg0 y)) (s - scA F (arg0 y).toNat)
  else max (scl (z (arg0 y)) (s - scA F (arg0 y).toNat)) (-scl (z (arg0 y)) (s - scA F (arg0 y).toNat))
def cellZ (ps : List Prt) (F inn : List Int) (y : Bk) (s : Int) (z : Int → Int) : Int := if y.kind = 11 then min (preC ps F inn y s z) (rawV y.un y.ue s) else preC ps F inn y s z
section
variable {ps : List Prt} {bs : List Bk} {os F inn cs : List Int}
def stK (ps : List Prt) (bs : List Bk) (F inn cs : List Int) (k : Nat) : List Int × Bool := (((ordM bs).take k).flatMap (fun j => blkC ps bs F j (cellF bs j))).foldl (stepV inn) (cs, false)
abbrev stL (ps : List Prt) (bs : List Bk) (F inn cs : List Int) : List Int × Bool := stK ps bs F inn cs (ordM bs).length
theorem stK_next {k j : Nat} (hj : (ordM bs)[k]? = some j) : stK ps bs F inn cs (k + 1) = (blkC ps bs F j (cellF bs j)).foldl (stepV inn) (stK ps bs F inn cs k) := by
  unfold stK
  rw [List.take_add_one, hj]
  simp [List.flatMap_append, List.foldl_append]
theorem stK_len (k : Nat) : (stK ps bs F inn cs k).1.length = cs.length := fold_len
theorem stK_short (hs : ∀ z ∈ cs, shortB z = true) (k : Nat) : ∀ z ∈ (stK ps bs F inn cs k).1, shortB z = true := fold_short hs
theorem stK_other {k i : Nat} (hi : i ∉ (ordM bs).take k) : (stK ps bs F inn cs k).1[i]? = cs[i]? := by
  refine run_free fun x hx => ?_
  obtain ⟨j, hj, hx⟩ := List.mem_flatMap.1 hx
  rw [blk_dst.1 x hx]
  intro h
  have : j = i := by omega
  exact hi (this ▸ hj)
theorem ordM_mem {i : Nat} (h : i ∈ ordM bs) : i < bs.length ∧ kindAt bs i ≠ 2 := (ordN_ok bs.length (OutOk.nil bs)).mem i h
theorem ordM_nodup : (ordM bs).Nodup := (ordN_ok bs.length (OutOk.nil bs)).nodup
theorem stK_keep {k m i : Nat} (hkm : k ≤ m) (hi : i ∈ (ordM bs).take k) : (stK ps bs F inn cs m).1[i]? = (stK ps bs F inn cs k).1[i]? := by
  induction m with
  | zero => rw [Nat.le_zero.1 hkm]
  | succ m ih =>
    by_cases hk : k = m + 1
    · rw [hk]
    rw [← ih (by omega)]
    rcases hj : (ordM bs)[m]? with _ | j
    · unfold stK; rw [List.take_add_one, hj]; simp
    rw [stK_next hj]
    refine run_free fun x hx => ?_
    rw [blk_dst.1 x hx]
    intro h
    have hji : j = i := by omega
    subst hji
    obtain ⟨q, hq⟩ := List.getElem?_of_mem hi
    rw [List.getElem?_take] at hq
    split at hq
    · have h1 := (List.getElem?_inj (List.getElem?_eq_some_iff.1 hq).1 ordM_nodup).1 (hq.trans hj.symm)
      omega
    · cases hq
theorem at_k (h0 : ordErr bs = 0) {k j : Nat} (hj : (ordM bs)[k]? = some j) {a : Int} (ha : a ∈ preds bs j) (a0 : 0 ≤ a) (a1 : a < bs.length) : (stK ps bs F inn cs k).1[a.toNat]? = befC bs cs (stL ps bs F inn cs).1 a.toNat := by
  have hsplit : ordM bs = (ordM bs).take k ++ j :: (ordM bs).drop (k + 1) := by
    obtain ⟨hlt, he⟩ := List.getElem?_eq_some_iff.1 hj
    rw [← he, ← List.drop_eq_getElem_cons hlt, List.take_append_drop]
  unfold befC
  by_cases h2 : kindAt bs a.toNat = 2
  · rw [if_pos h2]
    exact stK_other fun h => (ordM_mem (List.mem_of_mem_take h)).2 h2
  · rw [if_neg h2]
    have hin := (ord_done hsplit ha).resolve_left h2
    exact (stK_keep (Nat.le_of_lt (List.getElem?_eq_some_iff.1 hj).1) hin).symm
theorem zC_range (hC : CsOk bs F cs) {V : List Int} (hl : V.length = cs.length) (hs : ∀ z ∈ V, shortB z = true) {a : Int} (a0 : 0 ≤ a) (a1 : a < bs.length) : befC bs cs V a.toNat = some (zC bs cs V a) ∧ -2147483648 ≤ zC bs cs V a ∧ zC bs cs V a < 2147483648 := by
  have hi := init_len bs F
  have hcl := hC.len
  have key : ∃ z, befC bs cs V a.toNat = some z ∧ shortB z = true := by
    unfold befC
    by_cases h2 : kindAt bs a.toNat = 2
    · rw [if_pos h2]
      obtain ⟨z, hz⟩ : ∃ z, cs[a.toNat]? = some z := ⟨_, List.getElem?_eq_getElem (by omega)⟩
      exact ⟨z, hz, hC.short z (List.mem_of_getElem? hz)⟩
    · rw [if_neg h2]
      obtain ⟨z, hz⟩ : ∃ z, V[a.toNat]? = some z := ⟨_, List.getElem?_eq_getElem (by omega)⟩
      exact ⟨z, hz, hs z (List.mem_of_getElem? hz)⟩
  obtain ⟨z, h1, h2⟩ := key
  have h3 := shortB_t h2
  have e : zC bs cs V a = z := by unfold zC; rw [h1]; rfl
  rw [e]
  exact ⟨h1, h3.1, h3.2⟩
theorem clip_at {j : Nat} (hj : j < bs.length) (hk : kindAt bs j = 11) : bs.length + (delL bs).length ≤ (cellF bs j).toNat ∧ 0 ≤ cellF bs j := by
  have hc : cellF bs j = (bs.length : Int) + ((dlK bs bs.length).length : Int) + 2 * (rank (cpB bs) j : Int) := by unfold cellF; rw [if_neg (by omega), if_pos hk]
  rw [delL_is]
  omega
theorem run_one {st : List Int × Bool} {x : Ins} {j : Nat} (hd : x.dst = (j : Int)) (hj : j < st.1.length) : ([x].foldl (stepV inn) st).2 = (st.2 || !shortB (insV x st.1 inn)) ∧ (shortB (insV x st.1 inn) = true → ([x].foldl (stepV inn) st).1[j]? = some (insV x st.1 inn)) := by
  refine ⟨rfl, fun h => ?_⟩
  show (st.1.set x.dst.toNat (cutV (insV x st.1 inn)))[j]? = _
  rw [cutV_in h, hd, Int.toNat_natCast, List.getElem?_set, if_pos rfl, if_pos hj]
theorem blk_run (he : dgErr ps bs os = 0) (hc : cpErr ps bs F = 0) (hC : CsOk bs F cs) (hin : ps.length ≤ inn.length) {k j : Nat} (hj : (ordM bs)[k]? = some j) {y : Bk} (hy : bs[j]? = some y) :
    (stK ps bs F inn cs (k + 1)).2 = ((stK ps bs F inn cs k).2 || !shortB (preC ps F inn y (scA F j) (zC bs cs (stL ps bs F inn cs).1))) ∧
    (shortB (preC ps F inn y (scA F j) (zC bs cs (stL ps bs F inn cs).1)) = true → (stK ps bs F inn cs (k + 1)).1[j]? = some (cellZ ps F inn y (scA F j) (zC bs cs (stL ps bs F inn cs).1)) ∧ shortB (cellZ ps F inn y (scA F j) (zC bs cs (stL ps bs F inn cs).1)) = true) := by
  obtain ⟨hFl, hall, hcon⟩ := cp_facts hc
  have hjl := (List.getElem?_eq_some_iff.1 hy).1
  have hYK := kindA_of hy
  have hYA := blkA_of hy
  have ho : ordErr bs = 0 := (pre_of he).2.2
  have hk2 : y.kind ≠ 2 := by rw [← hYK]; exact (ordM_mem (List.mem_of_getElem? hj)).2
  have hat : ∀ a ∈ preds bs j, 0 ≤ a → a < bs.length → (stK ps bs F inn cs k).1[a.toNat]? = befC bs cs (stL ps bs F inn cs).1 a.toNat := fun a ha => at_k ho hj ha
  have hzr := fun (a : Int) => zC_range (a := a) hC (V := (stL ps bs F inn cs).1) (stK_len _) (stK_short hC.short _)
  have hup : ∀ c, bs.length ≤ c → (stK ps bs F inn cs k).1[c]? = cs[c]? := fun c hc => stK_other fun h => by
    have := (ordM_mem (List.mem_of_mem_take h)).1
    omega
  have hlen : (stK ps bs F inn cs k).1.length = cs.length := stK_len _
  have hshort : ∀ z ∈ (stK ps bs F inn cs k).1, shortB z = true := stK_short hC.short _
  rw [stK_next hj]
  generalize stK ps bs F inn cs k = st at hat hup hlen hshort ⊢
  generalize (stL ps bs F inn cs).1 = V at hat hzr ⊢
  have hil := init_len bs F
  have hcl := hC.len
  have hjs : j < st.1.length := by omega
  have hone := fun (x : Ins) (hd : x.dst = (j : Int)) => run_one (inn := inn) (st := st) hd hjs
  have hac := acc_args he hy
  have hck := hac.2.1
  have hcg := hac.1
  by_cases k0 : y.kind = 0
  · have hl : y.args.length = 1 := by rw [k0] at hck; simp [arityM] at hck; omega
    obtain ⟨a, ha⟩ : ∃ a, y.args[0]? = some a := ⟨_, List.getElem?_eq_getElem (by omega)⟩
    have h1 := hac.2.2 a (List.mem_of_getElem? ha)
    rw [show mostM ps.length bs.length y.kind = ps.length from if_pos k0] at h1
    have Aa : arg0 y = a := by unfold arg0; rw [ha]; rfl
    obtain ⟨r, hr⟩ : ∃ r, inn[a.toNat]? = some r := ⟨_, List.getElem?_eq_getElem (by omega)⟩
    have hb : blkC ps bs F j (cellF bs j) = [⟨0, j, a, 0, scA F j - portFr ps a, 0, 0⟩] := by unfold blkC; dsimp only; rw [hYA, if_pos k0, Aa]
    have hp : preC ps F inn y (scA F j) (zC bs cs V) = scl r (scA F j - portFr ps a) := by unfold preC; rw [if_pos k0, Aa, hr]; rfl
    have hcc : cellZ ps F inn y (scA F j) (zC bs cs V) = scl r (scA F j - portFr ps a) := by unfold cellZ; rw [if_neg (by omega), hp]
    have := hone ⟨0, j, a, 0, scA F j - portFr ps a, 0, 0⟩ rfl
    rw [iv_in rfl hr] at this
    rw [hb, hp, hcc]
    exact ⟨this.1, fun h => ⟨this.2 h, h⟩⟩
  have hpr : preds bs j = y.args := by unfold preds argsAt; rw [hYK, if_neg k0, hy]; rfl
  have hM : mostM ps.length bs.length y.kind = bs.length := if_neg k0
  have arg : ∀ i a, y.args[i]? = some a → st.1[a.toNat]? = some (zC bs cs V a) := fun i a h => by
    have hm := List.mem_of_getElem? h
    have h1 := hac.2.2 a hm
    rw [hM] at h1
    exact (hat a (by rw [hpr]; exact hm) h1.1 h1.2).trans (hzr a h1.1 h1.2).1
  by_cases k1 : y.kind = 1
  · have hb : blkC ps bs F j (cellF bs j) = [⟨1, j, 0, 0, 0, 0, rawVv bs F j⟩] := by unfold blkC; dsimp only; rw [hYA, if_neg k0, if_pos k1]
    have hrv : rawVv bs F j = rawV y.vn y.ve (scA F j) := by unfold rawVv; rw [hYA]
    have hp : preC ps F inn y (scA F j) (zC bs cs V) = rawV y.vn y.ve (scA F j) := by unfold preC; rw [if_neg k0, if_pos k1]
    have hcc : cellZ ps F inn y (scA F j) (zC bs cs V) = rawV y.vn y.ve (scA F j) := by unfold cellZ; rw [if_neg (by omega), hp]
    have := hone ⟨1, j, 0, 0, 0, 0, rawVv bs F j⟩ rfl
    rw [iv_const rfl] at this
    rw [hb, hp, hcc, ← hrv]
    exact ⟨this.1, fun h => ⟨this.2 h, h⟩⟩
  have hl1 : 1 ≤ y.args.length := by unfold arityM at hck hcg; (repeat' split at hck) <;> omega
  obtain ⟨a, ha⟩ : ∃ a, y.args[0]? = some a := ⟨_, List.getElem?_eq_getElem (by omega)⟩
  have Aa : arg0 y = a := by unfold arg0; rw [ha]; rfl
  have hw := arg 0 a ha
  by_cases k6 : y.kind = 6
  · have hb : blkC ps bs F j (cellF bs j) = [⟨6, j, a, 0, scA F j - scA F a.toNat + y.ve, 0, y.vn⟩] := by unfold blkC; dsimp only; rw [hYA, if_neg k0, if_neg k1, if_pos k6, Aa]
    have hp : preC ps F inn y (scA F j) (zC bs cs V) = scl (zC bs cs V a * y.vn) (scA F j - scA F a.toNat + y.ve) := by unfold preC; rw [if_neg k0, if_neg k1, if_pos k6, Aa]
    have hcc : cellZ ps F inn y (scA F j) (zC bs cs V) = scl (zC bs cs V a * y.vn) (scA F j - scA F a.toNat + y.ve) := by unfold cellZ; rw [if_neg (by omega), hp]
    have := hone ⟨6, j, a, 0, scA F j - scA F a.toNat + y.ve, 0, y.vn⟩ rfl
    rw [iv_gain rfl hw] at this
    rw [hb, hp, hcc]
    exact ⟨this.1, fun h => ⟨this.2 h, h⟩⟩
  by_cases two : y.kind = 3 ∨ y.kind = 4 ∨ y.kind = 7 ∨ y.kind = 8 ∨ y.kind = 9
  · have hl2 : y.args.length = 2 := by unfold arityM at hck hcg; (repeat' split at hck) <;> omega
    obtain ⟨b, hb1⟩ : ∃ b, y.args[1]? = some b := ⟨_, List.getElem?_eq_getElem (by omega)⟩
    have Ab : arg1 y = b := by unfold arg1; rw [hb1]; rfl
    have hv := arg 1 b hb1
    have k11 : y.kind ≠ 11 := by omega
    have hcc : cellZ ps F inn y (scA F j) (zC bs cs V) = preC ps F inn y (scA F j) (zC bs cs V) := by unfold cellZ; rw [if_neg k11]
    rw [hcc]
    by_cases k7 : y.kind = 7
    · have hb : blkC ps bs F j (cellF bs j) = [⟨7, j, a, b, scA F j - scA F a.toNat - scA F b.toNat, 0, 0⟩] := by unfold blkC; dsimp only; rw [hYA, if_neg k0, if_neg k1, if_neg k6, if_pos k7, Aa, Ab]
      have hp : preC ps F inn y (scA F j) (zC bs cs V) = scl (zC bs cs V a * zC bs cs V b) (scA F j - scA F a.toNat - scA F b.toNat) := by unfold preC; rw [if_neg k0, if_neg k1, if_neg k6, if_pos k7, Aa, Ab]
      have := hone ⟨7, j, a, b, scA F j - scA F a.toNat - scA F b.toNat, 0, 0⟩ rfl
      rw [iv_mul rfl hw hv] at this
      rw [hb, hp]
      exact ⟨this.1, fun h => ⟨this.2 h, h⟩⟩
    have blk : blkC ps bs F j (cellF bs j) = [⟨opM y.kind, j, a, b, scA F j - scA F a.toNat, scA F j - scA F b.toNat, 0⟩] := by unfold blkC; dsimp only; rw [hYA, if_neg k0, if_neg k1, if_neg k6, if_neg k7, if_neg k11, if_pos hl2, Aa, Ab]
    have := hone ⟨opM y.kind, j, a, b, scA F j - scA F a.toNat, scA F j - scA F b.toNat, 0⟩ rfl
    rw [blk]
    rcases (show y.kind = 3 ∨ y.kind = 4 ∨ y.kind = 8 ∨ y.kind = 9 by omega) with q | q | q | q
    · rw [iv_add (by rw [q]; rfl) hw hv] at this
      have hp : preC ps F inn y (scA F j) (zC bs cs V) = scl (zC bs cs V a) (scA F j - scA F a.toNat) + scl (zC bs cs V b) (scA F j - scA F b.toNat) := by unfold preC; rw [if_neg k0, if_neg k1, if_neg k6, if_neg k7, if_neg k11, if_pos q, Aa, Ab]
      rw [hp]
      exact ⟨this.1, fun h => ⟨this.2 h, h⟩⟩
    · rw [iv_sub (by rw [q]; rfl) hw hv] at this
      have hp : preC ps F inn y (scA F j) (zC bs cs V) = scl (zC bs cs V a) (scA F j - scA F a.toNat) - scl (zC bs cs V b) (scA F j - scA F b.toNat) := by unfold preC; rw [if_neg k0, if_neg k1, if_neg k6, if_neg k7, if_neg k11, if_neg (by omega), if_pos q, Aa, Ab]
      rw [hp]
      exact ⟨this.1, fun h => ⟨this.2 h, h⟩⟩
    · rw [iv_min (by rw [q]; rfl) hw hv] at this
      have hp : preC ps F inn y (scA F j) (zC bs cs V) = min (scl (zC bs cs V a) (scA F j - scA F a.toNat)) (scl (zC bs cs V b) (scA F j - scA F b.toNat)) := by unfold preC; rw [if_neg k0, if_neg k1, if_neg k6, if_neg k7, if_neg k11, if_neg (by omega), if_neg (by omega), if_pos q, Aa, Ab]
      rw [hp]
      exact ⟨this.1, fun h => ⟨this.2 h, h⟩⟩
    · rw [iv_max (by rw [q]; rfl) hw hv] at this
      have hp : preC ps F inn y (scA F j) (zC bs cs V) = max (scl (zC bs cs V a) (scA F j - scA F a.toNat)) (scl (zC bs cs V b) (scA F j - scA F b.toNat)) := by unfold preC; rw [if_neg k0, if_neg k1, if_neg k6, if_neg k7, if_neg k11, if_neg (by omega), if_neg (by omega), if_neg (by omega), if_pos q, Aa, Ab]
      rw [hp]
      exact ⟨this.1, fun h => ⟨this.2 h, h⟩⟩
  have k7 : y.kind ≠ 7 := by omega
  have hl1' : y.args.length = 1 := by unfold arityM at hck hcg; (repeat' split at hck) <;> omega
  by_cases k11 : y.kind = 11
  · obtain ⟨hci, hlo, hhi⟩ := clip_init (F := F) hjl (hYK.trans k11)
    obtain ⟨hcd, hc0⟩ := clip_at hjl (hYK.trans k11)
    have hcV : conV bs F j = rawV y.vn y.ve (scA F j) := by unfold conV; rw [hYK, if_pos (by omega)]; unfold rawVv; rw [hYA]
    have hcU : conU bs F j = rawV y.un y.ue (scA F j) := by unfold conU; rw [hYK, if_pos k11]; unfold rawUu; rw [hYA]
    rw [hcV] at hlo
    rw [hcU] at hhi
    have slo : shortB (rawV y.vn y.ve (scA F j)) = true := raw_short _ _ _
    have shi : shortB (rawV y.un y.ue (scA F j)) = true := raw_short _ _ _
    have blk : blkC ps bs F j (cellF bs j) = [⟨9, j, a, cellF bs j, scA F j - scA F a.toNat, 0, 0⟩, ⟨8, j, j, cellF bs j + 1, 0, 0, 0⟩] := by unfold blkC; dsimp only; rw [hYA, if_neg k0, if_neg k1, if_neg k6, if_neg k7, if_pos k11, Aa]
    have hup1 := (hup (cellF bs j).toNat hci).trans ((hC.up _ hcd).trans hlo)
    have hup2 := (hup (cellF bs j + 1).toNat (by omega)).trans ((hC.up _ (by omega)).trans hhi)
    have i1 : insV ⟨9, j, a, cellF bs j, scA F j - scA F a.toNat, 0, 0⟩ st.1 inn = max (scl (zC bs cs V a) (scA F j - scA F a.toNat)) (rawV y.vn y.ve (scA F j)) := by
      rw [iv_max rfl hw hup1]
      show max _ (scl _ 0) = _
      rw [scl_zero slo]
    have hp : preC ps F inn y (scA F j) (zC bs cs V) = max (scl (zC bs cs V a) (scA F j - scA F a.toNat)) (rawV y.vn y.ve (scA F j)) := by unfold preC; rw [if_neg k0, if_neg k1, if_neg k6, if_neg k7, if_pos k11, Aa]
    have hcc : cellZ ps F inn y (scA F j) (zC bs cs V) = min (max (scl (zC bs cs V a) (scA F j - scA F a.toNat)) (rawV y.vn y.ve (scA F j))) (rawV y.un y.ue (scA F j)) := by unfold cellZ; rw [if_pos k11, hp]
    obtain ⟨o1, o2⟩ := hone ⟨9, j, a, cellF bs j, scA F j - scA F a.toNat, 0, 0⟩ rfl
    rw [i1] at o1 o2
    rw [hp, hcc, blk]
    rw [show ([⟨9, j, a, cellF bs j, scA F j - scA F a.toNat, 0, 0⟩, ⟨8, j, j, cellF bs j + 1, 0, 0, 0⟩] : List Ins).foldl (stepV inn) st = [⟨8, j, j, cellF bs j + 1, 0, 0, 0⟩].foldl (stepV inn) ([⟨9, j, a, cellF bs j, scA F j - scA F a.toNat, 0, 0⟩].foldl (stepV inn) st) from rfl]
    have hf : ([(⟨9, j, a, cellF bs j, scA F j - scA F a.toNat, 0, 0⟩ : Ins)].foldl (stepV inn) st).1[(cellF bs j + 1).toNat]? = some (rawV y.un y.ue (scA F j)) := (run_free fun x hx => by
      rw [List.mem_singleton.1 hx]
      show ((j : Int)).toNat ≠ _
      omega).trans hup2
    have hs1 := fold_short (inn := inn) (xs := [(⟨9, j, a, cellF bs j, scA F j - scA F a.toNat, 0, 0⟩ : Ins)]) hshort
    have hl3 : ([(⟨9, j, a, cellF bs j, scA F j - scA F a.toNat, 0, 0⟩ : Ins)].foldl (stepV inn) st).1.length = st.1.length := fold_len
    generalize max (scl (zC bs cs V a) (scA F j - scA F a.toNat)) (rawV y.vn y.ve (scA F j)) = p at o1 o2 ⊢
    generalize [(⟨9, j, a, cellF bs j, scA F j - scA F a.toNat, 0, 0⟩ : Ins)].foldl (stepV inn) st = s1 at o1 o2 hf hs1 hl3 ⊢
    obtain ⟨q, hq⟩ : ∃ q, s1.1[j]? = some q := ⟨_, List.getElem?_eq_getElem (by omega)⟩
    have qs := hs1 q (List.mem_of_getElem? hq)
    obtain ⟨r1, r2⟩ := run_one (inn := inn) (st := s1) (x := ⟨8, j, j, cellF bs j + 1, 0, 0, 0⟩) (j := j) rfl (by omega)
    have i2 : insV ⟨8, j, j, cellF bs j + 1, 0, 0, 0⟩ s1.1 inn = min q (rawV y.un y.ue (scA F j)) := by
      rw [iv_min rfl (by show s1.1[((j : Int)).toNat]? = _; rw [Int.toNat_natCast]; exact hq) hf]
      show min (scl _ 0) (scl _ 0) = _
      rw [scl_zero qs, scl_zero shi]
    have ms : shortB (min q (rawV y.un y.ue (scA F j))) = true := by
      have h1 := shortB_t qs
      have h2 := shortB_t shi
      exact decide_eq_true (by omega)
    rw [i2, ms] at r1
    rw [i2] at r2
    refine ⟨by rw [r1, o1]; simp, fun h => ?_⟩
    have hqp := hq.symm.trans (o2 h)
    cases hqp
    exact ⟨r2 ms, ms⟩
  have hcc : cellZ ps F inn y (scA F j) (zC bs cs V) = preC ps F inn y (scA F j) (zC bs cs V) := by unfold cellZ; rw [if_neg k11]
  have blk : blkC ps bs F j (cellF bs j) = [⟨opM y.kind, j, a, 0, scA F j - scA F a.toNat, 0, 0⟩] := by unfold blkC; dsimp only; rw [hYA, if_neg k0, if_neg k1, if_neg k6, if_neg k7, if_neg k11, if_neg (by omega), Aa]
  have := hone ⟨opM y.kind, j, a, 0, scA F j - scA F a.toNat, 0, 0⟩ rfl
  rw [blk, hcc]
  have hk := acc_kind he hy
  rcases (show y.kind = 5 ∨ y.kind = 10 by omega) with q | q
  · rw [iv_neg (by rw [q]; rfl) hw] at this
    have hp : preC ps F inn y (scA F j) (zC bs cs V) = -scl (zC bs cs V a) (scA F j - scA F a.toNat) := by unfold preC; rw [if_neg k0, if_neg k1, if_neg k6, if_neg k7, if_neg k11, if_neg (by omega), if_neg (by omega), if_neg (by omega), if_neg (by omega), if_pos q, Aa]
    rw [hp]
    exact ⟨this.1, fun h => ⟨this.2 h, h⟩⟩
  · rw [iv_abs (by rw [q]; rfl) hw] at this
    have hp : preC ps F inn y (scA F j) (zC bs cs V) = max (scl (zC bs cs V a) (scA F j - scA F a.toNat)) (-scl (zC bs cs V a) (scA F j - scA F a.toNat)) := by unfold preC; rw [if_neg k0, if_neg k1, if_neg k6, if_neg k7, if_neg k11, if_neg (by omega), if_neg (by omega), if_neg (by omega), if_neg (by omega), if_neg (by omega), Aa]
    rw [hp]
    exact ⟨this.1, fun h => ⟨this.2 h, h⟩⟩
def nxC (bs : List Bk) (F cs V : List Int) (j : Nat) : Int := scl (zC bs cs V (arg0 (blkA bs j))) (scA F j - scA F (arg0 (blkA bs j)).toNat)
def mvK (bs : List Bk) (F inn : List Int) (st : List Int × Bool) (t : Nat) : List Int × Bool := (((delL bs).take t).map (mv1 bs F)).foldl (stepV inn) st
theorem mvK_next {st : List Int × Bool} {t j : Nat} (hj : (delL bs)[t]? = some j) : mvK bs F inn st (t + 1) = [mv1 bs F j].foldl (stepV inn) (mvK bs F inn st t) := by
  unfold mvK
  rw [List.take_add_one, hj]
  simp [List.foldl_append]
theorem mvK_low {st : List Int × Bool} {t i : Nat} (hi : i < bs.length ∨ bs.length + t ≤ i) : (mvK bs F inn st t).1[i]? = st.1[i]? := by
  refine run_free fun x hx => ?_
  obtain ⟨q, hq, rfl⟩ := List.mem_map.1 hx
  obtain ⟨k, hk⟩ := List.getElem?_of_mem hq
  rw [List.getElem?_take] at hk
  split at hk
  · show (cellF bs q).toNat ≠ i
    rw [cell_del hk]
    omega
  · cases hk
theorem run_all (he : dgErr ps bs os = 0) (hc : cpErr ps bs F = 0) (hC : CsOk bs F cs) :
    ((runV inn (codeM ps bs F) cs).2 = false ↔ (stL ps bs F inn cs).2 = false ∧ ∀ j ∈ delL bs, shortB (nxC bs F cs (stL ps bs F inn cs).1 j) = true) ∧
    (∀ i, i < bs.length → kindAt bs i ≠ 2 → (runV inn (codeM ps bs F) cs).1[i]? = (stL ps bs F inn cs).1[i]?) ∧
    ((runV inn (codeM ps bs F) cs).2 = false → ∀ j ∈ delL bs, (runV inn (codeM ps bs F) cs).1[j]? = some (nxC bs F cs (stL ps bs F inn cs).1 j)) ∧
    CsOk bs F (runV inn (codeM ps bs F) cs).1 := by
  have hil := init_len bs F
  have hcl := hC.len
  rw [← delL_is] at hil
  have hlen : (stL ps bs F inn cs).1.length = cs.length := stK_len _
  have hshort : ∀ z ∈ (stL ps bs F inn cs).1, shortB z = true := stK_short hC.short _
  have hzr := fun (a : Int) => zC_range (a := a) hC (V := (stL ps bs F inn cs).1) (stK_len _) (stK_short hC.short _)
  have hdl : ∀ i, i < bs.length → kindAt bs i = 2 → (stL ps bs F inn cs).1[i]? = cs[i]? := fun i _ h2 => stK_other fun h => (ordM_mem (List.mem_of_mem_take h)).2 h2
  have hcode : runV inn (codeM ps bs F) cs = ((delL bs).map (mv2 bs)).foldl (stepV inn) (mvK bs F inn (stL ps bs F inn cs) (delL bs).length) := by
    unfold runV codeM mvK stL stK
    rw [List.take_length, List.take_length]
    simp only [List.foldl_append]
  generalize hL : stL ps bs F inn cs = L at hlen hshort hzr hdl hcode ⊢
  -- the moves
  have key : ∀ t, t ≤ (delL bs).length → ((mvK bs F inn L t).2 = false ↔ L.2 = false ∧ ∀ (k j : Nat), k < t → (delL bs)[k]? = some j → shortB (nxC bs F cs L.1 j) = true) ∧ (∀ (k j : Nat), k < t → (delL bs)[k]? = some j → shortB (nxC bs F cs L.1 j) = true → (mvK bs F inn L t).1[bs.length + k]? = some (nxC bs F cs L.1 j)) := by
    intro t
    induction t with
    | zero => exact fun _ => ⟨⟨fun h => ⟨h, fun k j hk => absurd hk (Nat.not_lt_zero _)⟩, fun h => h.1⟩, fun k j hk => absurd hk (Nat.not_lt_zero _)⟩
    | succ t ih =>
      intro ht
      obtain ⟨i1, i2⟩ := ih (by omega)
      obtain ⟨j, hj⟩ : ∃ j, (delL bs)[t]? = some j := ⟨_, List.getElem?_eq_getElem (by omega)⟩
      have hjm := del_mem.1 (List.mem_of_getElem? hj)
      obtain ⟨y, hy⟩ : ∃ y, bs[j]? = some y := ⟨_, List.getElem?_eq_getElem hjm.1⟩
      have hyk : y.kind = 2 := by rw [← kindA_of hy]; exact hjm.2
      have hac := acc_args he hy
      have hck := hac.2.1
      have hl : y.args.length = 1 := by rw [hyk] at hck; simp [arityM] at hck; omega
      obtain ⟨a, ha⟩ : ∃ a, y.args[0]? = some a := ⟨_, List.getElem?_eq_getElem (by omega)⟩
      have h1 := hac.2.2 a (List.mem_of_getElem? ha)
      rw [show mostM ps.length bs.length y.kind = bs.length from if_neg (by omega)] at h1
      have Aa : arg0 (blkA bs j) = a := by rw [blkA_of hy]; unfold arg0; rw [ha]; rfl
      have hz := (hzr a h1.1 h1.2).1
      have hbef : befC bs cs L.1 a.toNat = L.1[a.toNat]? := by
        unfold befC
        by_cases h2 : kindAt bs a.toNat = 2
        · rw [if_pos h2, hdl _ (by omega) h2]
        · rw [if_neg h2]
      have hcell : (mvK bs F inn L t).1[a.toNat]? = some (zC bs cs L.1 a) := by rw [mvK_low (.inl (by omega)), ← hbef]; exact hz
      have hins : insV (mv1 bs F j) (mvK bs F inn L t).1 inn = nxC bs F cs L.1 j := by
        rw [iv_move (w := zC bs cs L.1 a) rfl (by show (mvK bs F inn L t).1[(arg0 (blkA bs j)).toNat]? = _; rw [Aa]; exact hcell)]
        unfold nxC
        rw [Aa]
        show scl _ (scA F j - scA F (arg0 (blkA bs j)).toNat) = _
        rw [Aa]
      have hml : (mvK bs F inn L t).1.length = L.1.length := fold_len
      obtain ⟨o1, o2⟩ := run_one (inn := inn) (st := mvK bs F inn L t) (x := mv1 bs F j) (j := bs.length + t) (by show cellF bs j = _; rw [cell_del hj]; omega) (by omega)
      rw [hins] at o1 o2
      rw [mvK_next hj]
      constructor
      · rw [o1, Bool.or_eq_false_iff, i1, Bool.not_eq_false']
        constructor
        · rintro ⟨⟨g1, g2⟩, g3⟩
          refine ⟨g1, fun k j' hk hj' => ?_⟩
          by_cases hkt : k = t
          · subst hkt
            rw [hj] at hj'
            cases hj'
            exact g3
          · exact g2 k j' (by omega) hj'
        · rintro ⟨g1, g2⟩
          exact ⟨⟨g1, fun k j' hk hj' => g2 k j' (by omega) hj'⟩, g2 t j (by omega) hj⟩
      · intro k j' hk hj' hs
        by_cases hkt : k = t
        · subst hkt
          rw [hj] at hj'
          cases hj'
          exact o2 hs
        · refine (run_free fun x hx => ?_).trans (i2 k j' (by omega) hj' hs)
          rw [List.mem_singleton.1 hx]
          show (cellF bs j).toNat ≠ _
          rw [cell_del hj]
          omega
  obtain ⟨k1, k2⟩ := key _ (Nat.le_refl _)
  have hms : ∀ z ∈ (mvK bs F inn L (delL bs).length).1, shortB z = true := fold_short hshort
  have hml : (mvK bs F inn L (delL bs).length).1.length = L.1.length := fold_len
  obtain ⟨_, m1, m2, m3⟩ := run_moves (bs := bs) (inn := inn) (st := mvK bs F inn L (delL bs).length) (by omega) hms (delL bs).length (Nat.le_refl _)
  rw [List.take_length] at m1 m2 m3
  have flag2 : ∀ (l : List Nat) (st : List Int × Bool), (∀ q ∈ l, q ∈ delL bs) → bs.length + (delL bs).length ≤ st.1.length → (∀ z ∈ st.1, shortB z = true) → ((l.map (mv2 bs)).foldl (stepV inn) st).2 = st.2 := by
    intro l
    induction l with
    | nil => exact fun _ _ _ _ => rfl
    | cons q l ih =>
      intro st hm hsl hss
      rw [List.map_cons, List.foldl_cons, ih _ (fun x hx => hm x (List.mem_cons_of_mem _ hx)) (by show _ ≤ (st.1.set _ _).length; rw [List.length_set]; exact hsl) (fun z hz => by
        rcases List.mem_or_eq_of_mem_set hz with hz | rfl
        · exact hss z hz
        · exact cutV_short _)]
      obtain ⟨t, ht⟩ := List.getElem?_of_mem (hm q (List.mem_cons_self ..))
      have htl := (List.getElem?_eq_some_iff.1 ht).1
      obtain ⟨z, hz⟩ : ∃ z, st.1[bs.length + t]? = some z := ⟨_, List.getElem?_eq_getElem (by omega)⟩
      have hzs := hss z (List.mem_of_getElem? hz)
      have hv : insV (mv2 bs q) st.1 inn = z := by
        rw [iv_move (w := z) rfl (by show st.1[(cellF bs q).toNat]? = _; rw [cell_del ht, show ((bs.length : Int) + (t : Int)).toNat = bs.length + t by omega]; exact hz)]
        exact scl_zero hzs
      show (st.2 || !shortB (insV (mv2 bs q) st.1 inn)) = _
      rw [hv, hzs]
      simp
  have hfl : (runV inn (codeM ps bs F) cs).2 = (mvK bs F inn L (delL bs).length).2 := by rw [hcode]; exact flag2 _ _ (fun q hq => hq) (by omega) hms
  have hflag : (runV inn (codeM ps bs F) cs).2 = false ↔ L.2 = false ∧ ∀ j ∈ delL bs, shortB (nxC bs F cs L.1 j) = true := by
    rw [hfl, k1]
    refine and_congr_right fun _ => ⟨fun h j hj => ?_, fun h k j _ hj => h j (List.mem_of_getElem? hj)⟩
    obtain ⟨t, ht⟩ := List.getElem?_of_mem hj
    exact h t j (List.getElem?_eq_some_iff.1 ht).1 ht
  refine ⟨hflag, fun i hi h2 => ?_, fun h j hj => ?_, ?_, ?_, ?_⟩
  · rw [hcode]
    refine (run_free fun x hx => ?_).trans (mvK_low (.inl hi))
    obtain ⟨q, hq, rfl⟩ := List.mem_map.1 hx
    have := del_mem.1 hq
    show ((q : Int)).toNat ≠ i
    intro h
    have : q = i := by omega
    subst this
    omega
  · obtain ⟨t, ht⟩ := List.getElem?_of_mem hj
    have htl := (List.getElem?_eq_some_iff.1 ht).1
    rw [hcode, m3 t j htl ht, k2 t j htl ht ((hflag.1 h).2 j hj)]
  · rw [runV_len]; exact hcl
  · exact fun z hz => decide_eq_true (runV_short (inn := inn) hC.short z hz)
  · intro c hc2
    refine (run_free fun x hx => ?_).trans (hC.up c hc2)
    have := code_dst hx
    omega
end
end Go.Proofs.YtmdfjbpggbhgnaaDoor
namespace Go.Proofs.YtmdfjbpggbhgnaaDoor
open Go.RowKit
structure HasB (vs : List (Option (Int × Nat))) (D : Nat → Prop) (B : Bool) : Prop where
  at_ : ∀ i, D i → ∃ p, vs[i]? = some (some p) ∧ Sm p 32000 65536 ∧ (longP p = true → B = true)
def sameB (r s : Rv) : Bool := decide (r.nb = s.nb ∧ r.den = s.den ∧ r.ws = s.ws)
def LenOk (l : List (Int × Nat)) : Prop := ∀ p ∈ l, (canon p.1.natAbs).length ≤ 1000000
def exP : List Prt := [⟨-8, 8, 0⟩]
def exB : List Bk := [⟨0, none, [0], 0, 0, 0, 0, 0⟩, ⟨3, none, [0, 2], 0, 0, 0, 0, 0⟩, ⟨2, none, [1], 0, 0, 0, 0, 0⟩]
def exO : List Int := [1]
def exL : List (List Int) := [[3], [4], [-2]]
def exR : List (List (Int × Nat)) := [[(3, 0)], [(7, 0)], [(5, 0)]]
def light11 (ps : List Prt) (bs : List Bk) (os : List Int) (ls : List (List Int)) : Bool := lightB ps bs os && decide (ls.length ≤ 300 ∧ ls.length * bs.length ≤ 3000) && ls.all fun l => decide (l.length ≤ 40)
def lean11B (rs : List Rv) : Bool := (rs.all fun r => decide (r.ws.length ≤ 300 ∧ r.den ≤ 20000)) && decide (rs.length ≤ 100)
theorem all_no {α : Type} {p : α → Bool} {l : List α} {k : Nat} {x : α} (h : l[k]? = some x) (hp : p x = false) : l.all p = false := List.all_eq_false.2 ⟨x, List.mem_of_getElem? h, by rw [hp]; exact Bool.false_ne_true⟩
def fitL (ps : List Prt) (ls : List (List Int)) : List (List Int) := ls.map fun l => inpV ps l ps.length
theorem inp_in {ps : List Prt} {bs : List Bk} {os : List Int} (he : dgErr ps bs os = 0) (l : List Int) : inOk ps (inpV ps l ps.length) = true := by
  refine List.all_eq_true.2 fun i hi => ?_
  have hil := List.mem_range.1 hi
  rw [inp_len] at hil
  obtain ⟨p, hp⟩ : ∃ p, ps[i]? = some p := ⟨_, List.getElem?_eq_getElem hil⟩
  have hz : (inpV ps l ps.length)[i]? = some (clipI (l[i]?.getD 0) p.lo p.hi) := by
    unfold inpV
    rw [List.getElem?_map, List.getElem?_range hil, Option.map_some, hp]
    rfl
  unfold rngB
  rw [hp, hz]
  have hpp := acc_port he hp
  have h3 : -2147483648 ≤ p.lo ∧ p.lo ≤ p.hi ∧ p.hi < 2147483648 ∧ 0 ≤ p.fr ∧ p.fr ≤ 30 := Classical.byContradiction fun hn => by unfold portE at hpp; rw [if_neg hn] at hpp; cases hpp
  refine decide_eq_true ?_
  unfold clipI
  omega
theorem tick_fit {ps : List Prt} {bs : List Bk} {os : List Int} (he : dgErr ps bs os = 0) {st : List (Int × Nat)} (l : List Int) : tickE ps bs st (inpV ps l ps.length) = if stepBad ps bs st (inpV ps l ps.length) = true then 4 else 0 := by
  unfold tickE
  rw [if_neg (not_not_intro (inp_len ps l)), if_neg (by rw [inp_in he l]; decide)]
theorem tick_four {ps : List Prt} {bs : List Bk} {os : List Int} (he : dgErr ps bs os = 0) {st : List (Int × Nat)} {l : List Int} (h : tickE ps bs st (inpV ps l ps.length) ≠ 0) : tickE ps bs st (inpV ps l ps.length) = 4 := by
  rw [tick_fit he] at h ⊢
  split
  · rfl
  · rename_i hn; rw [if_neg hn] at h; exact absurd rfl h
theorem args_eAt {V : List (Int × Nat)} {y : Bk} (h : y.kind ≠ 0) {k : Nat} {a : Int} (ha : y.args[k]? = some a) {p : Int × Nat} (hp : V[a.toNat]? = some p) : (argsE V y)[k]? = some p := by
  unfold argsE
  rw [if_neg h, List.getElem?_map, ha, Option.map_some, hp]
  rfl
theorem pcheck_cv (t : Bool) {ps : List Prt} {bs : List Bk} {os : List Int} (hl : DgLen ps bs os) : CVF Tryd.prog TabAt 7 [aDg t ps bs os] [aE (dgErr ps bs os)] := fun w S vs hg hlt ha => by
  obtain ⟨v, rfl, hv⟩ := one_arg ha
  obtain ⟨d, rfl, hd, rfl, hz, rfl, _, _⟩ := dg_open hlt hv hl
  refine (Check_any d _ w (Nat.le_refl _) hd hg).mono fun e w' ⟨he, hb⟩ => ?_
  rw [show dgErr d.ps d.bs d.os = dgErr d.ps bs d.os by rw [← dgErr_z, hz, dgErr_z]] at he
  exact ⟨_, he, DRel.val (errV_one _), hb⟩
end Go.Proofs.YtmdfjbpggbhgnaaDoor
