/- What the proofs of this claim share, part 16. No conditions. -/
import Derived.Test.YtfooonellkgaeaaDoorKg15
import Derived.Test.YtfooonellkgaeaaDoorKg10
set_option linter.unusedVariables false
set_option linter.unusedSimpArgs false
set_option linter.unusedSectionVars false
namespace Go.Proofs.YtfooonellkgaeaaDoor
open Go.RowKit
structure HasB (vs : List (Option (Int × Nat))) (D : Nat → Prop) (B : Bool) : Prop where
  at_ : ∀ i, D i → ∃ p, vs[i]? = some (some p) ∧ Sm p 32000 65536 ∧ (longP p = true → B = true)
theorem HasB.set {vs : List (Option (Int × Nat))} {D D' : Nat → Prop} {B : Bool} (h : HasB vs D B) {j : Nat} {p : Int × Nat} (hj : j < vs.length) (hp : Sm p 32000 65536) (hB : longP p = true → B = true) (hD : ∀ i, D' i → D i ∨ i = j) : HasB (vs.set j (some p)) D' B := ⟨fun i hi => by
  rw [List.getElem?_set]
  by_cases hij : j = i
  · rw [if_pos hij, if_pos hj]
    exact ⟨p, rfl, hp, hB⟩
  · rw [if_neg hij]
    rcases hD i hi with h1 | h1
    · exact h.at_ i h1
    · exact absurd h1.symm hij⟩
theorem std_all {ps : List Prt} {bs : List Bk} {os : List Int} (he : dgErr ps bs os = 0) {i : Nat} (hi : i < bs.length) : stdS bs (ordM bs).length i := by
  by_cases hk : kindAt bs i = 2
  · exact .inl ⟨hi, hk⟩
  · refine .inr ?_
    rw [List.take_length]
    exact ord_all (pre_of he).2.2 hi hk
def sameB (r s : Rv) : Bool := decide (r.nb = s.nb ∧ r.den = s.den ∧ r.ws = s.ws)
theorem same_p {p q : Int × Nat} : sameB (rvOf p) (rvOf q) = decide (p = q) := by
  unfold sameB
  refine decide_eq_decide.2 ⟨fun ⟨h1, h2, h3⟩ => ?_, fun h => by rw [h]; exact ⟨rfl, rfl, rfl⟩⟩
  have : rvOf p = rvOf q := by
    cases hp : rvOf p; cases hq : rvOf q
    simp_all
  rw [← rvOf_P p, this, rvOf_P]
section
variable {P : Program} {G : World → Prop} {o : Oper} {F : Frm} {H : List Ob}
theorem ok_neqBT {t t' : TypeId} {x y : Operand} {p q : Bool} (ho : o.op = .binOp .neq t x y t') (ht : P.underlying t = some .bool) (hx : F.ev x = .one (.d (.val (.bool p)))) (hy : F.ev y = .one (.d (.val (.bool q)))) (h : ¬ p = q) : OpOk P G o F H (.one (.d (.val (.bool true)))) [] := by
  have := ok_neqB (P := P) (G := G) (H := H) ho ht hx hy
  rwa [show (p != q) = true by cases p <;> cases q <;> simp_all] at this
theorem ok_neqBF {t t' : TypeId} {x y : Operand} {p q : Bool} (ho : o.op = .binOp .neq t x y t') (ht : P.underlying t = some .bool) (hx : F.ev x = .one (.d (.val (.bool p)))) (hy : F.ev y = .one (.d (.val (.bool q)))) (h : p = q) : OpOk P G o F H (.one (.d (.val (.bool false)))) [] := by
  have := ok_neqB (P := P) (G := G) (H := H) ho ht hx hy
  rwa [show (p != q) = false by subst h; cases p <;> rfl] at this
end
theorem take_ext {α : Type} {l m : List α} {k : Nat} {x : α} (h : l.take k = m.take k) (h1 : l[k]? = some x) (h2 : m[k]? = some x) : l.take (k + 1) = m.take (k + 1) := by rw [List.take_add_one, List.take_add_one, h, h1, h2]
theorem ne_at {α : Type} {l m : List α} {k : Nat} {x y : α} (h1 : l[k]? = some x) (h2 : m[k]? = some y) (h : x ≠ y) : l ≠ m := fun e => h (by subst e; rw [h1] at h2; exact Option.some.inj h2)
set_option maxRecDepth 100000 in
set_option maxHeartbeats 4000000 in
theorem rvsame_cv (t u : Bool) (r s : Rv) (hr : r.ws.length ≤ 1000000) (hs : s.ws.length ≤ 1000000) : CV Tryd.prog TabAt 12 [aRv t r, aRv u s] [aB (sameB r s)] := by
  refine cv_of tab_G Tryd.func12 rfl Tryd.ntmps12 (Nat.le_of_ble_eq_true rfl) ?_
  have l1 : r.ws.length ≤ 1000000 := hr
  have l2 : s.ws.length ≤ 1000000 := hs
  by_cases hb : r.nb = s.nb
  case neg =>
    repeat' (with_reducible first | apply qa | apply qb | apply qc | apply qd | apply qe | apply qf | apply qg | apply qh | apply qi | apply qj | apply qk | apply ql rfl | apply qm rfl | apply qn rfl | (refine Tx 0 ?_; refine Jn xBo ?_; refine Jn xBo ?_; refine Ja ?_; refine Je ?_) | (refine Tx 1 ?_; refine Jo (xFa tf_Dyadic0 tk_bool) ?_; refine Jo (xLd tk_bool) ?_; refine Jo (xFa tf_Dyadic0 tk_bool) ?_; refine Jo (xLd tk_bool) ?_; refine Jo (by first | exact ok_neqBT rfl Tryd.underlying4 rfl rfl hb | exact xNe) ?_; refine Jm ?_; (first | refine Jd ?_ | refine Jy (xFa tf_Dyadic2 tk_int) ?_); (first | refine Jd ?_ | refine Jy (xLd tk_int) ?_); (first | refine Jd ?_ | refine Jy (xFa tf_Dyadic2 tk_int) ?_); (first | refine Jd ?_ | refine Jy (xLd tk_int) ?_); (first | refine Jd ?_ | refine Jy xNe ?_); refine Jo xPk ?_; refine Jm ?_; (first | refine Jd ?_ | refine Jy (xFa tf_Dyadic1 tk_s_uint32) ?_); (first | refine Jd ?_ | refine Jy (xLd tk_s_uint32) ?_); (first | refine Jd ?_ | refine Jy (xLn ts_s_uint32) ?_); (first | refine Jd ?_ | refine Jy (xFa tf_Dyadic1 tk_s_uint32) ?_); (first | refine Jd ?_ | refine Jy (xLd tk_s_uint32) ?_); (first | refine Jd ?_ | refine Jy (xLn ts_s_uint32) ?_); (first | refine Jd ?_ | refine Jy xNe ?_); refine Jo xPk ?_; refine Je ?_) | (refine Tx 2 ?_; refine Ja ?_; refine Je ?_))
    exact ret_q rfl (.cons_ (rv_b rfl (by unfold sameB; rw [decide_eq_false (fun h => hb h.1)])) .nil_)
  by_cases hd : r.den = s.den
  case neg =>
    repeat' (with_reducible first | apply qa | apply qb | apply qc | apply qd | apply qe | apply qf | apply qg | apply qh | apply qi | apply qj | apply qk | apply ql rfl | apply qm rfl | apply qn rfl | (refine Tx 0 ?_; refine Jn xBo ?_; refine Jn xBo ?_; refine Ja ?_; refine Je ?_) | (refine Tx 1 ?_; refine Jo (xFa tf_Dyadic0 tk_bool) ?_; refine Jo (xLd tk_bool) ?_; refine Jo (xFa tf_Dyadic0 tk_bool) ?_; refine Jo (xLd tk_bool) ?_; refine Jo (by first | exact ok_neqBF rfl Tryd.underlying4 rfl rfl hb | exact xNe) ?_; refine Jm ?_; (first | refine Jd ?_ | refine Jy (xFa tf_Dyadic2 tk_int) ?_); (first | refine Jd ?_ | refine Jy (xLd tk_int) ?_); (first | refine Jd ?_ | refine Jy (xFa tf_Dyadic2 tk_int) ?_); (first | refine Jd ?_ | refine Jy (xLd tk_int) ?_); (first | refine Jd ?_ | refine Jy xNe ?_); refine Jo xPk ?_; refine Jm ?_; (first | refine Jd ?_ | refine Jy (xFa tf_Dyadic1 tk_s_uint32) ?_); (first | refine Jd ?_ | refine Jy (xLd tk_s_uint32) ?_); (first | refine Jd ?_ | refine Jy (xLn ts_s_uint32) ?_); (first | refine Jd ?_ | refine Jy (xFa tf_Dyadic1 tk_s_uint32) ?_); (first | refine Jd ?_ | refine Jy (xLd tk_s_uint32) ?_); (first | refine Jd ?_ | refine Jy (xLn ts_s_uint32) ?_); (first | refine Jd ?_ | refine Jy xNe ?_); refine Jo xPk ?_; refine Je ?_) | (refine Tx 2 ?_; refine Ja ?_; refine Je ?_))
    exact ret_q rfl (.cons_ (rv_b rfl (by unfold sameB; rw [decide_eq_false (fun h => hd h.2.1)])) .nil_)
  by_cases hl : r.ws.length = s.ws.length
  case neg =>
    repeat' (with_reducible first | apply qa | apply qb | apply qc | apply qd | apply qe | apply qf | apply qg | apply qh | apply qi | apply qj | apply qk | apply ql rfl | apply qm rfl | apply qn rfl | (refine Tx 0 ?_; refine Jn xBo ?_; refine Jn xBo ?_; refine Ja ?_; refine Je ?_) | (refine Tx 1 ?_; refine Jo (xFa tf_Dyadic0 tk_bool) ?_; refine Jo (xLd tk_bool) ?_; refine Jo (xFa tf_Dyadic0 tk_bool) ?_; refine Jo (xLd tk_bool) ?_; refine Jo (by first | exact ok_neqBF rfl Tryd.underlying4 rfl rfl hb | exact xNe) ?_; refine Jm ?_; (first | refine Jd ?_ | refine Jy (xFa tf_Dyadic2 tk_int) ?_); (first | refine Jd ?_ | refine Jy (xLd tk_int) ?_); (first | refine Jd ?_ | refine Jy (xFa tf_Dyadic2 tk_int) ?_); (first | refine Jd ?_ | refine Jy (xLd tk_int) ?_); (first | refine Jd ?_ | refine Jy xNe ?_); refine Jo xPk ?_; refine Jm ?_; (first | refine Jd ?_ | refine Jy (xFa tf_Dyadic1 tk_s_uint32) ?_); (first | refine Jd ?_ | refine Jy (xLd tk_s_uint32) ?_); (first | refine Jd ?_ | refine Jy (xLn ts_s_uint32) ?_); (first | refine Jd ?_ | refine Jy (xFa tf_Dyadic1 tk_s_uint32) ?_); (first | refine Jd ?_ | refine Jy (xLd tk_s_uint32) ?_); (first | refine Jd ?_ | refine Jy (xLn ts_s_uint32) ?_); (first | refine Jd ?_ | refine Jy xNe ?_); refine Jo xPk ?_; refine Je ?_) | (refine Tx 2 ?_; refine Ja ?_; refine Je ?_))
    exact ret_q rfl (.cons_ (rv_b rfl (by unfold sameB; rw [decide_eq_false (fun h => hl (by rw [h.2.2]))])) .nil_)
  repeat' (with_reducible first | apply qa | apply qb | apply qc | apply qd | apply qe | apply qf | apply qg | apply qh | apply qi | apply qj | apply qk | apply ql rfl | apply qm rfl | apply qn rfl | (refine Tx 0 ?_; refine Jn xBo ?_; refine Jn xBo ?_; refine Ja ?_; refine Je ?_) | (refine Tx 1 ?_; refine Jo (xFa tf_Dyadic0 tk_bool) ?_; refine Jo (xLd tk_bool) ?_; refine Jo (xFa tf_Dyadic0 tk_bool) ?_; refine Jo (xLd tk_bool) ?_; refine Jo (by first | exact ok_neqBF rfl Tryd.underlying4 rfl rfl hb | exact xNe) ?_; refine Jm ?_; (first | refine Jd ?_ | refine Jy (xFa tf_Dyadic2 tk_int) ?_); (first | refine Jd ?_ | refine Jy (xLd tk_int) ?_); (first | refine Jd ?_ | refine Jy (xFa tf_Dyadic2 tk_int) ?_); (first | refine Jd ?_ | refine Jy (xLd tk_int) ?_); (first | refine Jd ?_ | refine Jy xNe ?_); refine Jo xPk ?_; refine Jm ?_; (first | refine Jd ?_ | refine Jy (xFa tf_Dyadic1 tk_s_uint32) ?_); (first | refine Jd ?_ | refine Jy (xLd tk_s_uint32) ?_); (first | refine Jd ?_ | refine Jy (xLn ts_s_uint32) ?_); (first | refine Jd ?_ | refine Jy (xFa tf_Dyadic1 tk_s_uint32) ?_); (first | refine Jd ?_ | refine Jy (xLd tk_s_uint32) ?_); (first | refine Jd ?_ | refine Jy (xLn ts_s_uint32) ?_); (first | refine Jd ?_ | refine Jy xNe ?_); refine Jo xPk ?_; refine Je ?_) | (refine Tx 3 ?_; refine Jo (xFa tf_Dyadic1 tk_s_uint32) ?_; refine Jo (xLd tk_s_uint32) ?_; refine Jo (xLn ts_s_uint32) ?_; refine Jm ?_; refine Je ?_))
  refine cw_wk (F' := ofL [(2, vr 0), (3, vr 1), (29, vi r.ws.length), (30, vi ((0 : Nat)))]) (H' := [.box 27 ((dRv t r).map C.d), .box 27 ((dRv u s).map C.d)]) (wk_go [(2, vr 0), (3, vr 1), (29, vi r.ws.length), (30, vi ((0 : Nat)))] 2 ?_ ?_ ?_) ?_
  · rfl
  · exact mB rfl rfl
  · exact ⟨bel_D, bel_D, trivial⟩
  refine cw_loopW (fun n Fr H => ∃ k : Nat, k ≤ r.ws.length ∧ n = r.ws.length - k ∧ r.ws.take k = s.ws.take k ∧ Fr = ofL [(2, vr 0), (3, vr 1), (29, vi r.ws.length), (30, vi ((k : Nat)))] ∧ H = [.box 27 ((dRv t r).map C.d), .box 27 ((dRv u s).map C.d)]) (n0 := r.ws.length) ⟨0, Nat.zero_le _, rfl, rfl, rfl, rfl⟩ ?_
  rintro n Fr H ⟨k, hk, rfl, he, rfl, rfl⟩
  by_cases hlt : k < r.ws.length
  case pos =>
    obtain ⟨p, hp⟩ : ∃ p, r.ws[k]? = some p := ⟨_, List.getElem?_eq_getElem hlt⟩
    obtain ⟨q, hq⟩ : ∃ q, s.ws[k]? = some q := ⟨_, List.getElem?_eq_getElem (by omega)⟩
    by_cases e : p = q
    case neg =>
      repeat' (with_reducible first | apply qa | apply qb | apply qc | apply qd | apply qe | apply qf | apply qg | apply qh | apply qi | apply qj | apply qk | apply ql rfl | apply qm rfl | apply qn rfl | (refine Tx 4 ?_; refine Jo xLt ?_; refine Je ?_) | (refine Tx 5 ?_; refine Jm ?_; refine Ja ?_; refine Je ?_) | (refine cw_any (id := 6) mixed (by kernel_rfl) ?_; refine Ko (xFa tf_Dyadic1 tk_s_uint32) ?_; refine Ko (xLd tk_s_uint32) ?_; refine Km ?_; refine Ko (by first | exact xIr ts_s_uint32 (word_at hp) | exact xIr ts_s_uint32 (word_at hq)) ?_; refine Ko (xLd tk_uint32) ?_; refine Ko (xFa tf_Dyadic1 tk_s_uint32) ?_; refine Ko (xLd tk_s_uint32) ?_; refine Km ?_; refine Ko (by first | exact xIr ts_s_uint32 (word_at hp) | exact xIr ts_s_uint32 (word_at hq)) ?_; refine Ko (xLd tk_uint32) ?_; refine Ko xNe ?_; refine Ke ?_) | (refine Tx 7 ?_; refine Ja ?_; refine Je ?_))
      exact ret_q rfl (.cons_ (rv_b rfl (by unfold sameB; rw [decide_eq_false (fun h => ne_at hp hq e h.2.2)])) .nil_)
    subst e
    repeat' (with_reducible first | apply qa | apply qb | apply qc | apply qd | apply qe | apply qf | apply qg | apply qh | apply qi | apply qj | apply qk | apply ql rfl | apply qm rfl | apply qn rfl | (refine Tx 4 ?_; refine Jo xLt ?_; refine Je ?_) | (refine Tx 5 ?_; refine Jm ?_; refine Ja ?_; refine Je ?_) | (refine cw_any (id := 6) mixed (by kernel_rfl) ?_; refine Ko (xFa tf_Dyadic1 tk_s_uint32) ?_; refine Ko (xLd tk_s_uint32) ?_; refine Km ?_; refine Ko (by first | exact xIr ts_s_uint32 (word_at hp) | exact xIr ts_s_uint32 (word_at hq)) ?_; refine Ko (xLd tk_uint32) ?_; refine Ko (xFa tf_Dyadic1 tk_s_uint32) ?_; refine Ko (xLd tk_s_uint32) ?_; refine Km ?_; refine Ko (by first | exact xIr ts_s_uint32 (word_at hp) | exact xIr ts_s_uint32 (word_at hq)) ?_; refine Ko (xLd tk_uint32) ?_; refine Ko xNe ?_; refine Ke ?_) | (refine Tx 8 ?_; refine Jo xAd ?_; refine Jm ?_; refine Je ?_))
    exact ⟨_, _, wk_go [(2, vr 0), (3, vr 1), (29, vi r.ws.length), (30, vi (((k + 1) : Nat)))] 2 rfl (mB rfl rfl) ⟨bel_D, bel_D, trivial⟩, _, by omega, k + 1, by omega, rfl, take_ext he hp hq, rfl, rfl⟩
  obtain rfl : k = r.ws.length := by omega
  clear hlt hk
  rw [List.take_length, hl, List.take_length] at he
  repeat' (with_reducible first | apply qa | apply qb | apply qc | apply qd | apply qe | apply qf | apply qg | apply qh | apply qi | apply qj | apply qk | apply ql rfl | apply qm rfl | apply qn rfl | (refine Tx 4 ?_; refine Jo xLt ?_; refine Je ?_) | (refine Tx 9 ?_; refine Ja ?_; refine Je ?_))
  exact ret_q rfl (.cons_ (rv_b rfl (by unfold sameB; rw [decide_eq_true ⟨hb, hd, he⟩])) .nil_)
theorem dsame_cv (t u : Bool) (p q : Int × Nat) (l1 : (canon p.1.natAbs).length ≤ 1000000) (l2 : (canon q.1.natAbs).length ≤ 1000000) : CV Tryd.prog TabAt 12 [aDy t p.1 p.2, aDy u q.1 q.2] [aB (decide (p = q))] := by
  have := rvsame_cv t u (rvOf p) (rvOf q) l1 l2
  rw [same_p] at this
  unfold aRv at this
  rwa [rvOf_D, rvOf_D] at this
theorem dyt_at {t : Bool} {l : List (Int × Nat)} {k : Nat} {p : Int × Nat} (h : l[k]? = some p) : ((flatD (fun p => dDy t p.1 p.2) l).drop (k * 3)).take 3 = dDy t p.1 p.2 := flatD_at (f := fun p => dDy t p.1 p.2) (s := 3) (fun _ => rfl) h
def LenOk (l : List (Int × Nat)) : Prop := ∀ p ∈ l, (canon p.1.natAbs).length ≤ 1000000
set_option maxRecDepth 100000 in
set_option maxHeartbeats 4000000 in
theorem lsame_cv (t u : Bool) (l m : List (Int × Nat)) (h1 : LenOk l) (h2 : LenOk m) (n1 : l.length ≤ 1000000) (n2 : m.length ≤ 1000000) : CV Tryd.prog TabAt 21 [.one (.row t 3 l.length (flatD (fun p => dDy t p.1 p.2) l)), .one (.row u 3 m.length (flatD (fun p => dDy u p.1 p.2) m))] [aB (decide (l = m))] := by
  refine cv_of tab_G Tryd.func21 rfl Tryd.ntmps21 (Nat.le_of_ble_eq_true rfl) ?_
  by_cases hn : l.length = m.length
  case neg =>
    repeat' (with_reducible first | apply qa | apply qb | apply qc | apply qd | apply qe | apply qf | apply qg | apply qh | apply qi | apply qj | apply qk | apply ql rfl | apply qm rfl | apply qn rfl | (refine Tx 0 ?_; refine Ja ?_; refine Je ?_) | (refine Tx 1 ?_; refine Jm ?_; refine Jo (xLn ts_s_Dyadic) ?_; refine Jm ?_; refine Jo (xLn ts_s_Dyadic) ?_; refine Jo xNe ?_; refine Je ?_) | (refine Tx 2 ?_; refine Ja ?_; refine Je ?_))
    exact ret_q rfl (.cons_ (rv_b rfl (decide_eq_false (fun h => hn (by rw [h]))|>.symm)) .nil_)
  repeat' (with_reducible first | apply qa | apply qb | apply qc | apply qd | apply qe | apply qf | apply qg | apply qh | apply qi | apply qj | apply qk | apply ql rfl | apply qm rfl | apply qn rfl | (refine Tx 0 ?_; refine Ja ?_; refine Je ?_) | (refine Tx 1 ?_; refine Jm ?_; refine Jo (xLn ts_s_Dyadic) ?_; refine Jm ?_; refine Jo (xLn ts_s_Dyadic) ?_; refine Jo xNe ?_; refine Je ?_) | (refine Tx 3 ?_; refine Jm ?_; refine Jo (xLn ts_s_Dyadic) ?_; refine Jm ?_; refine Je ?_))
  refine cw_wk (F' := ofL [(0, vd (.row t 3 l.length (flatD (fun p => dDy t p.1 p.2) l))), (1, vd (.row u 3 m.length (flatD (fun p => dDy u p.1 p.2) m))), (12, vi l.length), (13, vi ((0 : Nat)))]) (H' := []) (wk_go [(0, vd (.row t 3 l.length (flatD (fun p => dDy t p.1 p.2) l))), (1, vd (.row u 3 m.length (flatD (fun p => dDy u p.1 p.2) m))), (12, vi l.length), (13, vi ((0 : Nat)))] 0 ?_ ?_ ?_) ?_
  · rfl
  · exact mB rfl rfl
  · exact trivial
  refine cw_loopW (fun n Fr H => ∃ k : Nat, k ≤ l.length ∧ n = l.length - k ∧ l.take k = m.take k ∧ Fr = ofL [(0, vd (.row t 3 l.length (flatD (fun p => dDy t p.1 p.2) l))), (1, vd (.row u 3 m.length (flatD (fun p => dDy u p.1 p.2) m))), (12, vi l.length), (13, vi ((k : Nat)))] ∧ H = []) (n0 := l.length) ⟨0, Nat.zero_le _, rfl, rfl, rfl, rfl⟩ ?_
  rintro n Fr H ⟨k, hk, rfl, he, rfl, rfl⟩
  by_cases hlt : k < l.length
  case pos =>
    obtain ⟨p, hp⟩ : ∃ p, l[k]? = some p := ⟨_, List.getElem?_eq_getElem hlt⟩
    obtain ⟨q, hq⟩ : ∃ q, m[k]? = some q := ⟨_, List.getElem?_eq_getElem (by omega)⟩
    have SM := dsame_cv t u p q (h1 p (List.mem_of_getElem? hp)) (h2 q (List.mem_of_getElem? hq))
    by_cases e : p = q
    case neg =>
      rw [decide_eq_false e] at SM
      repeat' (with_reducible first | apply qa | apply qb | apply qc | apply qd | apply qe | apply qf | apply qg | apply qh | apply qi | apply qj | apply qk | apply ql rfl | apply qm rfl | apply qn rfl | (refine Tx 4 ?_; refine Jo xLt ?_; refine Je ?_) | (refine Tx 5 ?_; refine Jm ?_; refine Ja ?_; refine Je ?_) | (refine cw_any (id := 6) mixed (by kernel_rfl) ?_; refine Km ?_; refine Km ?_; refine Ko (by first | exact xIr ts_s_Dyadic (dyt_at hp) | exact xIr ts_s_Dyadic (dyt_at hq)) ?_; refine Ko (xLa tk_Dyadic) ?_; refine Km ?_; refine Km ?_; refine Ko (by first | exact xIr ts_s_Dyadic (dyt_at hp) | exact xIr ts_s_Dyadic (dyt_at hq)) ?_; refine Ko (xLa tk_Dyadic) ?_; refine Ko (xCl Tryd.func12 (SM)) ?_; refine Ko (by first | exact ok_not rfl rfl | exact ok_neg64 rfl rfl (by omega)) ?_; refine Ke ?_) | (refine Tx 7 ?_; refine Ja ?_; refine Je ?_))
      exact ret_q rfl (.cons_ (rv_b rfl (decide_eq_false (fun h => ne_at hp hq e h)|>.symm)) .nil_)
    rw [decide_eq_true e] at SM
    subst e
    repeat' (with_reducible first | apply qa | apply qb | apply qc | apply qd | apply qe | apply qf | apply qg | apply qh | apply qi | apply qj | apply qk | apply ql rfl | apply qm rfl | apply qn rfl | (refine Tx 4 ?_; refine Jo xLt ?_; refine Je ?_) | (refine Tx 5 ?_; refine Jm ?_; refine Ja ?_; refine Je ?_) | (refine cw_any (id := 6) mixed (by kernel_rfl) ?_; refine Km ?_; refine Km ?_; refine Ko (by first | exact xIr ts_s_Dyadic (dyt_at hp) | exact xIr ts_s_Dyadic (dyt_at hq)) ?_; refine Ko (xLa tk_Dyadic) ?_; refine Km ?_; refine Km ?_; refine Ko (by first | exact xIr ts_s_Dyadic (dyt_at hp) | exact xIr ts_s_Dyadic (dyt_at hq)) ?_; refine Ko (xLa tk_Dyadic) ?_; refine Ko (xCl Tryd.func12 (SM)) ?_; refine Ko (by first | exact ok_not rfl rfl | exact ok_neg64 rfl rfl (by omega)) ?_; refine Ke ?_) | (refine Tx 8 ?_; refine Jo xAd ?_; refine Jm ?_; refine Je ?_))
    exact ⟨_, _, wk_go [(0, vd (.row t 3 l.length (flatD (fun p => dDy t p.1 p.2) l))), (1, vd (.row u 3 m.length (flatD (fun p => dDy u p.1 p.2) m))), (12, vi l.length), (13, vi (((k + 1) : Nat)))] 0 rfl (mB rfl rfl) trivial, _, by omega, k + 1, by omega, rfl, take_ext he hp hq, rfl, rfl⟩
  obtain rfl : k = l.length := by omega
  clear hlt hk
  rw [List.take_length, hn, List.take_length] at he
  repeat' (with_reducible first | apply qa | apply qb | apply qc | apply qd | apply qe | apply qf | apply qg | apply qh | apply qi | apply qj | apply qk | apply ql rfl | apply qm rfl | apply qn rfl | (refine Tx 4 ?_; refine Jo xLt ?_; refine Je ?_) | (refine Tx 9 ?_; refine Ja ?_; refine Je ?_))
  exact ret_q rfl (.cons_ (rv_b rfl (decide_eq_true he|>.symm)) .nil_)
def exP : List Prt := [⟨-8, 8, 0⟩]
def exB : List Bk := [⟨0, none, [0], 0, 0, 0, 0, 0⟩, ⟨3, none, [0, 2], 0, 0, 0, 0, 0⟩, ⟨2, none, [1], 0, 0, 0, 0, 0⟩]
def exO : List Int := [1]
def exL : List (List Int) := [[3], [4], [-2]]
def exR : List (List (Int × Nat)) := [[(3, 0)], [(7, 0)], [(5, 0)]]
theorem exq_len : DgLen exP exB exO := ⟨by decide, by decide, by decide, by decide⟩
theorem exq_err : runQE exP exB exO exL = 0 := by decide +kernel
theorem exq_out : runO exP exB exO (startM exB) exL = exR := by decide +kernel
def light11 (ps : List Prt) (bs : List Bk) (os : List Int) (ls : List (List Int)) : Bool := lightB ps bs os && decide (ls.length ≤ 300 ∧ ls.length * bs.length ≤ 3000) && ls.all fun l => decide (l.length ≤ 40)
def lean11B (rs : List Rv) : Bool := (rs.all fun r => decide (r.ws.length ≤ 300 ∧ r.den ≤ 20000)) && decide (rs.length ≤ 100)
theorem all_no {α : Type} {p : α → Bool} {l : List α} {k : Nat} {x : α} (h : l[k]? = some x) (hp : p x = false) : l.all p = false := List.all_eq_false.2 ⟨x, List.mem_of_getElem? h, by rw [hp]; exact Bool.false_ne_true⟩
theorem sm_lenOk {l : List (Int × Nat)} (h : ∀ p ∈ l, Sm p LB LB) : LenOk l := fun p hp => Nat.le_trans ((h p hp).lenN 128 (by decide)) (by decide)
theorem runO_sm {ps : List Prt} {bs : List Bk} {os : List Int} (h0 : dgErr ps bs os = 0) : ∀ {ls : List (List Int)} {st : List (Int × Nat)}, StOk bs st → AllT ps bs st ls → ∀ row ∈ runO ps bs os st ls, (∀ p ∈ row, Sm p LB LB) ∧ row.length = os.length
  | [], st, _, _, row, hr => by cases hr
  | ins :: l, st, h, ha, row, hr => by
    obtain ⟨h1, h2⟩ := ha.head
    rcases List.mem_cons.1 (show row ∈ outV ps bs os st ins :: runO ps bs os (nextE ps bs st ins) l from hr) with rfl | hr
    · refine ⟨fun p hp => ?_, by unfold outV; rw [List.length_map]⟩
      obtain ⟨o, _, rfl⟩ := List.mem_map.1 hp
      exact getD_sm (val_sm h0 h.len h.nf h1) _
    · exact runO_sm h0 (next_ok h0 h.len h.nf h1) h2 row hr
theorem runE_all {ps : List Prt} {bs : List Bk} : ∀ {ls : List (List Int)} {st : List (Int × Nat)}, runE ps bs st ls = 0 → AllT ps bs st ls
  | [], st, _ => AllT.nil
  | ins :: l, st, h => by
    have h' : (if tickE ps bs st ins = 0 then runE ps bs (nextE ps bs st ins) l else tickE ps bs st ins) = 0 := h
    by_cases h1 : tickE ps bs st ins = 0
    · rw [if_pos h1] at h'
      have ih := runE_all h'
      intro k j hj
      cases k with
      | zero => simp only [List.getElem?_cons_zero, Option.some.injEq] at hj; subst hj; exact h1
      | succ k => exact ih k j hj
    · rw [if_neg h1] at h'; exact absurd h' h1
theorem runQ_zero {ps : List Prt} {bs : List Bk} {os : List Int} {ls : List (List Int)} (h : runQE ps bs os ls = 0) : dgErr ps bs os = 0 ∧ ls.length ≤ 256 ∧ AllT ps bs (startM bs) ls := by
  unfold runQE at h
  by_cases h0 : dgErr ps bs os = 0
  · rw [if_neg (not_not_intro h0)] at h
    by_cases h1 : 256 < ls.length
    · rw [if_pos h1] at h; cases h
    · rw [if_neg h1] at h
      exact ⟨h0, by omega, runE_all h⟩
  · rw [if_pos h0] at h; exact absurd h h0
theorem runQ_rows {ps : List Prt} {bs : List Bk} {os : List Int} {ls : List (List Int)} : ∀ row ∈ okQ (runQE ps bs os ls) (runO ps bs os (startM bs) ls), LenOk row ∧ row.length = os.length := fun row hr => by
  by_cases h : runQE ps bs os ls = 0
  · rw [okQ_z h] at hr
    obtain ⟨h0, _, h2⟩ := runQ_zero h
    have := runO_sm h0 (start_ok h0) h2 row hr
    exact ⟨sm_lenOk this.1, this.2⟩
  · rw [okQ_n h] at hr; cases hr
theorem rows_at {rows : List (List (Int × Nat))} {k : Nat} {l : List (Int × Nat)} (h : rows[k]? = some l) : ((rows.map dRw).drop (k * 1)).take 1 = [dRw l] := map_at h
theorem light11_len {ps : List Prt} {bs : List Bk} {os : List Int} {ls : List (List Int)} (h : light11 ps bs os ls = true) : DgLen ps bs os ∧ (ls.length ≤ 300 ∧ bs.length ≤ 80) ∧ ∀ l ∈ ls, l.length ≤ 40 := by
  unfold light11 at h
  rw [Bool.and_eq_true, Bool.and_eq_true] at h
  obtain ⟨⟨h1, h2⟩, h3⟩ := h
  have h4 := of_decide_eq_true h2
  have h5 := light_len h1
  exact ⟨h5.1, ⟨h4.1, h5.2⟩, fun l hl => of_decide_eq_true (List.all_eq_true.1 h3 l hl)⟩
set_option maxRecDepth 100000 in
set_option maxHeartbeats 4000000 in
theorem example_cv  : CV Tryd.prog TabAt 34 [] [aDg false exP exB exO] := by
  refine cv_of tab_G Tryd.func34 rfl Tryd.ntmps34 (Nat.le_of_ble_eq_true rfl) ?_
  repeat' (with_reducible first | apply qa | apply qb | apply qc | apply qd | apply qe | apply qf | apply qg | apply qh | apply qi | apply qj | apply qk | apply ql rfl | apply qm rfl | apply qn rfl | (refine Tx 0 ?_; refine Jn (by exact ok_alloc rfl tz_Diagram) ?_; refine Je ?_) | (refine Tx 1 ?_; refine Jo (by exact ok_build rfl tb_Port rfl rfl) ?_; refine Jn (by exact ok_build1 rfl ts_s_Port tz_Port rfl rfl (by decide) (by decide)) ?_; refine Jn (by exact ok_build1 rfl ts_s_int tz_int rfl rfl (by decide) (by decide)) ?_; refine Jn (by exact ok_build1 rfl ts_s_int tz_int rfl rfl (by decide) (by decide)) ?_; refine Jo (by exact ok_build rfl tb_Block rfl rfl) ?_; refine Jn (by exact ok_build2 rfl ts_s_int tz_int rfl rfl rfl rfl (by decide) (by decide)) ?_; refine Jo (by exact ok_build rfl tb_Block rfl rfl) ?_; refine Jn (by exact ok_build1 rfl ts_s_int tz_int rfl rfl (by decide) (by decide)) ?_; refine Jo (by exact ok_build rfl tb_Block rfl rfl) ?_; refine Jn (by exact ok_buildN rfl rfl ts_s_Block tz_Block (by decide) (by decide) (by decide) rfl rfl rfl) ?_; refine Jo (by exact ok_build rfl tb_Diagram rfl rfl) ?_; refine Js (xSk tk_Diagram) ?_; refine Je ?_))
  exact ret_q rfl (.cons_ (rv_box rfl rfl tk_Diagram rfl rfl (by first | ((repeat' first | exact lrel_n rfl rfl | refine lrel_c rfl rfl ?_ ?_ | refine xexp_1 rfl rfl ?_ | refine xexp_a rfl rfl ?_ | exact cexp_d rfl (fun _ => DFree.val _) | exact cexp_n rfl rfl | exact cexp_e rfl rfl | refine cexp_o rfl rfl rfl ?_) <;> fail) | fail)) .nil_)
set_option maxRecDepth 100000 in
set_option maxHeartbeats 4000000 in
theorem awake11_cv  : CV Tryd.prog TabAt 9 [] [aB true] := by
  refine cv_of tab_G Tryd.func9 rfl Tryd.ntmps9 (Nat.le_of_ble_eq_true rfl) ?_
  have RU := prun_cv false true true (ps := exP) (bs := exB) (os := exO) exq_len exL (by decide) (by decide)
  rw [exq_err, okQ_z rfl, exq_out, show rowLD exR = .row false 1 3 [.row false 3 1 (flatD dyP [(3, 0)]), .row false 3 1 (flatD dyP [(7, 0)]), .row false 3 1 (flatD dyP [(5, 0)])] from rfl] at RU
  have OF := pdof_cv 7 (by decide) (by decide)
  have OG := pdof_cv 5 (by decide) (by decide)
  have CM := pdcmp_cv 7 0 7 0 ⟨by decide, fun h => absurd rfl h⟩ ⟨by decide, fun h => absurd rfl h⟩ (by decide +kernel) (by decide +kernel)
  have CN := pdcmp_cv 5 0 5 0 ⟨by decide, fun h => absurd rfl h⟩ ⟨by decide, fun h => absurd rfl h⟩ (by decide +kernel) (by decide +kernel)
  rw [show dyCmp 7 0 7 0 = 0 by decide +kernel] at CM
  rw [show dyCmp 5 0 5 0 = 0 by decide +kernel] at CN
  repeat' (with_reducible first | apply qa | apply qb | apply qc | apply qd | apply qe | apply qf | apply qg | apply qh | apply qi | apply qj | apply qk | apply ql rfl | apply qm rfl | apply qn rfl | (refine Tx 0 ?_; refine Ja ?_; refine Je ?_) | (refine Tx 1 ?_; refine Jo (xCl Tryd.func34 (example_cv)) ?_; refine Jn (by exact ok_build1 rfl ts_s_int tz_int rfl rfl (by decide) (by decide)) ?_; refine Jn (by exact ok_build1 rfl ts_s_int tz_int rfl rfl (by decide) (by decide)) ?_; refine Jn (by exact ok_build1 rfl ts_s_int tz_int rfl rfl (by decide) (by decide)) ?_; refine Jn (by exact ok_buildN rfl rfl ts_s_s_int tz_s_int (by decide) (by decide) (by decide) rfl rfl rfl) ?_; refine Jo (xCl Tryd.func23 (RU)) ?_; refine Jo (by exact ok_mvT rfl rfl) ?_; refine Jo xEx ?_; refine Jo xEx ?_; refine Ja ?_; refine Ja ?_; refine Je ?_) | (refine cw_any (id := 2) mixed (by kernel_rfl) ?_; refine Km ?_; refine Ko (by first | exact ok_eqlE rfl ti_error rfl (beq_t rfl) | exact ok_eqlE rfl ti_error rfl (beq_t (by first | rfl | omega)) | exact ok_eqlE rfl ti_error rfl (beq_f (by first | assumption | omega)) | exact ok_eqlE rfl ti_error rfl rfl) ?_; refine Km ?_; (first | refine Kd ?_ | refine Ky (by exact ok_mv1 rfl rfl) ?_); (first | refine Kd ?_ | refine Ky (xLn ts_s_s_Dyadic) ?_); (first | refine Kd ?_ | refine Ky xEq ?_); refine Ko xPk ?_; refine Km ?_; (first | refine Kd ?_ | refine Ky (by exact ok_mv1 rfl rfl) ?_); (first | refine Kd ?_ | refine Ky (by exact ok_ixR (i := 2) rfl rfl rfl rfl ts_s_s_Dyadic (by decide) (by decide) rfl) ?_); (first | refine Kd ?_ | refine Ky (xLd tk_s_Dyadic) ?_); (first | refine Kd ?_ | refine Ky (xLn ts_s_Dyadic) ?_); (first | refine Kd ?_ | refine Ky xEq ?_); refine Ko xPk ?_; refine Km ?_; (first | refine Kd ?_ | refine Ky (by exact ok_mv1 rfl rfl) ?_); (first | refine Kd ?_ | refine Ky (by exact ok_ixR (i := 1) rfl rfl rfl rfl ts_s_s_Dyadic (by decide) (by decide) rfl) ?_); (first | refine Kd ?_ | refine Ky (xLd tk_s_Dyadic) ?_); (first | refine Kd ?_ | refine Ky (by exact ok_ixR (i := 0) rfl rfl rfl rfl ts_s_Dyadic (by decide) (by decide) rfl) ?_); (first | refine Kd ?_ | refine Ky (xLa tk_Dyadic) ?_); (first | refine Kd ?_ | refine Ky (by first | exact xCl Tryd.func35 (OF) | exact xCl Tryd.func35 (OG)) ?_); (first | refine Kd ?_ | refine Ky (by first | exact xCl Tryd.func31 (CM) | exact xCl Tryd.func31 (CN)) ?_); (first | refine Kd ?_ | refine Ky xEq ?_); refine Ko xPk ?_; refine Km ?_; (first | refine Kd ?_ | refine Ky (by exact ok_mv1 rfl rfl) ?_); (first | refine Kd ?_ | refine Ky (by exact ok_ixR (i := 2) rfl rfl rfl rfl ts_s_s_Dyadic (by decide) (by decide) rfl) ?_); (first | refine Kd ?_ | refine Ky (xLd tk_s_Dyadic) ?_); (first | refine Kd ?_ | refine Ky (by exact ok_ixR (i := 0) rfl rfl rfl rfl ts_s_Dyadic (by decide) (by decide) rfl) ?_); (first | refine Kd ?_ | refine Ky (xLa tk_Dyadic) ?_); (first | refine Kd ?_ | refine Ky (by first | exact xCl Tryd.func35 (OF) | exact xCl Tryd.func35 (OG)) ?_); (first | refine Kd ?_ | refine Ky (by first | exact xCl Tryd.func31 (CM) | exact xCl Tryd.func31 (CN)) ?_); (first | refine Kd ?_ | refine Ky xEq ?_); refine Ko xPk ?_; refine Ka ?_; refine Ke ?_))
  exact ret_q rfl (.cons_ (rv_b rfl (rfl)) .nil_)
set_option maxRecDepth 100000 in
set_option maxHeartbeats 4000000 in
theorem light11_cv (t u : Bool) (ps : List Prt) (bs : List Bk) (os : List Int) (ls : List (List Int)) : CV Tryd.prog TabAt 14 [aDg t ps bs os, .one (rowLI u ls)] [aB (light11 ps bs os ls)] := by
  refine cv_of tab_G Tryd.func14 rfl Tryd.ntmps14 (Nat.le_of_ble_eq_true rfl) ?_
  have LT := light_cvT t ps bs os
  by_cases h1 : lightB ps bs os = true
  case neg =>
    rw [Bool.not_eq_true] at h1
    rw [h1] at LT
    repeat' (with_reducible first | apply qa | apply qb | apply qc | apply qd | apply qe | apply qf | apply qg | apply qh | apply qi | apply qj | apply qk | apply ql rfl | apply qm rfl | apply qn rfl | (refine Tx 0 ?_; refine Jn xBo ?_; refine Ja ?_; refine Je ?_) | (refine Tx 1 ?_; refine Jo (xLa tk_Diagram) ?_; refine Jo (xCl Tryd.func39 (LT)) ?_; refine Jo (by first | exact ok_not rfl rfl | exact ok_neg64 rfl rfl (by omega)) ?_; refine Jm ?_; (first | refine Jd ?_ | refine Jy (by exact ok_mv1 rfl rfl) ?_); (first | refine Jd ?_ | refine Jy (xLn ts_s_s_int) ?_); (first | refine Jd ?_ | refine Jy xGt ?_); refine Jo xPk ?_; refine Jm ?_; (first | refine Jd ?_ | refine Jy (by exact ok_mv1 rfl rfl) ?_); (first | refine Jd ?_ | refine Jy (xLn ts_s_s_int) ?_); (first | refine Jd ?_ | refine Jy (xFa tf_Diagram1 tk_s_Block) ?_); (first | refine Jd ?_ | refine Jy (xLd tk_s_Block) ?_); (first | refine Jd ?_ | refine Jy (xLn ts_s_Block) ?_); (first | refine Jd ?_ | refine Jy (by exact ok_mul64 rfl rfl rfl (by omega)) ?_); (first | refine Jd ?_ | refine Jy xGt ?_); refine Jo xPk ?_; refine Je ?_) | (refine Tx 2 ?_; refine Ja ?_; refine Je ?_))
    exact ret_q rfl (.cons_ (rv_b rfl (by unfold light11; rw [h1]; rfl)) .nil_)
  rw [h1] at LT
  have hbl := (light_len h1).2
  by_cases h2 : 300 < ls.length
  case pos =>
    repeat' (with_reducible first | apply qa | apply qb | apply qc | apply qd | apply qe | apply qf | apply qg | apply qh | apply qi | apply qj | apply qk | apply ql rfl | apply qm rfl | apply qn rfl | (refine Tx 0 ?_; refine Jn xBo ?_; refine Ja ?_; refine Je ?_) | (refine Tx 1 ?_; refine Jo (xLa tk_Diagram) ?_; refine Jo (xCl Tryd.func39 (LT)) ?_; refine Jo (by first | exact ok_not rfl rfl | exact ok_neg64 rfl rfl (by omega)) ?_; refine Jm ?_; (first | refine Jd ?_ | refine Jy (by exact ok_mv1 rfl rfl) ?_); (first | refine Jd ?_ | refine Jy (xLn ts_s_s_int) ?_); (first | refine Jd ?_ | refine Jy xGt ?_); refine Jo xPk ?_; refine Jm ?_; (first | refine Jd ?_ | refine Jy (by exact ok_mv1 rfl rfl) ?_); (first | refine Jd ?_ | refine Jy (xLn ts_s_s_int) ?_); (first | refine Jd ?_ | refine Jy (xFa tf_Diagram1 tk_s_Block) ?_); (first | refine Jd ?_ | refine Jy (xLd tk_s_Block) ?_); (first | refine Jd ?_ | refine Jy (xLn ts_s_Block) ?_); (first | refine Jd ?_ | refine Jy (by exact ok_mul64 rfl rfl rfl (by omega)) ?_); (first | refine Jd ?_ | refine Jy xGt ?_); refine Jo xPk ?_; refine Je ?_) | (refine Tx 2 ?_; refine Ja ?_; refine Je ?_))
    exact ret_q rfl (.cons_ (rv_b rfl (by unfold light11; rw [h1, decide_eq_false (by omega)]; rfl)) .nil_)
  have hq : ls.length * bs.length ≤ 300 * 80 := Nat.mul_le_mul (by omega) hbl
  have hm : IntKind.i64.wrap (((ls.length : Nat) : Int) * ((bs.length : Nat) : Int)) = ((ls.length * bs.length : Nat) : Int) := by rw [← Int.natCast_mul, IntWalk.i64_in _ (by omega)]
  generalize hmm : ls.length * bs.length = q at *
  by_cases h3 : 3000 < q
  case pos =>
    repeat' (with_reducible first | apply qa | apply qb | apply qc | apply qd | apply qe | apply qf | apply qg | apply qh | apply qi | apply qj | apply qk | apply ql rfl | apply qm rfl | apply qn rfl | (refine Tx 0 ?_; refine Jn xBo ?_; refine Ja ?_; refine Je ?_) | (refine Tx 1 ?_; refine Jo (xLa tk_Diagram) ?_; refine Jo (xCl Tryd.func39 (LT)) ?_; refine Jo (by first | exact ok_not rfl rfl | exact ok_neg64 rfl rfl (by omega)) ?_; refine Jm ?_; (first | refine Jd ?_ | refine Jy (by exact ok_mv1 rfl rfl) ?_); (first | refine Jd ?_ | refine Jy (xLn ts_s_s_int) ?_); (first | refine Jd ?_ | refine Jy xGt ?_); refine Jo xPk ?_; refine Jm ?_; (first | refine Jd ?_ | refine Jy (by exact ok_mv1 rfl rfl) ?_); (first | refine Jd ?_ | refine Jy (xLn ts_s_s_int) ?_); (first | refine Jd ?_ | refine Jy (xFa tf_Diagram1 tk_s_Block) ?_); (first | refine Jd ?_ | refine Jy (xLd tk_s_Block) ?_); (first | refine Jd ?_ | refine Jy (xLn ts_s_Block) ?_); (first | refine Jd ?_ | refine Jy (by exact ok_mul64 rfl rfl rfl (by omega)) ?_); (first | refine Jd ?_ | refine Jy (by first | exact ok_mulR rfl rfl rfl hm | exact xGt) ?_); refine Jo xPk ?_; refine Je ?_) | (refine Tx 2 ?_; refine Ja ?_; refine Je ?_))
    exact ret_q rfl (.cons_ (rv_b rfl (by unfold light11; rw [h1, hmm, decide_eq_false (by omega)]; rfl)) .nil_)
  repeat' (with_reducible first | apply qa | apply qb | apply qc | apply qd | apply qe | apply qf | apply qg | apply qh | apply qi | apply qj | apply qk | apply ql rfl | apply qm rfl | apply qn rfl | (refine Tx 0 ?_; refine Jn xBo ?_; refine Ja ?_; refine Je ?_) | (refine Tx 1 ?_; refine Jo (xLa tk_Diagram) ?_; refine Jo (xCl Tryd.func39 (LT)) ?_; refine Jo (by first | exact ok_not rfl rfl | exact ok_neg64 rfl rfl (by omega)) ?_; refine Jm ?_; (first | refine Jd ?_ | refine Jy (by exact ok_mv1 rfl rfl) ?_); (first | refine Jd ?_ | refine Jy (xLn ts_s_s_int) ?_); (first | refine Jd ?_ | refine Jy xGt ?_); refine Jo xPk ?_; refine Jm ?_; (first | refine Jd ?_ | refine Jy (by exact ok_mv1 rfl rfl) ?_); (first | refine Jd ?_ | refine Jy (xLn ts_s_s_int) ?_); (first | refine Jd ?_ | refine Jy (xFa tf_Diagram1 tk_s_Block) ?_); (first | refine Jd ?_ | refine Jy (xLd tk_s_Block) ?_); (first | refine Jd ?_ | refine Jy (xLn ts_s_Block) ?_); (first | refine Jd ?_ | refine Jy (by exact ok_mul64 rfl rfl rfl (by omega)) ?_); (first | refine Jd ?_ | refine Jy (by first | exact ok_mulR rfl rfl rfl hm | exact xGt) ?_); refine Jo xPk ?_; refine Je ?_) | (refine Tx 3 ?_; refine Jm ?_; refine Jo (xLn ts_s_s_int) ?_; refine Jm ?_; refine Je ?_))
  refine cw_wk (F' := ofL [(24, vd (rowLI u ls)), (25, vi ls.length), (26, vi ((0 : Nat)))]) (H' := []) (wk_go [(24, vd (rowLI u ls)), (25, vi ls.length), (26, vi ((0 : Nat)))] 0 ?_ ?_ ?_) ?_
  · rfl
  · exact mB rfl rfl
  · exact trivial
  refine cw_loopW (fun n Fr H => ∃ k : Nat, k ≤ ls.length ∧ n = ls.length - k ∧ (ls.take k).all (fun l => decide (l.length ≤ 40)) = true ∧ Fr = ofL [(24, vd (rowLI u ls)), (25, vi ls.length), (26, vi ((k : Nat)))] ∧ H = []) (n0 := ls.length) ⟨0, Nat.zero_le _, rfl, rfl, rfl, rfl⟩ ?_
  rintro n Fr H ⟨k, hk, rfl, hall, rfl, rfl⟩
  by_cases hlt : k < ls.length
  case pos =>
    obtain ⟨l, hl⟩ : ∃ l, ls[k]? = some l := ⟨_, List.getElem?_eq_getElem hlt⟩
    by_cases h4 : l.length ≤ 40
    case neg =>
      repeat' (with_reducible first | apply qa | apply qb | apply qc | apply qd | apply qe | apply qf | apply qg | apply qh | apply qi | apply qj | apply qk | apply ql rfl | apply qm rfl | apply qn rfl | (refine Tx 4 ?_; refine Jo xLt ?_; refine Je ?_) | (refine Tx 5 ?_; refine Jo (xIr ts_s_s_int (lin_at hl)) ?_; refine Jo (xLd tk_s_int) ?_; refine Ja ?_; refine Je ?_) | (refine Tx 6 ?_; refine Jm ?_; refine Jo (xLn ts_s_int) ?_; refine Jo xGt ?_; refine Je ?_) | (refine Tx 7 ?_; refine Ja ?_; refine Je ?_))
      exact ret_q rfl (.cons_ (rv_b rfl (by unfold light11; rw [all_no hl (decide_eq_false h4), Bool.and_false])) .nil_)
    repeat' (with_reducible first | apply qa | apply qb | apply qc | apply qd | apply qe | apply qf | apply qg | apply qh | apply qi | apply qj | apply qk | apply ql rfl | apply qm rfl | apply qn rfl | (refine Tx 4 ?_; refine Jo xLt ?_; refine Je ?_) | (refine Tx 5 ?_; refine Jo (xIr ts_s_s_int (lin_at hl)) ?_; refine Jo (xLd tk_s_int) ?_; refine Ja ?_; refine Je ?_) | (refine Tx 6 ?_; refine Jm ?_; refine Jo (xLn ts_s_int) ?_; refine Jo xGt ?_; refine Je ?_) | (refine Tx 8 ?_; refine Jo xAd ?_; refine Jm ?_; refine Je ?_))
    exact ⟨_, _, wk_go [(24, vd (rowLI u ls)), (25, vi ls.length), (26, vi (((k + 1) : Nat)))] 0 rfl (mB rfl rfl) trivial, _, by omega, k + 1, by omega, rfl, all_take hl hall (decide_eq_true h4), rfl, rfl⟩
  obtain rfl : k = ls.length := by omega
  rw [List.take_length] at hall
  repeat' (with_reducible first | apply qa | apply qb | apply qc | apply qd | apply qe | apply qf | apply qg | apply qh | apply qi | apply qj | apply qk | apply ql rfl | apply qm rfl | apply qn rfl | (refine Tx 4 ?_; refine Jo xLt ?_; refine Je ?_) | (refine Tx 9 ?_; refine Ja ?_; refine Je ?_))
  exact ret_q rfl (.cons_ (rv_b rfl (by unfold light11; rw [h1, hall, hmm, decide_eq_true (by omega)]; rfl)) .nil_)
theorem cexp_oI2 {t : Bool} {H : List Ob} {id ty n : Nat} {c : C} {y : D} {xs : List Int} (hc : c = .own id n) (hH : H[id]? = some (.row ty 1 n (cI xs))) (hn : n = xs.length) (hy : y = rowI t xs) : CExp t H c y := by
  subst hn hy
  refine cexp_o hc hH rfl (LRel.map_l.2 ⟨by simp, fun j a b ha hb => ?_⟩)
  rw [List.getElem?_map, ha] at hb
  cases hb
  exact .d fun _ => .val _
set_option maxRecDepth 100000 in
set_option maxHeartbeats 4000000 in
theorem fit_cv (t u : Bool) {ps : List Prt} {bs : List Bk} {os : List Int} (inn : List Int) (hl : DgLen ps bs os) (h2 : inn.length ≤ 1000000) : CV Tryd.prog TabAt 27 [aDg t ps bs os, .one (rowI u inn)] [.one (rowI false (inpV ps inn ps.length))] := by
  refine cv_of tab_G Tryd.func27 rfl Tryd.ntmps27 (Nat.le_of_ble_eq_true rfl) ?_
  have hl1 := hl.l1
  repeat' (with_reducible first | apply qa | apply qb | apply qc | apply qd | apply qe | apply qf | apply qg | apply qh | apply qi | apply qj | apply qk | apply ql rfl | apply qm rfl | apply qn rfl | (refine Tx 0 ?_; refine Jn xBo ?_; refine Ja ?_; refine Je ?_) | (refine Tx 1 ?_; refine Ja ?_; refine Je ?_) | (refine Tx 2 ?_; refine Jo (xFa tf_Diagram0 tk_s_Port) ?_; refine Jo (xLd tk_s_Port) ?_; refine Jo (xLn ts_s_Port) ?_; refine Jm ?_; refine Je ?_))
  refine cw_wk (wk_nil 5 3 1 rfl) ?_
  refine cw_wk (F' := ofL [(1, vd (rowI u inn)), (2, vr 0), (5, vo 1 ((inpV ps inn 0).length)), (10, vd (rowP t ps)), (11, vi ps.length), (12, vi ((0 : Nat)))]) (H' := [.box 41 [.d (rowP t ps), .d (rowB t bs), .d (rowI t os)], .row 3 1 (inpV ps inn (0)).length (cI (inpV ps inn (0)))]) (wk_go [(1, vd (rowI u inn)), (2, vr 0), (5, vo 1 ((inpV ps inn 0).length)), (10, vd (rowP t ps)), (11, vi ps.length), (12, vi ((0 : Nat)))] 2 ?_ ?_ ?_) ?_
  · rfl
  · exact mB rfl rfl
  · exact ⟨bel_lit rfl, bel_cI, trivial⟩
  refine cw_loopW (fun n Fr H => ∃ k : Nat, k ≤ ps.length ∧ n = ps.length - k ∧ Fr = ofL [(1, vd (rowI u inn)), (2, vr 0), (5, vo 1 ((inpV ps inn k).length)), (10, vd (rowP t ps)), (11, vi ps.length), (12, vi ((k : Nat)))] ∧ H = [.box 41 [.d (rowP t ps), .d (rowB t bs), .d (rowI t os)], .row 3 1 (inpV ps inn (k)).length (cI (inpV ps inn (k)))]) (n0 := ps.length) ⟨0, Nat.zero_le _, rfl, rfl, rfl⟩ ?_
  rintro n Fr H ⟨k, hk, rfl, rfl, rfl⟩
  by_cases hlt : k < ps.length
  case pos =>
    obtain ⟨p, hp⟩ : ∃ p, ps[k]? = some p := ⟨_, List.getElem?_eq_getElem hlt⟩
    have hol : (inpV ps inn (k)).length ≤ k := inpV_len _ _ _
    by_cases hki : k < inn.length
    case pos =>
      obtain ⟨z, hz⟩ : ∃ z, inn[k]? = some z := ⟨_, List.getElem?_eq_getElem hki⟩
      have hap : (inpV ps inn (k)) ++ [clipI z p.lo p.hi] = (inpV ps inn (k + 1)) := (inpV_step hp (by rw [hz]; rfl)).symm
      have hap2 : (inpV ps inn (k)).length + 1 = (inpV ps inn (k + 1)).length := by rw [← hap]; simp
      have BC := bclip_cv z p.lo p.hi
      repeat' (with_reducible first | apply qa | apply qb | apply qc | apply qd | apply qe | apply qf | apply qg | apply qh | apply qi | apply qj | apply qk | apply ql rfl | apply qm rfl | apply qn rfl | (refine Tx 3 ?_; refine Jo xLt ?_; refine Je ?_) | (refine Tx 4 ?_; refine Jm ?_; refine Jo (xIr ts_s_Port (prt_at hp)) ?_; refine Jo (xLa tk_Port) ?_; refine Jn (by exact ok_alloc rfl tz_Port) ?_; refine Ja ?_; refine Js (xSk tk_Port) ?_; refine Je ?_) | (refine Tx 5 ?_; refine Ja ?_; refine Je ?_) | (refine Tx 6 ?_; refine Jm ?_; refine Jm ?_; refine Jo (xLn ts_s_int) ?_; refine Jo xLt ?_; refine Je ?_) | (refine Tx 7 ?_; refine Jm ?_; refine Jm ?_; refine Jo (xIr ts_s_int (int_at hz)) ?_; refine Jo (xLd tk_int) ?_; refine Ja ?_; refine Je ?_) | (refine Tx 8 ?_; refine Jm ?_; refine Jm ?_; refine Jo (xFa tf_Port0 tk_int) ?_; refine Jo (xLd tk_int) ?_; refine Jo (xFa tf_Port1 tk_int) ?_; refine Jo (xLd tk_int) ?_; refine Jo (xCl Tryd.func54 (BC.cv)) ?_; refine Jn (by exact ok_build1 rfl ts_s_int tz_int rfl rfl (by decide) (by decide)) ?_; refine Jt (by exact to_apI rfl rfl rfl rfl rfl rfl ts_s_int tz_int (by omega) (by decide) hap hap2) ?_; refine Ja ?_; refine Je ?_) | (refine Tx 9 ?_; refine Jo xAd ?_; refine Jm ?_; refine Je ?_))
      refine ⟨_, _, wk_go [(1, vd (rowI u inn)), (2, vr 0), (5, vo 1 ((inpV ps inn ((k + 1))).length)), (10, vd (rowP t ps)), (11, vi ps.length), (12, vi (((k + 1) : Nat)))] 2 ?_ ?_ ?_, _, ?_, k + 1, by omega, rfl, rfl, rfl⟩
      · rfl
      · exact mB rfl rfl
      · exact ⟨bel_lit rfl, bel_cI, trivial⟩
      · omega
    case neg =>
      have hap : (inpV ps inn (k)) ++ [clipI 0 p.lo p.hi] = (inpV ps inn (k + 1)) := (inpV_step hp (by rw [List.getElem?_eq_none (by omega)]; rfl)).symm
      have hap2 : (inpV ps inn (k)).length + 1 = (inpV ps inn (k + 1)).length := by rw [← hap]; simp
      have BC := bclip_cv 0 p.lo p.hi
      repeat' (with_reducible first | apply qa | apply qb | apply qc | apply qd | apply qe | apply qf | apply qg | apply qh | apply qi | apply qj | apply qk | apply ql rfl | apply qm rfl | apply qn rfl | (refine Tx 3 ?_; refine Jo xLt ?_; refine Je ?_) | (refine Tx 4 ?_; refine Jm ?_; refine Jo (xIr ts_s_Port (prt_at hp)) ?_; refine Jo (xLa tk_Port) ?_; refine Jn (by exact ok_alloc rfl tz_Port) ?_; refine Ja ?_; refine Js (xSk tk_Port) ?_; refine Je ?_) | (refine Tx 5 ?_; refine Ja ?_; refine Je ?_) | (refine Tx 6 ?_; refine Jm ?_; refine Jm ?_; refine Jo (xLn ts_s_int) ?_; refine Jo xLt ?_; refine Je ?_) | (refine Tx 8 ?_; refine Jm ?_; refine Jm ?_; refine Jo (xFa tf_Port0 tk_int) ?_; refine Jo (xLd tk_int) ?_; refine Jo (xFa tf_Port1 tk_int) ?_; refine Jo (xLd tk_int) ?_; refine Jo (xCl Tryd.func54 (BC.cv)) ?_; refine Jn (by exact ok_build1 rfl ts_s_int tz_int rfl rfl (by decide) (by decide)) ?_; refine Jt (by exact to_apI rfl rfl rfl rfl rfl rfl ts_s_int tz_int (by omega) (by decide) hap hap2) ?_; refine Ja ?_; refine Je ?_) | (refine Tx 9 ?_; refine Jo xAd ?_; refine Jm ?_; refine Je ?_))
      refine ⟨_, _, wk_go [(1, vd (rowI u inn)), (2, vr 0), (5, vo 1 ((inpV ps inn ((k + 1))).length)), (10, vd (rowP t ps)), (11, vi ps.length), (12, vi (((k + 1) : Nat)))] 2 ?_ ?_ ?_, _, ?_, k + 1, by omega, rfl, rfl, rfl⟩
      · rfl
      · exact mB rfl rfl
      · exact ⟨bel_lit rfl, bel_cI, trivial⟩
      · omega
  obtain rfl : k = ps.length := by omega
  clear hlt hk
  repeat' (with_reducible first | apply qa | apply qb | apply qc | apply qd | apply qe | apply qf | apply qg | apply qh | apply qi | apply qj | apply qk | apply ql rfl | apply qm rfl | apply qn rfl | (refine Tx 3 ?_; refine Jo xLt ?_; refine Je ?_) | (refine Tx 10 ?_; refine Jm ?_; refine Ja ?_; refine Je ?_))
  exact ret_q rfl (.cons_ (.tmp (.one (cexp_oI2 rfl rfl rfl rfl))) .nil_)
def fitL (ps : List Prt) (ls : List (List Int)) : List (List Int) := ls.map fun l => inpV ps l ps.length
theorem fitL_at {ps : List Prt} {ls : List (List Int)} {k : Nat} {l : List Int} (h : ls[k]? = some l) : (fitL ps ls)[k]? = some (inpV ps l ps.length) := by unfold fitL; rw [List.getElem?_map, h]; rfl
theorem fitL_len (ps : List Prt) (ls : List (List Int)) : (fitL ps ls).length = ls.length := List.length_map ..
theorem inp_in {ps : List Prt} {bs : List Bk} {os : List Int} (he : dgErr ps bs os = 0) (l : List Int) : inOk ps (inpV ps l ps.length) = true := by
  refine List.all_eq_true.2 fun i hi => ?_
  have hil := List.mem_range.1 hi
  rw [inp_len] at hil
  obtain ⟨p, hp⟩ : ∃ p, ps[i]? = some p := ⟨_, List.getElem?_eq_getElem hil⟩
  have hz : (inpV ps l ps.length)[i]? = some (clipI (l[i]?.getD 0) p.lo p.hi) := by
    unfold inpV
    rw [List.getElem?_map, List.getElem?_range hil, Option.map_some, hp]
    rfl
  unfold rngB
  rw [hp, hz]
  have hpp := acc_port he hp
  have h3 : -2147483648 ≤ p.lo ∧ p.lo ≤ p.hi ∧ p.hi < 2147483648 ∧ 0 ≤ p.fr ∧ p.fr ≤ 30 := Classical.byContradiction fun hn => by unfold portE at hpp; rw [if_neg hn] at hpp; cases hpp
  refine decide_eq_true ?_
  unfold clipI
  omega
theorem tick_fit {ps : List Prt} {bs : List Bk} {os : List Int} (he : dgErr ps bs os = 0) {st : List (Int × Nat)} (l : List Int) : tickE ps bs st (inpV ps l ps.length) = if stepBad ps bs st (inpV ps l ps.length) = true then 4 else 0 := by
  unfold tickE
  rw [if_neg (not_not_intro (inp_len ps l)), if_neg (by rw [inp_in he l]; decide)]
theorem tick_four {ps : List Prt} {bs : List Bk} {os : List Int} (he : dgErr ps bs os = 0) {st : List (Int × Nat)} {l : List Int} (h : tickE ps bs st (inpV ps l ps.length) ≠ 0) : tickE ps bs st (inpV ps l ps.length) = 4 := by
  rw [tick_fit he] at h ⊢
  split
  · rfl
  · rename_i hn; rw [if_neg hn] at h; exact absurd rfl h
theorem run_four {ps : List Prt} {bs : List Bk} {os : List Int} (he : dgErr ps bs os = 0) : ∀ {ls : List (List Int)} {st : List (Int × Nat)}, runE ps bs st (fitL ps ls) = 0 ∨ runE ps bs st (fitL ps ls) = 4
  | [], st => .inl rfl
  | l :: ls, st => by
    show (if tickE ps bs st (inpV ps l ps.length) = 0 then runE ps bs (nextE ps bs st (inpV ps l ps.length)) (fitL ps ls) else tickE ps bs st (inpV ps l ps.length)) = 0 ∨ (if tickE ps bs st (inpV ps l ps.length) = 0 then runE ps bs (nextE ps bs st (inpV ps l ps.length)) (fitL ps ls) else tickE ps bs st (inpV ps l ps.length)) = 4
    by_cases h : tickE ps bs st (inpV ps l ps.length) = 0
    · rw [if_pos h]; exact run_four he
    · rw [if_neg h]; exact .inr (tick_four he h)
theorem dlK_pre (bs : List Bk) {i n : Nat} (h : i ≤ n) : dlK bs i <+: dlK bs n := by
  induction n with
  | zero => rw [show i = 0 by omega]; exact List.prefix_refl _
  | succ n ih =>
    by_cases e : i = n + 1
    · rw [e]; exact List.prefix_refl _
    · refine (ih (by omega)).trans ?_
      rw [dlK_succ]
      split
      · exact List.prefix_append _ _
      · exact List.prefix_refl _
theorem del_rank {bs : List Bk} {i : Nat} (hi : i < bs.length) (hk : kindAt bs i = 2) : (delL bs)[(dlK bs i).length]? = some i := by
  have h1 := dlK_pre bs (i := i + 1) (n := bs.length) hi
  rw [delL_is]
  refine getElem?_pre h1 ?_
  rw [dlK_succ, if_pos hk, List.getElem?_append_right (Nat.le_refl _), Nat.sub_self]
  rfl
theorem pcheck_cv (t : Bool) {ps : List Prt} {bs : List Bk} {os : List Int} (hl : DgLen ps bs os) : CVF Tryd.prog TabAt 25 [aDg t ps bs os] [aE (dgErr ps bs os)] := fun w S vs hg hlt ha => by
  obtain ⟨v, rfl, hv⟩ := one_arg ha
  obtain ⟨d, rfl, hd, rfl, hz, rfl, _, _⟩ := dg_open hlt hv hl
  refine (Check_any d _ w (Nat.le_refl _) hd hg).mono fun e w' ⟨he, hb⟩ => ?_
  rw [show dgErr d.ps d.bs d.os = dgErr d.ps bs d.os by rw [← dgErr_z, hz, dgErr_z]] at he
  exact ⟨_, he, DRel.val (errV_one _), hb⟩
theorem ints_set (l : List Int) (i : Nat) (x : Int) : ints (l.set i x) = (ints l).set i (.int .i64 x) := by simp [ints, List.map_set]
theorem ints_get {l : List Int} {i : Nat} {z : Int} (h : l[i]? = some z) : (ints l)[i]? = some (.int .i64 z) := by simp [ints, h]
theorem OwnI.put {w : World} {base g n c : Nat} {xs : List Int} (h : OwnI w base (.slice (some ⟨g, 0, none⟩) n c) xs) (hn : n = xs.length) (j : Nat) (z : Int) : OwnI (w.setCell ⟨g, j, none⟩ (.int .i64 z)) base (.slice (some ⟨g, 0, none⟩) n c) (xs.set j z) := by
  subst hn
  have h2 : w.ownsRow base 3 1 (.slice (some ⟨g, 0, none⟩) xs.length c) xs.length (ints xs) := h
  have h3 := (World.ownsRow.stored h2 j (.int .i64 z)).1
  unfold OwnI
  rw [ints_set, List.length_set]
  exact h3
theorem OwnI.freeA {w : World} {base g n c : Nat} {xs : List Int} (h : OwnI w base (.slice (some ⟨g, 0, none⟩) n c) xs) (hn : n = xs.length) (j : Nat) : w.frozen? ⟨g, j, none⟩ = false := by
  subst hn
  have h2 : w.ownsRow base 3 1 (.slice (some ⟨g, 0, none⟩) xs.length c) xs.length (ints xs) := h
  exact World.ownsRow.frozenAt h2 j
theorem OwnI.cellA {w : World} {base g n c j : Nat} {z : Int} {xs : List Int} (h : OwnI w base (.slice (some ⟨g, 0, none⟩) n c) xs) (hz : xs[j]? = some z) : w.cell? ⟨g, j, none⟩ = some (.int .i64 z) := by
  have hj : j < xs.length := (List.getElem?_eq_some_iff.1 hz).1
  obtain ⟨b, off, z', hA, _, _, hx, hcc⟩ := h.cells.int_ hj
  cases hA
  rw [hz] at hx
  cases hx
  simpa using hcc
def mix (zs args : List Int) (t : Nat) : List Int := zs.take t ++ args.drop t
end Go.Proofs.YtfooonellkgaeaaDoor
