/- Code told on values: zeros appended (append(s, make([]T, n)...)). No conditions. The document's Delays and Order, told on values. No conditions. The document's Same and Check, and Light, told on values. No conditions. What Compile makes can run: the check of a program accepts it. No conditions. The program's check of what Compile makes, told on values. No conditions. -/
import Derived.Test.YtjlocofimlgaoaaDoorVsM
import Derived.Lib.AppendZerosOnto
import Derived.Maps.AppendAt
import Derived.Test.YtjlocofimlgaoaaDoorCwE
import Derived.Test.YtjlocofimlgaoaaDoorDgR
import Derived.Test.YtjlocofimlgaoaaDoorCk
namespace Go.Proofs.YtjlocofimlgaoaaDoor
set_option linter.unusedVariables false
set_option linter.unusedSimpArgs false
set_option linter.unusedSectionVars false
open Go.RowKit

section
variable {P : Program} {G : World → Prop} {o : Oper} {F : Frm} {H : List Ob}
/-- Data appended to an own row. -/
theorem to_apE {t e : TypeId} {x y : Operand} {id n m' n' s by_ : Nat} {tg : Bool} {z : Value} {cs cs2 : List C} {ds : List D} (ho : o.op = .call { callee := .builtin .append, args := #[x, y], argTypes := #[t, t] }) (hx : F.ev x = .one (.own id n)) (hH : H[id]? = some (.row e s n cs)) (hy : F.ev y = .one (.d (.row tg s m' ds))) (ht : TyS P t e s) (hz : TyZ P e z s by_) (hn : n + m' ≤ 100000000000) (hby : by_ ≤ 1000) (h0 : 0 < s) (hl : ds.length = m' * s) (hys : cs ++ ds.map C.d = cs2) (hn' : n + m' = n') : TOk P G o F H (.one (.own id n')) (H.set id (.row e s n' cs2)) := by
  subst hys
  subst hn'
  exact to_append ho hx hH hy .row ht hz hn h0 hby (by simp [hl])
end
end Go.Proofs.YtjlocofimlgaoaaDoor
namespace Go.Proofs.YtjlocofimlgaoaaDoor
set_option linter.unusedVariables false
set_option linter.unusedSimpArgs false
set_option linter.unusedSectionVars false
open Go.RowKit
theorem size_of_ok {ps : List Prt} {bs : List Bk} {os : List Int} (h : dgErr ps bs os = 0) : sizeOk ps bs os := by
  unfold dgErr at h
  by_cases hs : sizeOk ps bs os
  · exact hs
  · rw [if_pos hs] at h
    cases h

end Go.Proofs.YtjlocofimlgaoaaDoor
namespace Go.Proofs.YtjlocofimlgaoaaDoor
set_option linter.unusedVariables false
set_option linter.unusedSimpArgs false
set_option linter.unusedSectionVars false
open Go.RowKit
def lightB (ps : List Prt) (bs : List Bk) (os : List Int) : Bool := decide (ps.length ≤ 40 ∧ bs.length ≤ 80 ∧ os.length ≤ 40) && bs.all fun b => decide (b.args.length ≤ 10)
set_option maxRecDepth 100000 in
set_option maxHeartbeats 4000000 in
theorem light_cv (ps : List Prt) (bs : List Bk) (os : List Int) : CV Tryd.prog TabAt 17 [aDg true ps bs os] [aB (lightB ps bs os)] := by
  refine cv_of tab_G Tryd.func17 rfl Tryd.ntmps17 (Nat.le_of_ble_eq_true rfl) ?_
  by_cases cp : 40 < ps.length
  case pos =>
    repeat' (with_reducible first | apply qa | apply qb | apply qc | apply qd | apply qe | apply qf | apply qg | apply qh | apply qi | apply qj | apply qk | apply ql rfl | apply qm rfl | apply qn rfl | (refine Tx 0 ?_; refine Jn xBo ?_; refine Ja ?_; refine Je ?_) | (refine Tx 1 ?_; refine Jo (xFa tf_Diagram0 tk_s_Port) ?_; refine Jo (xLd tk_s_Port) ?_; refine Jo (xLn ts_s_Port) ?_; refine Jo xGt ?_; refine Jm ?_; (first | refine Jd ?_ | refine Jy (xFa tf_Diagram1 tk_s_Block) ?_); (first | refine Jd ?_ | refine Jy (xLd tk_s_Block) ?_); (first | refine Jd ?_ | refine Jy (xLn ts_s_Block) ?_); (first | refine Jd ?_ | refine Jy xGt ?_); refine Jo xPk ?_; refine Jm ?_; (first | refine Jd ?_ | refine Jy (xFa tf_Diagram2 tk_s_int) ?_); (first | refine Jd ?_ | refine Jy (xLd tk_s_int) ?_); (first | refine Jd ?_ | refine Jy (xLn ts_s_int) ?_); (first | refine Jd ?_ | refine Jy xGt ?_); refine Jo xPk ?_; refine Je ?_) | (refine Tx 2 ?_; refine Ja ?_; refine Je ?_))
    exact ret_q rfl (.cons_ (rv_b rfl (by unfold lightB; rw [decide_eq_false (by omega)]; rfl)) .nil_)
  by_cases cb : 80 < bs.length
  case pos =>
    repeat' (with_reducible first | apply qa | apply qb | apply qc | apply qd | apply qe | apply qf | apply qg | apply qh | apply qi | apply qj | apply qk | apply ql rfl | apply qm rfl | apply qn rfl | (refine Tx 0 ?_; refine Jn xBo ?_; refine Ja ?_; refine Je ?_) | (refine Tx 1 ?_; refine Jo (xFa tf_Diagram0 tk_s_Port) ?_; refine Jo (xLd tk_s_Port) ?_; refine Jo (xLn ts_s_Port) ?_; refine Jo xGt ?_; refine Jm ?_; (first | refine Jd ?_ | refine Jy (xFa tf_Diagram1 tk_s_Block) ?_); (first | refine Jd ?_ | refine Jy (xLd tk_s_Block) ?_); (first | refine Jd ?_ | refine Jy (xLn ts_s_Block) ?_); (first | refine Jd ?_ | refine Jy xGt ?_); refine Jo xPk ?_; refine Jm ?_; (first | refine Jd ?_ | refine Jy (xFa tf_Diagram2 tk_s_int) ?_); (first | refine Jd ?_ | refine Jy (xLd tk_s_int) ?_); (first | refine Jd ?_ | refine Jy (xLn ts_s_int) ?_); (first | refine Jd ?_ | refine Jy xGt ?_); refine Jo xPk ?_; refine Je ?_) | (refine Tx 2 ?_; refine Ja ?_; refine Je ?_))
    exact ret_q rfl (.cons_ (rv_b rfl (by unfold lightB; rw [decide_eq_false (by omega)]; rfl)) .nil_)
  by_cases co : 40 < os.length
  case pos =>
    repeat' (with_reducible first | apply qa | apply qb | apply qc | apply qd | apply qe | apply qf | apply qg | apply qh | apply qi | apply qj | apply qk | apply ql rfl | apply qm rfl | apply qn rfl | (refine Tx 0 ?_; refine Jn xBo ?_; refine Ja ?_; refine Je ?_) | (refine Tx 1 ?_; refine Jo (xFa tf_Diagram0 tk_s_Port) ?_; refine Jo (xLd tk_s_Port) ?_; refine Jo (xLn ts_s_Port) ?_; refine Jo xGt ?_; refine Jm ?_; (first | refine Jd ?_ | refine Jy (xFa tf_Diagram1 tk_s_Block) ?_); (first | refine Jd ?_ | refine Jy (xLd tk_s_Block) ?_); (first | refine Jd ?_ | refine Jy (xLn ts_s_Block) ?_); (first | refine Jd ?_ | refine Jy xGt ?_); refine Jo xPk ?_; refine Jm ?_; (first | refine Jd ?_ | refine Jy (xFa tf_Diagram2 tk_s_int) ?_); (first | refine Jd ?_ | refine Jy (xLd tk_s_int) ?_); (first | refine Jd ?_ | refine Jy (xLn ts_s_int) ?_); (first | refine Jd ?_ | refine Jy xGt ?_); refine Jo xPk ?_; refine Je ?_) | (refine Tx 2 ?_; refine Ja ?_; refine Je ?_))
    exact ret_q rfl (.cons_ (rv_b rfl (by unfold lightB; rw [decide_eq_false (by omega)]; rfl)) .nil_)
  repeat' (with_reducible first | apply qa | apply qb | apply qc | apply qd | apply qe | apply qf | apply qg | apply qh | apply qi | apply qj | apply qk | apply ql rfl | apply qm rfl | apply qn rfl | (refine Tx 0 ?_; refine Jn xBo ?_; refine Ja ?_; refine Je ?_) | (refine Tx 1 ?_; refine Jo (xFa tf_Diagram0 tk_s_Port) ?_; refine Jo (xLd tk_s_Port) ?_; refine Jo (xLn ts_s_Port) ?_; refine Jo xGt ?_; refine Jm ?_; (first | refine Jd ?_ | refine Jy (xFa tf_Diagram1 tk_s_Block) ?_); (first | refine Jd ?_ | refine Jy (xLd tk_s_Block) ?_); (first | refine Jd ?_ | refine Jy (xLn ts_s_Block) ?_); (first | refine Jd ?_ | refine Jy xGt ?_); refine Jo xPk ?_; refine Jm ?_; (first | refine Jd ?_ | refine Jy (xFa tf_Diagram2 tk_s_int) ?_); (first | refine Jd ?_ | refine Jy (xLd tk_s_int) ?_); (first | refine Jd ?_ | refine Jy (xLn ts_s_int) ?_); (first | refine Jd ?_ | refine Jy xGt ?_); refine Jo xPk ?_; refine Je ?_) | (refine Tx 3 ?_; refine Jo (xFa tf_Diagram1 tk_s_Block) ?_; refine Jo (xLd tk_s_Block) ?_; refine Jo (xLn ts_s_Block) ?_; refine Jm ?_; refine Je ?_))
  refine cw_wk (F' := ofL [(1, vr 0), (22, vd (rowB true bs)), (23, vi bs.length), (24, vi ((0 : Nat)))]) (H' := [.box 46 [.d (rowP true ps), .d (rowB true bs), .d (rowI true os)]]) (wk_go [(1, vr 0), (22, vd (rowB true bs)), (23, vi bs.length), (24, vi ((0 : Nat)))] 1 ?_ ?_ ?_) ?_
  · rfl
  · exact mB rfl rfl
  · exact ⟨bel_lit rfl, trivial⟩
  refine cw_loopW (fun n Fr H => ∃ k : Nat, k ≤ bs.length ∧ n = bs.length - k ∧ (bs.take k).all (fun b : Bk => decide (b.args.length ≤ 10)) = true ∧ Fr = ofL [(1, vr 0), (22, vd (rowB true bs)), (23, vi bs.length), (24, vi ((k : Nat)))] ∧ H = [.box 46 [.d (rowP true ps), .d (rowB true bs), .d (rowI true os)]]) (n0 := bs.length) ⟨0, Nat.zero_le _, rfl, rfl, rfl, rfl⟩ ?_
  rintro n Fr H ⟨k, hk, rfl, hall, rfl, rfl⟩
  by_cases hlt : k < bs.length
  case pos =>
    obtain ⟨y, hy⟩ : ∃ y, bs[k]? = some y := ⟨_, List.getElem?_eq_getElem hlt⟩
    by_cases hy10 : y.args.length ≤ 10
    case pos =>
      repeat' (with_reducible first | apply qa | apply qb | apply qc | apply qd | apply qe | apply qf | apply qg | apply qh | apply qi | apply qj | apply qk | apply ql rfl | apply qm rfl | apply qn rfl | (refine Tx 4 ?_; refine Jo xLt ?_; refine Je ?_) | (refine Tx 5 ?_; refine Jo (xIr ts_s_Block (bk_at hy)) ?_; refine Jo (xLa tk_Block) ?_; refine Jn (by exact ok_alloc rfl tz_Block) ?_; refine Js (xSk tk_Block) ?_; refine Je ?_) | (refine Tx 6 ?_; refine Jo (xFa tf_Block1 tk_s_int) ?_; refine Jo (xLd tk_s_int) ?_; refine Jo (xLn ts_s_int) ?_; refine Jo xGt ?_; refine Je ?_) | (refine Tx 8 ?_; refine Jo xAd ?_; refine Jm ?_; refine Je ?_))
      refine ⟨_, _, wk_go [(1, vr 0), (22, vd (rowB true bs)), (23, vi bs.length), (24, vi (((k + 1) : Nat)))] 1 ?_ ?_ ?_, _, ?_, k + 1, by omega, rfl, all_take hy hall (decide_eq_true hy10), rfl, rfl⟩
      · rfl
      · exact mB rfl rfl
      · exact ⟨bel_lit rfl, trivial⟩
      · omega
    case neg =>
      repeat' (with_reducible first | apply qa | apply qb | apply qc | apply qd | apply qe | apply qf | apply qg | apply qh | apply qi | apply qj | apply qk | apply ql rfl | apply qm rfl | apply qn rfl | (refine Tx 4 ?_; refine Jo xLt ?_; refine Je ?_) | (refine Tx 5 ?_; refine Jo (xIr ts_s_Block (bk_at hy)) ?_; refine Jo (xLa tk_Block) ?_; refine Jn (by exact ok_alloc rfl tz_Block) ?_; refine Js (xSk tk_Block) ?_; refine Je ?_) | (refine Tx 6 ?_; refine Jo (xFa tf_Block1 tk_s_int) ?_; refine Jo (xLd tk_s_int) ?_; refine Jo (xLn ts_s_int) ?_; refine Jo xGt ?_; refine Je ?_) | (refine Tx 7 ?_; refine Ja ?_; refine Je ?_))
      exact ret_q rfl (.cons_ (rv_b rfl (by unfold lightB; rw [show bs.all (fun b : Bk => decide (b.args.length ≤ 10)) = false from List.all_eq_false.2 ⟨y, List.mem_of_getElem? hy, by rw [decide_eq_false hy10]; exact Bool.false_ne_true⟩, Bool.and_false])) .nil_)
  obtain rfl : k = bs.length := by omega
  rw [List.take_length] at hall
  repeat' (with_reducible first | apply qa | apply qb | apply qc | apply qd | apply qe | apply qf | apply qg | apply qh | apply qi | apply qj | apply qk | apply ql rfl | apply qm rfl | apply qn rfl | (refine Tx 4 ?_; refine Jo xLt ?_; refine Je ?_) | (refine Tx 9 ?_; refine Ja ?_; refine Je ?_))
  exact ret_q rfl (.cons_ (rv_b rfl (by unfold lightB; rw [hall, decide_eq_true (by omega)]; rfl)) .nil_)
theorem rcheck_cv (t : Bool) {ps : List Prt} {bs : List Bk} {os : List Int} (hl : DgLen ps bs os) : CVF Tryd.prog TabAt 19 [aDg t ps bs os] [aI (dgErr ps bs os)] := fun w S vs hg hlt ha => by
  obtain ⟨v, rfl, hv⟩ := one_arg ha
  obtain ⟨d, rfl, hd, rfl, hz, rfl, _, _⟩ := dg_open hlt hv hl
  refine (rCheck_any d _ w (Nat.le_refl _) hd).mono fun e w' ⟨he, hb⟩ => ?_
  rw [show dgErr d.ps d.bs d.os = dgErr d.ps bs d.os by rw [← dgErr_z, hz, dgErr_z]] at he
  exact ⟨_, he, DRel.val rfl, hb⟩

end Go.Proofs.YtjlocofimlgaoaaDoor
namespace Go.Proofs.YtjlocofimlgaoaaDoor
set_option linter.unusedVariables false
set_option linter.unusedSimpArgs false
set_option linter.unusedSectionVars false
open Go.RowKit Cd

theorem raw_short (n e f : Int) : shortB (rawV n e f) = true := by
  unfold rawV
  by_cases h : rawErr n e f = 0
  · rw [if_pos h]
    unfold rawErr at h
    by_cases h1 : rawOk n e f
    · rw [if_pos h1] at h
      by_cases h2 : -2147483648 ≤ shE n (e + f) ∧ shE n (e + f) < 2147483648
      · exact decide_eq_true h2
      · rw [if_neg h2] at h; cases h
    · rw [if_neg h1] at h; cases h
  · rw [if_neg h]; rfl
theorem conV_short (bs : List Bk) (F : List Int) (j : Nat) : shortB (conV bs F j) = true := by
  unfold conV
  split
  · exact raw_short _ _ _
  · rfl
theorem conU_short (bs : List Bk) (F : List Int) (j : Nat) : shortB (conU bs F j) = true := by
  unfold conU
  split
  · exact raw_short _ _ _
  · rfl
theorem init_short {bs : List Bk} {F : List Int} {z : Int} (h : z ∈ initM bs F) : shortB z = true := by
  unfold initM at h
  rcases List.mem_append.1 h with h | h
  · rcases List.mem_append.1 h with h | h
    · obtain ⟨j, _, rfl⟩ := List.mem_map.1 h
      split
      · exact conV_short _ _ _
      · rfl
    · rw [(List.mem_replicate.1 h).2]; rfl
  · obtain ⟨j, _, h⟩ := List.mem_flatMap.1 h
    simp only [List.mem_cons, List.not_mem_nil, or_false] at h
    rcases h with rfl | rfl
    · exact conV_short _ _ _
    · exact conU_short _ _ _
theorem init_len (bs : List Bk) (F : List Int) : (initM bs F).length = bs.length + (dlK bs bs.length).length + 2 * (cpK bs bs.length).length := by
  unfold initM
  rw [List.length_append, List.length_append, tab_len, List.length_replicate, flat2_len, delL_is]
theorem two_kinds (bs : List Bk) : ∀ k, (dlK bs k).length + (cpK bs k).length ≤ k
  | 0 => Nat.le_refl _
  | k + 1 => by
    have ih := two_kinds bs k
    rw [dlK_succ, cpK_succ]
    by_cases h : kindAt bs k = 2
    · rw [if_pos h, if_neg (by omega), List.length_append]
      simp
      omega
    · rw [if_neg h]
      split
      · rw [List.length_append]
        simp
        omega
      · omega
theorem parts_le (p q : Nat → Bool) (h : ∀ i, p i = true → q i = true → False) : ∀ l : List Nat, (l.filter p).length + (l.filter q).length ≤ l.length
  | [] => Nat.le_refl _
  | x :: l => by
    have ih := parts_le p q h l
    rw [List.filter_cons, List.filter_cons]
    cases hp : p x <;> cases hq : q x
    · simp only [Bool.false_eq_true, if_false, List.length_cons]; omega
    · simp only [Bool.false_eq_true, if_false, if_true, List.length_cons]; omega
    · simp only [Bool.false_eq_true, if_false, if_true, List.length_cons]; omega
    · exact (h x hp hq).elim
theorem ord_del (bs : List Bk) : (ordM bs).length + (dlK bs bs.length).length ≤ bs.length := by
  have h1 := (ordN_ok bs.length (OutOk.nil bs)).le
  have h2 : nonDel bs + (dlK bs bs.length).length ≤ bs.length := by
    have := parts_le (fun i => kindAt bs i != 2) (fun i => kindAt bs i == 2) (fun i h1 h2 => by simp at h1 h2; exact h1 h2) (List.range bs.length)
    rw [List.length_range] at this
    exact this
  have h3 : (ordM bs).length ≤ nonDel bs := h1
  omega
theorem ins_ok {np n : Nat} {op dst a b sa sb imm : Int} {u1 u2 u3 u4 u5 : Bool} (hu : usesR op = (u1, u2, u3, u4, u5, true)) (hd : 0 ≤ dst ∧ dst < n) (ha : if u1 = true then 0 ≤ a ∧ a < (if op = 0 then (np : Int) else n) else a = 0) (hb : if u2 = true then 0 ≤ b ∧ b < n else b = 0)
    (hsa : if u3 = true then shiftB sa = true else sa = 0) (hsb : if u4 = true then shiftB sb = true else sb = 0) (him : if u5 = true then shortB imm = true else imm = 0) : insErr np n op dst a b sa sb imm = 0 := by
  unfold insErr
  rw [hu]
  dsimp only
  rw [if_neg (by decide), if_neg (not_not_intro hd)]
  cases u1 <;> cases u2 <;> cases u3 <;> cases u4 <;> cases u5 <;> simp_all
theorem os_ok {ps : List Prt} {bs : List Bk} {os : List Int} (he : dgErr ps bs os = 0) : ∀ o ∈ os, 0 ≤ o ∧ o < (bs.length : Int) := fun o ho => by
  have h1 := (pre_of he).2.1
  unfold preErr at h1
  rw [firstErr_append] at h1
  by_cases h2 : firstErr (ps.map portE) = 0
  · rw [if_pos h2, firstErr_append] at h1
    by_cases h3 : firstErr (bs.map (blkErr ps.length bs.length)) = 0
    · rw [if_pos h3] at h1
      have h4 := firstErr_zero h1 _ (List.mem_map.2 ⟨o, ho, rfl⟩)
      unfold outE at h4
      by_cases h5 : 0 ≤ o ∧ o < (bs.length : Int)
      · exact h5
      · rw [if_neg h5] at h4; cases h4
    · rw [if_neg h3] at h1; exact absurd h1 h3
  · rw [if_neg h2] at h1; exact absurd h1 h2
section
variable {ps : List Prt} {bs : List Bk} {os F : List Int}
theorem blk_ok (he : dgErr ps bs os = 0) {j : Nat} (hjn : j < bs.length) (hk2 : kindAt bs j ≠ 2) (hsh : (blkC ps bs F j (cellF bs j)).all shOk = true) : ∀ x ∈ blkC ps bs F j (cellF bs j), Ins.err ps.length (initM bs F).length x = 0 := by
  obtain ⟨y, hy⟩ : ∃ y, bs[j]? = some y := ⟨_, List.getElem?_eq_getElem hjn⟩
  have hac := acc_args he hy
  have hYA := blkA_of hy
  have hYK := kindA_of hy
  have hM := init_len bs F
  have sh : ∀ x ∈ blkC ps bs F j (cellF bs j), shiftB x.sa = true ∧ shiftB x.sb = true := fun x hx => by
    have := of_decide_eq_true (List.all_eq_true.1 hsh x hx)
    exact ⟨decide_eq_true ⟨this.1, this.2.1⟩, decide_eq_true this.2.2⟩
  rw [hYK] at hk2
  have hjd : (0 : Int) ≤ (j : Int) ∧ (j : Int) < ((initM bs F).length : Int) := by omega
  have args : ∀ i a, y.args[i]? = some a → 0 ≤ a ∧ a < (mostM ps.length bs.length y.kind : Int) := fun i a h => hac.2.2 a (List.mem_of_getElem? h)
  have c11 : y.kind = 11 → 0 ≤ cellF bs j ∧ cellF bs j + 1 < ((initM bs F).length : Int) := fun k11 => by
    have hrk := rank_cp_lt hjn (hYK.trans k11)
    unfold cellF
    rw [hYK, if_neg (by omega), if_pos k11]
    omega
  have one : ∀ n : Nat, ((y.args.length : Nat) : Int) = arityM y.kind → arityM y.kind = n → ∀ i, i < n → ∃ a, y.args[i]? = some a := fun n h1 h2 i hi => ⟨_, List.getElem?_eq_getElem (by omega)⟩
  intro x hx
  have hs := sh x hx
  clear sh hsh
  unfold blkC at hx
  dsimp only at hx
  rw [hYA] at hx
  unfold Ins.err
  have a0 : 1 ≤ y.args.length → ∃ a, y.args[0]? = some a ∧ arg0 y = a := fun h => by
    obtain ⟨a, ha⟩ : ∃ a, y.args[0]? = some a := ⟨_, List.getElem?_eq_getElem (by omega)⟩
    exact ⟨a, ha, by unfold arg0; rw [ha]; rfl⟩
  have a1 : 2 ≤ y.args.length → ∃ a, y.args[1]? = some a ∧ arg1 y = a := fun h => by
    obtain ⟨a, ha⟩ : ∃ a, y.args[1]? = some a := ⟨_, List.getElem?_eq_getElem (by omega)⟩
    exact ⟨a, ha, by unfold arg1; rw [ha]; rfl⟩
  have hM0 : y.kind ≠ 0 → mostM ps.length bs.length y.kind = bs.length := fun h => if_neg h
  have har := hac.2.1
  have hge := hac.1
  by_cases k0 : y.kind = 0
  · rw [if_pos k0] at hx
    obtain ⟨a, h1, h2⟩ := a0 (by rw [k0] at har; simp [arityM] at har; omega)
    have h3 := args 0 a h1
    rw [show mostM ps.length bs.length y.kind = ps.length from if_pos k0] at h3
    simp only [List.mem_singleton] at hx
    subst hx
    exact ins_ok (u1 := true) (u2 := false) (u3 := true) (u4 := false) (u5 := false) rfl hjd (by simpa [h2] using h3) rfl hs.1 rfl rfl
  rw [if_neg k0] at hx
  have hm := hM0 k0
  by_cases k1 : y.kind = 1
  · rw [if_pos k1] at hx
    simp only [List.mem_singleton] at hx
    subst hx
    exact ins_ok (u1 := false) (u2 := false) (u3 := false) (u4 := false) (u5 := true) rfl hjd rfl rfl rfl rfl (raw_short _ _ _)
  rw [if_neg k1] at hx
  obtain ⟨a, h1, h2⟩ := a0 (by unfold arityM at har hge; (repeat' split at har) <;> omega)
  have h3 := args 0 a h1
  rw [hm] at h3
  by_cases k6 : y.kind = 6
  · rw [if_pos k6] at hx
    have hv := acc_sc he hy (by rw [k6]; rfl)
    unfold scOk at hv
    simp only [List.mem_singleton] at hx
    subst hx
    exact ins_ok (u1 := true) (u2 := false) (u3 := true) (u4 := false) (u5 := true) rfl hjd (by show 0 ≤ arg0 y ∧ arg0 y < (if (6 : Int) = 0 then (ps.length : Int) else ((initM bs F).length : Int)); rw [h2, if_neg (by decide)]; omega) rfl hs.1 rfl (decide_eq_true ⟨by show -2147483648 ≤ y.vn; omega, hv.2.1⟩)
  rw [if_neg k6] at hx
  by_cases k7 : y.kind = 7
  · rw [if_pos k7] at hx
    obtain ⟨b, g1, g2⟩ := a1 (by rw [k7] at har; simp [arityM] at har; omega)
    have g3 := args 1 b g1
    rw [hm] at g3
    simp only [List.mem_singleton] at hx
    subst hx
    exact ins_ok (u1 := true) (u2 := true) (u3 := true) (u4 := false) (u5 := false) rfl hjd (by show 0 ≤ arg0 y ∧ arg0 y < (if (7 : Int) = 0 then (ps.length : Int) else ((initM bs F).length : Int)); rw [h2, if_neg (by decide)]; omega) (by show 0 ≤ arg1 y ∧ arg1 y < ((initM bs F).length : Int); rw [g2]; omega) hs.1 rfl rfl
  rw [if_neg k7] at hx
  by_cases k11 : y.kind = 11
  · rw [if_pos k11] at hx
    have hc := c11 k11
    simp only [List.mem_cons, List.not_mem_nil, or_false] at hx
    rcases hx with rfl | rfl
    · exact ins_ok (u1 := true) (u2 := true) (u3 := true) (u4 := true) (u5 := false) rfl hjd (by show 0 ≤ arg0 y ∧ arg0 y < (if (9 : Int) = 0 then (ps.length : Int) else ((initM bs F).length : Int)); rw [h2, if_neg (by decide)]; omega) (by show 0 ≤ cellF bs j ∧ cellF bs j < ((initM bs F).length : Int); omega) hs.1 rfl rfl
    · exact ins_ok (u1 := true) (u2 := true) (u3 := true) (u4 := true) (u5 := false) rfl hjd (by show 0 ≤ (j : Int) ∧ (j : Int) < (if (8 : Int) = 0 then (ps.length : Int) else ((initM bs F).length : Int)); rw [if_neg (by decide)]; exact hjd) (by show 0 ≤ cellF bs j + 1 ∧ cellF bs j + 1 < ((initM bs F).length : Int); omega) rfl rfl rfl
  rw [if_neg k11] at hx
  by_cases hl2 : y.args.length = 2
  · rw [if_pos hl2] at hx
    obtain ⟨b, g1, g2⟩ := a1 (by omega)
    have g3 := args 1 b g1
    rw [hm] at g3
    simp only [List.mem_singleton] at hx
    subst hx
    have hk : y.kind = 3 ∨ y.kind = 4 ∨ y.kind = 8 ∨ y.kind = 9 := by
      unfold arityM at har
      (repeat' split at har) <;> omega
    have hop : opM y.kind = 3 ∨ opM y.kind = 4 ∨ opM y.kind = 8 ∨ opM y.kind = 9 := by rcases hk with h | h | h | h <;> rw [h] <;> decide
    have hus : usesR (opM y.kind) = (true, true, true, true, false, true) := by rcases hop with h | h | h | h <;> rw [h] <;> rfl
    exact ins_ok (u1 := true) (u2 := true) (u3 := true) (u4 := true) (u5 := false) hus hjd (by show 0 ≤ arg0 y ∧ arg0 y < (if opM y.kind = 0 then (ps.length : Int) else ((initM bs F).length : Int)); rw [h2, if_neg (by omega)]; omega) (by show 0 ≤ arg1 y ∧ arg1 y < ((initM bs F).length : Int); rw [g2]; omega) hs.1 hs.2 rfl
  rw [if_neg hl2] at hx
  simp only [List.mem_singleton] at hx
  subst hx
  have hk : y.kind = 5 ∨ y.kind = 10 := by
    clear hge h1 h2 h3 hs a0 a1 args c11 one
    unfold arityM at har
    (repeat' split at har) <;> omega
  have hop : opM y.kind = 5 ∨ opM y.kind = 10 := by rcases hk with h | h <;> rw [h] <;> decide
  have hus : usesR (opM y.kind) = (true, false, true, false, false, true) := by rcases hop with h | h <;> rw [h] <;> rfl
  exact ins_ok (u1 := true) (u2 := false) (u3 := true) (u4 := false) (u5 := false) hus hjd (by show 0 ≤ arg0 y ∧ arg0 y < (if opM y.kind = 0 then (ps.length : Int) else ((initM bs F).length : Int)); rw [h2, if_neg (by omega)]; omega) rfl hs.1 rfl rfl
theorem prog_ok (he : dgErr ps bs os = 0) (hsh : (codeM ps bs F).all shOk = true) : progErr ps (initM bs F) (codeM ps bs F) os = 0 := by
  have hsz := size_of_ok he
  unfold sizeOk at hsz
  have hM := init_len bs F
  have h2 := two_kinds bs bs.length
  have hdl := dlK_len bs bs.length
  have hcl := cpK_len bs bs.length
  have hcd := cdC_len (ps := ps) (bs := bs) (F := F) (dlK bs bs.length).length
  rw [cdC_all] at hcd
  have hol : (ordM bs).length + (dlK bs bs.length).length ≤ bs.length := ord_del bs
  unfold progErr
  rw [if_neg (not_not_intro ⟨by omega, by omega, by omega, by omega⟩)]
  refine firstErr_allz fun z hz => ?_
  rcases List.mem_append.1 hz with h | h
  · obtain ⟨p, hp, rfl⟩ := List.mem_map.1 h
    obtain ⟨i, hi⟩ := List.mem_iff_getElem?.1 hp
    have h1 := acc_port he hi
    unfold portE at h1
    by_cases h3 : -2147483648 ≤ p.lo ∧ p.lo ≤ p.hi ∧ p.hi < 2147483648 ∧ 0 ≤ p.fr ∧ p.fr ≤ 30
    · unfold portErr
      rw [if_pos ⟨decide_eq_true (by omega), decide_eq_true (by omega), by omega, by omega, by omega⟩]
    · rw [if_neg h3] at h1; cases h1
  rcases List.mem_append.1 h with h | h
  · obtain ⟨x, hx, rfl⟩ := List.mem_map.1 h
    unfold initErr
    rw [if_pos (init_short hx)]
  rcases List.mem_append.1 h with h | h
  · obtain ⟨x, hx, rfl⟩ := List.mem_map.1 h
    have hx0 := hx
    have hxs := of_decide_eq_true (List.all_eq_true.1 hsh x hx)
    unfold codeM at hx
    rcases List.mem_append.1 hx with hx | hx
    · rcases List.mem_append.1 hx with hx | hx
      · obtain ⟨j, hj, hx⟩ := List.mem_flatMap.1 hx
        obtain ⟨i, hi⟩ := List.mem_iff_getElem?.1 hj
        obtain ⟨hjn, hk2⟩ := ord_at hi
        refine blk_ok he hjn hk2 (List.all_eq_true.2 fun y hy => List.all_eq_true.1 hsh y ?_) x hx
        unfold codeM
        exact List.mem_append_left _ (List.mem_append_left _ (List.mem_flatMap.2 ⟨j, hj, hy⟩))
      · obtain ⟨j, hj, rfl⟩ := List.mem_map.1 hx
        obtain ⟨i, hi⟩ := List.mem_iff_getElem?.1 hj
        obtain ⟨hjn, hk2, hrk⟩ := dl_at.1 hi
        have hrl := rank_dl_lt hjn hk2
        obtain ⟨y, hy⟩ : ∃ y, bs[j]? = some y := ⟨_, List.getElem?_eq_getElem hjn⟩
        have hac := acc_args he hy
        rw [kindA_of hy] at hk2
        have hyl : y.args.length = 1 := by have h := hac.2.1; rw [hk2] at h; simp [arityM] at h; omega
        obtain ⟨a, ha⟩ : ∃ a, y.args[0]? = some a := ⟨_, List.getElem?_eq_getElem (by omega)⟩
        have hr := hac.2.2 a (List.mem_of_getElem? ha)
        rw [show mostM ps.length bs.length y.kind = bs.length from if_neg (by omega)] at hr
        have hg : arg0 (blkA bs j) = a := by rw [blkA_of hy]; unfold arg0; rw [ha]; rfl
        have hc : cellF bs j = (bs.length : Int) + (rank (dlB bs) j : Int) := by unfold cellF; rw [kindA_of hy, if_pos hk2]
        refine ins_ok (u1 := true) (u2 := false) (u3 := true) (u4 := false) (u5 := false) rfl ?_ ?_ rfl (decide_eq_true ⟨hxs.1, hxs.2.1⟩) rfl rfl
        · show 0 ≤ cellF bs j ∧ cellF bs j < ((initM bs F).length : Int)
          rw [hc]
          omega
        · show 0 ≤ arg0 (blkA bs j) ∧ arg0 (blkA bs j) < (if (2 : Int) = 0 then (ps.length : Int) else ((initM bs F).length : Int))
          rw [hg, if_neg (by decide)]
          omega
    · obtain ⟨j, hj, rfl⟩ := List.mem_map.1 hx
      obtain ⟨i, hi⟩ := List.mem_iff_getElem?.1 hj
      obtain ⟨hjn, hk2, hrk⟩ := dl_at.1 hi
      have hrl := rank_dl_lt hjn hk2
      have hc : cellF bs j = (bs.length : Int) + (rank (dlB bs) j : Int) := by unfold cellF; rw [if_pos hk2]
      refine ins_ok (u1 := true) (u2 := false) (u3 := true) (u4 := false) (u5 := false) rfl ?_ ?_ rfl rfl rfl rfl
      · show 0 ≤ (j : Int) ∧ (j : Int) < ((initM bs F).length : Int)
        omega
      · show 0 ≤ cellF bs j ∧ cellF bs j < (if (2 : Int) = 0 then (ps.length : Int) else ((initM bs F).length : Int))
        rw [hc, if_neg (by decide)]
        omega
  · obtain ⟨o, ho, rfl⟩ := List.mem_map.1 h
    have := os_ok he o ho
    unfold outErr
    rw [if_pos ⟨this.1, by omega⟩]
end
end Go.Proofs.YtjlocofimlgaoaaDoor
namespace Go.Proofs.YtjlocofimlgaoaaDoor
set_option linter.unusedVariables false
set_option linter.unusedSimpArgs false
set_option linter.unusedSectionVars false
open Go.RowKit Cd
theorem light_len {ps : List Prt} {bs : List Bk} {os : List Int} (h : lightB ps bs os = true) : DgLen ps bs os ∧ bs.length ≤ 80 := by
  unfold lightB at h
  rw [Bool.and_eq_true] at h
  have h1 := of_decide_eq_true h.1
  exact ⟨⟨by omega, by omega, by omega, fun b hb => by have := of_decide_eq_true (List.all_eq_true.1 h.2 b hb); omega⟩, h1.2.1⟩
theorem shifts_ok {ps : List Prt} {bs : List Bk} {F : List Int} (h : cpErr ps bs F = 0) : (codeM ps bs F).all shOk = true := by
  unfold cpErr at h
  by_cases h1 : F.length = bs.length
  · rw [if_neg (not_not_intro h1)] at h
    by_cases h2 : F.all scOk30 = true
    · rw [if_neg (not_not_intro h2)] at h
      by_cases h3 : firstErr ((List.range bs.length).map (conE bs F)) = 0
      · rw [if_neg (not_not_intro h3)] at h
        by_cases h4 : (codeM ps bs F).all shOk = true
        · exact h4
        · rw [if_neg h4] at h; cases h
      · rw [if_pos h3] at h; exact absurd h h3
    · rw [if_pos h2] at h; cases h
  · rw [if_pos h1] at h; cases h
theorem pcheck_t (t : Bool) {ps : List Prt} {is : List Int} {xs : List Ins} {os : List Int} (l1 : ps.length ≤ 1000000) (l2 : is.length ≤ 1000000) (l3 : xs.length ≤ 1000000) (l4 : os.length ≤ 1000000) (h0 : progErr ps is xs os = 0) : CV Tryd.prog TabAt 22 [aProg t ps is xs os] [aE 0] := fun w S vs hg hlt ha => by
  obtain ⟨v, rfl, hv⟩ := one_arg ha
  obtain ⟨ys, rfl, hl0⟩ := hv
  obtain ⟨v0, x1, rfl, q0, h⟩ := LRel.uncons hl0
  obtain ⟨v1, x2, rfl, q1, h⟩ := h.uncons
  obtain ⟨v2, x3, rfl, q2, h⟩ := h.uncons
  obtain ⟨v3, x4, rfl, q3, h⟩ := h.uncons
  have := h.unnil
  subst this
  unfold rowP at q0
  rw [flatD_vals dPrt_vals] at q0
  unfold rowN at q2
  rw [flatD_vals dIns_vals] at q2
  obtain ⟨A1, c1, rfl, _, _, _, k1⟩ := row_vals hlt q0
  obtain ⟨A2, c2, rfl, _, _, k2⟩ := rowI_open hlt q1
  obtain ⟨A3, c3, rfl, _, _, _, k3⟩ := row_vals hlt q2
  obtain ⟨A4, c4, rfl, _, _, k4⟩ := rowI_open hlt q3
  refine (Cd.Check_any A1 A2 A3 A4 ps is xs os c1 c2 c3 c4 _ w (Nat.le_refl _) k1 k2 k3 k4).mono fun e w' ⟨he, hb⟩ => ?_
  rw [h0] at he
  exact ⟨_, he, DRel.val (errV_one _), hb⟩

end Go.Proofs.YtjlocofimlgaoaaDoor
