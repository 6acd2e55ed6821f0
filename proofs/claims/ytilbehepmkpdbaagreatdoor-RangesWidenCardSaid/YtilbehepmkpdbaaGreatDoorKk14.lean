/- What the proofs of this claim share, part 14. No conditions. -/
import Derived.Test.YtilbehepmkpdbaaGreatDoorKk11
import Derived.Test.YtilbehepmkpdbaaGreatDoorKk12
import Derived.Test.YtilbehepmkpdbaaGreatDoorKk13
import Derived.Test.YtilbehepmkpdbaaGreatDoorKk9
import Derived.Test.YtilbehepmkpdbaaGreatDoorKk10
set_option maxRecDepth 100000
set_option maxHeartbeats 4000000
set_option linter.unusedVariables false
set_option linter.unusedSimpArgs false
set_option linter.unusedSectionVars false
namespace Go.Proofs.YtilbehepmkpdbaaGreatDoor
open Go.RowKit
def bitsN (n : Nat) : Nat := if n = 0 then 0 else n.log2 + 1
theorem bitsN_lt (n : Nat) : n < 2 ^ bitsN n := by
  unfold bitsN
  split
  · omega
  · rename_i h
    exact (Nat.log2_lt h).1 (Nat.lt_succ_self _)
theorem bitsN_le {n k : Nat} : bitsN n ≤ k ↔ n < 2 ^ k := by
  unfold bitsN
  split
  · rename_i h
    subst h
    exact ⟨fun _ => Nat.two_pow_pos k, fun _ => Nat.zero_le _⟩
  · rename_i h
    rw [← Nat.log2_lt h]
    omega
theorem bitsN_of {n k : Nat} (h1 : n < 2 ^ k) (h2 : k ≠ 0 → 2 ^ (k - 1) ≤ n) : bitsN n = k := by
  have a := bitsN_le.2 h1
  rcases Nat.lt_or_ge (bitsN n) k with h | h
  · have h3 := h2 (by omega)
    have h4 := (bitsN_le (n := n) (k := k - 1)).1 (by omega)
    omega
  · omega
theorem bitLen_is : ∀ (k x : Nat), x < 2 ^ k → k ≤ 64 → Lib.bitLen x = bitsN x
  | 0, x, h, _ => by
    have : x = 0 := by simpa using h
    subst this
    rfl
  | k + 1, x, h, hk => by
    by_cases h0 : x = 0
    · subst h0; rfl
    · have h64 : x < 2 ^ 64 := Nat.lt_of_lt_of_le h (Nat.pow_le_pow_right (by decide) hk)
      rw [Lib.bitLen_half x h0 h64, bitLen_is k (x / 2) (by rw [Nat.pow_succ] at h; omega) (by omega)]
      symm
      refine bitsN_of ?_ fun _ => ?_
      · have := bitsN_lt (x / 2)
        rw [Nat.pow_add, Nat.pow_one]
        omega
      · rw [Nat.add_sub_cancel_left]
        by_cases h2 : x / 2 = 0
        · rw [h2]; show 2 ^ 0 ≤ x; omega
        · have h5 : ¬ bitsN (x / 2) ≤ bitsN (x / 2) - 1 := by unfold bitsN; rw [if_neg h2]; omega
          rw [bitsN_le] at h5
          obtain ⟨m, hm⟩ : ∃ m, bitsN (x / 2) = m + 1 := ⟨bitsN (x / 2) - 1, by unfold bitsN; rw [if_neg h2]; omega⟩
          rw [hm] at h5 ⊢
          rw [Nat.add_sub_cancel] at h5
          rw [Nat.pow_succ]
          omega
theorem len32_cv (x : Nat) (hx : x < 4294967296) : CVF Tryz.prog TabAt 153 [.one (dW x)] [aI (bitsN x : Nat)] := fun w S vs hg hlt ha => by
  obtain ⟨u, hu, h1⟩ := one_arg ha
  subst hu
  cases h1
  refine (len32_any x w (by omega) (by omega)).mono fun r w' ⟨he, hw⟩ => ?_
  subst hw
  refine ⟨_, he, ?_, Below.refl _ _⟩
  rw [Int.toNat_natCast, bitLen_is 32 x (by simpa using hx) (by decide)]
  exact DRel.val rfl
theorem canon_last {n : Nat} (h : n ≠ 0) : ∃ p L, (canon n).length = L + 1 ∧ (canon n)[L]? = some p ∧ p ≠ 0 ∧ p < 4294967296 ∧ p = n / 4294967296 ^ L := by
  obtain ⟨L, hL⟩ : ∃ L, (canon n).length = L + 1 := ⟨(canon n).length - 1, by have := canon_ne h; omega⟩
  obtain ⟨p, hp⟩ : ∃ p, (canon n)[L]? = some p := ⟨_, List.getElem?_eq_getElem (by omega)⟩
  have h1 := canon_top h
  rw [hL, Nat.add_sub_cancel, hp] at h1
  have h2 := canon_ok n p (List.mem_of_getElem? hp)
  refine ⟨p, L, hL, hp, h1, h2, ?_⟩
  have h3 := wval_take_succ (canon n) L
  rw [show (canon n).take (L + 1) = canon n from List.take_of_length_le (by omega), wval_canon, hp] at h3
  have h4 := wval_lt (ws := (canon n).take L) (fun z hz => canon_ok n z (List.mem_of_mem_take hz))
  rw [List.length_take, Nat.min_eq_left (by omega)] at h4
  simp only [Option.getD_some] at h3
  rw [h3, Nat.add_mul_div_left _ _ (Nat.pos_of_ne_zero (by intro hz; rw [hz] at h4; omega)), Nat.div_eq_of_lt h4, Nat.zero_add]
theorem bits_canon {n p L : Nat} (hp : p = n / 4294967296 ^ L) (h0 : p ≠ 0) : bitsN n = 32 * L + bitsN p := by
  have e : (4294967296 : Nat) ^ L = 2 ^ (32 * L) := by rw [Nat.pow_mul]
  rw [e] at hp
  refine bitsN_of ?_ fun _ => ?_
  · have h1 := bitsN_lt p
    rw [Nat.pow_add]
    have h2 : n / 2 ^ (32 * L) < 2 ^ bitsN p := hp ▸ h1
    rw [Nat.div_lt_iff_lt_mul (Nat.two_pow_pos _)] at h2
    rw [Nat.mul_comm]
    exact h2
  · obtain ⟨m, hm⟩ : ∃ m, bitsN p = m + 1 := ⟨bitsN p - 1, by unfold bitsN; rw [if_neg h0]; omega⟩
    have h5 : ¬ bitsN p ≤ m := by omega
    rw [bitsN_le] at h5
    have h6 : ¬ n / 2 ^ (32 * L) < 2 ^ m := hp ▸ h5
    rw [Nat.div_lt_iff_lt_mul (Nat.two_pow_pos _)] at h6
    rw [hm, show 32 * L + (m + 1) - 1 = m + 32 * L by omega, Nat.pow_add]
    omega
theorem ok_maxR {P : Program} {G : World → Prop} {o : Oper} {F : Frm} {H : List Ob} {ts : Array TypeId} {x y : Operand} {k : IntKind} {p q r : Int} (ho : o.op = .call { callee := .builtin .max, args := #[x, y], argTypes := ts }) (hx : F.ev x = .one (.d (.val (.int k p)))) (hy : F.ev y = .one (.d (.val (.int k q)))) (hr : max p q = r) : OpOk P G o F H (.one (.d (.val (.int k r)))) [] := hr ▸ ok_max2 ho hx hy
theorem ok_eqlBR {P : Program} {G : World → Prop} {o : Oper} {F : Frm} {H : List Ob} {t t' : TypeId} {x y : Operand} {p q r : Bool} (ho : o.op = .binOp .eql t x y t') (ht : P.underlying t = some .bool) (hx : F.ev x = .one (.d (.val (.bool p)))) (hy : F.ev y = .one (.d (.val (.bool q)))) (hr : (p == q) = r) : OpOk P G o F H (.one (.d (.val (.bool r)))) [] := by
  subst hr
  refine ok_bin ho hx hy (fun w => ?_) rfl
  have h1 : (Op.equal t (.bool p) (.bool q)).run P w = .ok (p == q) w := by
    have key : ∀ d : Nat, (Op.equalIn (d + 1) t (.bool p) (.bool q)).run P w = .ok (p == q) w := fun d => by simp [Op.equalIn, run_underlying ht]
    exact key 9999
  simp [eqGuard, binOp, h1]
theorem sg_not (x : Int) : sg (!decide (x < 0)) x.natAbs = -x := by
  unfold sg
  by_cases h : x < 0
  · simp only [h, decide_true, Bool.not_true, Bool.false_eq_true, if_false]; omega
  · simp only [h, decide_false, Bool.not_false, if_true]; omega
theorem sg_self (x : Int) : sg (decide (x < 0)) x.natAbs = x := by
  unfold sg
  by_cases h : x < 0
  · simp only [h, decide_true, if_true]; omega
  · simp only [h, decide_false, Bool.false_eq_true, if_false]; omega
theorem sg_pow (x : Int) (k : Nat) : sg (decide (x < 0)) (x.natAbs * 2 ^ k) = x * 2 ^ k := by
  have h1 := sg_self x
  unfold sg at *
  by_cases h : x < 0
  · simp only [h, decide_true, if_true] at *
    conv => rhs; rw [← h1]
    rw [Int.natCast_mul, Int.neg_mul, Int.natCast_pow]
    rfl
  · simp only [h, decide_false, Bool.false_eq_true, if_false] at *
    conv => rhs; rw [← h1]
    rw [Int.natCast_mul, Int.natCast_pow]
    rfl
theorem dy_signs (x : Int) (dx : Nat) (y : Int) (dy : Nat) :
    (decide (x < 0) = decide (y < 0) → dySum x dx y dy = nf (sg (decide (x < 0)) (x.natAbs * 2 ^ (max dx dy - dx) + y.natAbs * 2 ^ (max dx dy - dy))) (max dx dy)) ∧
    (¬ decide (x < 0) = decide (y < 0) → y.natAbs * 2 ^ (max dx dy - dy) ≤ x.natAbs * 2 ^ (max dx dy - dx) → dySum x dx y dy = nf (sg (decide (x < 0)) (x.natAbs * 2 ^ (max dx dy - dx) - y.natAbs * 2 ^ (max dx dy - dy))) (max dx dy)) ∧
    (¬ decide (x < 0) = decide (y < 0) → ¬ y.natAbs * 2 ^ (max dx dy - dy) ≤ x.natAbs * 2 ^ (max dx dy - dx) → dySum x dx y dy = nf (sg (decide (y < 0)) (y.natAbs * 2 ^ (max dx dy - dy) - x.natAbs * 2 ^ (max dx dy - dx))) (max dx dy)) := by
  have h1 := sg_pow x (max dx dy - dx)
  have h2 := sg_pow y (max dx dy - dy)
  unfold dySum
  rw [← h1, ← h2]
  generalize x.natAbs * 2 ^ (max dx dy - dx) = p
  generalize y.natAbs * 2 ^ (max dx dy - dy) = q
  refine ⟨fun h => ?_, fun h hle => ?_, fun h hle => ?_⟩
  · rw [← h]
    congr 1
    unfold sg
    split <;> omega
  · congr 1
    unfold sg
    cases hx : decide (x < 0) <;> cases hy : decide (y < 0) <;> simp only [hx, hy] at h ⊢ <;> simp at h ⊢ <;> omega
  · congr 1
    unfold sg
    cases hx : decide (x < 0) <;> cases hy : decide (y < 0) <;> simp only [hx, hy] at h ⊢ <;> simp at h ⊢ <;> omega
theorem shift_none {x : Int} {d : Nat} (h : Nf x d) : dyShift x d 0 = (x, d) := by
  unfold dyShift
  rw [if_neg (by decide)]
  show nf (x * 2 ^ 0) d = _
  rw [Int.pow_zero, Int.mul_one]
  exact nf_done h.2
theorem pdof_cv (n : Int) (h1 : -9223372036854775808 ≤ n) (h2 : n < 9223372036854775808) : CV Tryz.prog TabAt 100 [aI n] [aDy false n 0] := CVF.cv fun w S vs hg hlt ha => by
  obtain ⟨u, hu, h3⟩ := one_arg ha
  subst hu
  cases h3
  exact (pof_any n h1 h2 w hg).mono fun r w' ⟨v, he, hd, hb⟩ => ⟨v, he, dy_out hd, hb⟩
theorem pdshift_cv (x : Int) (d : Nat) (n : Int) (hn : Nf x d) (hl : (canon x.natAbs).length ≤ 50000) (hd : (d : Int) - max (-65536) (min n 65536) ≤ 65536) : CV Tryz.prog TabAt 90 [aDy false x d, aI n] [aDy false (dyShift x d n).1 (dyShift x d n).2] := CVF.cv fun w S vs hg hlt ha => by
  obtain ⟨v, vs', rfl, h1, ha⟩ := ha.uncons
  obtain ⟨u, hu, h2⟩ := one_arg ha
  subst hu
  cases h2
  exact (pshift_any (dy_in h1 hlt hn) (Nat.le_refl _) hl hd hg).mono fun r w' ⟨v, he, hd, hb⟩ => ⟨v, he, dy_out hd, hb⟩
theorem dyCmp_p (x : Int) (dx : Nat) (y : Int) (dy : Nat) : dyCmp x dx y dy = pCmp x dx y dy := by
  unfold dyCmp pCmp dySum
  rw [sgI_eq (nf_eq _ _), Int.neg_mul]
  rfl
theorem pdcmp_cv (x : Int) (dx : Nat) (y : Int) (dy : Nat) (hnx : Nf x dx) (hny : Nf y dy) (lx : (canon x.natAbs).length ≤ 40000) (ly : (canon y.natAbs).length ≤ 40000) : CV Tryz.prog TabAt 60 [aDy false x dx, aDy false y dy] [aI (dyCmp x dx y dy)] := CVF.cv fun w S vs hg hlt ha => by
  obtain ⟨v, vs', rfl, h1, ha⟩ := ha.uncons
  obtain ⟨u, hu, h2⟩ := one_arg ha
  subst hu
  exact (pcmp_any (dy_in h1 hlt hnx) (dy_in h2 hlt hny) (Nat.le_refl _) (Nat.le_trans lx (by decide)) (Nat.le_trans ly (by decide))).mono fun r w' ⟨he, hb⟩ => ⟨_, he.trans (by rw [dyCmp_p]), DRel.val rfl, hb⟩
theorem align_cv (x : Int) (dx : Nat) (y : Int) (dy : Nat) (hnx : Nf x dx) (hny : Nf y dy) (lx : (canon x.natAbs).length ≤ 40000) (ly : (canon y.natAbs).length ≤ 40000) : CV Tryz.prog TabAt 127 [aDy false x dx, aDy false y dy] [aB (decide (x < 0)), .one (rowC false (x.natAbs * 2 ^ ((max dx dy) - dx))), aB (decide (y < 0)), .one (rowC false (y.natAbs * 2 ^ ((max dx dy) - dy))), aI ((max dx dy) : Nat)] := by
  refine cvz Tryz.func127 Tryz.ntmps127 ?_
  have PX := parts_cv (G := TabAt) x dx hnx (Nat.le_trans lx (by decide))
  have PY := parts_cv (G := TabAt) y dy hny (Nat.le_trans ly (by decide))
  have hdx := hnx.1
  have hdy := hny.1
  have hm : (max (dx : Int) (dy : Int)) = (((max dx dy) : Nat) : Int) := by omega
  have LX := nleft_cv x.natAbs ((max dx dy) - dx) (Nat.le_trans lx (by decide)) (by omega)
  have LY := nleft_cv y.natAbs ((max dx dy) - dy) (Nat.le_trans ly (by decide)) (by omega)
  have e1 : (((max dx dy) - dx : Nat) : Int) = (((max dx dy) : Nat) : Int) - (dx : Int) := by omega
  have e2 : (((max dx dy) - dy : Nat) : Int) = (((max dx dy) : Nat) : Int) - (dy : Int) := by omega
  rw [e1] at LX
  rw [e2] at LY
  repeat' (with_reducible first | apply qa | apply qb | apply qc | apply qd | apply qe | apply qf | apply qg | apply qh | apply qi | apply qj | apply qk | apply ql rfl | apply qm rfl | apply qn rfl | apply Je | (refine Tx 0 ?_; refine Jn xBo ?_; refine Jn xBo ?_; refine Ja ?_; refine Ja ?_; refine Ja ?_; refine Ja ?_; refine Ja ?_) | (refine Tx 1 ?_; refine Jo (xLa tk_Dyadic) ?_; refine Jo (by first | exact xCl Tryz.func129 (PX) | exact xCl Tryz.func129 (PY)) ?_; refine Jo xMt ?_; refine Jo xEx ?_; refine Jo xEx ?_; refine Jo xEx ?_; refine Ja ?_; refine Ja ?_; refine Ja ?_) | (refine Tx 2 ?_; refine Jo (xLa tk_Dyadic) ?_; refine Jo (by first | exact xCl Tryz.func129 (PX) | exact xCl Tryz.func129 (PY)) ?_; refine Jo xMt ?_; refine Jo xEx ?_; refine Jo xEx ?_; refine Jo xEx ?_; refine Ja ?_; refine Ja ?_; refine Ja ?_) | (refine Tx 3 ?_; refine Jm ?_; refine Jm ?_; refine Jo (by first | exact ok_maxR rfl rfl rfl hm | exact ok_max2 rfl rfl rfl) ?_; refine Ja ?_) | (refine Tx 4 ?_; refine Jm ?_; refine Jm ?_; refine Jm ?_; refine Jm ?_; refine Jo xSb ?_; refine Jo (by first | exact xCl Tryz.func136 (LX) | exact xCl Tryz.func136 (LY)) ?_; refine Jm ?_; refine Jm ?_; refine Jm ?_; refine Jm ?_; refine Jo xSb ?_; refine Jo (by first | exact xCl Tryz.func136 (LX) | exact xCl Tryz.func136 (LY)) ?_; refine Jm ?_; refine Ja ?_; refine Ja ?_; refine Ja ?_; refine Ja ?_; refine Ja ?_))
  exact ret_q rfl (.cons_ (rv_b rfl rfl) (.cons_ (.tmp (.one (cexp_d rfl fun _ => free_C _))) (.cons_ (rv_b rfl rfl) (.cons_ (.tmp (.one (cexp_d rfl fun _ => free_C _))) (.cons_ (rv_i rfl rfl) .nil_)))))
theorem pdadd_cv (x : Int) (dx : Nat) (y : Int) (dy : Nat) (hnx : Nf x dx) (hny : Nf y dy) (lx : (canon x.natAbs).length ≤ 40000) (ly : (canon y.natAbs).length ≤ 40000) : CV Tryz.prog TabAt 138 [aDy false x dx, aDy false y dy] [aDy false (dySum x dx y dy).1 (dySum x dx y dy).2] := by
  refine cvz Tryz.func138 Tryz.ntmps138 ?_
  have AL := align_cv x dx y dy hnx hny lx ly
  have hdx := hnx.1
  have hdy := hny.1
  have hX : (canon (x.natAbs * 2 ^ ((max dx dy) - dx))).length ≤ 50000 := Nat.le_trans (canon_len_shift x.natAbs ((max dx dy) - dx)) (by omega)
  have hY : (canon (y.natAbs * 2 ^ ((max dx dy) - dy))).length ≤ 50000 := Nat.le_trans (canon_len_shift y.natAbs ((max dx dy) - dy)) (by omega)
  have CP := pcompare_cv (G := TabAt) false false (x.natAbs * 2 ^ ((max dx dy) - dx)) (y.natAbs * 2 ^ ((max dx dy) - dy)) (by omega) (by omega)
  have SU := dy_signs x dx y dy
  generalize (x.natAbs * 2 ^ ((max dx dy) - dx)) = p at *
  generalize (y.natAbs * 2 ^ ((max dx dy) - dy)) = q at *
  obtain ⟨S1, S2, S3⟩ := SU
  have hpq := canon_len_add p q
  by_cases hs : decide (x < 0) = decide (y < 0)
  case pos =>
    have NA := nadd_cv p q (by omega) (by omega)
    have RS := presult_cv false (decide (x < 0)) (p + q) (max dx dy) (by omega) (by omega)
    rw [← S1 hs] at RS
    have hsb := beq_iff_eq.2 hs
    repeat' (with_reducible first | apply qa | apply qb | apply qc | apply qd | apply qe | apply qf | apply qg | apply qh | apply qi | apply qj | apply qk | apply ql rfl | apply qm rfl | apply qn rfl | apply Je | (refine Tx 0 ?_; refine Jn xBo ?_; refine Jn xBo ?_; refine Jn (xAl tz_Dyadic) ?_) | (refine Tx 1 ?_; refine Jo (xLa tk_Dyadic) ?_; refine Jo (xLa tk_Dyadic) ?_; refine Jo (xCl Tryz.func127 (AL)) ?_; refine Jo xMt ?_; refine Jo xEx ?_; refine Jo xEx ?_; refine Jo xEx ?_; refine Jo xEx ?_; refine Jo xEx ?_; refine Ja ?_; refine Ja ?_; refine Ja ?_; refine Ja ?_; refine Ja ?_) | (refine Tx 2 ?_; refine Jm ?_; refine Jm ?_; refine Jo (xCl Tryz.func128 (CP.cv)) ?_; refine Ja ?_) | (refine Tx 3 ?_; refine Jm ?_; refine Jm ?_; refine Jo (by first | exact ok_eqlBR rfl Tryz.underlying4 rfl rfl hsb | exact xEq) ?_; refine Ja ?_) | (refine Tx 4 ?_; refine Jm ?_; refine Jm ?_; refine Jm ?_; refine Jo (xCl Tryz.func148 (NA)) ?_; refine Jm ?_; refine Jo (xCl Tryz.func130 (RS.cv)) ?_; refine Js (xSk tk_Dyadic) ?_))
    exact ret_q rfl (.cons_ (rvW tk_Dyadic rfl) .nil_)
  have hsb : (decide (x < 0) == decide (y < 0)) = false := beq_eq_false_iff_ne.2 hs
  by_cases hc : q ≤ p
  case pos =>
    have NS := nsub_cv p q hc (by omega)
    have RS := presult_cv false (decide (x < 0)) (p - q) (max dx dy) (Nat.le_trans (canon_len_mono (Nat.sub_le p q)) (by omega)) (by omega)
    rw [← S2 hs hc] at RS
    have hge : 0 ≤ sgI ((p : Int) - (q : Int)) := by rw [sgI_three]; (repeat' split) <;> omega
    repeat' (with_reducible first | apply qa | apply qb | apply qc | apply qd | apply qe | apply qf | apply qg | apply qh | apply qi | apply qj | apply qk | apply ql rfl | apply qm rfl | apply qn rfl | apply Je | (refine Tx 0 ?_; refine Jn xBo ?_; refine Jn xBo ?_; refine Jn (xAl tz_Dyadic) ?_) | (refine Tx 1 ?_; refine Jo (xLa tk_Dyadic) ?_; refine Jo (xLa tk_Dyadic) ?_; refine Jo (xCl Tryz.func127 (AL)) ?_; refine Jo xMt ?_; refine Jo xEx ?_; refine Jo xEx ?_; refine Jo xEx ?_; refine Jo xEx ?_; refine Jo xEx ?_; refine Ja ?_; refine Ja ?_; refine Ja ?_; refine Ja ?_; refine Ja ?_) | (refine Tx 2 ?_; refine Jm ?_; refine Jm ?_; refine Jo (xCl Tryz.func128 (CP.cv)) ?_; refine Ja ?_) | (refine Tx 3 ?_; refine Jm ?_; refine Jm ?_; refine Jo (by first | exact ok_eqlBR rfl Tryz.underlying4 rfl rfl hsb | exact xEq) ?_; refine Ja ?_) | (refine Tx 5 ?_; refine Jm ?_; refine Jo xGe ?_; refine Ja ?_) | (refine Tx 6 ?_; refine Jm ?_; refine Jm ?_; refine Jm ?_; refine Jo (xCl Tryz.func151 (NS)) ?_; refine Jm ?_; refine Jo (xCl Tryz.func130 (RS.cv)) ?_; refine Js (xSk tk_Dyadic) ?_))
    exact ret_q rfl (.cons_ (rvW tk_Dyadic rfl) .nil_)
  have NS := nsub_cv q p (by omega) (by omega)
  have RS := presult_cv false (decide (y < 0)) (q - p) (max dx dy) (Nat.le_trans (canon_len_mono (Nat.sub_le q p)) (by omega)) (by omega)
  rw [← S3 hs hc] at RS
  have hge : ¬ 0 ≤ sgI ((p : Int) - (q : Int)) := by rw [sgI_three]; (repeat' split) <;> omega
  repeat' (with_reducible first | apply qa | apply qb | apply qc | apply qd | apply qe | apply qf | apply qg | apply qh | apply qi | apply qj | apply qk | apply ql rfl | apply qm rfl | apply qn rfl | apply Je | (refine Tx 0 ?_; refine Jn xBo ?_; refine Jn xBo ?_; refine Jn (xAl tz_Dyadic) ?_) | (refine Tx 1 ?_; refine Jo (xLa tk_Dyadic) ?_; refine Jo (xLa tk_Dyadic) ?_; refine Jo (xCl Tryz.func127 (AL)) ?_; refine Jo xMt ?_; refine Jo xEx ?_; refine Jo xEx ?_; refine Jo xEx ?_; refine Jo xEx ?_; refine Jo xEx ?_; refine Ja ?_; refine Ja ?_; refine Ja ?_; refine Ja ?_; refine Ja ?_) | (refine Tx 2 ?_; refine Jm ?_; refine Jm ?_; refine Jo (xCl Tryz.func128 (CP.cv)) ?_; refine Ja ?_) | (refine Tx 3 ?_; refine Jm ?_; refine Jm ?_; refine Jo (by first | exact ok_eqlBR rfl Tryz.underlying4 rfl rfl hsb | exact xEq) ?_; refine Ja ?_) | (refine Tx 5 ?_; refine Jm ?_; refine Jo xGe ?_; refine Ja ?_) | (refine Tx 7 ?_; refine Jm ?_; refine Jm ?_; refine Jm ?_; refine Jo (xCl Tryz.func151 (NS)) ?_; refine Jm ?_; refine Jo (xCl Tryz.func130 (RS.cv)) ?_; refine Js (xSk tk_Dyadic) ?_))
  exact ret_q rfl (.cons_ (rvW tk_Dyadic rfl) .nil_)
theorem pdneg_cv (x : Int) (dx : Nat) (hnx : Nf x dx) (lx : (canon x.natAbs).length ≤ 40000) : CV Tryz.prog TabAt 61 [aDy false x dx] [aDy false (-x) dx] := by
  refine cvz Tryz.func61 Tryz.ntmps61 ?_
  have PX := parts_cv (G := TabAt) x dx hnx (Nat.le_trans lx (by decide))
  have hdx := hnx.1
  have RS := presult_cv false (!decide (x < 0)) x.natAbs dx (Nat.le_trans lx (by decide)) hdx
  rw [show nf (sg (!decide (x < 0)) x.natAbs) dx = (-x, dx) by rw [sg_not]; exact nf_done fun h => by have := hnx.2 h; omega] at RS
  repeat' (with_reducible first | apply qa | apply qb | apply qc | apply qd | apply qe | apply qf | apply qg | apply qh | apply qi | apply qj | apply qk | apply ql rfl | apply qm rfl | apply qn rfl | apply Je | (refine Tx 0 ?_; refine Jn xBo ?_; refine Jn (xAl tz_Dyadic) ?_) | (refine Tx 1 ?_; refine Jo (xLa tk_Dyadic) ?_; refine Jo (xCl Tryz.func129 (PX)) ?_; refine Jo xMt ?_; refine Jo xEx ?_; refine Jo xEx ?_; refine Jo xEx ?_; refine Ja ?_; refine Ja ?_; refine Ja ?_) | (refine Tx 2 ?_; refine Jm ?_; refine Jo (by first | exact xNt | exact xNg) ?_; refine Jm ?_; refine Jm ?_; refine Jo (xCl Tryz.func130 (RS.cv)) ?_; refine Js (xSk tk_Dyadic) ?_))
  exact ret_q rfl (.cons_ (rvW tk_Dyadic rfl) .nil_)
theorem pdabs_cv (x : Int) (dx : Nat) (hnx : Nf x dx) (lx : (canon x.natAbs).length ≤ 40000) : CV Tryz.prog TabAt 141 [aDy false x dx] [aDy false ((x.natAbs : Nat) : Int) dx] := by
  refine cvz Tryz.func141 Tryz.ntmps141 ?_
  have PX := parts_cv (G := TabAt) x dx hnx (Nat.le_trans lx (by decide))
  have hdx := hnx.1
  have RS := presult_cv false false x.natAbs dx (Nat.le_trans lx (by decide)) hdx
  rw [show nf (sg false x.natAbs) dx = (((x.natAbs : Nat) : Int), dx) from nf_done fun h => by have := hnx.2 h; show ((x.natAbs : Nat) : Int) % 2 = 1; omega] at RS
  repeat' (with_reducible first | apply qa | apply qb | apply qc | apply qd | apply qe | apply qf | apply qg | apply qh | apply qi | apply qj | apply qk | apply ql rfl | apply qm rfl | apply qn rfl | apply Je | (refine Tx 0 ?_; refine Jn xBo ?_; refine Jn (xAl tz_Dyadic) ?_) | (refine Tx 1 ?_; refine Jo (xLa tk_Dyadic) ?_; refine Jo (xCl Tryz.func129 (PX)) ?_; refine Jo xMt ?_; refine Jo xEx ?_; refine Jo xEx ?_; refine Jo xEx ?_; refine Ja ?_; refine Ja ?_; refine Ja ?_) | (refine Tx 2 ?_; refine Jm ?_; refine Jm ?_; refine Jo (xCl Tryz.func130 (RS.cv)) ?_; refine Js (xSk tk_Dyadic) ?_))
  exact ret_q rfl (.cons_ (rvW tk_Dyadic rfl) .nil_)
theorem pdmin_cv (x : Int) (dx : Nat) (y : Int) (dy : Nat) (hnx : Nf x dx) (hny : Nf y dy) (lx : (canon x.natAbs).length ≤ 40000) (ly : (canon y.natAbs).length ≤ 40000) : CV Tryz.prog TabAt 142 [aDy false x dx, aDy false y dy] [aDy false (dyMin x dx y dy).1 (dyMin x dx y dy).2] := by
  refine cvz Tryz.func142 Tryz.ntmps142 ?_
  have CM := pdcmp_cv x dx y dy hnx hny lx ly
  have SX := pdshift_cv x dx 0 hnx (Nat.le_trans lx (by decide)) (by have := hnx.1; omega)
  have SY := pdshift_cv y dy 0 hny (Nat.le_trans ly (by decide)) (by have := hny.1; omega)
  rw [shift_none hnx] at SX
  rw [shift_none hny] at SY
  by_cases h : dyCmp x dx y dy ≤ 0
  case pos =>
    rw [show dyMin x dx y dy = (x, dx) from if_neg (by omega)]
    repeat' (with_reducible first | apply qa | apply qb | apply qc | apply qd | apply qe | apply qf | apply qg | apply qh | apply qi | apply qj | apply qk | apply ql rfl | apply qm rfl | apply qn rfl | apply Je | (refine Tx 0 ?_; refine Jn xBo ?_; refine Jn xBo ?_; refine Jn (xAl tz_Dyadic) ?_) | (refine Tx 1 ?_; refine Jo (xLa tk_Dyadic) ?_; refine Jo (xLa tk_Dyadic) ?_; refine Jo (xCl Tryz.func60 (CM)) ?_; refine Jo xLe ?_) | (refine Tx 2 ?_; refine Jo (xLa tk_Dyadic) ?_; refine Jo (xCl Tryz.func90 (SX)) ?_; refine Js (xSk tk_Dyadic) ?_))
    exact ret_q rfl (.cons_ (rvW tk_Dyadic rfl) .nil_)
  case neg =>
    rw [show dyMin x dx y dy = (y, dy) from if_pos (by omega)]
    repeat' (with_reducible first | apply qa | apply qb | apply qc | apply qd | apply qe | apply qf | apply qg | apply qh | apply qi | apply qj | apply qk | apply ql rfl | apply qm rfl | apply qn rfl | apply Je | (refine Tx 0 ?_; refine Jn xBo ?_; refine Jn xBo ?_; refine Jn (xAl tz_Dyadic) ?_) | (refine Tx 1 ?_; refine Jo (xLa tk_Dyadic) ?_; refine Jo (xLa tk_Dyadic) ?_; refine Jo (xCl Tryz.func60 (CM)) ?_; refine Jo xLe ?_) | (refine Tx 3 ?_; refine Jo (xLa tk_Dyadic) ?_; refine Jo (xCl Tryz.func90 (SY)) ?_; refine Js (xSk tk_Dyadic) ?_))
    exact ret_q rfl (.cons_ (rvW tk_Dyadic rfl) .nil_)
theorem pdmax_cv (x : Int) (dx : Nat) (y : Int) (dy : Nat) (hnx : Nf x dx) (hny : Nf y dy) (lx : (canon x.natAbs).length ≤ 40000) (ly : (canon y.natAbs).length ≤ 40000) : CV Tryz.prog TabAt 143 [aDy false x dx, aDy false y dy] [aDy false (dyMax x dx y dy).1 (dyMax x dx y dy).2] := by
  refine cvz Tryz.func143 Tryz.ntmps143 ?_
  have CM := pdcmp_cv x dx y dy hnx hny lx ly
  have SX := pdshift_cv x dx 0 hnx (Nat.le_trans lx (by decide)) (by have := hnx.1; omega)
  have SY := pdshift_cv y dy 0 hny (Nat.le_trans ly (by decide)) (by have := hny.1; omega)
  rw [shift_none hnx] at SX
  rw [shift_none hny] at SY
  by_cases h : 0 ≤ dyCmp x dx y dy
  case pos =>
    rw [show dyMax x dx y dy = (x, dx) from if_neg (by omega)]
    repeat' (with_reducible first | apply qa | apply qb | apply qc | apply qd | apply qe | apply qf | apply qg | apply qh | apply qi | apply qj | apply qk | apply ql rfl | apply qm rfl | apply qn rfl | apply Je | (refine Tx 0 ?_; refine Jn xBo ?_; refine Jn xBo ?_; refine Jn (xAl tz_Dyadic) ?_) | (refine Tx 1 ?_; refine Jo (xLa tk_Dyadic) ?_; refine Jo (xLa tk_Dyadic) ?_; refine Jo (xCl Tryz.func60 (CM)) ?_; refine Jo xGe ?_) | (refine Tx 2 ?_; refine Jo (xLa tk_Dyadic) ?_; refine Jo (xCl Tryz.func90 (SX)) ?_; refine Js (xSk tk_Dyadic) ?_))
    exact ret_q rfl (.cons_ (rvW tk_Dyadic rfl) .nil_)
  case neg =>
    rw [show dyMax x dx y dy = (y, dy) from if_pos (by omega)]
    repeat' (with_reducible first | apply qa | apply qb | apply qc | apply qd | apply qe | apply qf | apply qg | apply qh | apply qi | apply qj | apply qk | apply ql rfl | apply qm rfl | apply qn rfl | apply Je | (refine Tx 0 ?_; refine Jn xBo ?_; refine Jn xBo ?_; refine Jn (xAl tz_Dyadic) ?_) | (refine Tx 1 ?_; refine Jo (xLa tk_Dyadic) ?_; refine Jo (xLa tk_Dyadic) ?_; refine Jo (xCl Tryz.func60 (CM)) ?_; refine Jo xGe ?_) | (refine Tx 3 ?_; refine Jo (xLa tk_Dyadic) ?_; refine Jo (xCl Tryz.func90 (SY)) ?_; refine Js (xSk tk_Dyadic) ?_))
    exact ret_q rfl (.cons_ (rvW tk_Dyadic rfl) .nil_)
structure Rv where
  nb : Bool
  ws : List Nat
  den : Int
def Rv.rw (r : Rv) : Rw := ⟨r.nb, none, r.ws, 0, r.den⟩
def dRv (t : Bool) (r : Rv) : List D := [.val (.bool r.nb), .row t 1 r.ws.length (r.ws.map dW), .val (.int .i64 r.den)]
def aRv (t : Bool) (r : Rv) : A := .agg (dRv t r)
theorem rv_in {w : World} {S : Sets} {t : Bool} {r : Rv} {v : Value} (h : ARel w S (aRv t r) v) (hS : ∀ t b, S t b → b < w.heap.size) (hw : wordsOk r.ws) : ∃ A c, v = (⟨r.nb, A, r.ws, c, r.den⟩ : Rw).val ∧ RwAt w w.heap.size ⟨r.nb, A, r.ws, c, r.den⟩ := by
  obtain ⟨xs, rfl, h1⟩ := h
  obtain ⟨a, l1, rfl, ha, h2⟩ := h1.uncons
  obtain ⟨b, l2, rfl, hb, h3⟩ := h2.uncons
  obtain ⟨c, l3, rfl, hc, h4⟩ := h3.uncons
  rw [h4.unnil]
  cases ha
  cases hc
  obtain ⟨A, c, rfl, q1, q2, q3, _⟩ := words_in hb hS rfl
  exact ⟨A, c, rfl, q1, q2, q3, hw⟩
section
variable {G : World → Prop}
theorem pvalid_cv (t : Bool) (r : Rv) (hw : wordsOk r.ws) (hl : r.ws.length ≤ 1000000) : CVF Tryz.prog G 88 [aRv t r] [aB (vdB r.rw)] := fun w S vs hg hlt ha => by
  obtain ⟨u, hu, h1⟩ := one_arg ha
  subst hu
  obtain ⟨A, c, rfl, hat⟩ := rv_in h1 hlt hw
  exact (pvalid_raw _ _ w (Nat.le_refl _) hat hl).mono fun r w' ⟨he, hb⟩ => ⟨_, he, DRel.val rfl, hb⟩
theorem dvalid_cv (t : Bool) (r : Rv) (hw : wordsOk r.ws) (hl : r.ws.length ≤ 1000000) : CVF Tryz.prog G 115 [aRv t r] [aB (vdB r.rw)] := fun w S vs hg hlt ha => by
  obtain ⟨u, hu, h1⟩ := one_arg ha
  subst hu
  obtain ⟨A, c, rfl, hat⟩ := rv_in h1 hlt hw
  exact (rvalid_raw _ _ w (Nat.le_refl _) hat hl).mono fun r w' ⟨he, hb⟩ => ⟨_, he, DRel.val rfl, hb⟩
end
theorem rv_dy {t : Bool} {r : Rv} (hw : wordsOk r.ws) (hv : vdB r.rw = true) : dRv t r = dDy t r.rw.x r.rw.d ∧ Nf r.rw.x r.rw.d ∧ (canon r.rw.x.natAbs).length = r.ws.length := by
  have hc : canon r.rw.x.natAbs = r.ws := by rw [x_abs]; exact vd_canon (r := r.rw) hw hv
  have hP : vdP r.rw := of_decide_eq_true hv
  have key : r.nb = decide (r.rw.x < 0) ∧ r.den = ((r.rw.d : Nat) : Int) ∧ Nf r.rw.x r.rw.d := by
    by_cases h0 : r.ws.length = 0
    · obtain ⟨h1, h2⟩ := (vdP_0 (r := r.rw) h0).1 hP
      have hx : r.rw.x = 0 := by
        have := x_abs r.rw
        rw [show r.rw.ws = [] from List.eq_nil_of_length_eq_zero h0] at this
        have hz : wval [] = 0 := rfl
        omega
      have h1' : r.nb = false := h1
      have h2' : r.den = 0 := h2
      have hd : r.rw.d = 0 := by show r.den.toNat = 0; rw [h2']; rfl
      rw [hx, hd, h1', h2']
      exact ⟨rfl, rfl, by decide, fun h => absurd rfl h⟩
    · obtain ⟨h1, h2, h3, h4⟩ := (vdP_n (r := r.rw) h0).1 hP
      have h2' : 0 ≤ r.den := h2
      have h3' : r.den ≤ 65536 := h3
      have hd : ((r.rw.d : Nat) : Int) = r.den := Int.toNat_of_nonneg h2'
      have hpos : wval r.ws ≠ 0 := fun hz => by
        rw [x_abs, show r.rw.ws = r.ws from rfl, hz, canon_zero] at hc
        rw [← hc] at h0
        exact h0 rfl
      have hodd : r.rw.d ≠ 0 → wval r.ws % 2 = 1 := fun hne => by
        rcases h4 with h | h
        · have h' : r.den = 0 := h
          omega
        · have h' : r.ws[0]?.getD 0 % 2 = 1 := h
          have := wval_bit hw 0
          simp only [Nat.pow_zero, Nat.div_one, Nat.zero_div, Nat.zero_mod] at this
          omega
      have hx : r.rw.x = sg r.nb (wval r.ws) := rfl
      refine ⟨?_, hd.symm, by omega, fun hne => ?_⟩
      · rw [hx]
        unfold sg
        cases r.nb
        · simp
        · simp; omega
      · have := hodd hne
        rw [hx]
        unfold sg
        split <;> omega
  obtain ⟨k1, k2, k3⟩ := key
  refine ⟨?_, k3, by rw [hc]⟩
  unfold dRv dDy wds
  rw [hc, ← k1, ← k2, w32_D]
theorem bel_D {n : Nat} {ds : List D} : ∀ c ∈ ds.map C.d, C.bel n c := fun c hc => by
  obtain ⟨d, _, rfl⟩ := List.mem_map.1 hc
  trivial
def longB (a d : Nat) : Bool := decide (4096 < max (bitsN a) d)
theorem nbits_cv (a : Nat) (l1 : (canon a).length ≤ 200000) : CV Tryz.prog TabAt 144 [.one (rowC false a)] [aI (bitsN a : Nat)] := by
  refine cvz Tryz.func144 Tryz.ntmps144 ?_
  by_cases h0 : a = 0
  case pos =>
    subst h0
    have l0 : ((canon 0).length : Int) = 0 := by rw [canon_zero]; rfl
    rw [show bitsN 0 = 0 from rfl]
    repeat' (with_reducible first | apply qa | apply qb | apply qc | apply qd | apply qe | apply qf | apply qg | apply qh | apply qi | apply qj | apply qk | apply ql rfl | apply qm rfl | apply qn rfl | apply Je | (refine Tx 0 ?_; refine Ja ?_) | (refine Tx 1 ?_; refine Jm ?_; refine Jo (xLn ts_dyadic_nat) ?_; refine Jo xEq ?_) | (refine Tx 2 ?_; refine Ja ?_))
    exact ret_q rfl (.cons_ (rv_i rfl rfl) .nil_)
  obtain ⟨p, L, hL, hp, p0, hp1, hpd⟩ := canon_last h0
  have hi : ((canon a).length : Int) = (L : Int) + 1 := by omega
  have LN := len32_cv p hp1
  have hx2 := wdN_at hp
  have hb := bits_canon hpd p0
  have e1 : ((canon a).length : Int) - 1 = (L : Int) := by omega
  rw [hb]
  have hq : bitsN p ≤ 32 := bitsN_le.2 (by simpa using hp1)
  repeat' (with_reducible first | apply qa | apply qb | apply qc | apply qd | apply qe | apply qf | apply qg | apply qh | apply qi | apply qj | apply qk | apply ql rfl | apply qm rfl | apply qn rfl | apply Je | (refine Tx 0 ?_; refine Ja ?_) | (refine Tx 1 ?_; refine Jm ?_; refine Jo (xLn ts_dyadic_nat) ?_; refine Jo xEq ?_) | (refine Tx 3 ?_; refine Jm ?_; refine Jo (xLn ts_dyadic_nat) ?_; refine Jo xSb ?_; refine Jo (by exact ok_mul64 rfl rfl rfl (by omega)) ?_; refine Jm ?_; refine Jm ?_; refine Jo (xLn ts_dyadic_nat) ?_; refine Jo xSb ?_; refine Jo (by exact ok_ixR (i := L) rfl rfl rfl (by omega) ts_dyadic_nat (by omega) (by decide) (hx2)) ?_; refine Jo (xLd tk_uint32) ?_; refine Jo (xCl Tryz.func153 (LN.cv)) ?_; refine Jo xAd ?_; refine Ja ?_))
  exact ret_q rfl (.cons_ (.tmp (.one (by rw [show 32 * (((canon a).length : Int) - 1) + ((bitsN p : Nat) : Int) = ((32 * L + bitsN p : Nat) : Int) by omega]; exact cexp_d rfl fun h => .val _))) .nil_)
theorem pbits_cv (x : Int) (dx : Nat) (hnx : Nf x dx) (lx : (canon x.natAbs).length ≤ 40000) : CV Tryz.prog TabAt 95 [aDy false x dx] [aI (bitsN x.natAbs : Nat)] := by
  refine cvz Tryz.func95 Tryz.ntmps95 ?_
  have PX := parts_cv (G := TabAt) x dx hnx (Nat.le_trans lx (by decide))
  have NB := nbits_cv x.natAbs (by omega)
  repeat' (with_reducible first | apply qa | apply qb | apply qc | apply qd | apply qe | apply qf | apply qg | apply qh | apply qi | apply qj | apply qk | apply ql rfl | apply qm rfl | apply qn rfl | apply Je | (refine Tx 0 ?_; refine Jn xBo ?_; refine Ja ?_) | (refine Tx 1 ?_; refine Jo (xLa tk_Dyadic) ?_; refine Jo (xCl Tryz.func129 (PX)) ?_; refine Jo xMt ?_; refine Jo xEx ?_; refine Jo xEx ?_; refine Jo xEx ?_; refine Ja ?_; refine Ja ?_; refine Ja ?_) | (refine Tx 2 ?_; refine Jm ?_; refine Jo (xCl Tryz.func144 (NB)) ?_; refine Ja ?_))
  exact ret_q rfl (.cons_ (rv_i rfl rfl) .nil_)
end Go.Proofs.YtilbehepmkpdbaaGreatDoor
namespace Go.Proofs.YtilbehepmkpdbaaGreatDoor
open Go.ChangeShapes Go.WideShapes Go.ChangeAt Go.RowKit Go.Joins Go.Deep
def AllF (w : World) : Sets := fun _ b => b < w.heap.size
theorem AllF.of {w : World} {x : A} {v : Value} (h : ARel w (AllS w) x v) : ARel w (AllF w) x v := h.mono (fun _ _ hb => hb.2) fun _ _ _ => rfl
theorem cv_lawA {f : FuncId} {args : List A} (h : CV Tryz.prog TabAt f args [aB true]) {w : World} (ht : TabAt w) {vs : List Value} (ha : LRel (ARel w (AllF w)) args vs) :
    Calls Tryz.prog f vs.toArray w fun e w' => e = .returned (.bool true) ∧ Below w.heap.size w w' :=
  (h w _ vs ht (fun t b hb => hb) ha).mono fun e w' ⟨v, h1, h2, h3⟩ => by
    have h4 : DRel w' _ (dB true) v := h2
    cases h4
    exact ⟨h1, h3⟩
structure RowA (α : Type) (s : Nat) where
  cs : List Value
  len : cs.length = s
  a : α
instance {α : Type} {s : Nat} [Inhabited α] : Inhabited (RowA α s) := ⟨⟨List.replicate s undef, List.length_replicate, default⟩⟩
section
variable {H : Type} {enc : TypeId × Value → H} {P : Program} {w : World} {spare : Nat → Bool} {held : Bool}
theorem rowsA_of_cell {α : Type} [Inhabited α] {s : Nat} {Q : α → List Value → Prop} (hs0 : 0 < s) {t e : TypeId} {fuel : Nat} {v : Value} {x : DataW H × List MemPlace} (ht : P.underlying t = some (.slice e)) (hC : P.cellsOf e = s)
    (hrow : ∀ (fuel : Nat) (cs : List Value) (x : DataW H × List MemPlace), DataW.trod enc P w 0 spare held fuel e cs = some x → cs.length = s → ∃ a, Q a cs)
    (h : DataW.trod enc P w 0 spare held fuel t [v] = some x) :
    ∃ (A : Option Addr) (cap : Nat) (l : List (RowA α s)), v = .slice A l.length cap ∧ (A = none → cap = 0) ∧ l.length ≤ cap ∧ l.length ≤ maxLen ∧ CellsAt w w.heap.size A (flat RowA.cs l) ∧ ∀ x ∈ l, Q x.a x.cs := by
  rcases open_slice ht h with ⟨hcs, _⟩ | ⟨a, len, cap, m, n, D, Pl, hcs, _, hl, hm, hmm, _, hx⟩
  · exact ⟨none, 0, [], by simpa using hcs, fun _ => rfl, Nat.le_refl _, Nat.zero_le _, CellsAt.nil_, by simp⟩
  · have hle : len ≤ m := by rw [hmm]; split <;> omega
    rw [hC] at hx
    obtain ⟨R, hR⟩ := choose_lt (α := RowA α s) (n := len) (p := fun i b => Q b.a b.cs ∧ ∀ j, j < s → w.cell? (a.add (i * s + j)) = b.cs[j]?) (fun i hi => by
      obtain ⟨cs', h1, h2⟩ := hx i (by omega)
      obtain ⟨_, hlen, hcell⟩ := World.cells?_some h1
      obtain ⟨b, hb⟩ := hrow _ _ _ h2 (by simpa using hlen)
      exact ⟨⟨cs', by simpa using hlen, b⟩, hb, fun j hj => by rw [← add_add]; exact hcell j hj⟩)
    refine ⟨some a, cap, (List.range len).map R, by simpa using hcs, by simp, by simpa using hl, by simp; omega, fun hne => ?_, ?_⟩
    · have hpos : 0 < len := by
        rcases Nat.eq_zero_or_pos len with h0 | h0
        · subst h0; simp [flat] at hne
        · exact h0
      obtain ⟨b, off, spot⟩ := a
      have h00 := (hR 0 hpos).2 0 hs0
      have hz0 : (R 0).cs[0]? = some ((R 0).cs[0]'(by rw [(R 0).len]; exact hs0)) := List.getElem?_eq_getElem _
      rw [hz0] at h00
      have hspot : spot = none := by simpa [Addr.add] using World.cell?_spot h00
      subst hspot
      have hb : b < w.heap.size := by
        rcases Nat.lt_or_ge b w.heap.size with h | h
        · exact h
        · simp [World.cell?, Addr.add, Array.getElem?_eq_none h] at h00
      refine ⟨b, off, rfl, hb, hb, fun j u hu => ?_⟩
      have hjl : j < len * s := by
        have := (List.getElem?_eq_some_iff.1 hu).1
        rw [flat_len (f := RowA.cs) (s := s) (fun x => x.len)] at this
        simpa using this
      have hk : j / s < len := Nat.div_lt_of_lt_mul (by rw [Nat.mul_comm]; exact hjl)
      have hr : j % s < s := Nat.mod_lt _ hs0
      have hj : j / s * s + j % s = j := by rw [Nat.mul_comm]; exact Nat.div_add_mod j s
      have hg : ((List.range len).map R)[j / s]? = some (R (j / s)) := by simp [hk]
      have h1 := flat_get (f := RowA.cs) (s := s) (fun x => x.len) hg hr
      rw [hj, hu] at h1
      have h2 := (hR _ hk).2 (j % s) hr
      rw [hj, ← h1] at h2
      rw [← Go.WideShapes.add_plain]
      exact h2
    · intro y hy
      obtain ⟨i, hi, rfl⟩ := List.mem_map.1 hy
      exact (hR i (by simpa using hi)).1
theorem row_inF {tg : Bool} {A : Option Addr} {s n c : Nat} {cs : List D} {xs : List Value} (h : CellsAt w w.heap.size A xs) (hc : n ≤ c) (hA : A = none → c = 0) (hl : cs.length = n * s) (hr : LRel (DRel w (AllF w)) cs xs) : DRel w (AllF w) (.row tg s n cs) (.slice A n c) := by
  refine .row xs hc hA hl hr.1 (fun hne => ?_) hr.2
  obtain ⟨b, off, h1, _, h2, h3⟩ := h (fun h0 => hne (by have := hr.1; rw [h0] at this; exact List.eq_nil_of_length_eq_zero (by simpa using this)))
  exact ⟨b, off, h1, h2, h3⟩
theorem sliceD {α : Type} [Inhabited α] (f : α → List D) (Q : α → Prop) {s : Nat} {tg : Bool} (hs0 : 0 < s) (hfl : ∀ a, (f a).length = s) {t e : TypeId} {fuel : Nat} {v : Value} {x : DataW H × List MemPlace} (ht : P.underlying t = some (.slice e)) (hC : P.cellsOf e = s)
    (hrow : ∀ (fuel : Nat) (cs : List Value) (x : DataW H × List MemPlace), DataW.trod enc P w 0 spare held fuel e cs = some x → cs.length = s → ∃ a, Q a ∧ LRel (DRel w (AllF w)) (f a) cs)
    (h : DataW.trod enc P w 0 spare held fuel t [v] = some x) : ∃ l : List α, DRel w (AllF w) (.row tg s l.length (flatD f l)) v ∧ (∀ a ∈ l, Q a) ∧ l.length ≤ maxLen := by
  obtain ⟨A, cap, l, rfl, hA, hc, hm, hcl, hQ⟩ := rowsA_of_cell (Q := fun a cs => Q a ∧ LRel (DRel w (AllF w)) (f a) cs) hs0 ht hC hrow h
  refine ⟨l.map RowA.a, ?_, fun a ha => ?_, by rw [List.length_map]; exact hm⟩
  · have key : ∀ l : List (RowA α s), (∀ x ∈ l, Q x.a ∧ LRel (DRel w (AllF w)) (f x.a) x.cs) → LRel (DRel w (AllF w)) (flatD f (l.map RowA.a)) (flat RowA.cs l) := fun l => by
      induction l with
      | nil => intro _; exact LRel.nil_
      | cons y l ih => intro hq; exact (hq y (List.mem_cons_self ..)).2.app (ih fun z hz => hq z (List.mem_cons_of_mem _ hz))
    have := row_inF (tg := tg) (n := (l.map RowA.a).length) hcl (by rw [List.length_map]; exact hc) hA (flatD_len (f := f) hfl _) (key l hQ)
    rwa [List.length_map] at this ⊢
  · obtain ⟨y, hy, rfl⟩ := List.mem_map.1 ha
    exact (hQ y hy).1
end
theorem len_i64 {n : Nat} (h : n ≤ maxLen) : (n : Int) ≤ 9223372036854775807 := by unfold maxLen at h; omega
theorem flatD_one {α : Type} (f : α → D) (l : List α) : flatD (fun a => [f a]) l = l.map f := by
  induction l with
  | nil => rfl
  | cons a l ih => show f a :: flatD (fun a => [f a]) l = f a :: l.map f; rw [ih]
section
variable {H : Type} {enc : TypeId × Value → H} {w : World} {spare : Nat → Bool} {held : Bool}
theorem words_inF {tg : Bool} {A : Option Addr} {ws : List Nat} {c : Nat} (h : CellsAt w w.heap.size A (w32 ws)) (hc : ws.length ≤ c) (hA : A = none → c = 0) : DRel w (AllF w) (.row tg 1 ws.length (ws.map dW)) (.slice A ws.length c) := by
  rw [← w32_D]
  exact row_inF h hc hA (by rw [List.length_map, w32_len, Nat.mul_one]) (rel_vals fun v hv => w32_one hv)
theorem rw_inF (tg : Bool) {r : Rw} (h : RwAt w w.heap.size r) : LRel (DRel w (AllF w)) (dRv tg ⟨r.nb, r.ws, r.den⟩) r.cells :=
  .cons_ (.val rfl) (.cons_ (words_inF h.at_ h.fit h.nul) (.cons_ (.val rfl) .nil_))
instance : Inhabited Rv := ⟨⟨false, [], 0⟩⟩
def RvIn (r : Rv) : Prop := wordsOk r.ws ∧ r.ws.length ≤ maxLen ∧ -9223372036854775808 ≤ r.den ∧ r.den ≤ 9223372036854775807
end
end Go.Proofs.YtilbehepmkpdbaaGreatDoor
namespace Go.Proofs.YtilbehepmkpdbaaGreatDoor
open Go.RowKit
theorem ok_sliceL {P : Program} {G : World → Prop} {o : Oper} {F : Frm} {H : List Ob} {t e : TypeId} {x l : Operand} {tg : Bool} {n s lo : Nat} {k : IntKind} {z : Int} {cs : List D} (ho : o.op = .slice t x (some l) none none) (hx : F.ev x = .one (.d (.row tg s n cs))) (hl : F.ev l = .one (.d (.val (.int k z)))) (hz : z = (lo : Int)) (ht : TyS P t e s) (h1 : lo ≤ n) :
    OpOk P G o F H (.one (.d (.row tg s (n - lo) (cs.drop (lo * s))))) [] := ok_same fun b0 m a hp hcx hor => by
  subst hz
  have hv := ev_rel hor (x := x) (by rw [ho]; simp [Op.operands])
  have el := val_of (m := m) (v := a.eval l) (by rw [← hl]; exact ev_rel hor (by rw [ho]; simp [Op.operands]))
  rw [hx] at hv
  have hv' : DRel m.w m.S (.row tg s n cs) (a.eval x) := hv
  generalize hxe : a.eval x = u at hv'
  cases hv' with
  | @row _ _ _ cap _ A xs hc hA hln hxl hm hr =>
    obtain ⟨ie, hi1, hi2⟩ := Option.map_eq_some_iff.1 ht.s
    have hls : lo * s ≤ n * s := Nat.mul_le_mul_right _ h1
    have e3 : (n : Int) ≤ (cap : Int) := by omega
    have e4 : (lo : Int) ≤ (n : Int) := by omega
    have e6 : (0 : Int) ≤ (lo : Int) := by omega
    refine ⟨.slice (if cap = lo then A else A.map (·.add (lo * s))) (n - lo) (cap - lo), ?_, DRel.row (xs.drop (lo * s)) (by omega) (fun h0 => ?_) ?_ ?_ (fun hne => ?_) (fun j u x hu hj => ?_)⟩
    · unfold execOp
      simp [ho, hxe, el, Instr.sliceAt, Instr.slice, run_underlying ht.h, Instr.sliceBounds, Instr.sliceBound, asIntOf, sizeOf, typeInfo, hi1, hi2, h1, hc]
    · split at h0
      · omega
      · cases A with
        | none => have := hA rfl; omega
        | some p => simp at h0
    · rw [List.length_drop, hln, Nat.sub_mul]
    · simp [hxl]
    · have hcne : cs ≠ [] := fun h0 => hne (by rw [h0]; simp)
      obtain ⟨b, off, rfl, hb, hcells⟩ := hm hcne
      have hcl : cap ≠ lo := fun h0 => hne (by
        refine List.eq_nil_of_length_eq_zero ?_
        rw [List.length_drop, hln, show n = lo by omega, Nat.sub_self])
      rw [if_neg hcl]
      refine ⟨b, off + lo * s, by simp [Addr.add_mid], hb, fun j x hj => ?_⟩
      rw [List.getElem?_drop] at hj
      rw [Nat.add_assoc]
      exact hcells _ x hj
    · rw [List.getElem?_drop] at hu hj
      exact hr _ u x hu hj
theorem dneg_cv (G : World → Prop) (t : Bool) (x : Int) (dx : Nat) (hn : Nf x dx) (l1 : (canon x.natAbs).length ≤ 50000) : CVF Tryz.prog G 66 [aDy t x dx] [aDy false (-x) dx] := fun w S vs hg hlt ha => by
  obtain ⟨u, hu, h2⟩ := one_arg ha
  subst hu
  exact (neg_w (dy_in h2 hlt hn) (Nat.le_refl _) (Nat.le_trans l1 (by decide))).mono fun r w' ⟨v, he, hd, hb⟩ => ⟨v, he, dy_out hd, hb⟩
theorem dadd_cv (G : World → Prop) (t t' : Bool) (x : Int) (dx : Nat) (y : Int) (dy : Nat) (hn : Nf x dx) (hm : Nf y dy) (l1 : (canon x.natAbs).length ≤ 50000) (l2 : (canon y.natAbs).length ≤ 50000) : CVF Tryz.prog G 34 [aDy t x dx, aDy t' y dy] [aDy false (dySum x dx y dy).1 (dySum x dx y dy).2] := fun w S vs hg hlt ha => by
  obtain ⟨v, vs', rfl, h1, ha⟩ := ha.uncons
  obtain ⟨u, hu, h2⟩ := one_arg ha
  subst hu
  exact (add_any (dy_in h1 hlt hn) (dy_in h2 hlt hm) (Nat.le_refl _) (Nat.le_refl _) l1 l2).mono fun r w' ⟨v, he, hd, hb⟩ => ⟨v, he, dy_out hd, hb⟩
theorem dmin_cv (G : World → Prop) (t t' : Bool) (x : Int) (dx : Nat) (y : Int) (dy : Nat) (hn : Nf x dx) (hm : Nf y dy) (l1 : (canon x.natAbs).length ≤ 50000) (l2 : (canon y.natAbs).length ≤ 50000) : CVF Tryz.prog G 131 [aDy t x dx, aDy t' y dy] [aDy false (dyMin x dx y dy).1 (dyMin x dx y dy).2] := fun w S vs hg hlt ha => by
  obtain ⟨v, vs', rfl, h1, ha⟩ := ha.uncons
  obtain ⟨u, hu, h2⟩ := one_arg ha
  subst hu
  exact (min_any (dy_in h1 hlt hn) (dy_in h2 hlt hm) (Nat.le_refl _) l1 l2).mono fun r w' ⟨v, he, hd, hb⟩ => ⟨v, he, dy_out hd, hb⟩
theorem dmax_cv (G : World → Prop) (t t' : Bool) (x : Int) (dx : Nat) (y : Int) (dy : Nat) (hn : Nf x dx) (hm : Nf y dy) (l1 : (canon x.natAbs).length ≤ 50000) (l2 : (canon y.natAbs).length ≤ 50000) : CVF Tryz.prog G 132 [aDy t x dx, aDy t' y dy] [aDy false (dyMax x dx y dy).1 (dyMax x dx y dy).2] := fun w S vs hg hlt ha => by
  obtain ⟨v, vs', rfl, h1, ha⟩ := ha.uncons
  obtain ⟨u, hu, h2⟩ := one_arg ha
  subst hu
  exact (max_any (dy_in h1 hlt hn) (dy_in h2 hlt hm) (Nat.le_refl _) l1 l2).mono fun r w' ⟨v, he, hd, hb⟩ => ⟨v, he, dy_out hd, hb⟩
def Rp (p : Int × Nat) (X : Int) : Prop := p.1 * 2 ^ 200 = X * 2 ^ p.2
structure Sm (p : Int × Nat) (n d : Nat) : Prop where
  ok : Nf p.1 p.2
  n : p.1.natAbs < 2 ^ n
  d : p.2 ≤ d
theorem pow_words {n : Nat} (k : Nat) (h : n ≤ 32 * k) : 2 ^ n ≤ 4294967296 ^ k := by
  rw [show (4294967296 : Nat) = 2 ^ 32 from rfl, ← Nat.pow_mul]
  exact Nat.pow_le_pow_right (by decide) h
theorem Sm.lenN {p : Int × Nat} {n d : Nat} (h : Sm p n d) (k : Nat) (hn : n ≤ 32 * k) : (canon p.1.natAbs).length ≤ k := canon_len_le (Nat.lt_of_lt_of_le h.n (pow_words k hn))
theorem Sm.l4 {p : Int × Nat} {n d : Nat} (h : Sm p n d) (hn : n ≤ 32 * 625 := by decide) : (canon p.1.natAbs).length ≤ 40000 := Nat.le_trans (h.lenN 625 hn) (by decide)
theorem Sm.more {p : Int × Nat} {n d n' d' : Nat} (h : Sm p n d) (h1 : n ≤ n') (h2 : d ≤ d') : Sm p n' d' := ⟨h.ok, Nat.lt_of_lt_of_le h.n (Nat.pow_le_pow_right (by decide) h1), Nat.le_trans h.d h2⟩
theorem Sm.mk_nf {m : Int} {p n d : Nat} (hd : p ≤ d) (h : p ≤ 65536) (hm : m.natAbs < 2 ^ n) : Sm (nf m p) n d := ⟨Nf.nf h, Nat.lt_of_le_of_lt (nf_abs_le m p) hm, Nat.le_trans (nf_le m p) hd⟩
theorem Sm.shift {x k : Int} {n : Nat} (h1 : -200 ≤ k) (h2 : k ≤ 200) (hx : x.natAbs < 2 ^ n) : Sm (dyShift x 0 k) (n + 200) 200 := by
  unfold dyShift
  rw [show max (-65536) (min k 65536) = k by omega]
  split
  · exact (Sm.mk_nf (by omega) (by omega) hx).more (by omega) (Nat.le_refl _)
  · refine Sm.mk_nf (by omega) (by omega) ?_
    rw [Int.natAbs_mul, Int.natAbs_pow, Nat.pow_add]
    exact Nat.lt_of_le_of_lt (Nat.mul_le_mul_left _ (Nat.pow_le_pow_right (by decide) (show k.toNat ≤ 200 by omega))) (Nat.mul_lt_mul_of_pos_right hx (Nat.pow_pos (by decide)))
section
variable {p q : Int × Nat} {X Y Z : Int} {n m d : Nat}
theorem Sm.neg (h : Sm p n d) : Sm (-p.1, p.2) n d := ⟨⟨h.ok.1, fun h0 => by have := h.ok.2 h0; show (-p.1) % 2 = 1; omega⟩, by show (-p.1).natAbs < _; rw [Int.natAbs_neg]; exact h.n, h.d⟩
theorem Sm.abs (h : Sm p n d) : Sm (((p.1.natAbs : Nat) : Int), p.2) n d := ⟨⟨h.ok.1, fun h0 => by have := h.ok.2 h0; show ((p.1.natAbs : Nat) : Int) % 2 = 1; omega⟩, h.n, h.d⟩
theorem Sm.sum (h : Sm p n d) (h2 : Sm q n d) (hd : d ≤ 65536) : Sm (dySum p.1 p.2 q.1 q.2) (n + d + 1) d := by
  have e : ∀ r : Int × Nat, Sm r n d → (r.1 * 2 ^ (Max.max p.2 q.2 - r.2)).natAbs < 2 ^ (n + d) := fun r hr => by
    rw [Int.natAbs_mul, Int.natAbs_pow, Nat.pow_add]
    have hpd := h.d
    have hqd := h2.d
    exact Nat.lt_of_le_of_lt (Nat.mul_le_mul_left _ (Nat.pow_le_pow_right (by decide) (show Max.max p.2 q.2 - r.2 ≤ d by omega))) (Nat.mul_lt_mul_of_pos_right hr.n (Nat.pow_pos (by decide)))
  have hpd := h.d
  have hqd := h2.d
  refine Sm.mk_nf (by omega) (by omega) ?_
  have h3 := e p h
  have h4 := e q h2
  have h5 := Int.natAbs_add_le (p.1 * 2 ^ (Max.max p.2 q.2 - p.2)) (q.1 * 2 ^ (Max.max p.2 q.2 - q.2))
  rw [Nat.pow_succ]
  omega
theorem Sm.mul (h : Sm p n d) (h2 : Sm q n d) (hd : d ≤ 30000) : Sm (dyMul p.1 p.2 q.1 q.2) (n + n) (d + d) := by
  have hpd := h.d
  have hqd := h2.d
  refine Sm.mk_nf (by omega) (by omega) ?_
  rw [Int.natAbs_mul, Nat.pow_add]
  exact Nat.mul_lt_mul'' h.n h2.n
theorem Sm.min (h : Sm p n d) (h2 : Sm q n d) : Sm (dyMin p.1 p.2 q.1 q.2) n d := by
  unfold dyMin
  split
  · exact h2
  · exact h
theorem Sm.max (h : Sm p n d) (h2 : Sm q n d) : Sm (dyMax p.1 p.2 q.1 q.2) n d := by
  unfold dyMax
  split
  · exact h2
  · exact h
end
def dyP (p : Int × Nat) : List D := dDy false p.1 p.2
theorem dy_at {l : List (Int × Nat)} {k : Nat} {p : Int × Nat} (h : l[k]? = some p) : ((flatD dyP l).drop (k * 3)).take 3 = dyP p := flatD_at (f := dyP) (s := 3) (fun _ => rfl) h
def blkD (y : Bk) (l : List (Int × Nat)) : Int × Nat :=
  if y.kind = 1 then dyShift y.vn 0 y.ve
  else if y.kind = 3 then dySum (l[0]?.getD (0, 0)).1 (l[0]?.getD (0, 0)).2 (l[1]?.getD (0, 0)).1 (l[1]?.getD (0, 0)).2
  else if y.kind = 4 then dySum (l[0]?.getD (0, 0)).1 (l[0]?.getD (0, 0)).2 (-(l[1]?.getD (0, 0)).1) (l[1]?.getD (0, 0)).2
  else if y.kind = 5 then (-(l[0]?.getD (0, 0)).1, (l[0]?.getD (0, 0)).2)
  else if y.kind = 6 then dyMul (dyShift y.vn 0 y.ve).1 (dyShift y.vn 0 y.ve).2 (l[0]?.getD (0, 0)).1 (l[0]?.getD (0, 0)).2
  else if y.kind = 7 then dyMul (l[0]?.getD (0, 0)).1 (l[0]?.getD (0, 0)).2 (l[1]?.getD (0, 0)).1 (l[1]?.getD (0, 0)).2
  else if y.kind = 8 then dyMin (l[0]?.getD (0, 0)).1 (l[0]?.getD (0, 0)).2 (l[1]?.getD (0, 0)).1 (l[1]?.getD (0, 0)).2
  else if y.kind = 9 then dyMax (l[0]?.getD (0, 0)).1 (l[0]?.getD (0, 0)).2 (l[1]?.getD (0, 0)).1 (l[1]?.getD (0, 0)).2
  else if y.kind = 10 then ((((l[0]?.getD (0, 0)).1.natAbs : Nat) : Int), (l[0]?.getD (0, 0)).2)
  else dyMin (dyMax (l[0]?.getD (0, 0)).1 (l[0]?.getD (0, 0)).2 (dyShift y.vn 0 y.ve).1 (dyShift y.vn 0 y.ve).2).1 (dyMax (l[0]?.getD (0, 0)).1 (l[0]?.getD (0, 0)).2 (dyShift y.vn 0 y.ve).1 (dyShift y.vn 0 y.ve).2).2 (dyShift y.un 0 y.ue).1 (dyShift y.un 0 y.ue).2
theorem ord_split {bs : List Bk} : ∀ (f : Nat) (out : List Nat), (∀ l1 j l2, out = l1 ++ j :: l2 → rdy bs l1 j = true) → ∀ l1 j l2, ordN bs f out = l1 ++ j :: l2 → rdy bs l1 j = true
  | 0, out, h, l1, j, l2, e => h l1 j l2 e
  | f + 1, out, h, l1, j, l2, e => by
    unfold ordN at e
    cases hn : nxt bs out with
    | none => rw [hn] at e; exact h l1 j l2 e
    | some i =>
      rw [hn] at e
      refine ord_split f (out ++ [i]) (fun m1 q m2 he => ?_) l1 j l2 e
      rcases List.eq_nil_or_concat m2 with rfl | ⟨m3, q', rfl⟩
      · have h1 := List.append_inj' he rfl
        obtain ⟨rfl, h2⟩ := h1
        cases h2
        exact (nxt_some hn).2
      · have h1 : out ++ [i] = (m1 ++ q :: m3) ++ [q'] := by rw [he]; simp
        exact h m1 q m3 (List.append_inj' h1 rfl).1
theorem ord_done {bs : List Bk} {l1 l2 : List Nat} {j : Nat} (h : ordM bs = l1 ++ j :: l2) {a : Int} (ha : a ∈ preds bs j) : kindAt bs a.toNat = 2 ∨ a.toNat ∈ l1 := by
  have h1 := ord_split bs.length [] (fun m1 q m2 he => by simp at he) l1 j l2 h
  unfold rdy at h1
  rw [Bool.and_eq_true] at h1
  have h2 := List.all_eq_true.1 h1.2 a ha
  unfold doneB at h2
  simpa using h2
theorem ord_all {bs : List Bk} (h : ordErr bs = 0) {j : Nat} (hj : j < bs.length) (hk : kindAt bs j ≠ 2) : j ∈ ordM bs := Classical.byContradiction fun hn => by
  have hlen : (ordM bs).length = nonDel bs := by
    unfold ordErr at h
    exact Classical.byContradiction fun hx => by rw [if_neg hx] at h; cases h
  have ho := ordN_ok bs.length (OutOk.nil bs)
  have := OutOk.le (bs := bs) (out := j :: ordM bs) ⟨List.nodup_cons.2 ⟨hn, ho.nodup⟩, fun i hi => by
    rcases List.mem_cons.1 hi with rfl | hi
    · exact ⟨hj, hk⟩
    · exact ho.mem i hi⟩
  rw [List.length_cons] at this
  omega
end Go.Proofs.YtilbehepmkpdbaaGreatDoor
