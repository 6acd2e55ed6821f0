/- What the proofs of this claim share, part 16. No conditions. -/
import Derived.Test.YtmdfjbpggbhgnaaDoorKw14
import Derived.Test.YtmdfjbpggbhgnaaDoorKw15
import Derived.Test.YtmdfjbpggbhgnaaDoorKw9
set_option maxRecDepth 100000
set_option maxHeartbeats 4000000
set_option linter.unusedVariables false
set_option linter.unusedSimpArgs false
set_option linter.unusedSectionVars false
namespace Go.Proofs.YtmdfjbpggbhgnaaDoor
open Go.RowKit
def bitsN (n : Nat) : Nat := if n = 0 then 0 else n.log2 + 1
theorem bitsN_lt (n : Nat) : n < 2 ^ bitsN n := by
  unfold bitsN
  split
  · omega
  · rename_i h
    exact (Nat.log2_lt h).1 (Nat.lt_succ_self _)
theorem bitsN_le {n k : Nat} : bitsN n ≤ k ↔ n < 2 ^ k := by
  unfold bitsN
  split
  · rename_i h
    subst h
    exact ⟨fun _ => Nat.two_pow_pos k, fun _ => Nat.zero_le _⟩
  · rename_i h
    rw [← Nat.log2_lt h]
    omega
theorem bitsN_of {n k : Nat} (h1 : n < 2 ^ k) (h2 : k ≠ 0 → 2 ^ (k - 1) ≤ n) : bitsN n = k := by
  have a := bitsN_le.2 h1
  rcases Nat.lt_or_ge (bitsN n) k with h | h
  · have h3 := h2 (by omega)
    have h4 := (bitsN_le (n := n) (k := k - 1)).1 (by omega)
    omega
  · omega
theorem bitLen_is : ∀ (k x : Nat), x < 2 ^ k → k ≤ 64 → Lib.bitLen x = bitsN x
  | 0, x, h, _ => by
    have : x = 0 := by simpa using h
    subst this
    rfl
  | k + 1, x, h, hk => by
    by_cases h0 : x = 0
    · subst h0; rfl
    · have h64 : x < 2 ^ 64 := Nat.lt_of_lt_of_le h (Nat.pow_le_pow_right (by decide) hk)
      rw [Lib.bitLen_half x h0 h64, bitLen_is k (x / 2) (by rw [Nat.pow_succ] at h; omega) (by omega)]
      symm
      refine bitsN_of ?_ fun _ => ?_
      · have := bitsN_lt (x / 2)
        rw [Nat.pow_add, Nat.pow_one]
        omega
      · rw [Nat.add_sub_cancel_left]
        by_cases h2 : x / 2 = 0
        · rw [h2]; show 2 ^ 0 ≤ x; omega
        · have h5 : ¬ bitsN (x / 2) ≤ bitsN (x / 2) - 1 := by unfold bitsN; rw [if_neg h2]; omega
          rw [bitsN_le] at h5
          obtain ⟨m, hm⟩ : ∃ m, bitsN (x / 2) = m + 1 := ⟨bitsN (x / 2) - 1, by unfold bitsN; rw [if_neg h2]; omega⟩
          rw [hm] at h5 ⊢
          rw [Nat.add_sub_cancel] at h5
          rw [Nat.pow_succ]
          omega
theorem len32_cv (x : Nat) (hx : x < 4294967296) : CVF Tryd.prog TabAt 70 [.one (dW x)] [aI (bitsN x : Nat)] := fun w S vs hg hlt ha => by
  obtain ⟨u, hu, h1⟩ := one_arg ha
  subst hu
  cases h1
  refine (len32_any x w (by omega) (by omega)).mono fun r w' ⟨he, hw⟩ => ?_
  subst hw
  refine ⟨_, he, ?_, Below.refl _ _⟩
  rw [Int.toNat_natCast, bitLen_is 32 x (by simpa using hx) (by decide)]
  exact DRel.val rfl
theorem canon_last {n : Nat} (h : n ≠ 0) : ∃ p L, (canon n).length = L + 1 ∧ (canon n)[L]? = some p ∧ p ≠ 0 ∧ p < 4294967296 ∧ p = n / 4294967296 ^ L := by
  obtain ⟨L, hL⟩ : ∃ L, (canon n).length = L + 1 := ⟨(canon n).length - 1, by have := canon_ne h; omega⟩
  obtain ⟨p, hp⟩ : ∃ p, (canon n)[L]? = some p := ⟨_, List.getElem?_eq_getElem (by omega)⟩
  have h1 := canon_top h
  rw [hL, Nat.add_sub_cancel, hp] at h1
  have h2 := canon_ok n p (List.mem_of_getElem? hp)
  refine ⟨p, L, hL, hp, h1, h2, ?_⟩
  have h3 := wval_take_succ (canon n) L
  rw [show (canon n).take (L + 1) = canon n from List.take_of_length_le (by omega), wval_canon, hp] at h3
  have h4 := wval_lt (ws := (canon n).take L) (fun z hz => canon_ok n z (List.mem_of_mem_take hz))
  rw [List.length_take, Nat.min_eq_left (by omega)] at h4
  simp only [Option.getD_some] at h3
  rw [h3, Nat.add_mul_div_left _ _ (Nat.pos_of_ne_zero (by intro hz; rw [hz] at h4; omega)), Nat.div_eq_of_lt h4, Nat.zero_add]
theorem bits_canon {n p L : Nat} (hp : p = n / 4294967296 ^ L) (h0 : p ≠ 0) : bitsN n = 32 * L + bitsN p := by
  have e : (4294967296 : Nat) ^ L = 2 ^ (32 * L) := by rw [Nat.pow_mul]
  rw [e] at hp
  refine bitsN_of ?_ fun _ => ?_
  · have h1 := bitsN_lt p
    rw [Nat.pow_add]
    have h2 : n / 2 ^ (32 * L) < 2 ^ bitsN p := hp ▸ h1
    rw [Nat.div_lt_iff_lt_mul (Nat.two_pow_pos _)] at h2
    rw [Nat.mul_comm]
    exact h2
  · obtain ⟨m, hm⟩ : ∃ m, bitsN p = m + 1 := ⟨bitsN p - 1, by unfold bitsN; rw [if_neg h0]; omega⟩
    have h5 : ¬ bitsN p ≤ m := by omega
    rw [bitsN_le] at h5
    have h6 : ¬ n / 2 ^ (32 * L) < 2 ^ m := hp ▸ h5
    rw [Nat.div_lt_iff_lt_mul (Nat.two_pow_pos _)] at h6
    rw [hm, show 32 * L + (m + 1) - 1 = m + 32 * L by omega, Nat.pow_add]
    omega
theorem ok_maxR {P : Program} {G : World → Prop} {o : Oper} {F : Frm} {H : List Ob} {ts : Array TypeId} {x y : Operand} {k : IntKind} {p q r : Int} (ho : o.op = .call { callee := .builtin .max, args := #[x, y], argTypes := ts }) (hx : F.ev x = .one (.d (.val (.int k p)))) (hy : F.ev y = .one (.d (.val (.int k q)))) (hr : max p q = r) : OpOk P G o F H (.one (.d (.val (.int k r)))) [] := hr ▸ ok_max2 ho hx hy
theorem ok_eqlBR {P : Program} {G : World → Prop} {o : Oper} {F : Frm} {H : List Ob} {t t' : TypeId} {x y : Operand} {p q r : Bool} (ho : o.op = .binOp .eql t x y t') (ht : P.underlying t = some .bool) (hx : F.ev x = .one (.d (.val (.bool p)))) (hy : F.ev y = .one (.d (.val (.bool q)))) (hr : (p == q) = r) : OpOk P G o F H (.one (.d (.val (.bool r)))) [] := by
  subst hr
  refine ok_bin ho hx hy (fun w => ?_) rfl
  have h1 : (Op.equal t (.bool p) (.bool q)).run P w = .ok (p == q) w := by
    have key : ∀ d : Nat, (Op.equalIn (d + 1) t (.bool p) (.bool q)).run P w = .ok (p == q) w := fun d => by simp [Op.equalIn, run_underlying ht]
    exact key 9999
  simp [eqGuard, binOp, h1]
theorem sg_not (x : Int) : sg (!decide (x < 0)) x.natAbs = -x := by
  unfold sg
  by_cases h : x < 0
  · simp only [h, decide_true, Bool.not_true, Bool.false_eq_true, if_false]; omega
  · simp only [h, decide_false, Bool.not_false, if_true]; omega
theorem sg_self (x : Int) : sg (decide (x < 0)) x.natAbs = x := by
  unfold sg
  by_cases h : x < 0
  · simp only [h, decide_true, if_true]; omega
  · simp only [h, decide_false, Bool.false_eq_true, if_false]; omega
theorem sg_pow (x : Int) (k : Nat) : sg (decide (x < 0)) (x.natAbs * 2 ^ k) = x * 2 ^ k := by
  have h1 := sg_self x
  unfold sg at *
  by_cases h : x < 0
  · simp only [h, decide_true, if_true] at *
    conv => rhs; rw [← h1]
    rw [Int.natCast_mul, Int.neg_mul, Int.natCast_pow]
    rfl
  · simp only [h, decide_false, Bool.false_eq_true, if_false] at *
    conv => rhs; rw [← h1]
    rw [Int.natCast_mul, Int.natCast_pow]
    rfl
theorem dy_signs (x : Int) (dx : Nat) (y : Int) (dy : Nat) :
    (decide (x < 0) = decide (y < 0) → dySum x dx y dy = nf (sg (decide (x < 0)) (x.natAbs * 2 ^ (max dx dy - dx) + y.natAbs * 2 ^ (max dx dy - dy))) (max dx dy)) ∧
    (¬ decide (x < 0) = decide (y < 0) → y.natAbs * 2 ^ (max dx dy - dy) ≤ x.natAbs * 2 ^ (max dx dy - dx) → dySum x dx y dy = nf (sg (decide (x < 0)) (x.natAbs * 2 ^ (max dx dy - dx) - y.natAbs * 2 ^ (max dx dy - dy))) (max dx dy)) ∧
    (¬ decide (x < 0) = decide (y < 0) → ¬ y.natAbs * 2 ^ (max dx dy - dy) ≤ x.natAbs * 2 ^ (max dx dy - dx) → dySum x dx y dy = nf (sg (decide (y < 0)) (y.natAbs * 2 ^ (max dx dy - dy) - x.natAbs * 2 ^ (max dx dy - dx))) (max dx dy)) := by
  have h1 := sg_pow x (max dx dy - dx)
  have h2 := sg_pow y (max dx dy - dy)
  unfold dySum
  rw [← h1, ← h2]
  generalize x.natAbs * 2 ^ (max dx dy - dx) = p
  generalize y.natAbs * 2 ^ (max dx dy - dy) = q
  refine ⟨fun h => ?_, fun h hle => ?_, fun h hle => ?_⟩
  · rw [← h]
    congr 1
    unfold sg
    split <;> omega
  · congr 1
    unfold sg
    cases hx : decide (x < 0) <;> cases hy : decide (y < 0) <;> simp only [hx, hy] at h ⊢ <;> simp at h ⊢ <;> omega
  · congr 1
    unfold sg
    cases hx : decide (x < 0) <;> cases hy : decide (y < 0) <;> simp only [hx, hy] at h ⊢ <;> simp at h ⊢ <;> omega
theorem shift_none {x : Int} {d : Nat} (h : Nf x d) : dyShift x d 0 = (x, d) := by
  unfold dyShift
  rw [if_neg (by decide)]
  show nf (x * 2 ^ 0) d = _
  rw [Int.pow_zero, Int.mul_one]
  exact nf_done h.2
theorem pdof_cv (n : Int) (h1 : -9223372036854775808 ≤ n) (h2 : n < 9223372036854775808) : CV Tryd.prog TabAt 15 [aI n] [aDy false n 0] := CVF.cv fun w S vs hg hlt ha => by
  obtain ⟨u, hu, h3⟩ := one_arg ha
  subst hu
  cases h3
  exact (pof_any n h1 h2 w hg).mono fun r w' ⟨v, he, hd, hb⟩ => ⟨v, he, dy_out hd, hb⟩
theorem pdshift_cv (x : Int) (d : Nat) (n : Int) (hn : Nf x d) (hl : (canon x.natAbs).length ≤ 50000) (hd : (d : Int) - max (-65536) (min n 65536) ≤ 65536) : CV Tryd.prog TabAt 30 [aDy false x d, aI n] [aDy false (dyShift x d n).1 (dyShift x d n).2] := CVF.cv fun w S vs hg hlt ha => by
  obtain ⟨v, vs', rfl, h1, ha⟩ := ha.uncons
  obtain ⟨u, hu, h2⟩ := one_arg ha
  subst hu
  cases h2
  exact (pshift_any (dy_in h1 hlt hn) (Nat.le_refl _) hl hd hg).mono fun r w' ⟨v, he, hd, hb⟩ => ⟨v, he, dy_out hd, hb⟩
theorem dyCmp_p (x : Int) (dx : Nat) (y : Int) (dy : Nat) : dyCmp x dx y dy = pCmp x dx y dy := by
  unfold dyCmp pCmp dySum
  rw [sgI_eq (nf_eq _ _), Int.neg_mul]
  rfl
theorem pdcmp_cv (x : Int) (dx : Nat) (y : Int) (dy : Nat) (hnx : Nf x dx) (hny : Nf y dy) (lx : (canon x.natAbs).length ≤ 40000) (ly : (canon y.natAbs).length ≤ 40000) : CV Tryd.prog TabAt 14 [aDy false x dx, aDy false y dy] [aI (dyCmp x dx y dy)] := CVF.cv fun w S vs hg hlt ha => by
  obtain ⟨v, vs', rfl, h1, ha⟩ := ha.uncons
  obtain ⟨u, hu, h2⟩ := one_arg ha
  subst hu
  exact (pcmp_any (dy_in h1 hlt hnx) (dy_in h2 hlt hny) (Nat.le_refl _) (Nat.le_trans lx (by decide)) (Nat.le_trans ly (by decide))).mono fun r w' ⟨he, hb⟩ => ⟨_, he.trans (by rw [dyCmp_p]), DRel.val rfl, hb⟩
theorem align_cv (x : Int) (dx : Nat) (y : Int) (dy : Nat) (hnx : Nf x dx) (hny : Nf y dy) (lx : (canon x.natAbs).length ≤ 40000) (ly : (canon y.natAbs).length ≤ 40000) : CV Tryd.prog TabAt 34 [aDy false x dx, aDy false y dy] [aB (decide (x < 0)), .one (rowC false (x.natAbs * 2 ^ ((max dx dy) - dx))), aB (decide (y < 0)), .one (rowC false (y.natAbs * 2 ^ ((max dx dy) - dy))), aI ((max dx dy) : Nat)] := by
  refine cvz Tryd.func34 Tryd.ntmps34 ?_
  have PX := parts_cv (G := TabAt) x dx hnx (Nat.le_trans lx (by decide))
  have PY := parts_cv (G := TabAt) y dy hny (Nat.le_trans ly (by decide))
  have hdx := hnx.1
  have hdy := hny.1
  have hm : (max (dx : Int) (dy : Int)) = (((max dx dy) : Nat) : Int) := by omega
  have LX := nleft_cv x.natAbs ((max dx dy) - dx) (Nat.le_trans lx (by decide)) (by omega)
  have LY := nleft_cv y.natAbs ((max dx dy) - dy) (Nat.le_trans ly (by decide)) (by omega)
  have e1 : (((max dx dy) - dx : Nat) : Int) = (((max dx dy) : Nat) : Int) - (dx : Int) := by omega
  have e2 : (((max dx dy) - dy : Nat) : Int) = (((max dx dy) : Nat) : Int) - (dy : Int) := by omega
  rw [e1] at LX
  rw [e2] at LY
  repeat' (with_reducible first | apply qa | apply qb | apply qc | apply qd | apply qe | apply qf | apply qg | apply qh | apply qi | apply qj | apply qk | apply ql rfl | apply qm rfl | apply qn rfl | apply Je | (refine Tx 0 ?_; refine Jn xBo ?_; refine Jn xBo ?_; refine Ja ?_; refine Ja ?_; refine Ja ?_; refine Ja ?_; refine Ja ?_) | (refine Tx 1 ?_; refine Jo (xLa tk_Dyadic) ?_; refine Jo (by first | exact xCl Tryd.func46 (PX) | exact xCl Tryd.func46 (PY)) ?_; refine Jo xMt ?_; refine Jo xEx ?_; refine Jo xEx ?_; refine Jo xEx ?_; refine Ja ?_; refine Ja ?_; refine Ja ?_) | (refine Tx 2 ?_; refine Jo (xLa tk_Dyadic) ?_; refine Jo (by first | exact xCl Tryd.func46 (PX) | exact xCl Tryd.func46 (PY)) ?_; refine Jo xMt ?_; refine Jo xEx ?_; refine Jo xEx ?_; refine Jo xEx ?_; refine Ja ?_; refine Ja ?_; refine Ja ?_) | (refine Tx 3 ?_; refine Jm ?_; refine Jm ?_; refine Jo (by first | exact ok_maxR rfl rfl rfl hm | exact ok_max2 rfl rfl rfl) ?_; refine Ja ?_) | (refine Tx 4 ?_; refine Jm ?_; refine Jm ?_; refine Jm ?_; refine Jm ?_; refine Jo xSb ?_; refine Jo (by first | exact xCl Tryd.func47 (LX) | exact xCl Tryd.func47 (LY)) ?_; refine Jm ?_; refine Jm ?_; refine Jm ?_; refine Jm ?_; refine Jo xSb ?_; refine Jo (by first | exact xCl Tryd.func47 (LX) | exact xCl Tryd.func47 (LY)) ?_; refine Jm ?_; refine Ja ?_; refine Ja ?_; refine Ja ?_; refine Ja ?_; refine Ja ?_))
  exact ret_q rfl (.cons_ (rv_b rfl rfl) (.cons_ (.tmp (.one (cexp_d rfl fun _ => free_C _))) (.cons_ (rv_b rfl rfl) (.cons_ (.tmp (.one (cexp_d rfl fun _ => free_C _))) (.cons_ (rv_i rfl rfl) .nil_)))))
theorem pdadd_cv (x : Int) (dx : Nat) (y : Int) (dy : Nat) (hnx : Nf x dx) (hny : Nf y dy) (lx : (canon x.natAbs).length ≤ 40000) (ly : (canon y.natAbs).length ≤ 40000) : CV Tryd.prog TabAt 50 [aDy false x dx, aDy false y dy] [aDy false (dySum x dx y dy).1 (dySum x dx y dy).2] := by
  refine cvz Tryd.func50 Tryd.ntmps50 ?_
  have AL := align_cv x dx y dy hnx hny lx ly
  have hdx := hnx.1
  have hdy := hny.1
  have hX : (canon (x.natAbs * 2 ^ ((max dx dy) - dx))).length ≤ 50000 := Nat.le_trans (canon_len_shift x.natAbs ((max dx dy) - dx)) (by omega)
  have hY : (canon (y.natAbs * 2 ^ ((max dx dy) - dy))).length ≤ 50000 := Nat.le_trans (canon_len_shift y.natAbs ((max dx dy) - dy)) (by omega)
  have CP := pcompare_cv (G := TabAt) false false (x.natAbs * 2 ^ ((max dx dy) - dx)) (y.natAbs * 2 ^ ((max dx dy) - dy)) (by omega) (by omega)
  have SU := dy_signs x dx y dy
  generalize (x.natAbs * 2 ^ ((max dx dy) - dx)) = p at *
  generalize (y.natAbs * 2 ^ ((max dx dy) - dy)) = q at *
  obtain ⟨S1, S2, S3⟩ := SU
  have hpq := canon_len_add p q
  by_cases hs : decide (x < 0) = decide (y < 0)
  case pos =>
    have NA := nadd_cv p q (by omega) (by omega)
    have RS := presult_cv false (decide (x < 0)) (p + q) (max dx dy) (by omega) (by omega)
    rw [← S1 hs] at RS
    have hsb := beq_iff_eq.2 hs
    repeat' (with_reducible first | apply qa | apply qb | apply qc | apply qd | apply qe | apply qf | apply qg | apply qh | apply qi | apply qj | apply qk | apply ql rfl | apply qm rfl | apply qn rfl | apply Je | (refine Tx 0 ?_; refine Jn xBo ?_; refine Jn xBo ?_; refine Jn (xAl tz_Dyadic) ?_) | (refine Tx 1 ?_; refine Jo (xLa tk_Dyadic) ?_; refine Jo (xLa tk_Dyadic) ?_; refine Jo (xCl Tryd.func34 (AL)) ?_; refine Jo xMt ?_; refine Jo xEx ?_; refine Jo xEx ?_; refine Jo xEx ?_; refine Jo xEx ?_; refine Jo xEx ?_; refine Ja ?_; refine Ja ?_; refine Ja ?_; refine Ja ?_; refine Ja ?_) | (refine Tx 2 ?_; refine Jm ?_; refine Jm ?_; refine Jo (xCl Tryd.func35 (CP.cv)) ?_; refine Ja ?_) | (refine Tx 3 ?_; refine Jm ?_; refine Jm ?_; refine Jo (by first | exact ok_eqlBR rfl Tryd.underlying4 rfl rfl hsb | exact xEq) ?_; refine Ja ?_) | (refine Tx 4 ?_; refine Jm ?_; refine Jm ?_; refine Jm ?_; refine Jo (xCl Tryd.func60 (NA)) ?_; refine Jm ?_; refine Jo (xCl Tryd.func36 (RS.cv)) ?_; refine Js (xSk tk_Dyadic) ?_))
    exact ret_q rfl (.cons_ (rvW tk_Dyadic rfl) .nil_)
  have hsb : (decide (x < 0) == decide (y < 0)) = false := beq_eq_false_iff_ne.2 hs
  by_cases hc : q ≤ p
  case pos =>
    have NS := nsub_cv p q hc (by omega)
    have RS := presult_cv false (decide (x < 0)) (p - q) (max dx dy) (Nat.le_trans (canon_len_mono (Nat.sub_le p q)) (by omega)) (by omega)
    rw [← S2 hs hc] at RS
    have hge : 0 ≤ sgI ((p : Int) - (q : Int)) := by rw [sgI_three]; (repeat' split) <;> omega
    repeat' (with_reducible first | apply qa | apply qb | apply qc | apply qd | apply qe | apply qf | apply qg | apply qh | apply qi | apply qj | apply qk | apply ql rfl | apply qm rfl | apply qn rfl | apply Je | (refine Tx 0 ?_; refine Jn xBo ?_; refine Jn xBo ?_; refine Jn (xAl tz_Dyadic) ?_) | (refine Tx 1 ?_; refine Jo (xLa tk_Dyadic) ?_; refine Jo (xLa tk_Dyadic) ?_; refine Jo (xCl Tryd.func34 (AL)) ?_; refine Jo xMt ?_; refine Jo xEx ?_; refine Jo xEx ?_; refine Jo xEx ?_; refine Jo xEx ?_; refine Jo xEx ?_; refine Ja ?_; refine Ja ?_; refine Ja ?_; refine Ja ?_; refine Ja ?_) | (refine Tx 2 ?_; refine Jm ?_; refine Jm ?_; refine Jo (xCl Tryd.func35 (CP.cv)) ?_; refine Ja ?_) | (refine Tx 3 ?_; refine Jm ?_; refine Jm ?_; refine Jo (by first | exact ok_eqlBR rfl Tryd.underlying4 rfl rfl hsb | exact xEq) ?_; refine Ja ?_) | (refine Tx 5 ?_; refine Jm ?_; refine Jo xGe ?_; refine Ja ?_) | (refine Tx 6 ?_; refine Jm ?_; refine Jm ?_; refine Jm ?_; refine Jo (xCl Tryd.func65 (NS)) ?_; refine Jm ?_; refine Jo (xCl Tryd.func36 (RS.cv)) ?_; refine Js (xSk tk_Dyadic) ?_))
    exact ret_q rfl (.cons_ (rvW tk_Dyadic rfl) .nil_)
  have NS := nsub_cv q p (by omega) (by omega)
  have RS := presult_cv false (decide (y < 0)) (q - p) (max dx dy) (Nat.le_trans (canon_len_mono (Nat.sub_le q p)) (by omega)) (by omega)
  rw [← S3 hs hc] at RS
  have hge : ¬ 0 ≤ sgI ((p : Int) - (q : Int)) := by rw [sgI_three]; (repeat' split) <;> omega
  repeat' (with_reducible first | apply qa | apply qb | apply qc | apply qd | apply qe | apply qf | apply qg | apply qh | apply qi | apply qj | apply qk | apply ql rfl | apply qm rfl | apply qn rfl | apply Je | (refine Tx 0 ?_; refine Jn xBo ?_; refine Jn xBo ?_; refine Jn (xAl tz_Dyadic) ?_) | (refine Tx 1 ?_; refine Jo (xLa tk_Dyadic) ?_; refine Jo (xLa tk_Dyadic) ?_; refine Jo (xCl Tryd.func34 (AL)) ?_; refine Jo xMt ?_; refine Jo xEx ?_; refine Jo xEx ?_; refine Jo xEx ?_; refine Jo xEx ?_; refine Jo xEx ?_; refine Ja ?_; refine Ja ?_; refine Ja ?_; refine Ja ?_; refine Ja ?_) | (refine Tx 2 ?_; refine Jm ?_; refine Jm ?_; refine Jo (xCl Tryd.func35 (CP.cv)) ?_; refine Ja ?_) | (refine Tx 3 ?_; refine Jm ?_; refine Jm ?_; refine Jo (by first | exact ok_eqlBR rfl Tryd.underlying4 rfl rfl hsb | exact xEq) ?_; refine Ja ?_) | (refine Tx 5 ?_; refine Jm ?_; refine Jo xGe ?_; refine Ja ?_) | (refine Tx 7 ?_; refine Jm ?_; refine Jm ?_; refine Jm ?_; refine Jo (xCl Tryd.func65 (NS)) ?_; refine Jm ?_; refine Jo (xCl Tryd.func36 (RS.cv)) ?_; refine Js (xSk tk_Dyadic) ?_))
  exact ret_q rfl (.cons_ (rvW tk_Dyadic rfl) .nil_)
theorem pdneg_cv (x : Int) (dx : Nat) (hnx : Nf x dx) (lx : (canon x.natAbs).length ≤ 40000) : CV Tryd.prog TabAt 53 [aDy false x dx] [aDy false (-x) dx] := by
  refine cvz Tryd.func53 Tryd.ntmps53 ?_
  have PX := parts_cv (G := TabAt) x dx hnx (Nat.le_trans lx (by decide))
  have hdx := hnx.1
  have RS := presult_cv false (!decide (x < 0)) x.natAbs dx (Nat.le_trans lx (by decide)) hdx
  rw [show nf (sg (!decide (x < 0)) x.natAbs) dx = (-x, dx) by rw [sg_not]; exact nf_done fun h => by have := hnx.2 h; omega] at RS
  repeat' (with_reducible first | apply qa | apply qb | apply qc | apply qd | apply qe | apply qf | apply qg | apply qh | apply qi | apply qj | apply qk | apply ql rfl | apply qm rfl | apply qn rfl | apply Je | (refine Tx 0 ?_; refine Jn xBo ?_; refine Jn (xAl tz_Dyadic) ?_) | (refine Tx 1 ?_; refine Jo (xLa tk_Dyadic) ?_; refine Jo (xCl Tryd.func46 (PX)) ?_; refine Jo xMt ?_; refine Jo xEx ?_; refine Jo xEx ?_; refine Jo xEx ?_; refine Ja ?_; refine Ja ?_; refine Ja ?_) | (refine Tx 2 ?_; refine Jm ?_; refine Jo (by first | exact xNt | exact xNg) ?_; refine Jm ?_; refine Jm ?_; refine Jo (xCl Tryd.func36 (RS.cv)) ?_; refine Js (xSk tk_Dyadic) ?_))
  exact ret_q rfl (.cons_ (rvW tk_Dyadic rfl) .nil_)
theorem pdabs_cv (x : Int) (dx : Nat) (hnx : Nf x dx) (lx : (canon x.natAbs).length ≤ 40000) : CV Tryd.prog TabAt 54 [aDy false x dx] [aDy false ((x.natAbs : Nat) : Int) dx] := by
  refine cvz Tryd.func54 Tryd.ntmps54 ?_
  have PX := parts_cv (G := TabAt) x dx hnx (Nat.le_trans lx (by decide))
  have hdx := hnx.1
  have RS := presult_cv false false x.natAbs dx (Nat.le_trans lx (by decide)) hdx
  rw [show nf (sg false x.natAbs) dx = (((x.natAbs : Nat) : Int), dx) from nf_done fun h => by have := hnx.2 h; show ((x.natAbs : Nat) : Int) % 2 = 1; omega] at RS
  repeat' (with_reducible first | apply qa | apply qb | apply qc | apply qd | apply qe | apply qf | apply qg | apply qh | apply qi | apply qj | apply qk | apply ql rfl | apply qm rfl | apply qn rfl | apply Je | (refine Tx 0 ?_; refine Jn xBo ?_; refine Jn (xAl tz_Dyadic) ?_) | (refine Tx 1 ?_; refine Jo (xLa tk_Dyadic) ?_; refine Jo (xCl Tryd.func46 (PX)) ?_; refine Jo xMt ?_; refine Jo xEx ?_; refine Jo xEx ?_; refine Jo xEx ?_; refine Ja ?_; refine Ja ?_; refine Ja ?_) | (refine Tx 2 ?_; refine Jm ?_; refine Jm ?_; refine Jo (xCl Tryd.func36 (RS.cv)) ?_; refine Js (xSk tk_Dyadic) ?_))
  exact ret_q rfl (.cons_ (rvW tk_Dyadic rfl) .nil_)
theorem pdsub_cv (x : Int) (dx : Nat) (y : Int) (dy : Nat) (hnx : Nf x dx) (hny : Nf y dy) (lx : (canon x.natAbs).length ≤ 40000) (ly : (canon y.natAbs).length ≤ 40000) : CV Tryd.prog TabAt 51 [aDy false x dx, aDy false y dy] [aDy false (dySum x dx (-y) dy).1 (dySum x dx (-y) dy).2] := by
  refine cvz Tryd.func51 Tryd.ntmps51 ?_
  have NG := pdneg_cv y dy hny ly
  have AD := pdadd_cv x dx (-y) dy hnx ⟨hny.1, fun h => by have := hny.2 h; omega⟩ lx (by rw [Int.natAbs_neg]; exact ly)
  repeat' (with_reducible first | apply qa | apply qb | apply qc | apply qd | apply qe | apply qf | apply qg | apply qh | apply qi | apply qj | apply qk | apply ql rfl | apply qm rfl | apply qn rfl | apply Je | (refine Tx 0 ?_; refine Jn xBo ?_; refine Jn xBo ?_; refine Jn (xAl tz_Dyadic) ?_) | (refine cw_part (id := 1) 4 mixed (by kernel_rfl) ?_; dsimp only [List.take, List.drop]; refine Ko (xLa tk_Dyadic) ?_; refine Ko (xLa tk_Dyadic) ?_; refine Ko (xCl Tryd.func53 (NG)) ?_; refine Ko (xCl Tryd.func50 (AD)) ?_; refine Ke ?_; refine Js (xSk tk_Dyadic) ?_))
  exact ret_q rfl (.cons_ (rvW tk_Dyadic rfl) .nil_)
theorem pdmin_cv (x : Int) (dx : Nat) (y : Int) (dy : Nat) (hnx : Nf x dx) (hny : Nf y dy) (lx : (canon x.natAbs).length ≤ 40000) (ly : (canon y.natAbs).length ≤ 40000) : CV Tryd.prog TabAt 55 [aDy false x dx, aDy false y dy] [aDy false (dyMin x dx y dy).1 (dyMin x dx y dy).2] := by
  refine cvz Tryd.func55 Tryd.ntmps55 ?_
  have CM := pdcmp_cv x dx y dy hnx hny lx ly
  have SX := pdshift_cv x dx 0 hnx (Nat.le_trans lx (by decide)) (by have := hnx.1; omega)
  have SY := pdshift_cv y dy 0 hny (Nat.le_trans ly (by decide)) (by have := hny.1; omega)
  rw [shift_none hnx] at SX
  rw [shift_none hny] at SY
  by_cases h : dyCmp x dx y dy ≤ 0
  case pos =>
    rw [show dyMin x dx y dy = (x, dx) from if_neg (by omega)]
    repeat' (with_reducible first | apply qa | apply qb | apply qc | apply qd | apply qe | apply qf | apply qg | apply qh | apply qi | apply qj | apply qk | apply ql rfl | apply qm rfl | apply qn rfl | apply Je | (refine Tx 0 ?_; refine Jn xBo ?_; refine Jn xBo ?_; refine Jn (xAl tz_Dyadic) ?_) | (refine Tx 1 ?_; refine Jo (xLa tk_Dyadic) ?_; refine Jo (xLa tk_Dyadic) ?_; refine Jo (xCl Tryd.func14 (CM)) ?_; refine Jo xLe ?_) | (refine Tx 2 ?_; refine Jo (xLa tk_Dyadic) ?_; refine Jo (xCl Tryd.func30 (SX)) ?_; refine Js (xSk tk_Dyadic) ?_))
    exact ret_q rfl (.cons_ (rvW tk_Dyadic rfl) .nil_)
  case neg =>
    rw [show dyMin x dx y dy = (y, dy) from if_pos (by omega)]
    repeat' (with_reducible first | apply qa | apply qb | apply qc | apply qd | apply qe | apply qf | apply qg | apply qh | apply qi | apply qj | apply qk | apply ql rfl | apply qm rfl | apply qn rfl | apply Je | (refine Tx 0 ?_; refine Jn xBo ?_; refine Jn xBo ?_; refine Jn (xAl tz_Dyadic) ?_) | (refine Tx 1 ?_; refine Jo (xLa tk_Dyadic) ?_; refine Jo (xLa tk_Dyadic) ?_; refine Jo (xCl Tryd.func14 (CM)) ?_; refine Jo xLe ?_) | (refine Tx 3 ?_; refine Jo (xLa tk_Dyadic) ?_; refine Jo (xCl Tryd.func30 (SY)) ?_; refine Js (xSk tk_Dyadic) ?_))
    exact ret_q rfl (.cons_ (rvW tk_Dyadic rfl) .nil_)
theorem pdmax_cv (x : Int) (dx : Nat) (y : Int) (dy : Nat) (hnx : Nf x dx) (hny : Nf y dy) (lx : (canon x.natAbs).length ≤ 40000) (ly : (canon y.natAbs).length ≤ 40000) : CV Tryd.prog TabAt 56 [aDy false x dx, aDy false y dy] [aDy false (dyMax x dx y dy).1 (dyMax x dx y dy).2] := by
  refine cvz Tryd.func56 Tryd.ntmps56 ?_
  have CM := pdcmp_cv x dx y dy hnx hny lx ly
  have SX := pdshift_cv x dx 0 hnx (Nat.le_trans lx (by decide)) (by have := hnx.1; omega)
  have SY := pdshift_cv y dy 0 hny (Nat.le_trans ly (by decide)) (by have := hny.1; omega)
  rw [shift_none hnx] at SX
  rw [shift_none hny] at SY
  by_cases h : 0 ≤ dyCmp x dx y dy
  case pos =>
    rw [show dyMax x dx y dy = (x, dx) from if_neg (by omega)]
    repeat' (with_reducible first | apply qa | apply qb | apply qc | apply qd | apply qe | apply qf | apply qg | apply qh | apply qi | apply qj | apply qk | apply ql rfl | apply qm rfl | apply qn rfl | apply Je | (refine Tx 0 ?_; refine Jn xBo ?_; refine Jn xBo ?_; refine Jn (xAl tz_Dyadic) ?_) | (refine Tx 1 ?_; refine Jo (xLa tk_Dyadic) ?_; refine Jo (xLa tk_Dyadic) ?_; refine Jo (xCl Tryd.func14 (CM)) ?_; refine Jo xGe ?_) | (refine Tx 2 ?_; refine Jo (xLa tk_Dyadic) ?_; refine Jo (xCl Tryd.func30 (SX)) ?_; refine Js (xSk tk_Dyadic) ?_))
    exact ret_q rfl (.cons_ (rvW tk_Dyadic rfl) .nil_)
  case neg =>
    rw [show dyMax x dx y dy = (y, dy) from if_pos (by omega)]
    repeat' (with_reducible first | apply qa | apply qb | apply qc | apply qd | apply qe | apply qf | apply qg | apply qh | apply qi | apply qj | apply qk | apply ql rfl | apply qm rfl | apply qn rfl | apply Je | (refine Tx 0 ?_; refine Jn xBo ?_; refine Jn xBo ?_; refine Jn (xAl tz_Dyadic) ?_) | (refine Tx 1 ?_; refine Jo (xLa tk_Dyadic) ?_; refine Jo (xLa tk_Dyadic) ?_; refine Jo (xCl Tryd.func14 (CM)) ?_; refine Jo xGe ?_) | (refine Tx 3 ?_; refine Jo (xLa tk_Dyadic) ?_; refine Jo (xCl Tryd.func30 (SY)) ?_; refine Js (xSk tk_Dyadic) ?_))
    exact ret_q rfl (.cons_ (rvW tk_Dyadic rfl) .nil_)
structure Rv where
  nb : Bool
  ws : List Nat
  den : Int
def Rv.rw (r : Rv) : Rw := ⟨r.nb, none, r.ws, 0, r.den⟩
def dRv (t : Bool) (r : Rv) : List D := [.val (.bool r.nb), .row t 1 r.ws.length (r.ws.map dW), .val (.int .i64 r.den)]
def aRv (t : Bool) (r : Rv) : A := .agg (dRv t r)
theorem rv_in {w : World} {S : Sets} {t : Bool} {r : Rv} {v : Value} (h : ARel w S (aRv t r) v) (hS : ∀ t b, S t b → b < w.heap.size) (hw : wordsOk r.ws) : ∃ A c, v = (⟨r.nb, A, r.ws, c, r.den⟩ : Rw).val ∧ RwAt w w.heap.size ⟨r.nb, A, r.ws, c, r.den⟩ := by
  obtain ⟨xs, rfl, h1⟩ := h
  obtain ⟨a, l1, rfl, ha, h2⟩ := h1.uncons
  obtain ⟨b, l2, rfl, hb, h3⟩ := h2.uncons
  obtain ⟨c, l3, rfl, hc, h4⟩ := h3.uncons
  rw [h4.unnil]
  cases ha
  cases hc
  obtain ⟨A, c, rfl, q1, q2, q3, _⟩ := words_in hb hS rfl
  exact ⟨A, c, rfl, q1, q2, q3, hw⟩
section
variable {G : World → Prop}
theorem pvalid_cv (t : Bool) (r : Rv) (hw : wordsOk r.ws) (hl : r.ws.length ≤ 1000000) : CVF Tryd.prog G 28 [aRv t r] [aB (vdB r.rw)] := fun w S vs hg hlt ha => by
  obtain ⟨u, hu, h1⟩ := one_arg ha
  subst hu
  obtain ⟨A, c, rfl, hat⟩ := rv_in h1 hlt hw
  exact (pvalid_raw _ _ w (Nat.le_refl _) hat hl).mono fun r w' ⟨he, hb⟩ => ⟨_, he, DRel.val rfl, hb⟩
end
theorem rv_dy {t : Bool} {r : Rv} (hw : wordsOk r.ws) (hv : vdB r.rw = true) : dRv t r = dDy t r.rw.x r.rw.d ∧ Nf r.rw.x r.rw.d ∧ (canon r.rw.x.natAbs).length = r.ws.length := by
  have hc : canon r.rw.x.natAbs = r.ws := by rw [x_abs]; exact vd_canon (r := r.rw) hw hv
  have hP : vdP r.rw := of_decide_eq_true hv
  have key : r.nb = decide (r.rw.x < 0) ∧ r.den = ((r.rw.d : Nat) : Int) ∧ Nf r.rw.x r.rw.d := by
    by_cases h0 : r.ws.length = 0
    · obtain ⟨h1, h2⟩ := (vdP_0 (r := r.rw) h0).1 hP
      have hx : r.rw.x = 0 := by
        have := x_abs r.rw
        rw [show r.rw.ws = [] from List.eq_nil_of_length_eq_zero h0] at this
        have hz : wval [] = 0 := rfl
        omega
      have h1' : r.nb = false := h1
      have h2' : r.den = 0 := h2
      have hd : r.rw.d = 0 := by show r.den.toNat = 0; rw [h2']; rfl
      rw [hx, hd, h1', h2']
      exact ⟨rfl, rfl, by decide, fun h => absurd rfl h⟩
    · obtain ⟨h1, h2, h3, h4⟩ := (vdP_n (r := r.rw) h0).1 hP
      have h2' : 0 ≤ r.den := h2
      have h3' : r.den ≤ 65536 := h3
      have hd : ((r.rw.d : Nat) : Int) = r.den := Int.toNat_of_nonneg h2'
      have hpos : wval r.ws ≠ 0 := fun hz => by
        rw [x_abs, show r.rw.ws = r.ws from rfl, hz, canon_zero] at hc
        rw [← hc] at h0
        exact h0 rfl
      have hodd : r.rw.d ≠ 0 → wval r.ws % 2 = 1 := fun hne => by
        rcases h4 with h | h
        · have h' : r.den = 0 := h
          omega
        · have h' : r.ws[0]?.getD 0 % 2 = 1 := h
          have := wval_bit hw 0
          simp only [Nat.pow_zero, Nat.div_one, Nat.zero_div, Nat.zero_mod] at this
          omega
      have hx : r.rw.x = sg r.nb (wval r.ws) := rfl
      refine ⟨?_, hd.symm, by omega, fun hne => ?_⟩
      · rw [hx]
        unfold sg
        cases r.nb
        · simp
        · simp; omega
      · have := hodd hne
        rw [hx]
        unfold sg
        split <;> omega
  obtain ⟨k1, k2, k3⟩ := key
  refine ⟨?_, k3, by rw [hc]⟩
  unfold dRv dDy wds
  rw [hc, ← k1, ← k2, w32_D]
theorem bel_D {n : Nat} {ds : List D} : ∀ c ∈ ds.map C.d, C.bel n c := fun c hc => by
  obtain ⟨d, _, rfl⟩ := List.mem_map.1 hc
  trivial
def longB (a d : Nat) : Bool := decide (4096 < max (bitsN a) d)
theorem nbits_cv (a : Nat) (l1 : (canon a).length ≤ 200000) : CV Tryd.prog TabAt 64 [.one (rowC false a)] [aI (bitsN a : Nat)] := by
  refine cvz Tryd.func64 Tryd.ntmps64 ?_
  by_cases h0 : a = 0
  case pos =>
    subst h0
    have l0 : ((canon 0).length : Int) = 0 := by rw [canon_zero]; rfl
    rw [show bitsN 0 = 0 from rfl]
    repeat' (with_reducible first | apply qa | apply qb | apply qc | apply qd | apply qe | apply qf | apply qg | apply qh | apply qi | apply qj | apply qk | apply ql rfl | apply qm rfl | apply qn rfl | apply Je | (refine Tx 0 ?_; refine Ja ?_) | (refine Tx 1 ?_; refine Jm ?_; refine Jo (xLn ts_dyadic_nat) ?_; refine Jo xEq ?_) | (refine Tx 2 ?_; refine Ja ?_))
    exact ret_q rfl (.cons_ (rv_i rfl rfl) .nil_)
  obtain ⟨p, L, hL, hp, p0, hp1, hpd⟩ := canon_last h0
  have hi : ((canon a).length : Int) = (L : Int) + 1 := by omega
  have LN := len32_cv p hp1
  have hx2 := wdN_at hp
  have hb := bits_canon hpd p0
  have e1 : ((canon a).length : Int) - 1 = (L : Int) := by omega
  rw [hb]
  have hq : bitsN p ≤ 32 := bitsN_le.2 (by simpa using hp1)
  repeat' (with_reducible first | apply qa | apply qb | apply qc | apply qd | apply qe | apply qf | apply qg | apply qh | apply qi | apply qj | apply qk | apply ql rfl | apply qm rfl | apply qn rfl | apply Je | (refine Tx 0 ?_; refine Ja ?_) | (refine Tx 1 ?_; refine Jm ?_; refine Jo (xLn ts_dyadic_nat) ?_; refine Jo xEq ?_) | (refine Tx 3 ?_; refine Jm ?_; refine Jo (xLn ts_dyadic_nat) ?_; refine Jo xSb ?_; refine Jo (by exact ok_mul64 rfl rfl rfl (by omega)) ?_; refine Jm ?_; refine Jm ?_; refine Jo (xLn ts_dyadic_nat) ?_; refine Jo xSb ?_; refine Jo (by exact ok_ixR (i := L) rfl rfl rfl (by omega) ts_dyadic_nat (by omega) (by decide) (hx2)) ?_; refine Jo (xLd tk_uint32) ?_; refine Jo (xCl Tryd.func70 (LN.cv)) ?_; refine Jo xAd ?_; refine Ja ?_))
  exact ret_q rfl (.cons_ (.tmp (.one (by rw [show 32 * (((canon a).length : Int) - 1) + ((bitsN p : Nat) : Int) = ((32 * L + bitsN p : Nat) : Int) by omega]; exact cexp_d rfl fun h => .val _))) .nil_)
theorem pbits_cv (x : Int) (dx : Nat) (hnx : Nf x dx) (lx : (canon x.natAbs).length ≤ 40000) : CV Tryd.prog TabAt 48 [aDy false x dx] [aI (bitsN x.natAbs : Nat)] := by
  refine cvz Tryd.func48 Tryd.ntmps48 ?_
  have PX := parts_cv (G := TabAt) x dx hnx (Nat.le_trans lx (by decide))
  have NB := nbits_cv x.natAbs (by omega)
  repeat' (with_reducible first | apply qa | apply qb | apply qc | apply qd | apply qe | apply qf | apply qg | apply qh | apply qi | apply qj | apply qk | apply ql rfl | apply qm rfl | apply qn rfl | apply Je | (refine Tx 0 ?_; refine Jn xBo ?_; refine Ja ?_) | (refine Tx 1 ?_; refine Jo (xLa tk_Dyadic) ?_; refine Jo (xCl Tryd.func46 (PX)) ?_; refine Jo xMt ?_; refine Jo xEx ?_; refine Jo xEx ?_; refine Jo xEx ?_; refine Ja ?_; refine Ja ?_; refine Ja ?_) | (refine Tx 2 ?_; refine Jm ?_; refine Jo (xCl Tryd.func64 (NB)) ?_; refine Ja ?_))
  exact ret_q rfl (.cons_ (rv_i rfl rfl) .nil_)
end Go.Proofs.YtmdfjbpggbhgnaaDoor
