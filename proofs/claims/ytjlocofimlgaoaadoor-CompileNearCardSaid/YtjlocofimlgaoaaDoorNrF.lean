/- Dyadic numbers at a grid; the helpers of the law CompileNear; told on values. No conditions. The document's Block of chapter 11, told on values. No conditions. What the code of a diagram leaves in the cells, and how near that is to the exact operations: plain laws. No conditions. How near a block's cell is to the exact operation on its arguments' cells: plain laws. No conditions. How near an input and a delay are: plain laws. No conditions. The law CompileNear on values. No conditions. -/
import Derived.Test.YtjlocofimlgaoaaDoorCwM
import Derived.Test.YtjlocofimlgaoaaDoorCwL
namespace Go.Proofs.YtjlocofimlgaoaaDoor
set_option linter.unusedVariables false
set_option linter.unusedSimpArgs false
set_option linter.unusedSectionVars false
open Go.RowKit Cd
theorem dneg_cv (G : World → Prop) (t : Bool) (x : Int) (dx : Nat) (hn : Nf x dx) (l1 : (canon x.natAbs).length ≤ 50000) : CVF Tryd.prog G 62 [aDy t x dx] [aDy false (-x) dx] := fun w S vs hg hlt ha => by
  obtain ⟨u, hu, h2⟩ := one_arg ha
  subst hu
  exact (neg_w (dy_in h2 hlt hn) (Nat.le_refl _) (Nat.le_trans l1 (by decide))).mono fun r w' ⟨v, he, hd, hb⟩ => ⟨v, he, dy_out hd, hb⟩
theorem dabs_cv (G : World → Prop) (t : Bool) (x : Int) (dx : Nat) (hn : Nf x dx) (l1 : (canon x.natAbs).length ≤ 50000) : CVF Tryd.prog G 60 [aDy t x dx] [aDy false (((x.natAbs : Nat) : Int)) dx] := fun w S vs hg hlt ha => by
  obtain ⟨u, hu, h2⟩ := one_arg ha
  subst hu
  exact (abs_w (dy_in h2 hlt hn) (Nat.le_refl _) (Nat.le_trans l1 (by decide))).mono fun r w' ⟨v, he, hd, hb⟩ => ⟨v, he, dy_out hd, hb⟩
theorem dadd_cv (G : World → Prop) (t t' : Bool) (x : Int) (dx : Nat) (y : Int) (dy : Nat) (hn : Nf x dx) (hm : Nf y dy) (l1 : (canon x.natAbs).length ≤ 50000) (l2 : (canon y.natAbs).length ≤ 50000) : CVF Tryd.prog G 61 [aDy t x dx, aDy t' y dy] [aDy false (dySum x dx y dy).1 (dySum x dx y dy).2] := fun w S vs hg hlt ha => by
  obtain ⟨v, vs', rfl, h1, ha⟩ := ha.uncons
  obtain ⟨u, hu, h2⟩ := one_arg ha
  subst hu
  exact (add_any (dy_in h1 hlt hn) (dy_in h2 hlt hm) (Nat.le_refl _) (Nat.le_refl _) l1 l2).mono fun r w' ⟨v, he, hd, hb⟩ => ⟨v, he, dy_out hd, hb⟩
theorem dsub_cv (G : World → Prop) (t t' : Bool) (x : Int) (dx : Nat) (y : Int) (dy : Nat) (hn : Nf x dx) (hm : Nf y dy) (l1 : (canon x.natAbs).length ≤ 50000) (l2 : (canon y.natAbs).length ≤ 50000) : CVF Tryd.prog G 48 [aDy t x dx, aDy t' y dy] [aDy false (dySum x dx (-y) dy).1 (dySum x dx (-y) dy).2] := fun w S vs hg hlt ha => by
  obtain ⟨v, vs', rfl, h1, ha⟩ := ha.uncons
  obtain ⟨u, hu, h2⟩ := one_arg ha
  subst hu
  exact (sub_any (dy_in h1 hlt hn) (dy_in h2 hlt hm) (Nat.le_refl _) l1 l2).mono fun r w' ⟨v, he, hd, hb⟩ => ⟨v, he, dy_out hd, hb⟩
theorem dmin_cv (G : World → Prop) (t t' : Bool) (x : Int) (dx : Nat) (y : Int) (dy : Nat) (hn : Nf x dx) (hm : Nf y dy) (l1 : (canon x.natAbs).length ≤ 50000) (l2 : (canon y.natAbs).length ≤ 50000) : CVF Tryd.prog G 64 [aDy t x dx, aDy t' y dy] [aDy false (dyMin x dx y dy).1 (dyMin x dx y dy).2] := fun w S vs hg hlt ha => by
  obtain ⟨v, vs', rfl, h1, ha⟩ := ha.uncons
  obtain ⟨u, hu, h2⟩ := one_arg ha
  subst hu
  exact (min_any (dy_in h1 hlt hn) (dy_in h2 hlt hm) (Nat.le_refl _) l1 l2).mono fun r w' ⟨v, he, hd, hb⟩ => ⟨v, he, dy_out hd, hb⟩
theorem dmax_cv (G : World → Prop) (t t' : Bool) (x : Int) (dx : Nat) (y : Int) (dy : Nat) (hn : Nf x dx) (hm : Nf y dy) (l1 : (canon x.natAbs).length ≤ 50000) (l2 : (canon y.natAbs).length ≤ 50000) : CVF Tryd.prog G 65 [aDy t x dx, aDy t' y dy] [aDy false (dyMax x dx y dy).1 (dyMax x dx y dy).2] := fun w S vs hg hlt ha => by
  obtain ⟨v, vs', rfl, h1, ha⟩ := ha.uncons
  obtain ⟨u, hu, h2⟩ := one_arg ha
  subst hu
  exact (max_any (dy_in h1 hlt hn) (dy_in h2 hlt hm) (Nat.le_refl _) l1 l2).mono fun r w' ⟨v, he, hd, hb⟩ => ⟨v, he, dy_out hd, hb⟩
/-! values at the grid 2^-200 -/
def Rp (p : Int × Nat) (X : Int) : Prop := p.1 * 2 ^ 200 = X * 2 ^ p.2
/-- A number that fits: in its normal form, and small. -/
structure Sm (p : Int × Nat) (n d : Nat) : Prop where
  ok : Nf p.1 p.2
  n : p.1.natAbs < 2 ^ n
  d : p.2 ≤ d
theorem pow_words {n : Nat} (k : Nat) (h : n ≤ 32 * k) : 2 ^ n ≤ 4294967296 ^ k := by
  rw [show (4294967296 : Nat) = 2 ^ 32 from rfl, ← Nat.pow_mul]
  exact Nat.pow_le_pow_right (by decide) h
theorem Sm.len {p : Int × Nat} {n d : Nat} (h : Sm p n d) (hn : n ≤ 1600) : (canon p.1.natAbs).length ≤ 50 := canon_len_le (Nat.lt_of_lt_of_le h.n (pow_words 50 (by omega)))
theorem Sm.more {p : Int × Nat} {n d n' d' : Nat} (h : Sm p n d) (h1 : n ≤ n') (h2 : d ≤ d') : Sm p n' d' := ⟨h.ok, Nat.lt_of_lt_of_le h.n (Nat.pow_le_pow_right (by decide) h1), Nat.le_trans h.d h2⟩
theorem Sm.mk_nf {m : Int} {p n d : Nat} (hd : p ≤ d) (h : p ≤ 65536) (hm : m.natAbs < 2 ^ n) : Sm (nf m p) n d := ⟨Nf.nf h, Nat.lt_of_le_of_lt (nf_abs_le m p) hm, Nat.le_trans (nf_le m p) hd⟩
theorem Rp.of_nf {m X : Int} {d : Nat} (h : m * 2 ^ 200 = X * 2 ^ d) : Rp (nf m d) X := by
  have h1 := nf_eq m d
  have pw : (2 : Int) ^ d ≠ 0 := Int.ne_of_gt (Int.pow_pos (by decide))
  refine Int.eq_of_mul_eq_mul_right pw ?_
  rw [Int.mul_right_comm, h1, Int.mul_right_comm, h, Int.mul_right_comm]
theorem Rp.shift {x k : Int} (h1 : -200 ≤ k) (h2 : k ≤ 200) : Rp (dyShift x 0 k) (x * 2 ^ (k + 200).toNat) := shift_val (q := 200) (by omega) (by omega) (by omega)
theorem Sm.shift {x k : Int} {n : Nat} (h1 : -200 ≤ k) (h2 : k ≤ 200) (hx : x.natAbs < 2 ^ n) : Sm (dyShift x 0 k) (n + 200) 200 := by
  unfold dyShift
  rw [show max (-65536) (min k 65536) = k by omega]
  split
  · exact (Sm.mk_nf (by omega) (by omega) hx).more (by omega) (Nat.le_refl _)
  · refine Sm.mk_nf (by omega) (by omega) ?_
    rw [Int.natAbs_mul, Int.natAbs_pow, Nat.pow_add]
    exact Nat.lt_of_le_of_lt (Nat.mul_le_mul_left _ (Nat.pow_le_pow_right (by decide) (show k.toNat ≤ 200 by omega))) (Nat.mul_lt_mul_of_pos_right hx (Nat.pow_pos (by decide)))
section
variable {p q : Int × Nat} {X Y Z : Int} {n m d : Nat}
theorem Rp.neg (h : Rp p X) : Rp (-p.1, p.2) (-X) := by
  unfold Rp at *
  rw [Int.neg_mul, Int.neg_mul, h]
theorem Rp.sum (h : Rp p X) (h2 : Rp q Y) : Rp (dySum p.1 p.2 q.1 q.2) (X + Y) := by
  refine Rp.of_nf ?_
  have e1 : p.1 * 2 ^ (max p.2 q.2 - p.2) * 2 ^ 200 = X * 2 ^ max p.2 q.2 := by
    rw [Int.mul_right_comm, h, Int.mul_assoc, ← Int.pow_add]; congr 2; omega
  have e2 : q.1 * 2 ^ (max p.2 q.2 - q.2) * 2 ^ 200 = Y * 2 ^ max p.2 q.2 := by
    rw [Int.mul_right_comm, h2, Int.mul_assoc, ← Int.pow_add]; congr 2; omega
  rw [Int.add_mul, e1, e2, Int.add_mul]
theorem Rp.mul (h : Rp p X) (h2 : Rp q Y) (hz : X * Y = Z * 2 ^ 200) : Rp (dyMul p.1 p.2 q.1 q.2) Z := by
  refine Rp.of_nf ?_
  have pw : (2 : Int) ^ 200 ≠ 0 := by decide
  refine Int.eq_of_mul_eq_mul_right pw ?_
  have e : p.1 * q.1 * 2 ^ 200 * 2 ^ 200 = (p.1 * 2 ^ 200) * (q.1 * 2 ^ 200) := by simp only [Int.mul_assoc, Int.mul_comm, Int.mul_left_comm]
  have e1 : X * 2 ^ p.2 * (Y * 2 ^ q.2) = (X * Y) * (2 ^ p.2 * 2 ^ q.2) := by simp only [Int.mul_assoc, Int.mul_comm, Int.mul_left_comm]
  rw [e, h, h2, e1, hz, Int.pow_add]
  simp only [Int.mul_assoc, Int.mul_comm, Int.mul_left_comm]
theorem Rp.cmp (h : Rp p X) (h2 : Rp q Y) : dyCmp p.1 p.2 q.1 q.2 = sgI (X - Y) := cmp_sgn h h2
theorem Rp.min (h : Rp p X) (h2 : Rp q Y) : Rp (dyMin p.1 p.2 q.1 q.2) (min X Y) := by
  unfold dyMin
  rw [h.cmp h2, sgI_three]
  by_cases h3 : X < Y
  · rw [if_pos h3, if_neg (by decide), show Min.min X Y = X by omega]; exact h
  · rw [if_neg h3]
    by_cases h4 : Y < X
    · rw [if_pos h4, if_pos (by decide), show Min.min X Y = Y by omega]; exact h2
    · rw [if_neg h4, if_neg (by decide), show Min.min X Y = X by omega]; exact h
theorem Rp.max (h : Rp p X) (h2 : Rp q Y) : Rp (dyMax p.1 p.2 q.1 q.2) (max X Y) := by
  unfold dyMax
  rw [h.cmp h2, sgI_three]
  by_cases h3 : X < Y
  · rw [if_pos h3, if_pos (by decide), show Max.max X Y = Y by omega]; exact h2
  · rw [if_neg h3]
    by_cases h4 : Y < X
    · rw [if_pos h4, if_neg (by decide), show Max.max X Y = X by omega]; exact h
    · rw [if_neg h4, if_neg (by decide), show Max.max X Y = X by omega]; exact h
theorem Rp.abs (h : Rp p X) : Rp (((p.1.natAbs : Nat) : Int), p.2) (((X.natAbs : Nat) : Int)) := by
  have h1 := congrArg Int.natAbs h
  rw [Int.natAbs_mul, Int.natAbs_mul, Int.natAbs_pow, Int.natAbs_pow] at h1
  have h2 := congrArg (fun n : Nat => (n : Int)) h1
  rw [Int.natCast_mul, Int.natCast_mul, Int.natCast_pow, Int.natCast_pow] at h2
  exact h2
theorem Sm.neg (h : Sm p n d) : Sm (-p.1, p.2) n d := ⟨⟨h.ok.1, fun h0 => by have := h.ok.2 h0; show (-p.1) % 2 = 1; omega⟩, by show (-p.1).natAbs < _; rw [Int.natAbs_neg]; exact h.n, h.d⟩
theorem Sm.abs (h : Sm p n d) : Sm (((p.1.natAbs : Nat) : Int), p.2) n d := ⟨⟨h.ok.1, fun h0 => by have := h.ok.2 h0; show ((p.1.natAbs : Nat) : Int) % 2 = 1; omega⟩, h.n, h.d⟩
theorem Sm.sum (h : Sm p n d) (h2 : Sm q n d) (hd : d ≤ 65536) : Sm (dySum p.1 p.2 q.1 q.2) (n + d + 1) d := by
  have e : ∀ r : Int × Nat, Sm r n d → (r.1 * 2 ^ (Max.max p.2 q.2 - r.2)).natAbs < 2 ^ (n + d) := fun r hr => by
    rw [Int.natAbs_mul, Int.natAbs_pow, Nat.pow_add]
    have hpd := h.d
    have hqd := h2.d
    exact Nat.lt_of_le_of_lt (Nat.mul_le_mul_left _ (Nat.pow_le_pow_right (by decide) (show Max.max p.2 q.2 - r.2 ≤ d by omega))) (Nat.mul_lt_mul_of_pos_right hr.n (Nat.pow_pos (by decide)))
  have hpd := h.d
  have hqd := h2.d
  refine Sm.mk_nf (by omega) (by omega) ?_
  have h3 := e p h
  have h4 := e q h2
  have h5 := Int.natAbs_add_le (p.1 * 2 ^ (Max.max p.2 q.2 - p.2)) (q.1 * 2 ^ (Max.max p.2 q.2 - q.2))
  rw [Nat.pow_succ]
  omega
theorem Sm.mul (h : Sm p n d) (h2 : Sm q n d) (hd : d ≤ 30000) : Sm (dyMul p.1 p.2 q.1 q.2) (n + n) (d + d) := by
  have hpd := h.d
  have hqd := h2.d
  refine Sm.mk_nf (by omega) (by omega) ?_
  rw [Int.natAbs_mul, Nat.pow_add]
  exact Nat.mul_lt_mul'' h.n h2.n
theorem Sm.min (h : Sm p n d) (h2 : Sm q n d) : Sm (dyMin p.1 p.2 q.1 q.2) n d := by
  unfold dyMin
  split
  · exact h2
  · exact h
theorem Sm.max (h : Sm p n d) (h2 : Sm q n d) : Sm (dyMax p.1 p.2 q.1 q.2) n d := by
  unfold dyMax
  split
  · exact h2
  · exact h
end
set_option maxRecDepth 100000 in
set_option maxHeartbeats 4000000 in
theorem near_cv {p q : Int × Nat} {X Y u f : Int} (hp : Sm p 1000 400) (hq : Sm q 1000 400) (hX : Rp p X) (hY : Rp q Y) (u0 : 0 ≤ u) (u1 : u ≤ 1000) (f0 : 0 ≤ f) (f1 : f ≤ 30) (h : ((X - Y).natAbs : Int) ≤ u * 2 ^ (-f + 200).toNat) : CV Tryd.prog TabAt 26 [aDy false p.1 p.2, aDy false q.1 q.2, aI u, aI f] [aB true] := by
  refine cv_of tab_G Tryd.func26 rfl Tryd.ntmps26 (Nat.le_of_ble_eq_true rfl) ?_
  have DS := dsub_cv TabAt false false p.1 p.2 q.1 q.2 hp.ok hq.ok (Nat.le_trans (hp.len (by omega)) (by decide)) (Nat.le_trans (hq.len (by omega)) (by decide))
  have hs := Sm.sum hp hq.neg (by decide)
  have DA := dabs_cv TabAt false _ _ hs.ok (Nat.le_trans (hs.len (by omega)) (by decide))
  have SC := scaled_cv u f (by omega) (by omega) (by omega) (by omega)
  have hsc : Sm (dyShift u 0 (-f)) (32 + 200) 200 := Sm.shift (by omega) (by omega) (by omega)
  have DC := dcmp_cv (G := TabAt) false false _ _ _ _ hs.abs.ok hsc.ok (Nat.le_trans (hs.abs.len (by omega)) (by decide)) (Nat.le_trans (hsc.len (by omega)) (by decide))
  have hR := (Rp.sum hX hY.neg).abs.cmp (Rp.shift (x := u) (k := -f) (by omega) (by omega))
  dsimp only at hR DA DS DC
  rw [hR, sgI_three] at DC
  have hle : ¬ (u * 2 ^ (-f + 200).toNat < (((X + -Y).natAbs : Nat) : Int)) := by
    rw [show X + -Y = X - Y by omega]
    omega
  rw [if_neg (c := u * 2 ^ (-f + 200).toNat < (((X + -Y).natAbs : Nat) : Int)) hle] at DC
  by_cases hlt : (((X + -Y).natAbs : Nat) : Int) < u * 2 ^ (-f + 200).toNat
  case pos =>
    rw [if_pos hlt] at DC
    repeat' (with_reducible first | apply qa | apply qb | apply qc | apply qd | apply qe | apply qf | apply qg | apply qh | apply qi | apply qj | apply qk | apply ql rfl | apply qm rfl | apply qn rfl | (refine Tx 0 ?_; refine Jn xBo ?_; refine Jn xBo ?_; refine Ja ?_; refine Je ?_) | (refine Tx 1 ?_; refine Jo (xLa tk_Dyadic) ?_; refine Jo (xLa tk_Dyadic) ?_; refine Jo (xCl Tryd.func48 (DS.cv)) ?_; refine Jo (xCl Tryd.func60 (DA.cv)) ?_; refine Jm ?_; refine Jm ?_; refine Jo (xCl Tryd.func15 (SC)) ?_; refine Jo (xCl Tryd.func16 (DC.cv)) ?_; refine Jo xLe ?_; refine Ja ?_; refine Je ?_))
    exact ret_q rfl (.cons_ (rv_b rfl rfl) .nil_)
  case neg =>
    rw [if_neg hlt] at DC
    repeat' (with_reducible first | apply qa | apply qb | apply qc | apply qd | apply qe | apply qf | apply qg | apply qh | apply qi | apply qj | apply qk | apply ql rfl | apply qm rfl | apply qn rfl | (refine Tx 0 ?_; refine Jn xBo ?_; refine Jn xBo ?_; refine Ja ?_; refine Je ?_) | (refine Tx 1 ?_; refine Jo (xLa tk_Dyadic) ?_; refine Jo (xLa tk_Dyadic) ?_; refine Jo (xCl Tryd.func48 (DS.cv)) ?_; refine Jo (xCl Tryd.func60 (DA.cv)) ?_; refine Jm ?_; refine Jm ?_; refine Jo (xCl Tryd.func15 (SC)) ?_; refine Jo (xCl Tryd.func16 (DC.cv)) ?_; refine Jo xLe ?_; refine Ja ?_; refine Je ?_))
    exact ret_q rfl (.cons_ (rv_b rfl rfl) .nil_)
set_option maxRecDepth 100000 in
set_option maxHeartbeats 4000000 in
theorem before_cv {ps : List Prt} {bs : List Bk} {os old now : List Int} {i : Nat} {z : Int} {j : Int} (t u v : Bool) (hj : j = (i : Int)) (hi : i < bs.length) (ho : i < old.length) (hn : i < now.length) (hz : (if kindAt bs i = 2 then old[i]? else now[i]?) = some z) : CV Tryd.prog TabAt 27 [aDg t ps bs os, .one (rowI u old), .one (rowI v now), aI j] [aI z] := by
  subst hj
  refine cv_of tab_G Tryd.func27 rfl Tryd.ntmps27 (Nat.le_of_ble_eq_true rfl) ?_
  obtain ⟨y, hy⟩ : ∃ y, bs[i]? = some y := ⟨_, List.getElem?_eq_getElem hi⟩
  have hyk := kindA_of hy
  by_cases h2 : y.kind = 2
  case pos =>
    rw [hyk, if_pos h2] at hz
    repeat' (with_reducible first | apply qa | apply qb | apply qc | apply qd | apply qe | apply qf | apply qg | apply qh | apply qi | apply qj | apply qk | apply ql rfl | apply qm rfl | apply qn rfl | (refine Tx 0 ?_; refine Jn xBo ?_; refine Ja ?_; refine Je ?_) | (refine Tx 1 ?_; refine Jo (xFa tf_Diagram1 tk_s_Block) ?_; refine Jo (xLd tk_s_Block) ?_; refine Jm ?_; refine Jo (xIr ts_s_Block (bk_at hy)) ?_; refine Jo (xFa tf_Block0 tk_int) ?_; refine Jo (xLd tk_int) ?_; refine Jo xEq ?_; refine Je ?_) | (refine Tx 2 ?_; refine Jm ?_; refine Jm ?_; refine Jo (xIr ts_s_int (int_at hz)) ?_; refine Jo (xLd tk_int) ?_; refine Ja ?_; refine Je ?_))
    exact ret_q rfl (.cons_ (rv_i rfl rfl) .nil_)
  case neg =>
    rw [hyk, if_neg h2] at hz
    repeat' (with_reducible first | apply qa | apply qb | apply qc | apply qd | apply qe | apply qf | apply qg | apply qh | apply qi | apply qj | apply qk | apply ql rfl | apply qm rfl | apply qn rfl | (refine Tx 0 ?_; refine Jn xBo ?_; refine Ja ?_; refine Je ?_) | (refine Tx 1 ?_; refine Jo (xFa tf_Diagram1 tk_s_Block) ?_; refine Jo (xLd tk_s_Block) ?_; refine Jm ?_; refine Jo (xIr ts_s_Block (bk_at hy)) ?_; refine Jo (xFa tf_Block0 tk_int) ?_; refine Jo (xLd tk_int) ?_; refine Jo xEq ?_; refine Je ?_) | (refine Tx 3 ?_; refine Jm ?_; refine Jm ?_; refine Jo (xIr ts_s_int (int_at hz)) ?_; refine Jo (xLd tk_int) ?_; refine Ja ?_; refine Je ?_))
    exact ret_q rfl (.cons_ (rv_i rfl rfl) .nil_)
set_option maxRecDepth 100000 in
set_option maxHeartbeats 4000000 in
theorem port_cv (p : Prt) (z : Int) (h1 : -9223372036854775808 ≤ z) (h2 : z < 9223372036854775808) (f1 : -100 ≤ p.fr) (f2 : p.fr ≤ 100) : CV Tryd.prog TabAt 28 [.agg (dPrt p), aI z] [aDy false (dyShift z 0 (-p.fr)).1 (dyShift z 0 (-p.fr)).2] := by
  refine cv_of tab_G Tryd.func28 rfl Tryd.ntmps28 (Nat.le_of_ble_eq_true rfl) ?_
  have OF := of_cv (G := TabAt) z (by omega) (by omega)
  have SH := dshift_cv (G := TabAt) false z 0 (-p.fr) ⟨by decide, fun h => absurd rfl h⟩ (Nat.le_trans (canon_len_le (k := 2) (by omega)) (by decide)) (by omega)
  repeat' (with_reducible first | apply qa | apply qb | apply qc | apply qd | apply qe | apply qf | apply qg | apply qh | apply qi | apply qj | apply qk | apply ql rfl | apply qm rfl | apply qn rfl | (refine Tx 0 ?_; refine Jn xBo ?_; refine Jn (by exact ok_alloc rfl tz_Dyadic) ?_; refine Je ?_) | (refine cw_part (id := 1) 6 mixed (by kernel_rfl) ?_; dsimp only [List.take, List.drop]; refine Km ?_; refine Ko (xCl Tryd.func46 (OF.cv)) ?_; refine Ko (xFa tf_Port2 tk_int) ?_; refine Ko (xLd tk_int) ?_; refine Ko (by first | exact ok_not rfl rfl | exact ok_neg64 rfl rfl (by omega)) ?_; refine Ko (xCl Tryd.func44 (SH.cv)) ?_; refine Ke ?_; refine Js (xSk tk_Dyadic) ?_; refine Je ?_))
  exact ret_q rfl (.cons_ (rvW tk_Dyadic rfl) .nil_)
set_option maxRecDepth 100000 in
set_option maxHeartbeats 4000000 in
theorem start_cv (t : Bool) {ps : List Prt} {is : List Int} {xs : List Ins} {os : List Int} (hp : progErr ps is xs os = 0) : CV Tryd.prog TabAt 23 [aProg t ps is xs os] [.one (rowI false is), aE 0] := by
  refine cv_of tab_G Tryd.func23 rfl Tryd.ntmps23 (Nat.le_of_ble_eq_true rfl) ?_
  obtain ⟨hp1, hi1, hx1, ho1⟩ := prog_len hp
  have CK := pcheck_t t (Nat.le_trans hp1 (by decide)) (Nat.le_trans hi1 (by decide)) (Nat.le_trans hx1 (by decide)) (Nat.le_trans ho1 (by decide)) hp
  have hc1 : is.length ≤ 1000000 := by omega
  repeat' (with_reducible first | apply qa | apply qb | apply qc | apply qd | apply qe | apply qf | apply qg | apply qh | apply qi | apply qj | apply qk | apply ql rfl | apply qm rfl | apply qn rfl | (refine Tx 0 ?_; refine Jn xBo ?_; refine Ja ?_; refine Ja ?_; refine Je ?_) | (refine Tx 1 ?_; refine Jo (xLa tk_Program) ?_; refine Jo (xCl Tryd.func22 (CK)) ?_; refine Ja ?_; refine Je ?_) | (refine Tx 2 ?_; refine Jm ?_; refine Jo (by first | exact ok_neqE rfl ti_error rfl (bne_f (by first | rfl | omega)) | exact ok_neqE rfl ti_error rfl (bne_t (by first | assumption | omega)) | exact ok_neqE rfl ti_error rfl rfl) ?_; refine Je ?_) | (refine Tx 4 ?_; refine Jo (by exact ok_build0 rfl ts_s_int) ?_; refine Jo (xFa tf_Program1 tk_s_int) ?_; refine Jo (xLd tk_s_int) ?_; refine Jo (by exact ok_append0 rfl rfl (.inl rfl) rfl (ints_free _) ts_s_int tz_int (hc1) (by decide) (by decide)) ?_; refine Ja ?_; refine Ja ?_; refine Je ?_))
  exact ret_q rfl (.cons_ (.tmp (.one (cexp_d rfl fun _ => free_I _))) (.cons_ (rv_e0 rfl rfl) .nil_))
end Go.Proofs.YtjlocofimlgaoaaDoor
namespace Go.Proofs.YtjlocofimlgaoaaDoor
set_option linter.unusedVariables false
set_option linter.unusedSimpArgs false
set_option linter.unusedSectionVars false
open Go.RowKit
def dyP (p : Int × Nat) : List D := dDy false p.1 p.2
theorem dy_at {l : List (Int × Nat)} {k : Nat} {p : Int × Nat} (h : l[k]? = some p) : ((flatD dyP l).drop (k * 3)).take 3 = dyP p := flatD_at (f := dyP) (s := 3) (fun _ => rfl) h
/-- What the document's Block gives. -/
def blkD (y : Bk) (l : List (Int × Nat)) : Int × Nat :=
  if y.kind = 1 then dyShift y.vn 0 y.ve
  else if y.kind = 3 then dySum (l[0]?.getD (0, 0)).1 (l[0]?.getD (0, 0)).2 (l[1]?.getD (0, 0)).1 (l[1]?.getD (0, 0)).2
  else if y.kind = 4 then dySum (l[0]?.getD (0, 0)).1 (l[0]?.getD (0, 0)).2 (-(l[1]?.getD (0, 0)).1) (l[1]?.getD (0, 0)).2
  else if y.kind = 5 then (-(l[0]?.getD (0, 0)).1, (l[0]?.getD (0, 0)).2)
  else if y.kind = 6 then dyMul (dyShift y.vn 0 y.ve).1 (dyShift y.vn 0 y.ve).2 (l[0]?.getD (0, 0)).1 (l[0]?.getD (0, 0)).2
  else if y.kind = 7 then dyMul (l[0]?.getD (0, 0)).1 (l[0]?.getD (0, 0)).2 (l[1]?.getD (0, 0)).1 (l[1]?.getD (0, 0)).2
  else if y.kind = 8 then dyMin (l[0]?.getD (0, 0)).1 (l[0]?.getD (0, 0)).2 (l[1]?.getD (0, 0)).1 (l[1]?.getD (0, 0)).2
  else if y.kind = 9 then dyMax (l[0]?.getD (0, 0)).1 (l[0]?.getD (0, 0)).2 (l[1]?.getD (0, 0)).1 (l[1]?.getD (0, 0)).2
  else if y.kind = 10 then ((((l[0]?.getD (0, 0)).1.natAbs : Nat) : Int), (l[0]?.getD (0, 0)).2)
  else dyMin (dyMax (l[0]?.getD (0, 0)).1 (l[0]?.getD (0, 0)).2 (dyShift y.vn 0 y.ve).1 (dyShift y.vn 0 y.ve).2).1 (dyMax (l[0]?.getD (0, 0)).1 (l[0]?.getD (0, 0)).2 (dyShift y.vn 0 y.ve).1 (dyShift y.vn 0 y.ve).2).2 (dyShift y.un 0 y.ue).1 (dyShift y.un 0 y.ue).2
set_option maxRecDepth 100000 in
set_option maxHeartbeats 4000000 in
theorem dblock_cv (t u : Bool) (y : Bk) (l : List (Int × Nat)) (hk : y.kind = 1 ∨ y.kind = 3 ∨ y.kind = 4 ∨ y.kind = 5 ∨ y.kind = 6 ∨ y.kind = 7 ∨ y.kind = 8 ∨ y.kind = 9 ∨ y.kind = 10 ∨ y.kind = 11) (h1l : y.kind ≠ 1 → 1 ≤ l.length) (h2l : (y.kind = 3 ∨ y.kind = 4 ∨ y.kind = 7 ∨ y.kind = 8 ∨ y.kind = 9) → 2 ≤ l.length) (hs : ∀ p ∈ l, Sm p 300 200)
    (hv : (y.kind = 1 ∨ y.kind = 6 ∨ y.kind = 11) → -2147483648 ≤ y.vn ∧ y.vn < 2147483648 ∧ -62 ≤ y.ve ∧ y.ve ≤ 30) (hu : y.kind = 11 → -2147483648 ≤ y.un ∧ y.un < 2147483648 ∧ -62 ≤ y.ue ∧ y.ue ≤ 30) :
    CV Tryd.prog TabAt 29 [.agg (dBk t y), .one (.row u 3 l.length (flatD dyP l))] [aDy false (blkD y l).1 (blkD y l).2] := by
  refine cv_of tab_G Tryd.func29 rfl Tryd.ntmps29 (Nat.le_of_ble_eq_true rfl) ?_
  rcases hk with h | h | h | h | h | h | h | h | h | h
  ·
    obtain ⟨v0, v1, e0, e1⟩ := hv (by omega)
    have RV := rvalue_cv (G := TabAt) y.vn y.ve (by omega) (by omega)
    have sv : Sm (dyShift y.vn 0 y.ve) (32 + 200) 200 := Sm.shift (by omega) (by omega) (by omega)
    have lv := Nat.le_trans (sv.len (by decide)) (show 50 ≤ 40000 by decide)
    have lv5 := Nat.le_trans (sv.len (by decide)) (show 50 ≤ 50000 by decide)
    have hb : blkD y l = (dyShift y.vn 0 y.ve) := by unfold blkD; simp [h]
    rw [hb]
    repeat' (with_reducible first | apply qa | apply qb | apply qc | apply qd | apply qe | apply qf | apply qg | apply qh | apply qi | apply qj | apply qk | apply ql rfl | apply qm rfl | apply qn rfl | (refine Tx 0 ?_; refine Jn xBo ?_; refine Jn (by exact ok_alloc rfl tz_Dyadic) ?_; refine Je ?_) | (refine Tx 1 ?_; refine Jo (xFa tf_Block0 tk_int) ?_; refine Jo (xLd tk_int) ?_; refine Je ?_) | (refine Tx 2 ?_; refine Jo xEq ?_; refine Ja ?_; refine Je ?_) | (refine Tx 3 ?_; refine Jo (xFa tf_Block2 tk_Scalar) ?_; refine Jo (xLa tk_Scalar) ?_; refine Jo (xCl Tryd.func14 (RV.cv)) ?_; refine Js (xSk tk_Dyadic) ?_; refine Je ?_))
    exact ret_q rfl (.cons_ (rvW tk_Dyadic rfl) .nil_)
  ·
    obtain ⟨p, h0⟩ : ∃ p, l[0]? = some p := ⟨_, List.getElem?_eq_getElem (by omega)⟩
    have sp := hs p (List.mem_of_getElem? h0)
    have lp := Nat.le_trans (sp.len (by decide)) (show 50 ≤ 40000 by decide)
    have lp5 := Nat.le_trans (sp.len (by decide)) (show 50 ≤ 50000 by decide)
    obtain ⟨q, h1⟩ : ∃ q, l[1]? = some q := ⟨_, List.getElem?_eq_getElem (by omega)⟩
    have sq := hs q (List.mem_of_getElem? h1)
    have lq := Nat.le_trans (sq.len (by decide)) (show 50 ≤ 40000 by decide)
    have lq5 := Nat.le_trans (sq.len (by decide)) (show 50 ≤ 50000 by decide)
    have C := dadd_cv TabAt false false p.1 p.2 q.1 q.2 sp.ok sq.ok lp5 lq5
    have hb : blkD y l = dySum p.1 p.2 q.1 q.2 := by unfold blkD; simp [h, h0, h1]
    rw [hb]
    repeat' (with_reducible first | apply qa | apply qb | apply qc | apply qd | apply qe | apply qf | apply qg | apply qh | apply qi | apply qj | apply qk | apply ql rfl | apply qm rfl | apply qn rfl | (refine Tx 0 ?_; refine Jn xBo ?_; refine Jn (by exact ok_alloc rfl tz_Dyadic) ?_; refine Je ?_) | (refine Tx 1 ?_; refine Jo (xFa tf_Block0 tk_int) ?_; refine Jo (xLd tk_int) ?_; refine Je ?_) | (refine Tx 2 ?_; refine Jo xEq ?_; refine Ja ?_; refine Je ?_) | (refine Tx 4 ?_; refine Jo xEq ?_; refine Ja ?_; refine Je ?_) | (refine cw_part (id := 5) 7 mixed (by kernel_rfl) ?_; dsimp only [List.take, List.drop]; refine Km ?_; refine Ko (by first | exact xIr ts_s_Dyadic (dy_at h0) | exact xIr ts_s_Dyadic (dy_at h1)) ?_; refine Ko (xLa tk_Dyadic) ?_; refine Km ?_; refine Ko (by first | exact xIr ts_s_Dyadic (dy_at h0) | exact xIr ts_s_Dyadic (dy_at h1)) ?_; refine Ko (xLa tk_Dyadic) ?_; refine Ko (xCl Tryd.func61 (C.cv)) ?_; refine Ke ?_; refine Js (xSk tk_Dyadic) ?_; refine Je ?_))
    exact ret_q rfl (.cons_ (rvW tk_Dyadic rfl) .nil_)
  ·
    obtain ⟨p, h0⟩ : ∃ p, l[0]? = some p := ⟨_, List.getElem?_eq_getElem (by omega)⟩
    have sp := hs p (List.mem_of_getElem? h0)
    have lp := Nat.le_trans (sp.len (by decide)) (show 50 ≤ 40000 by decide)
    have lp5 := Nat.le_trans (sp.len (by decide)) (show 50 ≤ 50000 by decide)
    obtain ⟨q, h1⟩ : ∃ q, l[1]? = some q := ⟨_, List.getElem?_eq_getElem (by omega)⟩
    have sq := hs q (List.mem_of_getElem? h1)
    have lq := Nat.le_trans (sq.len (by decide)) (show 50 ≤ 40000 by decide)
    have lq5 := Nat.le_trans (sq.len (by decide)) (show 50 ≤ 50000 by decide)
    have C := dsub_cv TabAt false false p.1 p.2 q.1 q.2 sp.ok sq.ok lp5 lq5
    have hb : blkD y l = dySum p.1 p.2 (-q.1) q.2 := by unfold blkD; simp [h, h0, h1]
    rw [hb]
    repeat' (with_reducible first | apply qa | apply qb | apply qc | apply qd | apply qe | apply qf | apply qg | apply qh | apply qi | apply qj | apply qk | apply ql rfl | apply qm rfl | apply qn rfl | (refine Tx 0 ?_; refine Jn xBo ?_; refine Jn (by exact ok_alloc rfl tz_Dyadic) ?_; refine Je ?_) | (refine Tx 1 ?_; refine Jo (xFa tf_Block0 tk_int) ?_; refine Jo (xLd tk_int) ?_; refine Je ?_) | (refine Tx 2 ?_; refine Jo xEq ?_; refine Ja ?_; refine Je ?_) | (refine Tx 4 ?_; refine Jo xEq ?_; refine Ja ?_; refine Je ?_) | (refine Tx 6 ?_; refine Jo xEq ?_; refine Ja ?_; refine Je ?_) | (refine cw_part (id := 7) 7 mixed (by kernel_rfl) ?_; dsimp only [List.take, List.drop]; refine Km ?_; refine Ko (by first | exact xIr ts_s_Dyadic (dy_at h0) | exact xIr ts_s_Dyadic (dy_at h1)) ?_; refine Ko (xLa tk_Dyadic) ?_; refine Km ?_; refine Ko (by first | exact xIr ts_s_Dyadic (dy_at h0) | exact xIr ts_s_Dyadic (dy_at h1)) ?_; refine Ko (xLa tk_Dyadic) ?_; refine Ko (xCl Tryd.func48 (C.cv)) ?_; refine Ke ?_; refine Js (xSk tk_Dyadic) ?_; refine Je ?_))
    exact ret_q rfl (.cons_ (rvW tk_Dyadic rfl) .nil_)
  ·
    obtain ⟨p, h0⟩ : ∃ p, l[0]? = some p := ⟨_, List.getElem?_eq_getElem (by omega)⟩
    have sp := hs p (List.mem_of_getElem? h0)
    have lp := Nat.le_trans (sp.len (by decide)) (show 50 ≤ 40000 by decide)
    have lp5 := Nat.le_trans (sp.len (by decide)) (show 50 ≤ 50000 by decide)
    have C := dneg_cv TabAt false p.1 p.2 sp.ok lp5
    have hb : blkD y l = (-p.1, p.2) := by unfold blkD; simp [h, h0]
    rw [hb]
    repeat' (with_reducible first | apply qa | apply qb | apply qc | apply qd | apply qe | apply qf | apply qg | apply qh | apply qi | apply qj | apply qk | apply ql rfl | apply qm rfl | apply qn rfl | (refine Tx 0 ?_; refine Jn xBo ?_; refine Jn (by exact ok_alloc rfl tz_Dyadic) ?_; refine Je ?_) | (refine Tx 1 ?_; refine Jo (xFa tf_Block0 tk_int) ?_; refine Jo (xLd tk_int) ?_; refine Je ?_) | (refine Tx 2 ?_; refine Jo xEq ?_; refine Ja ?_; refine Je ?_) | (refine Tx 4 ?_; refine Jo xEq ?_; refine Ja ?_; refine Je ?_) | (refine Tx 6 ?_; refine Jo xEq ?_; refine Ja ?_; refine Je ?_) | (refine Tx 8 ?_; refine Jo xEq ?_; refine Ja ?_; refine Je ?_) | (refine Tx 9 ?_; refine Jm ?_; refine Jo (xIr ts_s_Dyadic (dy_at h0)) ?_; refine Jo (xLa tk_Dyadic) ?_; refine Jo (xCl Tryd.func62 (C.cv)) ?_; refine Js (xSk tk_Dyadic) ?_; refine Je ?_))
    exact ret_q rfl (.cons_ (rvW tk_Dyadic rfl) .nil_)
  ·
    obtain ⟨p, h0⟩ : ∃ p, l[0]? = some p := ⟨_, List.getElem?_eq_getElem (by omega)⟩
    have sp := hs p (List.mem_of_getElem? h0)
    have lp := Nat.le_trans (sp.len (by decide)) (show 50 ≤ 40000 by decide)
    have lp5 := Nat.le_trans (sp.len (by decide)) (show 50 ≤ 50000 by decide)
    obtain ⟨v0, v1, e0, e1⟩ := hv (by omega)
    have RV := rvalue_cv (G := TabAt) y.vn y.ve (by omega) (by omega)
    have sv : Sm (dyShift y.vn 0 y.ve) (32 + 200) 200 := Sm.shift (by omega) (by omega) (by omega)
    have lv := Nat.le_trans (sv.len (by decide)) (show 50 ≤ 40000 by decide)
    have lv5 := Nat.le_trans (sv.len (by decide)) (show 50 ≤ 50000 by decide)
    have C := dmul_cv (dyShift y.vn 0 y.ve).1 (dyShift y.vn 0 y.ve).2 p.1 p.2 sv.ok sp.ok lv lp (by have := sv.d; have := sp.d; omega)
    have hb : blkD y l = dyMul (dyShift y.vn 0 y.ve).1 (dyShift y.vn 0 y.ve).2 p.1 p.2 := by unfold blkD; simp [h, h0]
    rw [hb]
    repeat' (with_reducible first | apply qa | apply qb | apply qc | apply qd | apply qe | apply qf | apply qg | apply qh | apply qi | apply qj | apply qk | apply ql rfl | apply qm rfl | apply qn rfl | (refine Tx 0 ?_; refine Jn xBo ?_; refine Jn (by exact ok_alloc rfl tz_Dyadic) ?_; refine Je ?_) | (refine Tx 1 ?_; refine Jo (xFa tf_Block0 tk_int) ?_; refine Jo (xLd tk_int) ?_; refine Je ?_) | (refine Tx 2 ?_; refine Jo xEq ?_; refine Ja ?_; refine Je ?_) | (refine Tx 4 ?_; refine Jo xEq ?_; refine Ja ?_; refine Je ?_) | (refine Tx 6 ?_; refine Jo xEq ?_; refine Ja ?_; refine Je ?_) | (refine Tx 8 ?_; refine Jo xEq ?_; refine Ja ?_; refine Je ?_) | (refine Tx 10 ?_; refine Jo xEq ?_; refine Ja ?_; refine Je ?_) | (refine cw_part (id := 11) 7 mixed (by kernel_rfl) ?_; dsimp only [List.take, List.drop]; refine Ko (xFa tf_Block2 tk_Scalar) ?_; refine Ko (xLa tk_Scalar) ?_; refine Ko (xCl Tryd.func14 (RV.cv)) ?_; refine Km ?_; refine Ko (xIr ts_s_Dyadic (dy_at h0)) ?_; refine Ko (xLa tk_Dyadic) ?_; refine Ko (xCl Tryd.func63 (C)) ?_; refine Ke ?_; refine Js (xSk tk_Dyadic) ?_; refine Je ?_))
    exact ret_q rfl (.cons_ (rvW tk_Dyadic rfl) .nil_)
  ·
    obtain ⟨p, h0⟩ : ∃ p, l[0]? = some p := ⟨_, List.getElem?_eq_getElem (by omega)⟩
    have sp := hs p (List.mem_of_getElem? h0)
    have lp := Nat.le_trans (sp.len (by decide)) (show 50 ≤ 40000 by decide)
    have lp5 := Nat.le_trans (sp.len (by decide)) (show 50 ≤ 50000 by decide)
    obtain ⟨q, h1⟩ : ∃ q, l[1]? = some q := ⟨_, List.getElem?_eq_getElem (by omega)⟩
    have sq := hs q (List.mem_of_getElem? h1)
    have lq := Nat.le_trans (sq.len (by decide)) (show 50 ≤ 40000 by decide)
    have lq5 := Nat.le_trans (sq.len (by decide)) (show 50 ≤ 50000 by decide)
    have C := dmul_cv p.1 p.2 q.1 q.2 sp.ok sq.ok lp lq (by have := sp.d; have := sq.d; omega)
    have hb : blkD y l = dyMul p.1 p.2 q.1 q.2 := by unfold blkD; simp [h, h0, h1]
    rw [hb]
    repeat' (with_reducible first | apply qa | apply qb | apply qc | apply qd | apply qe | apply qf | apply qg | apply qh | apply qi | apply qj | apply qk | apply ql rfl | apply qm rfl | apply qn rfl | (refine Tx 0 ?_; refine Jn xBo ?_; refine Jn (by exact ok_alloc rfl tz_Dyadic) ?_; refine Je ?_) | (refine Tx 1 ?_; refine Jo (xFa tf_Block0 tk_int) ?_; refine Jo (xLd tk_int) ?_; refine Je ?_) | (refine Tx 2 ?_; refine Jo xEq ?_; refine Ja ?_; refine Je ?_) | (refine Tx 4 ?_; refine Jo xEq ?_; refine Ja ?_; refine Je ?_) | (refine Tx 6 ?_; refine Jo xEq ?_; refine Ja ?_; refine Je ?_) | (refine Tx 8 ?_; refine Jo xEq ?_; refine Ja ?_; refine Je ?_) | (refine Tx 10 ?_; refine Jo xEq ?_; refine Ja ?_; refine Je ?_) | (refine Tx 12 ?_; refine Jo xEq ?_; refine Ja ?_; refine Je ?_) | (refine cw_part (id := 13) 7 mixed (by kernel_rfl) ?_; dsimp only [List.take, List.drop]; refine Km ?_; refine Ko (by first | exact xIr ts_s_Dyadic (dy_at h0) | exact xIr ts_s_Dyadic (dy_at h1)) ?_; refine Ko (xLa tk_Dyadic) ?_; refine Km ?_; refine Ko (by first | exact xIr ts_s_Dyadic (dy_at h0) | exact xIr ts_s_Dyadic (dy_at h1)) ?_; refine Ko (xLa tk_Dyadic) ?_; refine Ko (xCl Tryd.func63 (C)) ?_; refine Ke ?_; refine Js (xSk tk_Dyadic) ?_; refine Je ?_))
    exact ret_q rfl (.cons_ (rvW tk_Dyadic rfl) .nil_)
  ·
    obtain ⟨p, h0⟩ : ∃ p, l[0]? = some p := ⟨_, List.getElem?_eq_getElem (by omega)⟩
    have sp := hs p (List.mem_of_getElem? h0)
    have lp := Nat.le_trans (sp.len (by decide)) (show 50 ≤ 40000 by decide)
    have lp5 := Nat.le_trans (sp.len (by decide)) (show 50 ≤ 50000 by decide)
    obtain ⟨q, h1⟩ : ∃ q, l[1]? = some q := ⟨_, List.getElem?_eq_getElem (by omega)⟩
    have sq := hs q (List.mem_of_getElem? h1)
    have lq := Nat.le_trans (sq.len (by decide)) (show 50 ≤ 40000 by decide)
    have lq5 := Nat.le_trans (sq.len (by decide)) (show 50 ≤ 50000 by decide)
    have C := dmin_cv TabAt false false p.1 p.2 q.1 q.2 sp.ok sq.ok lp5 lq5
    have hb : blkD y l = dyMin p.1 p.2 q.1 q.2 := by unfold blkD; simp [h, h0, h1]
    rw [hb]
    repeat' (with_reducible first | apply qa | apply qb | apply qc | apply qd | apply qe | apply qf | apply qg | apply qh | apply qi | apply qj | apply qk | apply ql rfl | apply qm rfl | apply qn rfl | (refine Tx 0 ?_; refine Jn xBo ?_; refine Jn (by exact ok_alloc rfl tz_Dyadic) ?_; refine Je ?_) | (refine Tx 1 ?_; refine Jo (xFa tf_Block0 tk_int) ?_; refine Jo (xLd tk_int) ?_; refine Je ?_) | (refine Tx 2 ?_; refine Jo xEq ?_; refine Ja ?_; refine Je ?_) | (refine Tx 4 ?_; refine Jo xEq ?_; refine Ja ?_; refine Je ?_) | (refine Tx 6 ?_; refine Jo xEq ?_; refine Ja ?_; refine Je ?_) | (refine Tx 8 ?_; refine Jo xEq ?_; refine Ja ?_; refine Je ?_) | (refine Tx 10 ?_; refine Jo xEq ?_; refine Ja ?_; refine Je ?_) | (refine Tx 12 ?_; refine Jo xEq ?_; refine Ja ?_; refine Je ?_) | (refine Tx 14 ?_; refine Jo xEq ?_; refine Ja ?_; refine Je ?_) | (refine cw_part (id := 15) 7 mixed (by kernel_rfl) ?_; dsimp only [List.take, List.drop]; refine Km ?_; refine Ko (by first | exact xIr ts_s_Dyadic (dy_at h0) | exact xIr ts_s_Dyadic (dy_at h1)) ?_; refine Ko (xLa tk_Dyadic) ?_; refine Km ?_; refine Ko (by first | exact xIr ts_s_Dyadic (dy_at h0) | exact xIr ts_s_Dyadic (dy_at h1)) ?_; refine Ko (xLa tk_Dyadic) ?_; refine Ko (xCl Tryd.func64 (C.cv)) ?_; refine Ke ?_; refine Js (xSk tk_Dyadic) ?_; refine Je ?_))
    exact ret_q rfl (.cons_ (rvW tk_Dyadic rfl) .nil_)
  ·
    obtain ⟨p, h0⟩ : ∃ p, l[0]? = some p := ⟨_, List.getElem?_eq_getElem (by omega)⟩
    have sp := hs p (List.mem_of_getElem? h0)
    have lp := Nat.le_trans (sp.len (by decide)) (show 50 ≤ 40000 by decide)
    have lp5 := Nat.le_trans (sp.len (by decide)) (show 50 ≤ 50000 by decide)
    obtain ⟨q, h1⟩ : ∃ q, l[1]? = some q := ⟨_, List.getElem?_eq_getElem (by omega)⟩
    have sq := hs q (List.mem_of_getElem? h1)
    have lq := Nat.le_trans (sq.len (by decide)) (show 50 ≤ 40000 by decide)
    have lq5 := Nat.le_trans (sq.len (by decide)) (show 50 ≤ 50000 by decide)
    have C := dmax_cv TabAt false false p.1 p.2 q.1 q.2 sp.ok sq.ok lp5 lq5
    have hb : blkD y l = dyMax p.1 p.2 q.1 q.2 := by unfold blkD; simp [h, h0, h1]
    rw [hb]
    repeat' (with_reducible first | apply qa | apply qb | apply qc | apply qd | apply qe | apply qf | apply qg | apply qh | apply qi | apply qj | apply qk | apply ql rfl | apply qm rfl | apply qn rfl | (refine Tx 0 ?_; refine Jn xBo ?_; refine Jn (by exact ok_alloc rfl tz_Dyadic) ?_; refine Je ?_) | (refine Tx 1 ?_; refine Jo (xFa tf_Block0 tk_int) ?_; refine Jo (xLd tk_int) ?_; refine Je ?_) | (refine Tx 2 ?_; refine Jo xEq ?_; refine Ja ?_; refine Je ?_) | (refine Tx 4 ?_; refine Jo xEq ?_; refine Ja ?_; refine Je ?_) | (refine Tx 6 ?_; refine Jo xEq ?_; refine Ja ?_; refine Je ?_) | (refine Tx 8 ?_; refine Jo xEq ?_; refine Ja ?_; refine Je ?_) | (refine Tx 10 ?_; refine Jo xEq ?_; refine Ja ?_; refine Je ?_) | (refine Tx 12 ?_; refine Jo xEq ?_; refine Ja ?_; refine Je ?_) | (refine Tx 14 ?_; refine Jo xEq ?_; refine Ja ?_; refine Je ?_) | (refine Tx 16 ?_; refine Jo xEq ?_; refine Ja ?_; refine Je ?_) | (refine cw_part (id := 17) 7 mixed (by kernel_rfl) ?_; dsimp only [List.take, List.drop]; refine Km ?_; refine Ko (by first | exact xIr ts_s_Dyadic (dy_at h0) | exact xIr ts_s_Dyadic (dy_at h1)) ?_; refine Ko (xLa tk_Dyadic) ?_; refine Km ?_; refine Ko (by first | exact xIr ts_s_Dyadic (dy_at h0) | exact xIr ts_s_Dyadic (dy_at h1)) ?_; refine Ko (xLa tk_Dyadic) ?_; refine Ko (xCl Tryd.func65 (C.cv)) ?_; refine Ke ?_; refine Js (xSk tk_Dyadic) ?_; refine Je ?_))
    exact ret_q rfl (.cons_ (rvW tk_Dyadic rfl) .nil_)
  ·
    obtain ⟨p, h0⟩ : ∃ p, l[0]? = some p := ⟨_, List.getElem?_eq_getElem (by omega)⟩
    have sp := hs p (List.mem_of_getElem? h0)
    have lp := Nat.le_trans (sp.len (by decide)) (show 50 ≤ 40000 by decide)
    have lp5 := Nat.le_trans (sp.len (by decide)) (show 50 ≤ 50000 by decide)
    have C := dabs_cv TabAt false p.1 p.2 sp.ok lp5
    have hb : blkD y l = (((p.1.natAbs : Nat) : Int), p.2) := by unfold blkD; simp [h, h0]
    rw [hb]
    repeat' (with_reducible first | apply qa | apply qb | apply qc | apply qd | apply qe | apply qf | apply qg | apply qh | apply qi | apply qj | apply qk | apply ql rfl | apply qm rfl | apply qn rfl | (refine Tx 0 ?_; refine Jn xBo ?_; refine Jn (by exact ok_alloc rfl tz_Dyadic) ?_; refine Je ?_) | (refine Tx 1 ?_; refine Jo (xFa tf_Block0 tk_int) ?_; refine Jo (xLd tk_int) ?_; refine Je ?_) | (refine Tx 2 ?_; refine Jo xEq ?_; refine Ja ?_; refine Je ?_) | (refine Tx 4 ?_; refine Jo xEq ?_; refine Ja ?_; refine Je ?_) | (refine Tx 6 ?_; refine Jo xEq ?_; refine Ja ?_; refine Je ?_) | (refine Tx 8 ?_; refine Jo xEq ?_; refine Ja ?_; refine Je ?_) | (refine Tx 10 ?_; refine Jo xEq ?_; refine Ja ?_; refine Je ?_) | (refine Tx 12 ?_; refine Jo xEq ?_; refine Ja ?_; refine Je ?_) | (refine Tx 14 ?_; refine Jo xEq ?_; refine Ja ?_; refine Je ?_) | (refine Tx 16 ?_; refine Jo xEq ?_; refine Ja ?_; refine Je ?_) | (refine Tx 18 ?_; refine Jo xEq ?_; refine Ja ?_; refine Je ?_) | (refine Tx 19 ?_; refine Jm ?_; refine Jo (xIr ts_s_Dyadic (dy_at h0)) ?_; refine Jo (xLa tk_Dyadic) ?_; refine Jo (xCl Tryd.func60 (C.cv)) ?_; refine Js (xSk tk_Dyadic) ?_; refine Je ?_))
    exact ret_q rfl (.cons_ (rvW tk_Dyadic rfl) .nil_)
  ·
    obtain ⟨p, h0⟩ : ∃ p, l[0]? = some p := ⟨_, List.getElem?_eq_getElem (by omega)⟩
    have sp := hs p (List.mem_of_getElem? h0)
    have lp := Nat.le_trans (sp.len (by decide)) (show 50 ≤ 40000 by decide)
    have lp5 := Nat.le_trans (sp.len (by decide)) (show 50 ≤ 50000 by decide)
    obtain ⟨v0, v1, e0, e1⟩ := hv (by omega)
    have RV := rvalue_cv (G := TabAt) y.vn y.ve (by omega) (by omega)
    have sv : Sm (dyShift y.vn 0 y.ve) (32 + 200) 200 := Sm.shift (by omega) (by omega) (by omega)
    have lv := Nat.le_trans (sv.len (by decide)) (show 50 ≤ 40000 by decide)
    have lv5 := Nat.le_trans (sv.len (by decide)) (show 50 ≤ 50000 by decide)
    obtain ⟨u0, u1, d0, d1⟩ := hu h
    have RU := rvalue_cv (G := TabAt) y.un y.ue (by omega) (by omega)
    have su : Sm (dyShift y.un 0 y.ue) (32 + 200) 200 := Sm.shift (by omega) (by omega) (by omega)
    have lu5 := Nat.le_trans (su.len (by decide)) (show 50 ≤ 50000 by decide)
    have sm : Sm (dyMax p.1 p.2 (dyShift y.vn 0 y.ve).1 (dyShift y.vn 0 y.ve).2) 300 200 := Sm.max sp (sv.more (by decide) (by decide))
    have lm5 := Nat.le_trans (sm.len (by decide)) (show 50 ≤ 50000 by decide)
    have C := dmax_cv TabAt false false p.1 p.2 (dyShift y.vn 0 y.ve).1 (dyShift y.vn 0 y.ve).2 sp.ok sv.ok lp5 lv5
    have C2 := dmin_cv TabAt false false (dyMax p.1 p.2 (dyShift y.vn 0 y.ve).1 (dyShift y.vn 0 y.ve).2).1 (dyMax p.1 p.2 (dyShift y.vn 0 y.ve).1 (dyShift y.vn 0 y.ve).2).2 (dyShift y.un 0 y.ue).1 (dyShift y.un 0 y.ue).2 sm.ok su.ok lm5 lu5
    have hb : blkD y l = dyMin (dyMax p.1 p.2 (dyShift y.vn 0 y.ve).1 (dyShift y.vn 0 y.ve).2).1 (dyMax p.1 p.2 (dyShift y.vn 0 y.ve).1 (dyShift y.vn 0 y.ve).2).2 (dyShift y.un 0 y.ue).1 (dyShift y.un 0 y.ue).2 := by unfold blkD; simp [h, h0]
    rw [hb]
    repeat' (with_reducible first | apply qa | apply qb | apply qc | apply qd | apply qe | apply qf | apply qg | apply qh | apply qi | apply qj | apply qk | apply ql rfl | apply qm rfl | apply qn rfl | (refine Tx 0 ?_; refine Jn xBo ?_; refine Jn (by exact ok_alloc rfl tz_Dyadic) ?_; refine Je ?_) | (refine Tx 1 ?_; refine Jo (xFa tf_Block0 tk_int) ?_; refine Jo (xLd tk_int) ?_; refine Je ?_) | (refine Tx 2 ?_; refine Jo xEq ?_; refine Ja ?_; refine Je ?_) | (refine Tx 4 ?_; refine Jo xEq ?_; refine Ja ?_; refine Je ?_) | (refine Tx 6 ?_; refine Jo xEq ?_; refine Ja ?_; refine Je ?_) | (refine Tx 8 ?_; refine Jo xEq ?_; refine Ja ?_; refine Je ?_) | (refine Tx 10 ?_; refine Jo xEq ?_; refine Ja ?_; refine Je ?_) | (refine Tx 12 ?_; refine Jo xEq ?_; refine Ja ?_; refine Je ?_) | (refine Tx 14 ?_; refine Jo xEq ?_; refine Ja ?_; refine Je ?_) | (refine Tx 16 ?_; refine Jo xEq ?_; refine Ja ?_; refine Je ?_) | (refine Tx 18 ?_; refine Jo xEq ?_; refine Ja ?_; refine Je ?_) | (refine cw_part (id := 20) 11 mixed (by kernel_rfl) ?_; dsimp only [List.take, List.drop]; refine Km ?_; refine Ko (xIr ts_s_Dyadic (dy_at h0)) ?_; refine Ko (xLa tk_Dyadic) ?_; refine Ko (xFa tf_Block2 tk_Scalar) ?_; refine Ko (xLa tk_Scalar) ?_; refine Ko (by first | exact xCl Tryd.func14 (RV.cv) | exact xCl Tryd.func14 (RU.cv)) ?_; refine Ko (xCl Tryd.func65 (C.cv)) ?_; refine Ko (xFa tf_Block3 tk_Scalar) ?_; refine Ko (xLa tk_Scalar) ?_; refine Ko (by first | exact xCl Tryd.func14 (RV.cv) | exact xCl Tryd.func14 (RU.cv)) ?_; refine Ko (xCl Tryd.func64 (C2.cv)) ?_; refine Ke ?_; refine Js (xSk tk_Dyadic) ?_; refine Je ?_))
    exact ret_q rfl (.cons_ (rvW tk_Dyadic rfl) .nil_)
end Go.Proofs.YtjlocofimlgaoaaDoor
namespace Go.Proofs.YtjlocofimlgaoaaDoor
set_option linter.unusedVariables false
set_option linter.unusedSimpArgs false
set_option linter.unusedSectionVars false
open Go.RowKit Cd

/-! the order: what a block uses within a tick stands ahead of it -/
theorem ord_split {bs : List Bk} : ∀ (f : Nat) (out : List Nat), (∀ l1 j l2, out = l1 ++ j :: l2 → rdy bs l1 j = true) → ∀ l1 j l2, ordN bs f out = l1 ++ j :: l2 → rdy bs l1 j = true
  | 0, out, h, l1, j, l2, e => h l1 j l2 e
  | f + 1, out, h, l1, j, l2, e => by
    unfold ordN at e
    cases hn : nxt bs out with
    | none => rw [hn] at e; exact h l1 j l2 e
    | some i =>
      rw [hn] at e
      refine ord_split f (out ++ [i]) (fun m1 q m2 he => ?_) l1 j l2 e
      rcases List.eq_nil_or_concat m2 with rfl | ⟨m3, q', rfl⟩
      · have h1 := List.append_inj' he rfl
        obtain ⟨rfl, h2⟩ := h1
        cases h2
        exact (nxt_some hn).2
      · have h1 : out ++ [i] = (m1 ++ q :: m3) ++ [q'] := by rw [he]; simp
        exact h m1 q m3 (List.append_inj' h1 rfl).1
theorem ord_done {bs : List Bk} {l1 l2 : List Nat} {j : Nat} (h : ordM bs = l1 ++ j :: l2) {a : Int} (ha : a ∈ preds bs j) : kindAt bs a.toNat = 2 ∨ a.toNat ∈ l1 := by
  have h1 := ord_split bs.length [] (fun m1 q m2 he => by simp at he) l1 j l2 h
  unfold rdy at h1
  rw [Bool.and_eq_true] at h1
  have h2 := List.all_eq_true.1 h1.2 a ha
  unfold doneB at h2
  simpa using h2
/-! a run without an overflow -/
theorem fold_flag {inn : List Int} : ∀ {xs : List Ins} {st : List Int × Bool}, (xs.foldl (stepV inn) st).2 = false → st.2 = false
  | [], _, h => h
  | x :: xs, st, h => by
    have h1 := fold_flag (xs := xs) (st := stepV inn st x) h
    simp only [stepV, Bool.or_eq_false_iff] at h1
    exact h1.1
theorem fold_one {inn : List Int} {x : Ins} {xs : List Ins} {st : List Int × Bool} (h : ((x :: xs).foldl (stepV inn) st).2 = false) : shortB (insV x st.1 inn) = true ∧ (stepV inn st x).1 = st.1.set x.dst.toNat (insV x st.1 inn) := by
  have h1 := fold_flag (xs := xs) (st := stepV inn st x) h
  simp only [stepV, Bool.or_eq_false_iff, Bool.not_eq_false'] at h1
  exact ⟨h1.2, by show st.1.set _ (cutV _) = _; rw [cutV_in h1.2]⟩
theorem fold_len {inn : List Int} : ∀ {xs : List Ins} {st : List Int × Bool}, (xs.foldl (stepV inn) st).1.length = st.1.length
  | [], _ => rfl
  | x :: xs, st => by rw [List.foldl_cons, fold_len]; simp [stepV]
theorem fold_short {inn : List Int} : ∀ {xs : List Ins} {st : List Int × Bool}, (∀ z ∈ st.1, shortB z = true) → ∀ z ∈ (xs.foldl (stepV inn) st).1, shortB z = true
  | [], _, h => h
  | x :: xs, st, h => fold_short (xs := xs) (st := stepV inn st x) fun z hz => by
    rcases List.mem_or_eq_of_mem_set hz with hz | rfl
    · exact h z hz
    · exact cutV_short _
section
variable {ps : List Prt} {bs : List Bk} {F inn : List Int}
/-- What a block's cell had in the tick. -/
def bef (bs : List Bk) (F V : List Int) (a : Nat) : Option Int := if kindAt bs a = 2 then (initM bs F)[a]? else V[a]?
/-- The cells when the code of block j begins. -/
structure AtBlk (ps : List Prt) (bs : List Bk) (F inn : List Int) (j : Nat) (st : List Int × Bool) : Prop where
  arg : ∀ a ∈ preds bs j, 0 ≤ a → a < bs.length → st.1[a.toNat]? = bef bs F (runV inn (codeM ps bs F) (initM bs F)).1 a.toNat
  up : ∀ c, bs.length ≤ c → st.1[c]? = (initM bs F)[c]?
  len : st.1.length = (initM bs F).length
  short : ∀ z ∈ st.1, shortB z = true
  flag : ((blkC ps bs F j (cellF bs j)).foldl (stepV inn) st).2 = false
  out : (runV inn (codeM ps bs F) (initM bs F)).1[j]? = ((blkC ps bs F j (cellF bs j)).foldl (stepV inn) st).1[j]?
theorem at_blk (h0 : ordErr bs = 0) (hov : (runV inn (codeM ps bs F) (initM bs F)).2 = false) {j : Nat} (hj : j < bs.length) (hk : kindAt bs j ≠ 2) : ∃ st, AtBlk ps bs F inn j st := by
  have ho := ordN_ok bs.length (OutOk.nil bs)
  obtain ⟨l1, l2, hl⟩ := List.append_of_mem (ord_all h0 hj hk)
  have hnd : (l1 ++ j :: l2).Nodup := by rw [← hl]; exact ho.nodup
  have hmem : ∀ i ∈ l1 ++ j :: l2, i < bs.length ∧ kindAt bs i ≠ 2 := fun i hi => ho.mem i (by show i ∈ ordM bs; rw [hl]; exact hi)
  have hn2 : j ∉ l2 := (List.nodup_cons.1 (List.nodup_append.1 hnd).2.1).1
  have hn1 : ∀ i ∈ l1, i ≠ j ∧ i ∉ l2 := fun i hi => by
    have := (List.nodup_append.1 hnd).2.2 i hi
    exact ⟨fun h => this j (List.mem_cons_self ..) h, fun h => this i (List.mem_cons_of_mem _ h) rfl⟩
  have dB : ∀ (l : List Nat), ∀ x ∈ l.flatMap (fun j => blkC ps bs F j (cellF bs j)), ∃ i ∈ l, x.dst = (i : Int) := fun l x hx => by
    obtain ⟨i, hi, hx⟩ := List.mem_flatMap.1 hx
    exact ⟨i, hi, blk_dst.1 x hx⟩
  have dR : ∀ x ∈ (delL bs).map (mv1 bs F) ++ (delL bs).map (mv2 bs), ∀ i, i < bs.length → kindAt bs i ≠ 2 → x.dst.toNat ≠ i := fun x hx i hi hk2 => by
    rcases List.mem_append.1 hx with hx | hx
    · obtain ⟨q, hq, rfl⟩ := List.mem_map.1 hx
      obtain ⟨t, ht⟩ := List.getElem?_of_mem hq
      show (cellF bs q).toNat ≠ i
      rw [cell_del ht]
      omega
    · obtain ⟨q, hq, rfl⟩ := List.mem_map.1 hx
      have := del_mem.1 hq
      show ((q : Int)).toNat ≠ i
      intro h
      have : q = i := by omega
      subst this
      omega
  have hcode : runV inn (codeM ps bs F) (initM bs F) = ((delL bs).map (mv1 bs F) ++ (delL bs).map (mv2 bs)).foldl (stepV inn) ((l2.flatMap (fun j => blkC ps bs F j (cellF bs j))).foldl (stepV inn) ((blkC ps bs F j (cellF bs j)).foldl (stepV inn) ((l1.flatMap (fun j => blkC ps bs F j (cellF bs j))).foldl (stepV inn) (initM bs F, false)))) := by
    unfold runV codeM
    rw [hl]
    simp only [List.flatMap_append, List.flatMap_cons, List.foldl_append]
  refine ⟨(l1.flatMap (fun j => blkC ps bs F j (cellF bs j))).foldl (stepV inn) (initM bs F, false), fun a ha a0 a1 => ?_, fun c hc => ?_, fold_len, fold_short fun z hz => init_short hz, ?_, ?_⟩
  · unfold bef
    by_cases h2 : kindAt bs a.toNat = 2
    · rw [if_pos h2]
      refine run_free fun x hx => ?_
      obtain ⟨i, hi, hd⟩ := dB l1 x hx
      have := hmem i (List.mem_append_left _ hi)
      rw [hd]
      intro h
      have : i = a.toNat := by omega
      subst this
      omega
    · rw [if_neg h2]
      have hin : a.toNat ∈ l1 := (ord_done hl ha).resolve_left h2
      have h3 := hn1 _ hin
      rw [hcode]
      refine Eq.symm ((run_free fun x hx => dR x hx a.toNat (by omega) h2).trans ((run_free fun x hx => ?_).trans (run_free fun x hx => ?_)))
      · obtain ⟨i, hi, hd⟩ := dB l2 x hx
        rw [hd]
        intro h
        exact h3.2 (by rw [← h]; simpa using hi)
      · rw [blk_dst.1 x hx]
        intro h
        exact h3.1 (by rw [← h]; simp)
  · refine run_free fun x hx => ?_
    obtain ⟨i, hi, hd⟩ := dB l1 x hx
    have := hmem i (List.mem_append_left _ hi)
    rw [hd]
    omega
  · rw [hcode] at hov
    exact fold_flag (fold_flag hov)
  · rw [hcode]
    refine (run_free fun x hx => dR x hx j hj hk).trans (run_free fun x hx => ?_)
    · obtain ⟨i, hi, hd⟩ := dB l2 x hx
      rw [hd]
      intro h
      exact hn2 (by rw [← h]; simpa using hi)
end
/-! one block -/
theorem pw2 (n : Nat) : (0 : Int) < 2 ^ n := Int.pow_pos (by decide)
theorem scl_fl {z k : Int} {a b : Nat} (hk : k = (b : Int) - a) (hz : k < 0 ∨ (-4294967296 ≤ z ∧ z ≤ 4294967296)) : 0 ≤ z * 2 ^ b - scl z k * 2 ^ a ∧ z * 2 ^ b - scl z k * 2 ^ a < 2 ^ a := by
  unfold scl
  by_cases h : k < 0
  · rw [if_pos h, show a = (-k).toNat + b by omega, Int.pow_add, ← Int.mul_assoc]
    have h1 := Int.mul_ediv_add_emod z (2 ^ (-k).toNat)
    have h2 := Int.emod_nonneg z (Int.ne_of_gt (pw2 (-k).toNat))
    have h3 := Int.emod_lt_of_pos z (pw2 (-k).toNat)
    have e : z * 2 ^ b - z / 2 ^ (-k).toNat * 2 ^ (-k).toNat * 2 ^ b = (z % 2 ^ (-k).toNat) * 2 ^ b := by
      rw [← Int.sub_mul]
      congr 1
      rw [Int.mul_comm] at h1
      omega
    rw [e]
    exact ⟨Int.mul_nonneg h2 (Int.le_of_lt (pw2 b)), Int.mul_lt_mul_of_pos_right h3 (pw2 b)⟩
  · have hz' := hz.resolve_left h
    rw [if_neg h, show max (-4294967296) (min z 4294967296) = z by omega, show b = k.toNat + a by omega, Int.pow_add, ← Int.mul_assoc, Int.sub_self]
    exact ⟨Int.le_refl _, pw2 a⟩
theorem scl_unclamped {z k : Int} (h : shortB (scl z k) = true) : k < 0 ∨ (-4294967296 ≤ z ∧ z ≤ 4294967296) := by
  by_cases hk : k < 0
  · exact .inl hk
  · refine .inr (Classical.byContradiction fun hn => ?_)
    have h1 := shortB_t h
    unfold scl at h1
    rw [if_neg hk] at h1
    have hp : (1 : Int) ≤ 2 ^ k.toNat := pw2 _
    rcases (show max (-4294967296) (min z 4294967296) = 4294967296 ∨ max (-4294967296) (min z 4294967296) = -4294967296 by omega) with e | e
    · rw [e] at h1; omega
    · rw [e] at h1; omega
theorem shE_fl {z k : Int} {a b : Nat} (hk : k = (b : Int) - a) : 0 ≤ z * 2 ^ b - shE z k * 2 ^ a ∧ z * 2 ^ b - shE z k * 2 ^ a < 2 ^ a := by
  have e : k < 0 → shE z k = scl z k := fun h => by unfold shE scl; rw [if_pos h, if_pos h]
  by_cases h : k < 0
  · rw [e h]; exact scl_fl hk (.inl h)
  · unfold shE
    rw [if_neg h, show b = k.toNat + a by omega, Int.pow_add, ← Int.mul_assoc, Int.sub_self]
    exact ⟨Int.le_refl _, pw2 a⟩
theorem min_mul {p q P : Int} (hP : 0 < P) : min p q * P = min (p * P) (q * P) := by
  rcases Int.le_total p q with h | h
  · have := Int.mul_le_mul_of_nonneg_right h (Int.le_of_lt hP)
    rw [show min p q = p by omega]; omega
  · have := Int.mul_le_mul_of_nonneg_right h (Int.le_of_lt hP)
    rw [show min p q = q by omega]; omega
theorem max_mul {p q P : Int} (hP : 0 < P) : max p q * P = max (p * P) (q * P) := by
  rcases Int.le_total p q with h | h
  · have := Int.mul_le_mul_of_nonneg_right h (Int.le_of_lt hP)
    rw [show max p q = q by omega]; omega
  · have := Int.mul_le_mul_of_nonneg_right h (Int.le_of_lt hP)
    rw [show max p q = p by omega]; omega
end Go.Proofs.YtjlocofimlgaoaaDoor
namespace Go.Proofs.YtjlocofimlgaoaaDoor
set_option linter.unusedVariables false
set_option linter.unusedSimpArgs false
set_option linter.unusedSectionVars false
open Go.RowKit Cd

theorem cp_facts {ps : List Prt} {bs : List Bk} {F : List Int} (h : cpErr ps bs F = 0) : F.length = bs.length ∧ F.all scOk30 = true ∧ ∀ j, j < bs.length → conE bs F j = 0 := by
  unfold cpErr at h
  by_cases h1 : F.length = bs.length
  · rw [if_neg (not_not_intro h1)] at h
    by_cases h2 : F.all scOk30 = true
    · rw [if_neg (not_not_intro h2)] at h
      by_cases h3 : firstErr ((List.range bs.length).map (conE bs F)) = 0
      · exact ⟨h1, h2, fun j hj => firstErr_zero h3 _ (List.mem_map.2 ⟨j, List.mem_range.2 hj, rfl⟩)⟩
      · rw [if_pos h3] at h; exact absurd h h3
    · rw [if_pos h2] at h; cases h
  · rw [if_pos h1] at h; cases h
theorem raw_ok {n e f : Int} (h : rawErr n e f = 0) : -2147483648 < n ∧ n < 2147483648 ∧ -62 ≤ e ∧ e ≤ 30 ∧ rawV n e f = shE n (e + f) := by
  obtain ⟨hok, hv, _⟩ := fine_ok h
  unfold rawOk at hok
  exact ⟨hok.1, hok.2.1, hok.2.2.1, hok.2.2.2.1, hv⟩
def zA (bs : List Bk) (F V : List Int) (a : Int) : Int := (bef bs F V a.toNat).getD 0
def argL (bs : List Bk) (F V : List Int) (y : Bk) : List (Int × Nat) := y.args.map fun a => dyShift (zA bs F V a) 0 (-(scA F a.toNat))
def unitsB (y : Bk) : Int := max (y.args.length : Int) 1 + (if y.kind = 11 then 1 else 0)
/-- The unit of a scale, at the grid. -/
def un (s : Int) : Int := 2 ^ (-s + 200).toNat
theorem un_pos (s : Int) : 0 < un s := pw2 _
section
variable {ps : List Prt} {bs : List Bk} {os F inn : List Int}
theorem bef_val {V : List Int} (hV : V.length = (initM bs F).length) (hs : ∀ z ∈ V, shortB z = true) {a : Int} (a0 : 0 ≤ a) (a1 : a < bs.length) : bef bs F V a.toNat = some (zA bs F V a) ∧ -2147483648 ≤ zA bs F V a ∧ zA bs F V a < 2147483648 := by
  have hl := init_len bs F
  have key : ∃ z, bef bs F V a.toNat = some z ∧ shortB z = true := by
    unfold bef
    by_cases h2 : kindAt bs a.toNat = 2
    · rw [if_pos h2]
      obtain ⟨z, hz⟩ : ∃ z, (initM bs F)[a.toNat]? = some z := ⟨_, List.getElem?_eq_getElem (by omega)⟩
      exact ⟨z, hz, init_short (List.mem_of_getElem? hz)⟩
    · rw [if_neg h2]
      obtain ⟨z, hz⟩ : ∃ z, V[a.toNat]? = some z := ⟨_, List.getElem?_eq_getElem (by omega)⟩
      exact ⟨z, hz, hs z (List.mem_of_getElem? hz)⟩
  obtain ⟨z, h1, h2⟩ := key
  have h3 := shortB_t h2
  have e : zA bs F V a = z := by unfold zA; rw [h1]; rfl
  rw [e]
  exact ⟨h1, h3.1, h3.2⟩
/-- A block of one instruction. -/
theorem one_ins {j : Nat} {st : List Int × Bool} (H : AtBlk ps bs F inn j st) (hj : j < bs.length) {x : Ins} (hb : blkC ps bs F j (cellF bs j) = [x]) (hd : x.dst = (j : Int)) : (runV inn (codeM ps bs F) (initM bs F)).1[j]? = some (insV x st.1 inn) ∧ shortB (insV x st.1 inn) = true := by
  have hf := H.flag
  have ho := H.out
  rw [hb] at hf ho
  obtain ⟨h1, h2⟩ := fold_one hf
  refine ⟨?_, h1⟩
  rw [ho]
  show (stepV inn st x).1[j]? = _
  have hl := init_len bs F
  have := H.len
  rw [h2, hd, Int.toNat_natCast, List.getElem?_set, if_pos rfl, if_pos (by omega)]
theorem flat2_get {α β : Type} (f g : α → β) : ∀ (l : List α) (t : Nat), (l.flatMap fun j => [f j, g j])[2 * t]? = (l[t]?).map f ∧ (l.flatMap fun j => [f j, g j])[2 * t + 1]? = (l[t]?).map g
  | [], t => by simp
  | x :: l, 0 => by simp
  | x :: l, t + 1 => by
    have ih := flat2_get f g l t
    rw [List.flatMap_cons, show 2 * (t + 1) = 2 * t + 2 by omega]
    exact ih
theorem clip_init {j : Nat} (hj : j < bs.length) (hk : kindAt bs j = 11) : bs.length ≤ (cellF bs j).toNat ∧ (initM bs F)[(cellF bs j).toNat]? = some (conV bs F j) ∧ (initM bs F)[(cellF bs j + 1).toNat]? = some (conU bs F j) := by
  have ht : (cpK bs bs.length)[rank (cpB bs) j]? = some j := cp_at.2 ⟨hj, hk, rfl⟩
  have hc : cellF bs j = (bs.length : Int) + ((dlK bs bs.length).length : Int) + 2 * (rank (cpB bs) j : Int) := by unfold cellF; rw [if_neg (by omega), if_pos hk]
  have hg := flat2_get (fun j => conV bs F j) (fun j => conU bs F j) (cpK bs bs.length) (rank (cpB bs) j)
  rw [ht] at hg
  have hpre : (tab bs.length (fun j => if kindAt bs j = 2 then conV bs F j else 0) ++ List.replicate (delL bs).length 0).length = bs.length + (dlK bs bs.length).length := by rw [List.length_append, tab_len, List.length_replicate, delL_is]
  refine ⟨by omega, ?_, ?_⟩
  · unfold initM
    rw [List.getElem?_append_right (by omega), hpre, show (cellF bs j).toNat - (bs.length + (dlK bs bs.length).length) = 2 * rank (cpB bs) j by omega]
    exact hg.1
  · unfold initM
    rw [List.getElem?_append_right (by omega), hpre, show (cellF bs j + 1).toNat - (bs.length + (dlK bs bs.length).length) = 2 * rank (cpB bs) j + 1 by omega]
    exact hg.2
/-- What is near: the cell, the exact value, the bound. -/
def NearB (bs : List Bk) (F V : List Int) (y : Bk) (j : Nat) (s : Int) : Prop :=
  ∃ C W : Int, V[j]? = some C ∧ Rp (blkD y (argL bs F V y)) W ∧ Sm (blkD y (argL bs F V y)) 1000 400 ∧ (((C * un s - W).natAbs : Nat) : Int) ≤ unitsB y * un s
theorem mul_exp {a b : Int} {m n q : Nat} (h : m + n = q + 200) : a * 2 ^ m * (b * 2 ^ n) = b * a * 2 ^ q * 2 ^ 200 := by
  have e : (2 : Int) ^ m * 2 ^ n = 2 ^ q * 2 ^ 200 := by rw [← Int.pow_add, ← Int.pow_add, h]
  have e1 : a * 2 ^ m * (b * 2 ^ n) = b * a * (2 ^ m * 2 ^ n) := by simp only [Int.mul_assoc, Int.mul_comm, Int.mul_left_comm]
  rw [e1, e]
  simp only [Int.mul_assoc]
theorem near_block (he : dgErr ps bs os = 0) (hc : cpErr ps bs F = 0) (hov : (runV inn (codeM ps bs F) (initM bs F)).2 = false) {j : Nat} {y : Bk} (hy : bs[j]? = some y) (k0 : y.kind ≠ 0) (k2 : y.kind ≠ 2) :
    NearB bs F (runV inn (codeM ps bs F) (initM bs F)).1 y j (scA F j) := by
  obtain ⟨hFl, hall, hcon⟩ := cp_facts hc
  have hj := (List.getElem?_eq_some_iff.1 hy).1
  have hYK := kindA_of hy
  have hYA := blkA_of hy
  have ho : ordErr bs = 0 := (pre_of he).2.2
  obtain ⟨st, H⟩ := at_blk (ps := ps) (F := F) (inn := inn) ho hov hj (by rw [hYK]; exact k2)
  have hVl := runV_len inn (codeM ps bs F) (initM bs F)
  have hVs : ∀ z ∈ (runV inn (codeM ps bs F) (initM bs F)).1, shortB z = true := fun z hz => decide_eq_true (runV_short (inn := inn) (fun z hz => init_short hz) z hz)
  have hone := fun (x : Ins) => one_ins (x := x) H hj
  have harg := H.arg
  have hup := H.up
  generalize hV : (runV inn (codeM ps bs F) (initM bs F)).1 = V at hVl hVs hone harg ⊢
  have hac := acc_args he hy
  have hce := hcon j hj
  unfold conE at hce
  rw [hYK] at hce
  have hzr := sc_range hall
  have hs := hzr j
  have hpr : preds bs j = y.args := by unfold preds argsAt; rw [hYK, if_neg k0, hy]; rfl
  have hM : mostM ps.length bs.length y.kind = bs.length := if_neg k0
  -- the arguments
  have arg : ∀ i a, y.args[i]? = some a → 0 ≤ a ∧ a < (bs.length : Int) ∧ st.1[a.toNat]? = some (zA bs F V a) ∧ -2147483648 ≤ zA bs F V a ∧ zA bs F V a < 2147483648 := fun i a h => by
    have hm := List.mem_of_getElem? h
    have h1 := hac.2.2 a hm
    rw [hM] at h1
    obtain ⟨b1, b2, b3⟩ := bef_val hVl hVs h1.1 h1.2
    exact ⟨h1.1, h1.2, (harg a (by rw [hpr]; exact hm) h1.1 h1.2).trans b1, b2, b3⟩
  have rp : ∀ i a, y.args[i]? = some a → Rp (dyShift (zA bs F V a) 0 (-(scA F a.toNat))) (zA bs F V a * un (scA F a.toNat)) ∧ Sm (dyShift (zA bs F V a) 0 (-(scA F a.toNat))) (32 + 200) 200 := fun i a h => by
    have h1 := arg i a h
    have h2 := hzr a.toNat
    exact ⟨Rp.shift (by omega) (by omega), Sm.shift (by omega) (by omega) (by omega)⟩
  have L0 : ∀ a, y.args[0]? = some a → (argL bs F V y)[0]? = some (dyShift (zA bs F V a) 0 (-(scA F a.toNat))) := fun a h => by unfold argL; rw [List.getElem?_map, h]; rfl
  have L1 : ∀ a, y.args[1]? = some a → (argL bs F V y)[1]? = some (dyShift (zA bs F V a) 0 (-(scA F a.toNat))) := fun a h => by unfold argL; rw [List.getElem?_map, h]; rfl
  have A0 : ∀ a, y.args[0]? = some a → arg0 y = a := fun a h => by unfold arg0; rw [h]; rfl
  have A1 : ∀ a, y.args[1]? = some a → arg1 y = a := fun a h => by unfold arg1; rw [h]; rfl
  have fl : ∀ (z a k : Int), -2147483648 ≤ z → z < 2147483648 → 0 ≤ a → a ≤ 30 → k = scA F j - a → 0 ≤ z * un a - scl z k * un (scA F j) ∧ z * un a - scl z k * un (scA F j) < un (scA F j) := fun z a k h1 h2 h3 h4 h5 => scl_fl (by omega) (.inr (by omega))
  have hP := un_pos (scA F j)
  have hck := hac.2.1
  have hcg := hac.1
  by_cases q1 : y.kind = 1
  · -- a constant
    rw [if_pos (.inl q1)] at hce
    have hrw : errVv bs F j = rawErr y.vn y.ve (scA F j) := by unfold errVv; rw [hYA]
    have hrv : rawVv bs F j = rawV y.vn y.ve (scA F j) := by unfold rawVv; rw [hYA]
    rw [hrw] at hce
    obtain ⟨n0, n1, e0, e1, hv⟩ := raw_ok hce
    obtain ⟨hC, _⟩ := hone ⟨1, j, 0, 0, 0, 0, rawVv bs F j⟩ (by unfold blkC; dsimp only; rw [hYA, if_neg k0, if_pos q1]) rfl
    rw [iv_const rfl] at hC
    have hB : blkD y (argL bs F V y) = dyShift y.vn 0 y.ve := by unfold blkD; rw [if_pos q1]
    refine ⟨_, y.vn * 2 ^ (y.ve + 200).toNat, hC, by rw [hB]; exact Rp.shift (by omega) (by omega), by rw [hB]; exact (Sm.shift (n := 32) (by omega) (by omega) (by omega)).more (by decide) (by decide), ?_⟩
    have hl : y.args.length = 0 := by rw [q1] at hck; simp [arityM] at hck; exact List.length_eq_zero_iff.2 hck
    have hu : unitsB y = 1 := by unfold unitsB; rw [hl, if_neg (by omega)]; rfl
    have hf := shE_fl (z := y.vn) (k := y.ve + scA F j) (a := (-(scA F j) + 200).toNat) (b := (y.ve + 200).toNat) (by omega)
    show ((((rawVv bs F j) * un (scA F j) - _).natAbs : Nat) : Int) ≤ _
    rw [hu, hrv, hv]
    have hf' : 0 ≤ y.vn * 2 ^ (y.ve + 200).toNat - shE y.vn (y.ve + scA F j) * un (scA F j) ∧ y.vn * 2 ^ (y.ve + 200).toNat - shE y.vn (y.ve + scA F j) * un (scA F j) < un (scA F j) := hf
    omega
  have hl1 : 1 ≤ y.args.length := by unfold arityM at hck hcg; (repeat' split at hck) <;> omega
  obtain ⟨a, ha⟩ : ∃ a, y.args[0]? = some a := ⟨_, List.getElem?_eq_getElem (by omega)⟩
  obtain ⟨a0, a1, hw, w0, w1⟩ := arg 0 a ha
  obtain ⟨Ra, Sa⟩ := rp 0 a ha
  have La := L0 a ha
  have Aa := A0 a ha
  have sa := hzr a.toNat
  generalize hz : zA bs F V a = z at hw w0 w1 Ra Sa La
  have fa := fl z (scA F a.toNat) (scA F j - scA F a.toNat) w0 w1 sa.1 sa.2 rfl
  by_cases q6 : y.kind = 6
  · -- a gain
    have hsc := acc_sc he hy (by rw [q6]; rfl)
    unfold scOk at hsc
    obtain ⟨hC, hCs⟩ := hone ⟨6, j, a, 0, scA F j - scA F a.toNat + y.ve, 0, y.vn⟩ (by unfold blkC; dsimp only; rw [hYA, if_neg k0, if_neg q1, if_pos q6, Aa]) rfl
    rw [iv_gain rfl hw] at hC hCs
    have hB : blkD y (argL bs F V y) = dyMul (dyShift y.vn 0 y.ve).1 (dyShift y.vn 0 y.ve).2 (dyShift z 0 (-(scA F a.toNat))).1 (dyShift z 0 (-(scA F a.toNat))).2 := by unfold blkD; simp [q6, La]
    have Rv : Rp (dyShift y.vn 0 y.ve) (y.vn * 2 ^ (y.ve + 200).toNat) := Rp.shift (by omega) (by omega)
    have Sv : Sm (dyShift y.vn 0 y.ve) (32 + 200) 200 := Sm.shift (by omega) (by omega) (by omega)
    refine ⟨_, z * y.vn * 2 ^ (y.ve + 200 - scA F a.toNat).toNat, hC, by rw [hB]; exact Rv.mul Ra (mul_exp (by omega)), by rw [hB]; exact (Sv.mul Sa (by decide)).more (by decide) (by decide), ?_⟩
    have hu : unitsB y = 1 := by
      have : y.args.length = 1 := by rw [q6] at hck; simp [arityM] at hck; omega
      unfold unitsB; rw [this, if_neg (by omega)]; rfl
    have hf := scl_fl (z := z * y.vn) (k := scA F j - scA F a.toNat + y.ve) (a := (-(scA F j) + 200).toNat) (b := (y.ve + 200 - scA F a.toNat).toNat) (by omega) (scl_unclamped hCs)
    have hf' : 0 ≤ z * y.vn * 2 ^ (y.ve + 200 - scA F a.toNat).toNat - scl (z * y.vn) (scA F j - scA F a.toNat + y.ve) * un (scA F j) ∧ z * y.vn * 2 ^ (y.ve + 200 - scA F a.toNat).toNat - scl (z * y.vn) (scA F j - scA F a.toNat + y.ve) * un (scA F j) < un (scA F j) := hf
    rw [hu]
    show (((scl (z * y.vn) (scA F j - scA F a.toNat + y.ve) * un (scA F j) - _).natAbs : Nat) : Int) ≤ _
    generalize z * y.vn * 2 ^ (y.ve + 200 - scA F a.toNat).toNat = W at hf' ⊢
    omega
  by_cases two : y.kind = 3 ∨ y.kind = 4 ∨ y.kind = 7 ∨ y.kind = 8 ∨ y.kind = 9
  · have hl2 : y.args.length = 2 := by unfold arityM at hck hcg; (repeat' split at hck) <;> omega
    obtain ⟨b, hb⟩ : ∃ b, y.args[1]? = some b := ⟨_, List.getElem?_eq_getElem (by omega)⟩
    obtain ⟨b0, b1, hv, v0, v1⟩ := arg 1 b hb
    obtain ⟨Rb, Sb⟩ := rp 1 b hb
    have Lb := L1 b hb
    have Ab := A1 b hb
    have sb := hzr b.toNat
    generalize hz2 : zA bs F V b = v at hv v0 v1 Rb Sb Lb
    have fb := fl v (scA F b.toNat) (scA F j - scA F b.toNat) v0 v1 sb.1 sb.2 rfl
    have hu : unitsB y = 2 := by unfold unitsB; rw [hl2, if_neg (by omega)]; rfl
    by_cases q7 : y.kind = 7
    · obtain ⟨hC, hCs⟩ := hone ⟨7, j, a, b, scA F j - scA F a.toNat - scA F b.toNat, 0, 0⟩ (by unfold blkC; dsimp only; rw [hYA, if_neg k0, if_neg q1, if_neg q6, if_pos q7, Aa, Ab]) rfl
      rw [iv_mul rfl hw hv] at hC hCs
      have hB : blkD y (argL bs F V y) = dyMul (dyShift z 0 (-(scA F a.toNat))).1 (dyShift z 0 (-(scA F a.toNat))).2 (dyShift v 0 (-(scA F b.toNat))).1 (dyShift v 0 (-(scA F b.toNat))).2 := by unfold blkD; simp [q7, La, Lb]
      refine ⟨_, v * z * 2 ^ (200 - scA F a.toNat - scA F b.toNat).toNat, hC, by rw [hB]; exact Ra.mul Rb (mul_exp (by omega)), by rw [hB]; exact (Sa.mul Sb (by decide)).more (by decide) (by decide), ?_⟩
      have hf := scl_fl (z := z * v) (k := scA F j - scA F a.toNat - scA F b.toNat) (a := (-(scA F j) + 200).toNat) (b := (200 - scA F a.toNat - scA F b.toNat).toNat) (by omega) (scl_unclamped hCs)
      have hf' : 0 ≤ z * v * 2 ^ (200 - scA F a.toNat - scA F b.toNat).toNat - scl (z * v) (scA F j - scA F a.toNat - scA F b.toNat) * un (scA F j) ∧ z * v * 2 ^ (200 - scA F a.toNat - scA F b.toNat).toNat - scl (z * v) (scA F j - scA F a.toNat - scA F b.toNat) * un (scA F j) < un (scA F j) := hf
      rw [hu, Int.mul_comm v z]
      show (((scl (z * v) (scA F j - scA F a.toNat - scA F b.toNat) * un (scA F j) - _).natAbs : Nat) : Int) ≤ _
      generalize z * v * 2 ^ (200 - scA F a.toNat - scA F b.toNat).toNat = W at hf' ⊢
      omega
    have k11 : y.kind ≠ 11 := by omega
    have blk : blkC ps bs F j (cellF bs j) = [⟨opM y.kind, j, a, b, scA F j - scA F a.toNat, scA F j - scA F b.toNat, 0⟩] := by unfold blkC; dsimp only; rw [hYA, if_neg k0, if_neg q1, if_neg q6, if_neg q7, if_neg k11, if_pos hl2, Aa, Ab]
    obtain ⟨hC, hCs⟩ := hone _ blk rfl
    rcases (show y.kind = 3 ∨ y.kind = 4 ∨ y.kind = 8 ∨ y.kind = 9 by omega) with q | q | q | q
    · rw [iv_add (by rw [q]; rfl) hw hv] at hC
      dsimp only at hC
      have hB : blkD y (argL bs F V y) = dySum (dyShift z 0 (-(scA F a.toNat))).1 (dyShift z 0 (-(scA F a.toNat))).2 (dyShift v 0 (-(scA F b.toNat))).1 (dyShift v 0 (-(scA F b.toNat))).2 := by unfold blkD; simp [q, La, Lb]
      refine ⟨_, _, hC, by rw [hB]; exact Ra.sum Rb, by rw [hB]; exact (Sa.sum Sb (by decide)).more (by decide) (by decide), ?_⟩
      rw [hu, Int.add_mul]
      omega
    · rw [iv_sub (by rw [q]; rfl) hw hv] at hC
      dsimp only at hC
      have hB : blkD y (argL bs F V y) = dySum (dyShift z 0 (-(scA F a.toNat))).1 (dyShift z 0 (-(scA F a.toNat))).2 (-(dyShift v 0 (-(scA F b.toNat))).1) (dyShift v 0 (-(scA F b.toNat))).2 := by unfold blkD; simp [q, La, Lb]
      refine ⟨_, _, hC, by rw [hB]; exact Ra.sum Rb.neg, by rw [hB]; exact (Sa.sum Sb.neg (by decide)).more (by decide) (by decide), ?_⟩
      rw [hu, Int.sub_mul]
      omega
    · rw [iv_min (by rw [q]; rfl) hw hv] at hC
      dsimp only at hC
      have hB : blkD y (argL bs F V y) = dyMin (dyShift z 0 (-(scA F a.toNat))).1 (dyShift z 0 (-(scA F a.toNat))).2 (dyShift v 0 (-(scA F b.toNat))).1 (dyShift v 0 (-(scA F b.toNat))).2 := by unfold blkD; simp [q, La, Lb]
      refine ⟨_, _, hC, by rw [hB]; exact Ra.min Rb, by rw [hB]; exact (Sa.min Sb).more (by decide) (by decide), ?_⟩
      rw [hu, min_mul hP]
      omega
    · rw [iv_max (by rw [q]; rfl) hw hv] at hC
      dsimp only at hC
      have hB : blkD y (argL bs F V y) = dyMax (dyShift z 0 (-(scA F a.toNat))).1 (dyShift z 0 (-(scA F a.toNat))).2 (dyShift v 0 (-(scA F b.toNat))).1 (dyShift v 0 (-(scA F b.toNat))).2 := by unfold blkD; simp [q, La, Lb]
      refine ⟨_, _, hC, by rw [hB]; exact Ra.max Rb, by rw [hB]; exact (Sa.max Sb).more (by decide) (by decide), ?_⟩
      rw [hu, max_mul hP]
      omega
  have q7 : y.kind ≠ 7 := by omega
  have hl1' : y.args.length = 1 := by unfold arityM at hck hcg; (repeat' split at hck) <;> omega
  by_cases q11 : y.kind = 11
  · -- a clip
    rw [if_neg (by omega), if_pos q11] at hce
    have hev : errVv bs F j = rawErr y.vn y.ve (scA F j) := by unfold errVv; rw [hYA]
    have heu : errUu bs F j = rawErr y.un y.ue (scA F j) := by unfold errUu; rw [hYA]
    have hee : rawErr y.vn y.ve (scA F j) = 0 ∧ rawErr y.un y.ue (scA F j) = 0 := by
      rw [← hev, ← heu]
      by_cases h : errVv bs F j = 0
      · rw [if_pos h] at hce; exact ⟨h, hce⟩
      · rw [if_neg h] at hce; exact absurd hce h
    obtain ⟨n0, n1, e0, e1, hrv⟩ := raw_ok hee.1
    obtain ⟨m0, m1, d0, d1, hru⟩ := raw_ok hee.2
    obtain ⟨hci, hlo, hhi⟩ := clip_init (F := F) hj (hYK.trans q11)
    have hcV : conV bs F j = rawV y.vn y.ve (scA F j) := by unfold conV; rw [hYK, if_pos (by omega)]; unfold rawVv; rw [hYA]
    have hcU : conU bs F j = rawV y.un y.ue (scA F j) := by unfold conU; rw [hYK, if_pos q11]; unfold rawUu; rw [hYA]
    rw [hcV] at hlo
    rw [hcU] at hhi
    have slo : shortB (rawV y.vn y.ve (scA F j)) = true := raw_short _ _ _
    have shi : shortB (rawV y.un y.ue (scA F j)) = true := raw_short _ _ _
    have hf := H.flag
    have ho2 := H.out
    rw [hV] at ho2
    have blk : blkC ps bs F j (cellF bs j) = [⟨9, j, a, cellF bs j, scA F j - scA F a.toNat, 0, 0⟩, ⟨8, j, j, cellF bs j + 1, 0, 0, 0⟩] := by unfold blkC; dsimp only; rw [hYA, if_neg k0, if_neg q1, if_neg q6, if_neg q7, if_pos q11, Aa]
    rw [blk] at hf ho2
    obtain ⟨hs1, ht1⟩ := fold_one hf
    rw [List.foldl_cons] at hf ho2
    obtain ⟨hs2, ht2⟩ := fold_one hf
    have hup1 := (hup (cellF bs j).toNat hci).trans hlo
    have hup2 := (hup (cellF bs j + 1).toNat (by omega)).trans hhi
    have hst := H.len
    have hil := init_len bs F
    have i1 : insV ⟨9, j, a, cellF bs j, scA F j - scA F a.toNat, 0, 0⟩ st.1 inn = max (scl z (scA F j - scA F a.toNat)) (rawV y.vn y.ve (scA F j)) := by
      rw [iv_max rfl hw hup1]
      show max _ (scl _ 0) = _
      rw [scl_zero slo]
    rw [i1] at hs1 ht1
    generalize ht : max (scl z (scA F j - scA F a.toNat)) (rawV y.vn y.ve (scA F j)) = tt at hs1 ht1
    have ht1' : (stepV inn st ⟨9, j, a, cellF bs j, scA F j - scA F a.toNat, 0, 0⟩).1 = st.1.set j tt := by rw [ht1]; rfl
    have i2 : insV ⟨8, j, j, cellF bs j + 1, 0, 0, 0⟩ (stepV inn st ⟨9, j, a, cellF bs j, scA F j - scA F a.toNat, 0, 0⟩).1 inn = min tt (rawV y.un y.ue (scA F j)) := by
      rw [iv_min (w := tt) (y := rawV y.un y.ue (scA F j)) rfl (by rw [ht1']; show (st.1.set j tt)[((j : Int)).toNat]? = _; rw [Int.toNat_natCast, List.getElem?_set, if_pos rfl, if_pos (by omega)]) (by rw [ht1']; show (st.1.set j tt)[(cellF bs j + 1).toNat]? = _; rw [List.getElem?_set, if_neg (by omega)]; exact hup2)]
      show min (scl _ 0) (scl _ 0) = _
      rw [scl_zero hs1, scl_zero shi]
    have hC : V[j]? = some (min tt (rawV y.un y.ue (scA F j))) := by
      rw [ho2]
      show (stepV inn _ _).1[j]? = _
      rw [ht2, i2, ht1']
      show ((st.1.set j tt).set ((j : Int)).toNat _)[j]? = _
      rw [Int.toNat_natCast, List.getElem?_set, if_pos rfl, if_pos (by rw [List.length_set]; omega)]
    have hB : blkD y (argL bs F V y) = dyMin (dyMax (dyShift z 0 (-(scA F a.toNat))).1 (dyShift z 0 (-(scA F a.toNat))).2 (dyShift y.vn 0 y.ve).1 (dyShift y.vn 0 y.ve).2).1 (dyMax (dyShift z 0 (-(scA F a.toNat))).1 (dyShift z 0 (-(scA F a.toNat))).2 (dyShift y.vn 0 y.ve).1 (dyShift y.vn 0 y.ve).2).2 (dyShift y.un 0 y.ue).1 (dyShift y.un 0 y.ue).2 := by unfold blkD; simp [q11, La]
    have Rv : Rp (dyShift y.vn 0 y.ve) (y.vn * 2 ^ (y.ve + 200).toNat) := Rp.shift (by omega) (by omega)
    have Sv : Sm (dyShift y.vn 0 y.ve) (32 + 200) 200 := Sm.shift (by omega) (by omega) (by omega)
    have Ru : Rp (dyShift y.un 0 y.ue) (y.un * 2 ^ (y.ue + 200).toNat) := Rp.shift (by omega) (by omega)
    have Su : Sm (dyShift y.un 0 y.ue) (32 + 200) 200 := Sm.shift (by omega) (by omega) (by omega)
    refine ⟨_, _, hC, by rw [hB]; exact (Ra.max Rv).min Ru, by rw [hB]; exact ((Sa.max Sv).min Su).more (by decide) (by decide), ?_⟩
    have hu : unitsB y = 2 := by unfold unitsB; rw [hl1', if_pos q11]; rfl
    have fv : 0 ≤ y.vn * 2 ^ (y.ve + 200).toNat - rawV y.vn y.ve (scA F j) * un (scA F j) ∧ y.vn * 2 ^ (y.ve + 200).toNat - rawV y.vn y.ve (scA F j) * un (scA F j) < un (scA F j) := by
      rw [hrv]
      exact shE_fl (a := (-(scA F j) + 200).toNat) (b := (y.ve + 200).toNat) (by omega)
    have fu : 0 ≤ y.un * 2 ^ (y.ue + 200).toNat - rawV y.un y.ue (scA F j) * un (scA F j) ∧ y.un * 2 ^ (y.ue + 200).toNat - rawV y.un y.ue (scA F j) * un (scA F j) < un (scA F j) := by
      rw [hru]
      exact shE_fl (a := (-(scA F j) + 200).toNat) (b := (y.ue + 200).toNat) (by omega)
    rw [hu, ← ht, min_mul hP, max_mul hP]
    generalize y.vn * 2 ^ (y.ve + 200).toNat = V1 at fv ⊢
    generalize y.un * 2 ^ (y.ue + 200).toNat = U1 at fu ⊢
    omega
  have hu : unitsB y = 1 := by unfold unitsB; rw [hl1', if_neg q11]; rfl
  have blk : blkC ps bs F j (cellF bs j) = [⟨opM y.kind, j, a, 0, scA F j - scA F a.toNat, 0, 0⟩] := by unfold blkC; dsimp only; rw [hYA, if_neg k0, if_neg q1, if_neg q6, if_neg q7, if_neg q11, if_neg (by omega), Aa]
  obtain ⟨hC, hCs⟩ := hone _ blk rfl
  rcases (show y.kind = 5 ∨ y.kind = 10 by unfold arityM at hck hcg; (repeat' split at hck) <;> omega) with q | q
  · rw [iv_neg (by rw [q]; rfl) hw] at hC
    dsimp only at hC
    have hB : blkD y (argL bs F V y) = (-(dyShift z 0 (-(scA F a.toNat))).1, (dyShift z 0 (-(scA F a.toNat))).2) := by unfold blkD; simp [q, La]
    refine ⟨_, _, hC, by rw [hB]; exact Ra.neg, by rw [hB]; exact Sa.neg.more (by decide) (by decide), ?_⟩
    rw [hu, Int.neg_mul]
    omega
  · rw [iv_abs (by rw [q]; rfl) hw] at hC
    dsimp only at hC
    have hB : blkD y (argL bs F V y) = ((((dyShift z 0 (-(scA F a.toNat))).1.natAbs : Nat) : Int), (dyShift z 0 (-(scA F a.toNat))).2) := by unfold blkD; simp [q, La]
    refine ⟨_, _, hC, by rw [hB]; exact Ra.abs, by rw [hB]; exact Sa.abs.more (by decide) (by decide), ?_⟩
    rw [hu, max_mul hP, Int.neg_mul]
    omega
end
end Go.Proofs.YtjlocofimlgaoaaDoor
namespace Go.Proofs.YtjlocofimlgaoaaDoor
set_option linter.unusedVariables false
set_option linter.unusedSimpArgs false
set_option linter.unusedSectionVars false
open Go.RowKit Cd

section
variable {ps : List Prt} {bs : List Bk} {os F inn : List Int}
theorem near_input (he : dgErr ps bs os = 0) (hc : cpErr ps bs F = 0) (hov : (runV inn (codeM ps bs F) (initM bs F)).2 = false) {j : Nat} {y : Bk} (hy : bs[j]? = some y) (k0 : y.kind = 0) {a r : Int} {p : Prt} (ha : y.args[0]? = some a) (hr : inn[a.toNat]? = some r) (hp : ps[a.toNat]? = some p) :
    ∃ C, (runV inn (codeM ps bs F) (initM bs F)).1[j]? = some C ∧ 0 ≤ p.fr ∧ p.fr ≤ 30 ∧ (((C * un (scA F j) - r * un p.fr).natAbs : Nat) : Int) ≤ unitsB y * un (scA F j) := by
  obtain ⟨hFl, hall, hcon⟩ := cp_facts hc
  have hj := (List.getElem?_eq_some_iff.1 hy).1
  have hYK := kindA_of hy
  have hYA := blkA_of hy
  have ho : ordErr bs = 0 := (pre_of he).2.2
  obtain ⟨st, H⟩ := at_blk (ps := ps) (F := F) (inn := inn) ho hov hj (by rw [hYK]; omega)
  have hs := sc_range hall j
  have h1 := acc_port he hp
  unfold portE at h1
  have h3 : -2147483648 ≤ p.lo ∧ p.lo ≤ p.hi ∧ p.hi < 2147483648 ∧ 0 ≤ p.fr ∧ p.fr ≤ 30 := Classical.byContradiction fun hn => by rw [if_neg hn] at h1; cases h1
  have Aa : arg0 y = a := by unfold arg0; rw [ha]; rfl
  have hfr : portFr ps a = p.fr := by unfold portFr; rw [hp]; rfl
  obtain ⟨hC, hCs⟩ := one_ins (x := ⟨0, j, a, 0, scA F j - p.fr, 0, 0⟩) H hj (by unfold blkC; dsimp only; rw [hYA, if_pos k0, Aa, hfr]) rfl
  rw [iv_in rfl hr] at hC hCs
  refine ⟨_, hC, h3.2.2.2.1, h3.2.2.2.2, ?_⟩
  have hck := (acc_args he hy).2.1
  have hl : y.args.length = 1 := by rw [k0] at hck; simp [arityM] at hck; omega
  have hu : unitsB y = 1 := by unfold unitsB; rw [hl, if_neg (by omega)]; rfl
  have hf : 0 ≤ r * un p.fr - scl r (scA F j - p.fr) * un (scA F j) ∧ r * un p.fr - scl r (scA F j - p.fr) * un (scA F j) < un (scA F j) := scl_fl (a := (-(scA F j) + 200).toNat) (b := (-p.fr + 200).toNat) (by omega) (scl_unclamped hCs)
  rw [hu]
  show (((scl r (scA F j - p.fr) * un (scA F j) - _).natAbs : Nat) : Int) ≤ _
  omega
theorem at_mv (hov : (runV inn (codeM ps bs F) (initM bs F)).2 = false) {t j : Nat} (hj : (delL bs)[t]? = some j) :
    ∃ st : List Int × Bool, (∀ a : Nat, a < bs.length → st.1[a]? = bef bs F (runV inn (codeM ps bs F) (initM bs F)).1 a) ∧ (runV inn (codeM ps bs F) (initM bs F)).1[bs.length + t]? = some (insV (mv1 bs F j) st.1 inn) ∧ shortB (insV (mv1 bs F j) st.1 inn) = true := by
  have hlt := (List.getElem?_eq_some_iff.1 hj).1
  have hsplit : delL bs = (delL bs).take t ++ j :: (delL bs).drop (t + 1) := by
    conv => lhs; rw [← List.take_append_drop t (delL bs)]
    rw [List.drop_eq_getElem_cons hlt]
    congr 2
    exact Option.some.inj ((List.getElem?_eq_getElem hlt).symm.trans hj)
  have ho := ordN_ok bs.length (OutOk.nil bs)
  have dA : ∀ x ∈ (ordM bs).flatMap (fun j => blkC ps bs F j (cellF bs j)), ∃ i, i < bs.length ∧ kindAt bs i ≠ 2 ∧ x.dst = (i : Int) := fun x hx => by
    obtain ⟨i, hi, hx⟩ := List.mem_flatMap.1 hx
    have := ho.mem i hi
    exact ⟨i, this.1, this.2, blk_dst.1 x hx⟩
  have d1 : ∀ q ∈ delL bs, bs.length ≤ (mv1 bs F q).dst.toNat := fun q hq => by
    obtain ⟨k, hk⟩ := List.getElem?_of_mem hq
    show bs.length ≤ (cellF bs q).toNat
    rw [cell_del hk]
    omega
  have hcode : runV inn (codeM ps bs F) (initM bs F) = ((delL bs).map (mv2 bs)).foldl (stepV inn) ((((delL bs).drop (t + 1)).map (mv1 bs F)).foldl (stepV inn) (stepV inn ((((delL bs).take t).map (mv1 bs F)).foldl (stepV inn) (((ordM bs).flatMap (fun j => blkC ps bs F j (cellF bs j))).foldl (stepV inn) (initM bs F, false))) (mv1 bs F j))) := by
    have e : (delL bs).map (mv1 bs F) = ((delL bs).take t).map (mv1 bs F) ++ mv1 bs F j :: ((delL bs).drop (t + 1)).map (mv1 bs F) := by
      conv => lhs; rw [hsplit]
      rw [List.map_append, List.map_cons]
    unfold runV codeM
    rw [e]
    simp only [List.foldl_append, List.foldl_cons]
  refine ⟨(((delL bs).take t).map (mv1 bs F)).foldl (stepV inn) (((ordM bs).flatMap (fun j => blkC ps bs F j (cellF bs j))).foldl (stepV inn) (initM bs F, false)), fun a ha => ?_, ?_⟩
  · unfold bef
    by_cases h2 : kindAt bs a = 2
    · rw [if_pos h2]
      refine (run_free fun x hx => ?_).trans (run_free fun x hx => ?_)
      · obtain ⟨q, hq, rfl⟩ := List.mem_map.1 hx
        have := d1 q (List.mem_of_mem_take hq)
        omega
      · obtain ⟨i, h3, h4, h5⟩ := dA x hx
        rw [h5]
        intro h
        have : i = a := by omega
        subst this
        exact h4 h2
    · rw [if_neg h2, hcode]
      refine Eq.symm ((run_free fun x hx => ?_).trans ((run_free fun x hx => ?_).trans ?_))
      · obtain ⟨q, hq, rfl⟩ := List.mem_map.1 hx
        have := del_mem.1 hq
        show ((q : Int)).toNat ≠ a
        intro h
        have : q = a := by omega
        subst this
        omega
      · obtain ⟨q, hq, rfl⟩ := List.mem_map.1 hx
        have := d1 q (List.mem_of_mem_drop hq)
        omega
      · show (List.set _ (mv1 bs F j).dst.toNat _)[a]? = _
        have := d1 j (List.mem_of_getElem? hj)
        rw [List.getElem?_set, if_neg (by omega)]
  · have hov2 := hov
    rw [hcode] at hov2
    have h3 := fold_flag (fold_flag hov2)
    have h4 := fold_one (x := mv1 bs F j) (xs := []) (inn := inn) h3
    refine ⟨?_, h4.1⟩
    rw [hcode]
    refine (run_free fun x hx => ?_).trans ((run_free fun x hx => ?_).trans ?_)
    · obtain ⟨q, hq, rfl⟩ := List.mem_map.1 hx
      have := del_mem.1 hq
      show ((q : Int)).toNat ≠ _
      omega
    · obtain ⟨q, hq, rfl⟩ := List.mem_map.1 hx
      obtain ⟨k, hk⟩ := List.getElem?_of_mem hq
      rw [List.getElem?_drop] at hk
      show (cellF bs q).toNat ≠ _
      rw [cell_del hk]
      omega
    · rw [h4.2]
      show (List.set _ (cellF bs j).toNat _)[bs.length + t]? = _
      have hl : ((((delL bs).take t).map (mv1 bs F)).foldl (stepV inn) (((ordM bs).flatMap (fun j => blkC ps bs F j (cellF bs j))).foldl (stepV inn) (initM bs F, false))).1.length = (initM bs F).length := fold_len.trans fold_len
      have hil := init_len bs F
      rw [← delL_is] at hil
      rw [cell_del hj, show ((bs.length : Int) + (t : Int)).toNat = bs.length + t by omega, List.getElem?_set, if_pos rfl, if_pos (by omega)]
theorem near_delay (he : dgErr ps bs os = 0) (hc : cpErr ps bs F = 0) (hov : (runV inn (codeM ps bs F) (initM bs F)).2 = false) {j : Nat} {y : Bk} (hy : bs[j]? = some y) (k2 : y.kind = 2) :
    ∃ (a C I : Int), y.args[0]? = some a ∧ 0 ≤ a ∧ a < (bs.length : Int) ∧ (initM bs F)[j]? = some I ∧ (runV inn (codeM ps bs F) (initM bs F)).1[j]? = some C ∧ (-2147483648 < y.vn ∧ y.vn < 2147483648 ∧ -62 ≤ y.ve ∧ y.ve ≤ 30) ∧
      (((I * un (scA F j) - y.vn * 2 ^ (y.ve + 200).toNat).natAbs : Nat) : Int) ≤ 1 * un (scA F j) ∧
      bef bs F (runV inn (codeM ps bs F) (initM bs F)).1 a.toNat = some (zA bs F (runV inn (codeM ps bs F) (initM bs F)).1 a) ∧ -2147483648 ≤ zA bs F (runV inn (codeM ps bs F) (initM bs F)).1 a ∧ zA bs F (runV inn (codeM ps bs F) (initM bs F)).1 a < 2147483648 ∧
      (((C * un (scA F j) - zA bs F (runV inn (codeM ps bs F) (initM bs F)).1 a * un (scA F a.toNat)).natAbs : Nat) : Int) ≤ 1 * un (scA F j) := by
  obtain ⟨hFl, hall, hcon⟩ := cp_facts hc
  have hj := (List.getElem?_eq_some_iff.1 hy).1
  have hYK := kindA_of hy
  have hYA := blkA_of hy
  have hac := acc_args he hy
  have hck := hac.2.1
  have hl : y.args.length = 1 := by rw [k2] at hck; simp [arityM] at hck; omega
  obtain ⟨a, ha⟩ : ∃ a, y.args[0]? = some a := ⟨_, List.getElem?_eq_getElem (by omega)⟩
  have h1 := hac.2.2 a (List.mem_of_getElem? ha)
  rw [show mostM ps.length bs.length y.kind = bs.length from if_neg (by omega)] at h1
  have hs := sc_range hall j
  have hsa := sc_range hall a.toNat
  have hce := hcon j hj
  unfold conE at hce
  rw [hYK, if_pos (.inr k2)] at hce
  unfold errVv at hce
  rw [hYA] at hce
  obtain ⟨n0, n1, e0, e1, hv⟩ := raw_ok hce
  have hdm : j ∈ delL bs := del_mem.2 ⟨hj, hYK.trans k2⟩
  obtain ⟨t, ht⟩ := List.getElem?_of_mem hdm
  obtain ⟨st, hst, hC, hCs⟩ := at_mv (ps := ps) (F := F) (inn := inn) hov ht
  have hVl := runV_len inn (codeM ps bs F) (initM bs F)
  have hVs : ∀ z ∈ (runV inn (codeM ps bs F) (initM bs F)).1, shortB z = true := fun z hz => decide_eq_true (runV_short (inn := inn) (fun z hz => init_short hz) z hz)
  have hdel := run_delay (ps := ps) (F := F) (inn := inn) ht
  generalize (runV inn (codeM ps bs F) (initM bs F)).1 = V at *
  obtain ⟨b1, b2, b3⟩ := bef_val (F := F) hVl hVs h1.1 h1.2
  have Aa : arg0 (blkA bs j) = a := by rw [hYA]; unfold arg0; rw [ha]; rfl
  have hI : (initM bs F)[j]? = some (rawV y.vn y.ve (scA F j)) := by
    unfold initM
    rw [List.append_assoc, List.getElem?_append_left (by rw [tab_len]; exact hj), tab_get hj, if_pos (hYK.trans k2)]
    unfold conV
    rw [if_pos (by rw [hYK]; omega)]
    unfold rawVv
    rw [hYA]
  rw [iv_move (w := zA bs F V a) rfl (by show st.1[(arg0 (blkA bs j)).toNat]? = _; rw [Aa]; exact (hst a.toNat (by omega)).trans b1)] at hC hCs
  have e : (mv1 bs F j).sa = scA F j - scA F a.toNat := by show scA F j - scA F (arg0 (blkA bs j)).toNat = _; rw [Aa]
  rw [e] at hC hCs
  refine ⟨a, _, _, ha, h1.1, h1.2, hI, hdel.trans hC, ⟨n0, n1, e0, e1⟩, ?_, b1, b2, b3, ?_⟩
  · have hf : 0 ≤ y.vn * 2 ^ (y.ve + 200).toNat - shE y.vn (y.ve + scA F j) * un (scA F j) ∧ y.vn * 2 ^ (y.ve + 200).toNat - shE y.vn (y.ve + scA F j) * un (scA F j) < un (scA F j) := shE_fl (a := (-(scA F j) + 200).toNat) (b := (y.ve + 200).toNat) (by omega)
    rw [hv]
    generalize y.vn * 2 ^ (y.ve + 200).toNat = W at hf ⊢
    omega
  · have hf : 0 ≤ zA bs F V a * un (scA F a.toNat) - scl (zA bs F V a) (scA F j - scA F a.toNat) * un (scA F j) ∧ zA bs F V a * un (scA F a.toNat) - scl (zA bs F V a) (scA F j - scA F a.toNat) * un (scA F j) < un (scA F j) := scl_fl (a := (-(scA F j) + 200).toNat) (b := (-(scA F a.toNat) + 200).toNat) (by omega) (.inr (by omega))
    omega
end
end Go.Proofs.YtjlocofimlgaoaaDoor
namespace Go.Proofs.YtjlocofimlgaoaaDoor
set_option linter.unusedVariables false
set_option linter.unusedSimpArgs false
set_option linter.unusedSectionVars false
open Go.RowKit Cd
theorem cw_cut2 {P : Program} {G : World → Prop} {N : Nat} {x y z : Code} {F : Frm} {H : List Ob} {Q : Post} (K : Frm → List Ob → Prop) (h : CW P G N x F H (thenC (fun F' H' => CW P G N y F' H' (thenC (wkC N K) Q)) (thenC (wkC N K) Q))) (k : ∀ F' H', K F' H' → CW P G N z F' H' Q) : CW P G N x F H (thenC (fun F' H' => CW P G N y F' H' (thenC (fun F' H' => CW P G N z F' H' Q) Q)) (thenC (fun F' H' => CW P G N z F' H' Q) Q)) :=
  cw_mono h fun e F H h3 => by
    cases e with
    | normal => exact cw_cutK K h3 k
    | _ => exact h3
theorem sc_of {F : List Int} {j : Nat} {s : Int} (h : F[j]? = some s) : scA F j = s := by unfold scA; rw [h]; rfl
theorem cexp_oT {H : List Ob} {id ty s n : Nat} {c : C} {y : D} {ds : List D} (hc : c = .own id n) (hH : H[id]? = some (.row ty s n (cD ds))) (hy : y = .row true s n ds) : CExp true H c y :=
  cexp_o hc hH hy ⟨by simp [cD], fun j a b ha hb => by
    simp only [cD, List.getElem?_map, Option.map_eq_some_iff] at ha
    obtain ⟨z, hz, rfl⟩ := ha
    rw [hz] at hb
    cases hb
    exact .d fun h => by cases h⟩
theorem sc_facts {ps : List Prt} {bs : List Bk} {os F : List Int} (he : dgErr ps bs os = 0) (hc : cpErr ps bs F = 0) {j : Nat} {y : Bk} (hy : bs[j]? = some y) : ((y.kind = 1 ∨ y.kind = 6 ∨ y.kind = 11) → -2147483648 ≤ y.vn ∧ y.vn < 2147483648 ∧ -62 ≤ y.ve ∧ y.ve ≤ 30) ∧ (y.kind = 11 → -2147483648 ≤ y.un ∧ y.un < 2147483648 ∧ -62 ≤ y.ue ∧ y.ue ≤ 30) := by
  constructor
  · intro h
    have hsc := acc_sc he hy (by rcases h with h | h | h <;> (rw [h]; rfl))
    unfold scOk at hsc
    omega
  · intro h
    have hj := (List.getElem?_eq_some_iff.1 hy).1
    have hce := (cp_facts hc).2.2 j hj
    have hYK := kindA_of hy
    unfold conE at hce
    rw [hYK, if_neg (by omega), if_pos h] at hce
    have heu : errUu bs F j = rawErr y.un y.ue (scA F j) := by unfold errUu; rw [blkA_of hy]
    have hee : rawErr y.un y.ue (scA F j) = 0 := by
      rw [← heu]
      by_cases h : errVv bs F j = 0
      · rw [if_pos h] at hce; exact hce
      · rw [if_neg h] at hce; exact absurd hce h
    obtain ⟨m0, m1, d0, d1, _⟩ := raw_ok hee
    omega
set_option maxRecDepth 100000 in
set_option maxHeartbeats 8000000 in
theorem compileNear_cv (ps : List Prt) (bs : List Bk) (os F inn : List Int) : CV Tryd.prog TabAt 6 [aDg true ps bs os, .one (rowI true F), .one (rowI true inn)] [aB true] := by
  refine cv_of tab_G Tryd.func6 rfl Tryd.ntmps6 (Nat.le_of_ble_eq_true rfl) ?_
  have LT := light_cv ps bs os
  by_cases hlt : lightB ps bs os = true
  case neg =>
    rw [Bool.not_eq_true] at hlt
    rw [hlt] at LT
    repeat' (with_reducible first | apply qa | apply qb | apply qc | apply qd | apply qe | apply qf | apply qg | apply qh | apply qi | apply qj | apply qk | apply ql rfl | apply qm rfl | apply qn rfl | (refine Tx 0 ?_; refine Jn xBo ?_; refine Ja ?_; refine Je ?_) | (refine Tx 1 ?_; refine Jo (xCl Tryd.func9 (awake15_cv)) ?_; refine Jo (by first | exact ok_not rfl rfl | exact ok_neg64 rfl rfl (by omega)) ?_; refine Jm ?_; (first | refine Jd ?_ | refine Jy (xLa tk_Diagram) ?_); (first | refine Jd ?_ | refine Jy (xCl Tryd.func17 (LT)) ?_); (first | refine Jd ?_ | refine Jy (by first | exact ok_not rfl rfl | exact ok_neg64 rfl rfl (by omega)) ?_); refine Jo xPk ?_; refine Jm ?_; (first | refine Jd ?_ | refine Jy (by exact ok_mv1 rfl rfl) ?_); (first | refine Jd ?_ | refine Jy (xLn ts_s_int) ?_); (first | refine Jd ?_ | refine Jy xGt ?_); refine Jo xPk ?_; refine Jm ?_; (first | refine Jd ?_ | refine Jy (by exact ok_mv1 rfl rfl) ?_); (first | refine Jd ?_ | refine Jy (xLn ts_s_int) ?_); (first | refine Jd ?_ | refine Jy xGt ?_); refine Jo xPk ?_; refine Jm ?_; (first | refine Jd ?_ | refine Jy (xLa tk_Diagram) ?_); (first | refine Jd ?_ | refine Jy (xCl Tryd.func19 (RC.cv)) ?_); (first | refine Jd ?_ | refine Jy xNe ?_); refine Jo xPk ?_; refine Je ?_) | (refine Tx 2 ?_; refine Jo (xCl Tryd.func9 (awake15_cv)) ?_; refine Ja ?_; refine Je ?_))
    exact ret_q rfl (.cons_ (rv_b rfl (rfl)) .nil_)
  rw [hlt] at LT
  by_cases hF : 100 < F.length
  case pos =>
    repeat' (with_reducible first | apply qa | apply qb | apply qc | apply qd | apply qe | apply qf | apply qg | apply qh | apply qi | apply qj | apply qk | apply ql rfl | apply qm rfl | apply qn rfl | (refine Tx 0 ?_; refine Jn xBo ?_; refine Ja ?_; refine Je ?_) | (refine Tx 1 ?_; refine Jo (xCl Tryd.func9 (awake15_cv)) ?_; refine Jo (by first | exact ok_not rfl rfl | exact ok_neg64 rfl rfl (by omega)) ?_; refine Jm ?_; (first | refine Jd ?_ | refine Jy (xLa tk_Diagram) ?_); (first | refine Jd ?_ | refine Jy (xCl Tryd.func17 (LT)) ?_); (first | refine Jd ?_ | refine Jy (by first | exact ok_not rfl rfl | exact ok_neg64 rfl rfl (by omega)) ?_); refine Jo xPk ?_; refine Jm ?_; (first | refine Jd ?_ | refine Jy (by exact ok_mv1 rfl rfl) ?_); (first | refine Jd ?_ | refine Jy (xLn ts_s_int) ?_); (first | refine Jd ?_ | refine Jy xGt ?_); refine Jo xPk ?_; refine Jm ?_; (first | refine Jd ?_ | refine Jy (by exact ok_mv1 rfl rfl) ?_); (first | refine Jd ?_ | refine Jy (xLn ts_s_int) ?_); (first | refine Jd ?_ | refine Jy xGt ?_); refine Jo xPk ?_; refine Jm ?_; (first | refine Jd ?_ | refine Jy (xLa tk_Diagram) ?_); (first | refine Jd ?_ | refine Jy (xCl Tryd.func19 (RC.cv)) ?_); (first | refine Jd ?_ | refine Jy xNe ?_); refine Jo xPk ?_; refine Je ?_) | (refine Tx 2 ?_; refine Jo (xCl Tryd.func9 (awake15_cv)) ?_; refine Ja ?_; refine Je ?_))
    exact ret_q rfl (.cons_ (rv_b rfl (rfl)) .nil_)
  by_cases hI : 40 < inn.length
  case pos =>
    repeat' (with_reducible first | apply qa | apply qb | apply qc | apply qd | apply qe | apply qf | apply qg | apply qh | apply qi | apply qj | apply qk | apply ql rfl | apply qm rfl | apply qn rfl | (refine Tx 0 ?_; refine Jn xBo ?_; refine Ja ?_; refine Je ?_) | (refine Tx 1 ?_; refine Jo (xCl Tryd.func9 (awake15_cv)) ?_; refine Jo (by first | exact ok_not rfl rfl | exact ok_neg64 rfl rfl (by omega)) ?_; refine Jm ?_; (first | refine Jd ?_ | refine Jy (xLa tk_Diagram) ?_); (first | refine Jd ?_ | refine Jy (xCl Tryd.func17 (LT)) ?_); (first | refine Jd ?_ | refine Jy (by first | exact ok_not rfl rfl | exact ok_neg64 rfl rfl (by omega)) ?_); refine Jo xPk ?_; refine Jm ?_; (first | refine Jd ?_ | refine Jy (by exact ok_mv1 rfl rfl) ?_); (first | refine Jd ?_ | refine Jy (xLn ts_s_int) ?_); (first | refine Jd ?_ | refine Jy xGt ?_); refine Jo xPk ?_; refine Jm ?_; (first | refine Jd ?_ | refine Jy (by exact ok_mv1 rfl rfl) ?_); (first | refine Jd ?_ | refine Jy (xLn ts_s_int) ?_); (first | refine Jd ?_ | refine Jy xGt ?_); refine Jo xPk ?_; refine Jm ?_; (first | refine Jd ?_ | refine Jy (xLa tk_Diagram) ?_); (first | refine Jd ?_ | refine Jy (xCl Tryd.func19 (RC.cv)) ?_); (first | refine Jd ?_ | refine Jy xNe ?_); refine Jo xPk ?_; refine Je ?_) | (refine Tx 2 ?_; refine Jo (xCl Tryd.func9 (awake15_cv)) ?_; refine Ja ?_; refine Je ?_))
    exact ret_q rfl (.cons_ (rv_b rfl (rfl)) .nil_)
  obtain ⟨hl, hb⟩ := light_len hlt
  have RC := rcheck_cv true hl
  by_cases he : dgErr ps bs os = 0
  case neg =>
    repeat' (with_reducible first | apply qa | apply qb | apply qc | apply qd | apply qe | apply qf | apply qg | apply qh | apply qi | apply qj | apply qk | apply ql rfl | apply qm rfl | apply qn rfl | (refine Tx 0 ?_; refine Jn xBo ?_; refine Ja ?_; refine Je ?_) | (refine Tx 1 ?_; refine Jo (xCl Tryd.func9 (awake15_cv)) ?_; refine Jo (by first | exact ok_not rfl rfl | exact ok_neg64 rfl rfl (by omega)) ?_; refine Jm ?_; (first | refine Jd ?_ | refine Jy (xLa tk_Diagram) ?_); (first | refine Jd ?_ | refine Jy (xCl Tryd.func17 (LT)) ?_); (first | refine Jd ?_ | refine Jy (by first | exact ok_not rfl rfl | exact ok_neg64 rfl rfl (by omega)) ?_); refine Jo xPk ?_; refine Jm ?_; (first | refine Jd ?_ | refine Jy (by exact ok_mv1 rfl rfl) ?_); (first | refine Jd ?_ | refine Jy (xLn ts_s_int) ?_); (first | refine Jd ?_ | refine Jy xGt ?_); refine Jo xPk ?_; refine Jm ?_; (first | refine Jd ?_ | refine Jy (by exact ok_mv1 rfl rfl) ?_); (first | refine Jd ?_ | refine Jy (xLn ts_s_int) ?_); (first | refine Jd ?_ | refine Jy xGt ?_); refine Jo xPk ?_; refine Jm ?_; (first | refine Jd ?_ | refine Jy (xLa tk_Diagram) ?_); (first | refine Jd ?_ | refine Jy (xCl Tryd.func19 (RC.cv)) ?_); (first | refine Jd ?_ | refine Jy xNe ?_); refine Jo (by first | exact ok_neqD rfl rfl rfl (bne_t he) | exact xPk) ?_; refine Je ?_) | (refine Tx 2 ?_; refine Jo (xCl Tryd.func9 (awake15_cv)) ?_; refine Ja ?_; refine Je ?_))
    exact ret_q rfl (.cons_ (rv_b rfl (rfl)) .nil_)
  rw [he] at RC
  have CP := compile_t true true (ps := ps) (bs := bs) (os := os) (F := F) hl (by omega)
  have hE : cpE' ps bs os F = cpErr ps bs F := if_pos he
  rw [hE] at CP
  by_cases h0 : cpErr ps bs F = 0
  case neg =>
    rw [okL_n h0, okL_n h0, okL_n h0, okL_n h0] at CP
    repeat' (with_reducible first | apply qa | apply qb | apply qc | apply qd | apply qe | apply qf | apply qg | apply qh | apply qi | apply qj | apply qk | apply ql rfl | apply qm rfl | apply qn rfl | (refine Tx 0 ?_; refine Jn xBo ?_; refine Ja ?_; refine Je ?_) | (refine Tx 1 ?_; refine Jo (xCl Tryd.func9 (awake15_cv)) ?_; refine Jo (by first | exact ok_not rfl rfl | exact ok_neg64 rfl rfl (by omega)) ?_; refine Jm ?_; (first | refine Jd ?_ | refine Jy (xLa tk_Diagram) ?_); (first | refine Jd ?_ | refine Jy (xCl Tryd.func17 (LT)) ?_); (first | refine Jd ?_ | refine Jy (by first | exact ok_not rfl rfl | exact ok_neg64 rfl rfl (by omega)) ?_); refine Jo xPk ?_; refine Jm ?_; (first | refine Jd ?_ | refine Jy (by exact ok_mv1 rfl rfl) ?_); (first | refine Jd ?_ | refine Jy (xLn ts_s_int) ?_); (first | refine Jd ?_ | refine Jy xGt ?_); refine Jo xPk ?_; refine Jm ?_; (first | refine Jd ?_ | refine Jy (by exact ok_mv1 rfl rfl) ?_); (first | refine Jd ?_ | refine Jy (xLn ts_s_int) ?_); (first | refine Jd ?_ | refine Jy xGt ?_); refine Jo xPk ?_; refine Jm ?_; (first | refine Jd ?_ | refine Jy (xLa tk_Diagram) ?_); (first | refine Jd ?_ | refine Jy (xCl Tryd.func19 (RC.cv)) ?_); (first | refine Jd ?_ | refine Jy xNe ?_); refine Jo (by first | exact ok_neqD rfl rfl rfl (bne_f rfl) | exact xPk) ?_; refine Je ?_) | (refine Tx 3 ?_; refine Jo (xLa tk_Diagram) ?_; refine Jm ?_; refine Jo (xCl Tryd.func18 (CP)) ?_; refine Jo (by exact ok_mvT rfl rfl) ?_; refine Jo (by exact ok_exA rfl rfl rfl) ?_; refine Jo xEx ?_; refine Jn (by exact ok_alloc rfl tz_Program) ?_; refine Js (xSk tk_Program) ?_; refine Ja ?_; refine Je ?_) | (refine Tx 4 ?_; refine Jm ?_; refine Jo (by first | exact ok_neqE rfl ti_error rfl (bne_t h0) | exact ok_neqE rfl ti_error rfl (bne_f (by first | rfl | omega)) | exact ok_neqE rfl ti_error rfl (bne_t (by first | assumption | omega)) | exact ok_neqE rfl ti_error rfl rfl) ?_; refine Je ?_) | (refine Tx 5 ?_; refine Ja ?_; refine Je ?_))
    exact ret_q rfl (.cons_ (rv_b rfl (rfl)) .nil_)
  rw [h0, okL_z rfl, okL_z rfl, okL_z rfl, okL_z rfl] at CP
  have hpr := prog_ok (F := F) he (shifts_ok h0)
  have ST := start_cv false hpr
  have IN := inputs_cv true true inn hl (by omega)
  have RU := run_cv false false false hpr rfl (fun z hz => init_short hz) (inp_len ps inn) (inp_fit (inn := inn) hpr)
  have hIL := init_len bs F
  have hRL := runV_len (inpV ps inn ps.length) (codeM ps bs F) (initM bs F)
  have hRs : ∀ z ∈ (runV (inpV ps inn ps.length) (codeM ps bs F) (initM bs F)).1, -2147483648 ≤ z ∧ z < 2147483648 := runV_short (inn := inpV ps inn ps.length) (fun z hz => init_short hz)
  obtain ⟨hFl, hall, _⟩ := cp_facts h0
  have hsr := sc_range hall
  have hil := inp_len ps inn
  have ND := fun (hov : (runV (inpV ps inn ps.length) (codeM ps bs F) (initM bs F)).2 = false) (j : Nat) (y : Bk) (hy : bs[j]? = some y) => near_delay (inn := inpV ps inn ps.length) he h0 hov hy
  have NI := fun (hov : (runV (inpV ps inn ps.length) (codeM ps bs F) (initM bs F)).2 = false) (j : Nat) (y : Bk) (hy : bs[j]? = some y) (k0 : y.kind = 0) (a r : Int) (p : Prt) => near_input (inn := inpV ps inn ps.length) he h0 hov hy k0 (a := a) (r := r) (p := p)
  have NB := fun (hov : (runV (inpV ps inn ps.length) (codeM ps bs F) (initM bs F)).2 = false) (j : Nat) (y : Bk) (hy : bs[j]? = some y) => near_block (inn := inpV ps inn ps.length) he h0 hov hy
  generalize hin : inpV ps inn ps.length = raw at *
  generalize (runV raw (codeM ps bs F) (initM bs F)).1 = V at *
  generalize hO : (runV raw (codeM ps bs F) (initM bs F)).2 = ov at *
  generalize outsV V os = out at RU
  by_cases hov : ov = true
  case pos =>
    subst hov
    repeat' (with_reducible first | apply qa | apply qb | apply qc | apply qd | apply qe | apply qf | apply qg | apply qh | apply qi | apply qj | apply qk | apply ql rfl | apply qm rfl | apply qn rfl | (refine Tx 0 ?_; refine Jn xBo ?_; refine Ja ?_; refine Je ?_) | (refine Tx 1 ?_; refine Jo (xCl Tryd.func9 (awake15_cv)) ?_; refine Jo (by first | exact ok_not rfl rfl | exact ok_neg64 rfl rfl (by omega)) ?_; refine Jm ?_; (first | refine Jd ?_ | refine Jy (xLa tk_Diagram) ?_); (first | refine Jd ?_ | refine Jy (xCl Tryd.func17 (LT)) ?_); (first | refine Jd ?_ | refine Jy (by first | exact ok_not rfl rfl | exact ok_neg64 rfl rfl (by omega)) ?_); refine Jo xPk ?_; refine Jm ?_; (first | refine Jd ?_ | refine Jy (by exact ok_mv1 rfl rfl) ?_); (first | refine Jd ?_ | refine Jy (xLn ts_s_int) ?_); (first | refine Jd ?_ | refine Jy xGt ?_); refine Jo xPk ?_; refine Jm ?_; (first | refine Jd ?_ | refine Jy (by exact ok_mv1 rfl rfl) ?_); (first | refine Jd ?_ | refine Jy (xLn ts_s_int) ?_); (first | refine Jd ?_ | refine Jy xGt ?_); refine Jo xPk ?_; refine Jm ?_; (first | refine Jd ?_ | refine Jy (xLa tk_Diagram) ?_); (first | refine Jd ?_ | refine Jy (xCl Tryd.func19 (RC.cv)) ?_); (first | refine Jd ?_ | refine Jy xNe ?_); refine Jo (by first | exact ok_neqD rfl rfl rfl (bne_f rfl) | exact xPk) ?_; refine Je ?_) | (refine Tx 3 ?_; refine Jo (xLa tk_Diagram) ?_; refine Jm ?_; refine Jo (xCl Tryd.func18 (CP)) ?_; refine Jo (by exact ok_mvT rfl rfl) ?_; refine Jo (by exact ok_exA rfl rfl rfl) ?_; refine Jo xEx ?_; refine Jn (by exact ok_alloc rfl tz_Program) ?_; refine Js (xSk tk_Program) ?_; refine Ja ?_; refine Je ?_) | (refine Tx 4 ?_; refine Jm ?_; refine Jo (by first | exact ok_neqE rfl ti_error rfl (bne_f rfl) | exact ok_neqE rfl ti_error rfl (bne_f (by first | rfl | omega)) | exact ok_neqE rfl ti_error rfl (bne_t (by first | assumption | omega)) | exact ok_neqE rfl ti_error rfl rfl) ?_; refine Je ?_) | (refine Tx 6 ?_; refine Jo (xLa tk_Program) ?_; refine Jo (xCl Tryd.func23 (ST)) ?_; refine Jo (by exact ok_mvT rfl rfl) ?_; refine Jo xEx ?_; refine Jo xEx ?_; refine Ja ?_; refine Ja ?_; refine Je ?_) | (refine Tx 7 ?_; refine Jo (xLa tk_Diagram) ?_; refine Jm ?_; refine Jo (xCl Tryd.func24 (IN)) ?_; refine Ja ?_; refine Je ?_) | (refine Tx 8 ?_; refine Jo (xLa tk_Program) ?_; refine Jm ?_; refine Jm ?_; refine Jo (xCl Tryd.func25 (RU)) ?_; refine Jo (by exact ok_mvT rfl rfl) ?_; refine Jo (by exact ok_exA rfl rfl rfl) ?_; refine Jo xEx ?_; refine Jn (by exact ok_alloc rfl tz_CodeRun) ?_; refine Js (xSk tk_CodeRun) ?_; refine Ja ?_; refine Je ?_) | (refine Tx 9 ?_; refine Jm ?_; refine Jo (by first | exact ok_neqE rfl ti_error rfl (bne_f rfl) | exact ok_neqE rfl ti_error rfl (bne_f (by first | rfl | omega)) | exact ok_neqE rfl ti_error rfl (bne_t (by first | assumption | omega)) | exact ok_neqE rfl ti_error rfl rfl) ?_; refine Jm ?_; (first | refine Jd ?_ | refine Jy (by exact ok_mv1 rfl rfl) ?_); (first | refine Jd ?_ | refine Jy (by first | exact ok_neqE rfl ti_error rfl (bne_f rfl) | exact ok_neqE rfl ti_error rfl (bne_f (by first | rfl | omega)) | exact ok_neqE rfl ti_error rfl (bne_t (by first | assumption | omega)) | exact ok_neqE rfl ti_error rfl rfl) ?_); refine Jo xPk ?_; refine Jm ?_; (first | refine Jd ?_ | refine Jy (xFa tf_CodeRun0 tk_s_int) ?_); (first | refine Jd ?_ | refine Jy (xLd tk_s_int) ?_); (first | refine Jd ?_ | refine Jy (xLn ts_s_int) ?_); (first | refine Jd ?_ | refine Jy (xFa tf_Diagram1 tk_s_Block) ?_); (first | refine Jd ?_ | refine Jy (xLd tk_s_Block) ?_); (first | refine Jd ?_ | refine Jy (xLn ts_s_Block) ?_); (first | refine Jd ?_ | refine Jy xLt ?_); refine Jo xPk ?_; refine Jm ?_; (first | refine Jd ?_ | refine Jy (by exact ok_mv1 rfl rfl) ?_); (first | refine Jd ?_ | refine Jy (xLn ts_s_int) ?_); (first | refine Jd ?_ | refine Jy (xFa tf_Diagram1 tk_s_Block) ?_); (first | refine Jd ?_ | refine Jy (xLd tk_s_Block) ?_); (first | refine Jd ?_ | refine Jy (xLn ts_s_Block) ?_); (first | refine Jd ?_ | refine Jy xLt ?_); refine Jo xPk ?_; refine Jm ?_; (first | refine Jd ?_ | refine Jy (by exact ok_mv1 rfl rfl) ?_); (first | refine Jd ?_ | refine Jy (xLn ts_s_int) ?_); (first | refine Jd ?_ | refine Jy (xFa tf_Diagram1 tk_s_Block) ?_); (first | refine Jd ?_ | refine Jy (xLd tk_s_Block) ?_); (first | refine Jd ?_ | refine Jy (xLn ts_s_Block) ?_); (first | refine Jd ?_ | refine Jy xNe ?_); refine Jo xPk ?_; refine Je ?_) | (refine Tx 11 ?_; refine Jo (xFa tf_CodeRun2 tk_bool) ?_; refine Jo (xLd tk_bool) ?_; refine Je ?_) | (refine Tx 12 ?_; refine Ja ?_; refine Je ?_))
    exact ret_q rfl (.cons_ (rv_b rfl (rfl)) .nil_)
  rw [Bool.not_eq_true] at hov
  subst hov
  have ND := ND rfl
  have NI := NI rfl
  have NB := NB rfl
  repeat' (with_reducible first | apply qa | apply qb | apply qc | apply qd | apply qe | apply qf | apply qg | apply qh | apply qi | apply qj | apply qk | apply ql rfl | apply qm rfl | apply qn rfl | (refine Tx 0 ?_; refine Jn xBo ?_; refine Ja ?_; refine Je ?_) | (refine Tx 1 ?_; refine Jo (xCl Tryd.func9 (awake15_cv)) ?_; refine Jo (by first | exact ok_not rfl rfl | exact ok_neg64 rfl rfl (by omega)) ?_; refine Jm ?_; (first | refine Jd ?_ | refine Jy (xLa tk_Diagram) ?_); (first | refine Jd ?_ | refine Jy (xCl Tryd.func17 (LT)) ?_); (first | refine Jd ?_ | refine Jy (by first | exact ok_not rfl rfl | exact ok_neg64 rfl rfl (by omega)) ?_); refine Jo xPk ?_; refine Jm ?_; (first | refine Jd ?_ | refine Jy (by exact ok_mv1 rfl rfl) ?_); (first | refine Jd ?_ | refine Jy (xLn ts_s_int) ?_); (first | refine Jd ?_ | refine Jy xGt ?_); refine Jo xPk ?_; refine Jm ?_; (first | refine Jd ?_ | refine Jy (by exact ok_mv1 rfl rfl) ?_); (first | refine Jd ?_ | refine Jy (xLn ts_s_int) ?_); (first | refine Jd ?_ | refine Jy xGt ?_); refine Jo xPk ?_; refine Jm ?_; (first | refine Jd ?_ | refine Jy (xLa tk_Diagram) ?_); (first | refine Jd ?_ | refine Jy (xCl Tryd.func19 (RC.cv)) ?_); (first | refine Jd ?_ | refine Jy xNe ?_); refine Jo (by first | exact ok_neqD rfl rfl rfl (bne_f rfl) | exact xPk) ?_; refine Je ?_) | (refine Tx 3 ?_; refine Jo (xLa tk_Diagram) ?_; refine Jm ?_; refine Jo (xCl Tryd.func18 (CP)) ?_; refine Jo (by exact ok_mvT rfl rfl) ?_; refine Jo (by exact ok_exA rfl rfl rfl) ?_; refine Jo xEx ?_; refine Jn (by exact ok_alloc rfl tz_Program) ?_; refine Js (xSk tk_Program) ?_; refine Ja ?_; refine Je ?_) | (refine Tx 4 ?_; refine Jm ?_; refine Jo (by first | exact ok_neqE rfl ti_error rfl (bne_f rfl) | exact ok_neqE rfl ti_error rfl (bne_f (by first | rfl | omega)) | exact ok_neqE rfl ti_error rfl (bne_t (by first | assumption | omega)) | exact ok_neqE rfl ti_error rfl rfl) ?_; refine Je ?_) | (refine Tx 6 ?_; refine Jo (xLa tk_Program) ?_; refine Jo (xCl Tryd.func23 (ST)) ?_; refine Jo (by exact ok_mvT rfl rfl) ?_; refine Jo xEx ?_; refine Jo xEx ?_; refine Ja ?_; refine Ja ?_; refine Je ?_) | (refine Tx 7 ?_; refine Jo (xLa tk_Diagram) ?_; refine Jm ?_; refine Jo (xCl Tryd.func24 (IN)) ?_; refine Ja ?_; refine Je ?_) | (refine Tx 8 ?_; refine Jo (xLa tk_Program) ?_; refine Jm ?_; refine Jm ?_; refine Jo (xCl Tryd.func25 (RU)) ?_; refine Jo (by exact ok_mvT rfl rfl) ?_; refine Jo (by exact ok_exA rfl rfl rfl) ?_; refine Jo xEx ?_; refine Jn (by exact ok_alloc rfl tz_CodeRun) ?_; refine Js (xSk tk_CodeRun) ?_; refine Ja ?_; refine Je ?_) | (refine Tx 9 ?_; refine Jm ?_; refine Jo (by first | exact ok_neqE rfl ti_error rfl (bne_f rfl) | exact ok_neqE rfl ti_error rfl (bne_f (by first | rfl | omega)) | exact ok_neqE rfl ti_error rfl (bne_t (by first | assumption | omega)) | exact ok_neqE rfl ti_error rfl rfl) ?_; refine Jm ?_; (first | refine Jd ?_ | refine Jy (by exact ok_mv1 rfl rfl) ?_); (first | refine Jd ?_ | refine Jy (by first | exact ok_neqE rfl ti_error rfl (bne_f rfl) | exact ok_neqE rfl ti_error rfl (bne_f (by first | rfl | omega)) | exact ok_neqE rfl ti_error rfl (bne_t (by first | assumption | omega)) | exact ok_neqE rfl ti_error rfl rfl) ?_); refine Jo xPk ?_; refine Jm ?_; (first | refine Jd ?_ | refine Jy (xFa tf_CodeRun0 tk_s_int) ?_); (first | refine Jd ?_ | refine Jy (xLd tk_s_int) ?_); (first | refine Jd ?_ | refine Jy (xLn ts_s_int) ?_); (first | refine Jd ?_ | refine Jy (xFa tf_Diagram1 tk_s_Block) ?_); (first | refine Jd ?_ | refine Jy (xLd tk_s_Block) ?_); (first | refine Jd ?_ | refine Jy (xLn ts_s_Block) ?_); (first | refine Jd ?_ | refine Jy xLt ?_); refine Jo xPk ?_; refine Jm ?_; (first | refine Jd ?_ | refine Jy (by exact ok_mv1 rfl rfl) ?_); (first | refine Jd ?_ | refine Jy (xLn ts_s_int) ?_); (first | refine Jd ?_ | refine Jy (xFa tf_Diagram1 tk_s_Block) ?_); (first | refine Jd ?_ | refine Jy (xLd tk_s_Block) ?_); (first | refine Jd ?_ | refine Jy (xLn ts_s_Block) ?_); (first | refine Jd ?_ | refine Jy xLt ?_); refine Jo xPk ?_; refine Jm ?_; (first | refine Jd ?_ | refine Jy (by exact ok_mv1 rfl rfl) ?_); (first | refine Jd ?_ | refine Jy (xLn ts_s_int) ?_); (first | refine Jd ?_ | refine Jy (xFa tf_Diagram1 tk_s_Block) ?_); (first | refine Jd ?_ | refine Jy (xLd tk_s_Block) ?_); (first | refine Jd ?_ | refine Jy (xLn ts_s_Block) ?_); (first | refine Jd ?_ | refine Jy xNe ?_); refine Jo xPk ?_; refine Je ?_) | (refine Tx 11 ?_; refine Jo (xFa tf_CodeRun2 tk_bool) ?_; refine Jo (xLd tk_bool) ?_; refine Je ?_) | (refine Tx 13 ?_; refine Jo (xFa tf_Diagram1 tk_s_Block) ?_; refine Jo (xLd tk_s_Block) ?_; refine Jo (xLn ts_s_Block) ?_; refine Jm ?_; refine Je ?_))
  refine cw_wk (F' := ofL [(1, vd (rowI true F)), (3, vr 0), (9, vd (rowI false (initM bs F))), (11, vd (rowI false raw)), (12, vr 2), (101, vd (rowB true bs)), (102, vi bs.length), (103, vi ((0 : Nat)))]) (H' := [.box 46 [.d (rowP true ps), .d (rowB true bs), .d (rowI true os)], .box 50 [.d (rowP false ps), .d (rowI false (initM bs F)), .d (rowN false (codeM ps bs F)), .d (rowI false os)], .box 63 [.d (rowI false V), .d (rowI false out), .d (.val (.bool false))]]) (wk_go [(1, vd (rowI true F)), (3, vr 0), (9, vd (rowI false (initM bs F))), (11, vd (rowI false raw)), (12, vr 2), (101, vd (rowB true bs)), (102, vi bs.length), (103, vi ((0 : Nat)))] 3 ?_ ?_ ?_) ?_
  · rfl
  · exact mB rfl rfl
  · exact ⟨bel_lit rfl, bel_lit rfl, bel_lit rfl, trivial⟩
  refine cw_loopW (fun n Fr H => ∃ k : Nat, k ≤ bs.length ∧ n = bs.length - k ∧ Fr = ofL [(1, vd (rowI true F)), (3, vr 0), (9, vd (rowI false (initM bs F))), (11, vd (rowI false raw)), (12, vr 2), (101, vd (rowB true bs)), (102, vi bs.length), (103, vi ((k : Nat)))] ∧ H = [.box 46 [.d (rowP true ps), .d (rowB true bs), .d (rowI true os)], .box 50 [.d (rowP false ps), .d (rowI false (initM bs F)), .d (rowN false (codeM ps bs F)), .d (rowI false os)], .box 63 [.d (rowI false V), .d (rowI false out), .d (.val (.bool false))]]) (n0 := bs.length) ⟨0, Nat.zero_le _, rfl, rfl, rfl⟩ ?_
  rintro n Fr H ⟨j, hj, rfl, rfl, rfl⟩
  by_cases hlt : j < bs.length
  case pos =>
    obtain ⟨y, hy⟩ : ∃ y, bs[j]? = some y := ⟨_, List.getElem?_eq_getElem hlt⟩
    have hYK := kindA_of hy
    have hs := hsr j
    obtain ⟨s, hFs⟩ : ∃ s, F[j]? = some s := ⟨_, List.getElem?_eq_getElem (by omega)⟩
    have hse : scA F j = s := sc_of hFs
    rw [hse] at hs
    by_cases k2 : y.kind = 2
    case pos =>
      obtain ⟨a, C, I, hA0, a0, a1, hI, hC, ⟨n0, n1, e0, e1⟩, b1, hbv, z0, z1, b2⟩ := ND j y hy k2
      rw [hse] at b1 b2
      have hyl := (List.getElem?_eq_some_iff.1 hA0).1
      have hsa := hsr a.toNat
      obtain ⟨sa, hFa⟩ : ∃ sa, F[a.toNat]? = some sa := ⟨_, List.getElem?_eq_getElem (by omega)⟩
      have hsae : scA F a.toNat = sa := sc_of hFa
      rw [hsae] at hsa b2
      generalize zA bs F V a = z at *
      have hIs := shortB_t (init_short (List.mem_of_getElem? hI))
      have hCs := hRs C (List.mem_of_getElem? hC)
      have S1 := scaled_cv I s (by omega) (by omega) (by omega) (by omega)
      have RV := (rvalue_cv (G := TabAt) y.vn y.ve (by omega) (by omega)).cv
      have N1 := near_cv (p := dyShift I 0 (-s)) (q := dyShift y.vn 0 y.ve) (u := 1) (f := s) ((Sm.shift (n := 32) (by omega) (by omega) (by omega)).more (by decide) (by decide)) ((Sm.shift (n := 32) (by omega) (by omega) (by omega)).more (by decide) (by decide)) (Rp.shift (by omega) (by omega)) (Rp.shift (by omega) (by omega)) (by omega) (by omega) (by omega) (by omega) b1
      have S2 := scaled_cv C s (by omega) (by omega) (by omega) (by omega)
      have S3 := scaled_cv z sa (by omega) (by omega) (by omega) (by omega)
      have N2 := near_cv (p := dyShift C 0 (-s)) (q := dyShift z 0 (-sa)) (u := 1) (f := s) ((Sm.shift (n := 32) (by omega) (by omega) (by omega)).more (by decide) (by decide)) ((Sm.shift (n := 32) (by omega) (by omega) (by omega)).more (by decide) (by decide)) (Rp.shift (by omega) (by omega)) (Rp.shift (by omega) (by omega)) (by omega) (by omega) (by omega) (by omega) b2
      have BF := before_cv (ps := ps) (bs := bs) (os := os) (old := initM bs F) (now := V) (i := a.toNat) (j := a) true false false (by omega) (by omega) (by omega) (by omega) (by have := hbv; unfold bef at this; exact this)
      repeat' (with_reducible first | apply qa | apply qb | apply qc | apply qd | apply qe | apply qf | apply qg | apply qh | apply qi | apply qj | apply qk | apply ql rfl | apply qm rfl | apply qn rfl | (refine Tx 14 ?_; refine Jo xLt ?_; refine Je ?_) | (refine Tx 15 ?_; refine Jm ?_; refine Jo (xIr ts_s_Block (bk_at hy)) ?_; refine Jo (xLa tk_Block) ?_; refine Jn (by exact ok_alloc rfl tz_Block) ?_; refine Ja ?_; refine Js (xSk tk_Block) ?_; refine Je ?_) | (refine Tx 16 ?_; refine Jo (xFa tf_Block0 tk_int) ?_; refine Jo (xLd tk_int) ?_; refine Jo xEq ?_; refine Je ?_) | (refine cw_any (id := 17) mixed (by kernel_rfl) ?_; refine Km ?_; refine Km ?_; refine Ko (by first | exact xIr ts_s_int (int_at hI) | exact xIr ts_s_int (int_at hFs) | exact xIr ts_s_int (int_at hC) | exact xIr ts_s_int (int_at hFa)) ?_; refine Ko (xLd tk_int) ?_; refine Km ?_; refine Km ?_; refine Ko (by first | exact xIr ts_s_int (int_at hI) | exact xIr ts_s_int (int_at hFs) | exact xIr ts_s_int (int_at hC) | exact xIr ts_s_int (int_at hFa)) ?_; refine Ko (xLd tk_int) ?_; refine Ko (by first | exact xCl Tryd.func15 (S1) | exact xCl Tryd.func15 (S2) | exact xCl Tryd.func15 (S3)) ?_; refine Ko (xFa tf_Block2 tk_Scalar) ?_; refine Ko (xLa tk_Scalar) ?_; refine Ko (xCl Tryd.func14 (RV)) ?_; refine Km ?_; refine Km ?_; refine Ko (by first | exact xIr ts_s_int (int_at hI) | exact xIr ts_s_int (int_at hFs) | exact xIr ts_s_int (int_at hC) | exact xIr ts_s_int (int_at hFa)) ?_; refine Ko (xLd tk_int) ?_; refine Ko (by first | exact xCl Tryd.func26 (N1) | exact xCl Tryd.func26 (N2)) ?_; refine Ko (by first | exact ok_not rfl rfl | exact ok_neg64 rfl rfl (by omega)) ?_; refine Km ?_; (first | refine Kd ?_ | refine Ky (xFa tf_CodeRun0 tk_s_int) ?_); (first | refine Kd ?_ | refine Ky (xLd tk_s_int) ?_); (first | refine Kd ?_ | refine Ky (by exact ok_mv1 rfl rfl) ?_); (first | refine Kd ?_ | refine Ky (by first | exact xIr ts_s_int (int_at hI) | exact xIr ts_s_int (int_at hFs) | exact xIr ts_s_int (int_at hC) | exact xIr ts_s_int (int_at hFa)) ?_); (first | refine Kd ?_ | refine Ky (xLd tk_int) ?_); (first | refine Kd ?_ | refine Ky (by exact ok_mv1 rfl rfl) ?_); (first | refine Kd ?_ | refine Ky (by exact ok_mv1 rfl rfl) ?_); (first | refine Kd ?_ | refine Ky (by first | exact xIr ts_s_int (int_at hI) | exact xIr ts_s_int (int_at hFs) | exact xIr ts_s_int (int_at hC) | exact xIr ts_s_int (int_at hFa)) ?_); (first | refine Kd ?_ | refine Ky (xLd tk_int) ?_); (first | refine Kd ?_ | refine Ky (by first | exact xCl Tryd.func15 (S1) | exact xCl Tryd.func15 (S2) | exact xCl Tryd.func15 (S3)) ?_); (first | refine Kd ?_ | refine Ky (xLa tk_Diagram) ?_); (first | refine Kd ?_ | refine Ky (by exact ok_mv1 rfl rfl) ?_); (first | refine Kd ?_ | refine Ky (xFa tf_CodeRun0 tk_s_int) ?_); (first | refine Kd ?_ | refine Ky (xLd tk_s_int) ?_); (first | refine Kd ?_ | refine Ky (xFa tf_Block1 tk_s_int) ?_); (first | refine Kd ?_ | refine Ky (xLd tk_s_int) ?_); (first | refine Kd ?_ | refine Ky (xIr ts_s_int (int_at hA0)) ?_); (first | refine Kd ?_ | refine Ky (xLd tk_int) ?_); (first | refine Kd ?_ | refine Ky (xCl Tryd.func27 (BF)) ?_); (first | refine Kd ?_ | refine Ky (by exact ok_mv1 rfl rfl) ?_); (first | refine Kd ?_ | refine Ky (xFa tf_Block1 tk_s_int) ?_); (first | refine Kd ?_ | refine Ky (xLd tk_s_int) ?_); (first | refine Kd ?_ | refine Ky (xIr ts_s_int (int_at hA0)) ?_); (first | refine Kd ?_ | refine Ky (xLd tk_int) ?_); (first | refine Kd ?_ | refine Ky (by first | exact xIr ts_s_int (int_at hI) | exact xIr ts_s_int (int_at hFs) | exact xIr ts_s_int (int_at hC) | exact xIr ts_s_int (int_at hFa)) ?_); (first | refine Kd ?_ | refine Ky (xLd tk_int) ?_); (first | refine Kd ?_ | refine Ky (by first | exact xCl Tryd.func15 (S1) | exact xCl Tryd.func15 (S2) | exact xCl Tryd.func15 (S3)) ?_); (first | refine Kd ?_ | refine Ky (by exact ok_mv1 rfl rfl) ?_); (first | refine Kd ?_ | refine Ky (by exact ok_mv1 rfl rfl) ?_); (first | refine Kd ?_ | refine Ky (by first | exact xIr ts_s_int (int_at hI) | exact xIr ts_s_int (int_at hFs) | exact xIr ts_s_int (int_at hC) | exact xIr ts_s_int (int_at hFa)) ?_); (first | refine Kd ?_ | refine Ky (xLd tk_int) ?_); (first | refine Kd ?_ | refine Ky (by first | exact xCl Tryd.func26 (N1) | exact xCl Tryd.func26 (N2)) ?_); (first | refine Kd ?_ | refine Ky (by first | exact ok_not rfl rfl | exact ok_neg64 rfl rfl (by omega)) ?_); refine Ko xPk ?_; refine Ke ?_) | (refine Tx 34 ?_; refine Jo xAd ?_; refine Jm ?_; refine Je ?_))
      refine ⟨_, _, wk_go [(1, vd (rowI true F)), (3, vr 0), (9, vd (rowI false (initM bs F))), (11, vd (rowI false raw)), (12, vr 2), (101, vd (rowB true bs)), (102, vi bs.length), (103, vi (((j + 1) : Nat)))] 3 ?_ ?_ ?_, _, ?_, j + 1, by omega, rfl, rfl, rfl⟩
      · rfl
      · exact mB rfl rfl
      · exact ⟨bel_lit rfl, bel_lit rfl, bel_lit rfl, trivial⟩
      · omega
    obtain ⟨Cz, hC⟩ : ∃ C, V[j]? = some C := ⟨_, List.getElem?_eq_getElem (by omega)⟩
    have hCs := hRs Cz (List.mem_of_getElem? hC)
    have hac := acc_args he hy
    have hck := hac.2.1
    have hcg := hac.1
    repeat' (with_reducible first | apply qa | apply qb | apply qc | apply qd | apply qe | apply qf | apply qg | apply qh | apply qi | apply qj | apply qk | apply ql rfl | apply qm rfl | apply qn rfl | (refine Tx 14 ?_; refine Jo xLt ?_; refine Je ?_) | (refine Tx 15 ?_; refine Jm ?_; refine Jo (xIr ts_s_Block (bk_at hy)) ?_; refine Jo (xLa tk_Block) ?_; refine Jn (by exact ok_alloc rfl tz_Block) ?_; refine Ja ?_; refine Js (xSk tk_Block) ?_; refine Je ?_) | (refine Tx 16 ?_; refine Jo (xFa tf_Block0 tk_int) ?_; refine Jo (xLd tk_int) ?_; refine Jo xEq ?_; refine Je ?_) | (refine Tx 19 ?_; refine Jn (by exact ok_alloc rfl tz_Dyadic) ?_; refine Je ?_))
    refine cw_cut2 (fun F' H' => ∃ (q : Int × Nat) (W : Int), Sm q 1000 400 ∧ Rp q W ∧ (((Cz * un s - W).natAbs : Nat) : Int) ≤ unitsB y * un s ∧ F' = ofL [(1, vd (rowI true F)), (3, vr 0), (9, vd (rowI false (initM bs F))), (11, vd (rowI false raw)), (12, vr 2), (14, vi ((j : Nat))), (15, vr 3), (16, vr 4), (101, vd (rowB true bs)), (102, vi bs.length), (103, vi ((j : Nat)))] ∧ H' = [.box 46 [.d (rowP true ps), .d (rowB true bs), .d (rowI true os)], .box 50 [.d (rowP false ps), .d (rowI false (initM bs F)), .d (rowN false (codeM ps bs F)), .d (rowI false os)], .box 63 [.d (rowI false V), .d (rowI false out), .d (.val (.bool false))], .box 67 ((dBk true y).map C.d), .box 37 ((dDy false q.1 q.2).map C.d)]) ?_ ?_
    ·
      by_cases k0 : y.kind = 0
      case pos =>
        have hl : y.args.length = 1 := by rw [k0] at hck; simp [arityM] at hck; omega
        obtain ⟨a, hA0⟩ : ∃ a, y.args[0]? = some a := ⟨_, List.getElem?_eq_getElem (by omega)⟩
        have hr := hac.2.2 a (List.mem_of_getElem? hA0)
        rw [show mostM ps.length bs.length y.kind = ps.length from if_pos k0] at hr
        obtain ⟨p, hp⟩ : ∃ p, ps[a.toNat]? = some p := ⟨_, List.getElem?_eq_getElem (by omega)⟩
        obtain ⟨r, hr2⟩ : ∃ r, raw[a.toNat]? = some r := ⟨_, List.getElem?_eq_getElem (by omega)⟩
        obtain ⟨C2, hC2, f0, f1, hn⟩ := NI j y hy k0 a r p hA0 hr2 hp
        have hCC : Cz = C2 := Option.some.inj (hC.symm.trans hC2)
        subst hCC
        rw [hse] at hn
        have hrr := inp_fit (inn := inn) hpr a.toNat p r hp (by rw [hin]; exact hr2)
        have hpp := acc_port he hp
        have h3 : -2147483648 ≤ p.lo ∧ p.lo ≤ p.hi ∧ p.hi < 2147483648 ∧ 0 ≤ p.fr ∧ p.fr ≤ 30 := Classical.byContradiction fun hn => by unfold portE at hpp; rw [if_neg hn] at hpp; cases hpp
        have PO := port_cv p r (by omega) (by omega) (by omega) (by omega)
        repeat' (with_reducible first | apply qa | apply qb | apply qc | apply qd | apply qe | apply qf | apply qg | apply qh | apply qi | apply qj | apply qk | apply ql rfl | apply qm rfl | apply qn rfl | (refine Tx 20 ?_; refine Jo (xFa tf_Block0 tk_int) ?_; refine Jo (xLd tk_int) ?_; refine Jo xEq ?_; refine Je ?_) | (refine cw_part (id := 21) 16 mixed (by kernel_rfl) ?_; dsimp only [List.take, List.drop]; refine Ko (xFa tf_Diagram0 tk_s_Port) ?_; refine Ko (xLd tk_s_Port) ?_; refine Ko (xFa tf_Block1 tk_s_int) ?_; refine Ko (xLd tk_s_int) ?_; refine Ko (xIr ts_s_int (int_at hA0)) ?_; refine Ko (xLd tk_int) ?_; refine Ko (xIr ts_s_Port (prt_at hp)) ?_; refine Ko (xLa tk_Port) ?_; refine Km ?_; refine Ko (xFa tf_Block1 tk_s_int) ?_; refine Ko (xLd tk_s_int) ?_; refine Ko (xIr ts_s_int (int_at hA0)) ?_; refine Ko (xLd tk_int) ?_; refine Ko (xIr ts_s_int (int_at hr2)) ?_; refine Ko (xLd tk_int) ?_; refine Ko (xCl Tryd.func28 (PO)) ?_; refine Ke ?_; refine Js (xSk tk_Dyadic) ?_; refine Je ?_))
        exact ⟨_, _, wk_go [(1, vd (rowI true F)), (3, vr 0), (9, vd (rowI false (initM bs F))), (11, vd (rowI false raw)), (12, vr 2), (14, vi ((j : Nat))), (15, vr 3), (16, vr 4), (101, vd (rowB true bs)), (102, vi bs.length), (103, vi ((j : Nat)))] 5 rfl (mB rfl rfl) ⟨bel_lit rfl, bel_lit rfl, bel_lit rfl, bel_lit rfl, bel_lit rfl, trivial⟩, dyShift r 0 (-p.fr), r * un p.fr, ((Sm.shift (n := 32) (by omega) (by omega) (by omega)).more (by decide) (by decide)), Rp.shift (by omega) (by omega), hn, rfl, rfl⟩
      obtain ⟨C2, W, hC2, hW, hSm, hn⟩ := NB j y hy k0 k2
      have hCC : Cz = C2 := Option.some.inj (hC.symm.trans hC2)
      subst hCC
      rw [hse] at hn
      have hbef := fun (a : Int) => bef_val (bs := bs) (F := F) (a := a) hRL (fun z hz => decide_eq_true (hRs z hz))
      have hAL : (argL bs F V y).length = y.args.length := by unfold argL; rw [List.length_map]
      have hal : y.args.length ≤ 2 := by unfold arityM at hck hcg; (repeat' split at hck) <;> omega
      repeat' (with_reducible first | apply qa | apply qb | apply qc | apply qd | apply qe | apply qf | apply qg | apply qh | apply qi | apply qj | apply qk | apply ql rfl | apply qm rfl | apply qn rfl | (refine Tx 20 ?_; refine Jo (xFa tf_Block0 tk_int) ?_; refine Jo (xLd tk_int) ?_; refine Jo xEq ?_; refine Je ?_) | (refine Tx 22 ?_; refine Ja ?_; refine Je ?_) | (refine Tx 23 ?_; refine Jo (xFa tf_Block1 tk_s_int) ?_; refine Jo (xLd tk_s_int) ?_; refine Jo (xLn ts_s_int) ?_; refine Jm ?_; refine Je ?_))
      refine cw_wk (wk_nil 17 37 3 rfl) ?_
      refine cw_wk (F' := ofL [(1, vd (rowI true F)), (3, vr 0), (9, vd (rowI false (initM bs F))), (11, vd (rowI false raw)), (12, vr 2), (14, vi ((j : Nat))), (15, vr 3), (16, vr 4), (101, vd (rowB true bs)), (102, vi bs.length), (103, vi ((j : Nat))), (184, vd (rowI true y.args)), (185, vi y.args.length), (17, vo 5 (((argL bs F V y).take 0).length)), (186, vi ((0 : Nat)))]) (H' := [.box 46 [.d (rowP true ps), .d (rowB true bs), .d (rowI true os)], .box 50 [.d (rowP false ps), .d (rowI false (initM bs F)), .d (rowN false (codeM ps bs F)), .d (rowI false os)], .box 63 [.d (rowI false V), .d (rowI false out), .d (.val (.bool false))], .box 67 ((dBk true y).map C.d), .box 37 [.d (.val (.bool false)), .d (.val (.slice none 0 0)), .d (.val (.int .i64 0))], .row 37 3 ((argL bs F V y).take (0)).length (cD (flatD dyP ((argL bs F V y).take (0))))]) (wk_go [(1, vd (rowI true F)), (3, vr 0), (9, vd (rowI false (initM bs F))), (11, vd (rowI false raw)), (12, vr 2), (14, vi ((j : Nat))), (15, vr 3), (16, vr 4), (101, vd (rowB true bs)), (102, vi bs.length), (103, vi ((j : Nat))), (184, vd (rowI true y.args)), (185, vi y.args.length), (17, vo 5 (((argL bs F V y).take 0).length)), (186, vi ((0 : Nat)))] 6 ?_ ?_ ?_) ?_
      · rfl
      · exact mB rfl rfl
      · exact ⟨bel_lit rfl, bel_lit rfl, bel_lit rfl, bel_lit rfl, bel_lit rfl, bel_d, trivial⟩
      refine cw_loopW (fun n Fr H => ∃ k : Nat, k ≤ y.args.length ∧ n = y.args.length - k ∧ Fr = ofL [(1, vd (rowI true F)), (3, vr 0), (9, vd (rowI false (initM bs F))), (11, vd (rowI false raw)), (12, vr 2), (14, vi ((j : Nat))), (15, vr 3), (16, vr 4), (101, vd (rowB true bs)), (102, vi bs.length), (103, vi ((j : Nat))), (184, vd (rowI true y.args)), (185, vi y.args.length), (17, vo 5 (((argL bs F V y).take k).length)), (186, vi ((k : Nat)))] ∧ H = [.box 46 [.d (rowP true ps), .d (rowB true bs), .d (rowI true os)], .box 50 [.d (rowP false ps), .d (rowI false (initM bs F)), .d (rowN false (codeM ps bs F)), .d (rowI false os)], .box 63 [.d (rowI false V), .d (rowI false out), .d (.val (.bool false))], .box 67 ((dBk true y).map C.d), .box 37 [.d (.val (.bool false)), .d (.val (.slice none 0 0)), .d (.val (.int .i64 0))], .row 37 3 ((argL bs F V y).take (k)).length (cD (flatD dyP ((argL bs F V y).take (k))))]) (n0 := y.args.length) ⟨0, Nat.zero_le _, rfl, rfl, rfl⟩ ?_
      rintro n Fr H ⟨k, hk, rfl, rfl, rfl⟩
      by_cases hlk : k < y.args.length
      case pos =>
        obtain ⟨a, ha⟩ : ∃ a, y.args[k]? = some a := ⟨_, List.getElem?_eq_getElem hlk⟩
        have hr := hac.2.2 a (List.mem_of_getElem? ha)
        rw [show mostM ps.length bs.length y.kind = bs.length from if_neg k0] at hr
        obtain ⟨hbv, z0, z1⟩ := hbef a hr.1 hr.2
        have hsa := hsr a.toNat
        obtain ⟨sa, hFa⟩ : ∃ sa, F[a.toNat]? = some sa := ⟨_, List.getElem?_eq_getElem (by omega)⟩
        have hsae : scA F a.toNat = sa := sc_of hFa
        rw [hsae] at hsa
        have hat : (argL bs F V y)[k]? = some (dyShift (zA bs F V a) 0 (-sa)) := by unfold argL; rw [List.getElem?_map, ha, ← hsae]; rfl
        have hap : cD (flatD dyP ((argL bs F V y).take (k))) ++ cD (dyP (dyShift (zA bs F V a) 0 (-sa))) = cD (flatD dyP ((argL bs F V y).take (k + 1))) := by rw [List.take_add_one, hat, flatD_app, ← cD_app]; rfl
        have hap2 : ((argL bs F V y).take (k)).length + 1 = ((argL bs F V y).take (k + 1)).length := by rw [List.take_add_one, hat, List.length_append]; rfl
        have hol : ((argL bs F V y).take (k)).length ≤ k := by rw [List.length_take]; omega
        have BF := before_cv (ps := ps) (bs := bs) (os := os) (old := initM bs F) (now := V) (i := a.toNat) (j := a) true false false (by omega) (by omega) (by omega) (by omega) (by have := hbv; unfold bef at this; exact this)
        have S3 := scaled_cv (zA bs F V a) sa (by omega) (by omega) (by omega) (by omega)
        repeat' (with_reducible first | apply qa | apply qb | apply qc | apply qd | apply qe | apply qf | apply qg | apply qh | apply qi | apply qj | apply qk | apply ql rfl | apply qm rfl | apply qn rfl | (refine Tx 24 ?_; refine Jo xLt ?_; refine Je ?_) | (refine Tx 25 ?_; refine Jo (by first | exact xIr ts_s_int (int_at ha) | exact xIr ts_s_int (int_at hFa)) ?_; refine Jo (xLd tk_int) ?_; refine Ja ?_; refine Je ?_) | (refine cw_part (id := 26) 13 mixed (by kernel_rfl) ?_; dsimp only [List.take, List.drop]; refine Km ?_; refine Ko (xLa tk_Diagram) ?_; refine Km ?_; refine Ko (xFa tf_CodeRun0 tk_s_int) ?_; refine Ko (xLd tk_s_int) ?_; refine Km ?_; refine Ko (xCl Tryd.func27 (BF)) ?_; refine Km ?_; refine Km ?_; refine Ko (by first | exact xIr ts_s_int (int_at ha) | exact xIr ts_s_int (int_at hFa)) ?_; refine Ko (xLd tk_int) ?_; refine Ko (xCl Tryd.func15 (S3)) ?_; refine Kn (by exact ok_build1 rfl ts_s_Dyadic tz_Dyadic rfl rfl (by decide) (by decide)) ?_; refine Ke ?_; refine Jt (by exact to_apD rfl rfl rfl rfl rfl rfl ts_s_Dyadic tz_Dyadic (by omega) (by decide) (by decide) rfl hap hap2) ?_; refine Ja ?_; refine Je ?_) | (refine Tx 27 ?_; refine Jo xAd ?_; refine Jm ?_; refine Je ?_))
        refine ⟨_, _, wk_go [(1, vd (rowI true F)), (3, vr 0), (9, vd (rowI false (initM bs F))), (11, vd (rowI false raw)), (12, vr 2), (14, vi ((j : Nat))), (15, vr 3), (16, vr 4), (101, vd (rowB true bs)), (102, vi bs.length), (103, vi ((j : Nat))), (184, vd (rowI true y.args)), (185, vi y.args.length), (17, vo 5 (((argL bs F V y).take ((k + 1))).length)), (186, vi (((k + 1) : Nat)))] 6 ?_ ?_ ?_, _, ?_, k + 1, by omega, rfl, rfl, rfl⟩
        · rfl
        · exact mB rfl rfl
        · exact ⟨bel_lit rfl, bel_lit rfl, bel_lit rfl, bel_lit rfl, bel_lit rfl, bel_d, trivial⟩
        · omega
      obtain rfl : k = y.args.length := by omega
      clear hlk hk
      rw [show (argL bs F V y).take y.args.length = argL bs F V y by rw [← hAL, List.take_length]]
      have hSmA : ∀ p ∈ argL bs F V y, Sm p 300 200 := fun p hp => by
        obtain ⟨a, ha, rfl⟩ := List.mem_map.1 hp
        have hr := hac.2.2 a ha
        rw [show mostM ps.length bs.length y.kind = bs.length from if_neg k0] at hr
        obtain ⟨_, z0, z1⟩ := hbef a hr.1 hr.2
        have hsa := hsr a.toNat
        exact (Sm.shift (n := 32) (by omega) (by omega) (by omega)).more (by decide) (by decide)
      have DB := dblock_cv true true y (argL bs F V y) (by unfold arityM at hck hcg; (repeat' split at hck) <;> omega) (fun h => by unfold arityM at hck hcg; (repeat' split at hck) <;> omega) (fun h => by unfold arityM at hck hcg; (repeat' split at hck) <;> omega) hSmA (sc_facts he h0 hy).1 (sc_facts he h0 hy).2
      repeat' (with_reducible first | apply qa | apply qb | apply qc | apply qd | apply qe | apply qf | apply qg | apply qh | apply qi | apply qj | apply qk | apply ql rfl | apply qm rfl | apply qn rfl | (refine Tx 24 ?_; refine Jo xLt ?_; refine Je ?_) | (refine Tx 28 ?_; refine Jo (xLa tk_Block) ?_; refine Jm ?_; refine Jo (xCl Tryd.func29 DB (ha := .cons_ (xexp_a rfl rfl (by repeat' first | exact lrel_n rfl rfl | refine lrel_c rfl rfl ?_ ?_ | exact cexp_d rfl (fun h => by cases h))) (.cons_ (xexp_1 rfl rfl (cexp_oT rfl rfl rfl)) .nil_))) ?_; refine Js (xSk tk_Dyadic) ?_; refine Je ?_))
      exact ⟨_, _, wk_go [(1, vd (rowI true F)), (3, vr 0), (9, vd (rowI false (initM bs F))), (11, vd (rowI false raw)), (12, vr 2), (14, vi ((j : Nat))), (15, vr 3), (16, vr 4), (101, vd (rowB true bs)), (102, vi bs.length), (103, vi ((j : Nat)))] 5 rfl (mB rfl rfl) ⟨bel_lit rfl, bel_lit rfl, bel_lit rfl, bel_lit rfl, bel_lit rfl, trivial⟩, _, W, hSm, hW, hn, rfl, rfl⟩
    ·
      rintro F' H' ⟨q, W, hq, hW, hn, rfl, rfl⟩
      have S2 := scaled_cv Cz s (by omega) (by omega) (by omega) (by omega)
      have hal : y.args.length ≤ 2 := by unfold arityM at hck hcg; (repeat' split at hck) <;> omega
      by_cases k11 : y.kind = 11
      case pos =>
        have hu : unitsB y = (max (y.args.length : Int) 1 + 1) := by unfold unitsB; rw [if_pos k11]
        rw [hu] at hn
        have N1 := near_cv (p := dyShift Cz 0 (-s)) (q := q) (u := (max (y.args.length : Int) 1 + 1)) (f := s) ((Sm.shift (n := 32) (by omega) (by omega) (by omega)).more (by decide) (by decide)) hq (Rp.shift (by omega) (by omega)) hW (by omega) (by omega) (by omega) (by omega) hn
        repeat' (with_reducible first | apply qa | apply qb | apply qc | apply qd | apply qe | apply qf | apply qg | apply qh | apply qi | apply qj | apply qk | apply ql rfl | apply qm rfl | apply qn rfl | (refine Tx 29 ?_; refine Jo (xFa tf_Block1 tk_s_int) ?_; refine Jo (xLd tk_s_int) ?_; refine Jo (xLn ts_s_int) ?_; refine Jo (by exact ok_max2 rfl rfl rfl) ?_; refine Ja ?_; refine Je ?_) | (refine Tx 30 ?_; refine Jo (xFa tf_Block0 tk_int) ?_; refine Jo (xLd tk_int) ?_; refine Jo xEq ?_; refine Je ?_) | (refine Tx 31 ?_; refine Jm ?_; refine Jo xAd ?_; refine Ja ?_; refine Je ?_) | (refine cw_any (id := 32) mixed (by kernel_rfl) ?_; refine Ko (xFa tf_CodeRun0 tk_s_int) ?_; refine Ko (xLd tk_s_int) ?_; refine Km ?_; refine Ko (by first | exact xIr ts_s_int (int_at hC) | exact xIr ts_s_int (int_at hFs)) ?_; refine Ko (xLd tk_int) ?_; refine Km ?_; refine Km ?_; refine Ko (by first | exact xIr ts_s_int (int_at hC) | exact xIr ts_s_int (int_at hFs)) ?_; refine Ko (xLd tk_int) ?_; refine Ko (xCl Tryd.func15 (S2)) ?_; refine Ko (xLa tk_Dyadic) ?_; refine Km ?_; refine Km ?_; refine Km ?_; refine Ko (by first | exact xIr ts_s_int (int_at hC) | exact xIr ts_s_int (int_at hFs)) ?_; refine Ko (xLd tk_int) ?_; refine Ko (xCl Tryd.func26 (N1)) ?_; refine Ko (by first | exact ok_not rfl rfl | exact ok_neg64 rfl rfl (by omega)) ?_; refine Ke ?_) | (refine Tx 34 ?_; refine Jo xAd ?_; refine Jm ?_; refine Je ?_))
        refine ⟨_, _, wk_go [(1, vd (rowI true F)), (3, vr 0), (9, vd (rowI false (initM bs F))), (11, vd (rowI false raw)), (12, vr 2), (101, vd (rowB true bs)), (102, vi bs.length), (103, vi (((j + 1) : Nat)))] 3 ?_ ?_ ?_, _, ?_, j + 1, by omega, rfl, rfl, rfl⟩
        · rfl
        · exact mB rfl rfl
        · exact ⟨bel_lit rfl, bel_lit rfl, bel_lit rfl, trivial⟩
        · omega
      case neg =>
        have hu : unitsB y = (max (y.args.length : Int) 1) := by unfold unitsB; rw [if_neg k11, Int.add_zero]
        rw [hu] at hn
        have N1 := near_cv (p := dyShift Cz 0 (-s)) (q := q) (u := (max (y.args.length : Int) 1)) (f := s) ((Sm.shift (n := 32) (by omega) (by omega) (by omega)).more (by decide) (by decide)) hq (Rp.shift (by omega) (by omega)) hW (by omega) (by omega) (by omega) (by omega) hn
        repeat' (with_reducible first | apply qa | apply qb | apply qc | apply qd | apply qe | apply qf | apply qg | apply qh | apply qi | apply qj | apply qk | apply ql rfl | apply qm rfl | apply qn rfl | (refine Tx 29 ?_; refine Jo (xFa tf_Block1 tk_s_int) ?_; refine Jo (xLd tk_s_int) ?_; refine Jo (xLn ts_s_int) ?_; refine Jo (by exact ok_max2 rfl rfl rfl) ?_; refine Ja ?_; refine Je ?_) | (refine Tx 30 ?_; refine Jo (xFa tf_Block0 tk_int) ?_; refine Jo (xLd tk_int) ?_; refine Jo xEq ?_; refine Je ?_) | (refine cw_any (id := 32) mixed (by kernel_rfl) ?_; refine Ko (xFa tf_CodeRun0 tk_s_int) ?_; refine Ko (xLd tk_s_int) ?_; refine Km ?_; refine Ko (by first | exact xIr ts_s_int (int_at hC) | exact xIr ts_s_int (int_at hFs)) ?_; refine Ko (xLd tk_int) ?_; refine Km ?_; refine Km ?_; refine Ko (by first | exact xIr ts_s_int (int_at hC) | exact xIr ts_s_int (int_at hFs)) ?_; refine Ko (xLd tk_int) ?_; refine Ko (xCl Tryd.func15 (S2)) ?_; refine Ko (xLa tk_Dyadic) ?_; refine Km ?_; refine Km ?_; refine Km ?_; refine Ko (by first | exact xIr ts_s_int (int_at hC) | exact xIr ts_s_int (int_at hFs)) ?_; refine Ko (xLd tk_int) ?_; refine Ko (xCl Tryd.func26 (N1)) ?_; refine Ko (by first | exact ok_not rfl rfl | exact ok_neg64 rfl rfl (by omega)) ?_; refine Ke ?_) | (refine Tx 34 ?_; refine Jo xAd ?_; refine Jm ?_; refine Je ?_))
        refine ⟨_, _, wk_go [(1, vd (rowI true F)), (3, vr 0), (9, vd (rowI false (initM bs F))), (11, vd (rowI false raw)), (12, vr 2), (101, vd (rowB true bs)), (102, vi bs.length), (103, vi (((j + 1) : Nat)))] 3 ?_ ?_ ?_, _, ?_, j + 1, by omega, rfl, rfl, rfl⟩
        · rfl
        · exact mB rfl rfl
        · exact ⟨bel_lit rfl, bel_lit rfl, bel_lit rfl, trivial⟩
        · omega
  obtain rfl : j = bs.length := by omega
  clear hlt hj
  repeat' (with_reducible first | apply qa | apply qb | apply qc | apply qd | apply qe | apply qf | apply qg | apply qh | apply qi | apply qj | apply qk | apply ql rfl | apply qm rfl | apply qn rfl | (refine Tx 14 ?_; refine Jo xLt ?_; refine Je ?_) | (refine Tx 35 ?_; refine Ja ?_; refine Je ?_))
  exact ret_q rfl (.cons_ (rv_b rfl (rfl)) .nil_)
end Go.Proofs.YtjlocofimlgaoaaDoor
