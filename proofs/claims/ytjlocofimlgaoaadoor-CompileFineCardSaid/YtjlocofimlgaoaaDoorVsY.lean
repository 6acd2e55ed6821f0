/- Dyadic numbers as data: the document's functions on them, told on values. No conditions. -/
import Derived.Test.YtjlocofimlgaoaaDoorVsP
import Derived.Test.YtjlocofimlgaoaaDoorRd
import Derived.Test.YtjlocofimlgaoaaDoorRaD
import Derived.Test.YtjlocofimlgaoaaDoorDgT
namespace Go.Proofs.YtjlocofimlgaoaaDoor
set_option linter.unusedVariables false
set_option linter.unusedSimpArgs false
set_option linter.unusedSectionVars false
open Go.RowKit

def wds (x : Int) : List D := (w32 (canon x.natAbs)).map D.val
def dDy (t : Bool) (x : Int) (d : Nat) : List D := [.val (.bool (decide (x < 0))), .row t 1 (canon x.natAbs).length (wds x), .val (.int .i64 (d : Int))]
def aDy (t : Bool) (x : Int) (d : Nat) : A := .agg (dDy t x d)
/-- A pair in its normal form. -/
def Nf (x : Int) (d : Nat) : Prop := d ≤ 65536 ∧ (d ≠ 0 → x % 2 = 1)
theorem dy_in {w : World} {S : Sets} {t : Bool} {x : Int} {d : Nat} {v : Value} (h : ARel w S (aDy t x d) v) (hS : ∀ t b, S t b → b < w.heap.size) (hn : Nf x d) : DyR w 0 w.heap.size v x d := by
  obtain ⟨xs, rfl, h1⟩ := h
  obtain ⟨a, l1, rfl, ha, h2⟩ := h1.uncons
  obtain ⟨b, l2, rfl, hb, h3⟩ := h2.uncons
  obtain ⟨c, l3, rfl, hc, h4⟩ := h3.uncons
  rw [h4.unnil]
  cases ha
  cases hc
  cases hb with
  | @row _ _ _ c cs A xs hc hA hl hx hm hr =>
    have hw : xs = w32 (canon x.natAbs) := vals_rel (vs := w32 (canon x.natAbs)) ⟨hx, hr⟩
    subst hw
    refine ⟨A, c, rfl, hA, hc, fun hne => ?_, fun a _ => Nat.zero_le _, hn.1, hn.2⟩
    obtain ⟨b, off, rfl, hb, hcell⟩ := hm (fun h => hne (List.map_eq_nil_iff.1 h))
    exact ⟨b, off, rfl, hS _ _ hb, hS _ _ hb, hcell⟩
theorem w32_one {l : List Nat} {v : Value} (h : v ∈ w32 l) : v.oneCell' = true := by
  simp only [w32, List.mem_map] at h
  obtain ⟨n, _, rfl⟩ := h
  rfl
theorem dy_out {w w' : World} {v : Value} {x : Int} {d : Nat} (h : DyR w' w.heap.size w'.heap.size v x d) : ARel w' (Fresh w w') (aDy false x d) v := by
  obtain ⟨A, c, rfl, h1, h2, h3, h4, h5, h6⟩ := h
  refine ⟨[.bool (decide (x < 0)), .slice A (canon x.natAbs).length c, .int .i64 (d : Int)], rfl, .cons_ (.val rfl) (.cons_ (.row (w32 (canon x.natAbs)) h2 h1 ?_ ?_ ?_ ?_) (.cons_ (.val rfl) .nil_))⟩
  · rw [wds, List.length_map, w32_len, Nat.mul_one]
  · rw [wds, List.length_map]
  · intro hne
    obtain ⟨b, off, rfl, h7, h8, h9⟩ := h3 (fun h => hne (by rw [wds, h]; rfl))
    exact ⟨b, off, rfl, ⟨rfl, h4 _ rfl, h8⟩, h9⟩
  · intro j u y hu hy
    rw [wds, List.getElem?_map, hy] at hu
    cases hu
    exact .val (w32_one (List.mem_of_getElem? hy))
theorem Nf.nf {m : Int} {p : Nat} (h : p ≤ 65536) : Nf (nf m p).1 (nf m p).2 := ⟨Nat.le_trans (nf_le m p) h, nf_odd m p⟩
theorem Nf.shift {x : Int} {d : Nat} {n : Int} (hd : (d : Int) - max (-65536) (min n 65536) ≤ 65536) (h : d ≤ 65536) : Nf (dyShift x d n).1 (dyShift x d n).2 := by
  unfold dyShift
  split
  · exact Nf.nf (by omega)
  · exact Nf.nf h
section
variable {G : World → Prop}
theorem of_cv (n : Int) (h1 : -9223372036854775808 ≤ n) (h2 : n < 9223372036854775808) : CVF Tryd.prog G 46 [aI n] [aDy false n 0] := fun w S vs hg hlt ha => by
  obtain ⟨u, hu, h3⟩ := one_arg ha
  subst hu
  cases h3
  exact (of_any n h1 h2 w).mono fun r w' ⟨v, he, hd, hb⟩ => ⟨v, he, dy_out hd, hb⟩
theorem dshift_cv (t : Bool) (x : Int) (d : Nat) (n : Int) (hn : Nf x d) (hl : (canon x.natAbs).length ≤ 50000) (hd : (d : Int) - max (-65536) (min n 65536) ≤ 65536) : CVF Tryd.prog G 44 [aDy t x d, aI n] [aDy false (dyShift x d n).1 (dyShift x d n).2] := fun w S vs hg hlt ha => by
  obtain ⟨v, vs', rfl, h1, ha⟩ := ha.uncons
  obtain ⟨u, hu, h2⟩ := one_arg ha
  subst hu
  cases h2
  exact (dshift_any (dy_in h1 hlt hn) (Nat.le_refl _) hl hd).mono fun r w' ⟨v, he, hd, hb⟩ => ⟨v, he, dy_out hd, hb⟩
theorem dcmp_cv (t t' : Bool) (x : Int) (dx : Nat) (y : Int) (dy : Nat) (hn : Nf x dx) (hm : Nf y dy) (l1 : (canon x.natAbs).length ≤ 50000) (l2 : (canon y.natAbs).length ≤ 50000) : CVF Tryd.prog G 16 [aDy t x dx, aDy t' y dy] [aI (dyCmp x dx y dy)] := fun w S vs hg hlt ha => by
  obtain ⟨v, vs', rfl, h1, ha⟩ := ha.uncons
  obtain ⟨u, hu, h2⟩ := one_arg ha
  subst hu
  exact (cmp_any (dy_in h1 hlt hn) (dy_in h2 hlt hm) (Nat.le_refl _) l1 l2).mono fun r w' ⟨he, hb⟩ => ⟨_, he, DRel.val rfl, hb⟩
theorem rvalue_cv (n e : Int) (h1 : -9223372036854775808 ≤ n) (h2 : n < 9223372036854775808) : CVF Tryd.prog G 14 [.agg [dI n, dI e]] [aDy false (dyShift n 0 e).1 (dyShift n 0 e).2] := fun w S vs hg hlt ha => by
  obtain ⟨u, hu, h3⟩ := one_arg ha
  subst hu
  obtain ⟨xs, rfl, h4⟩ := h3
  have h5 := vals_rel (vs := [.int .i64 n, .int .i64 e]) h4
  subst h5
  exact (rvalue_any n e h1 h2 w).mono fun r w' ⟨v, he, hd, hb⟩ => ⟨v, he, dy_out hd, hb⟩
end
theorem bis_cv (n k : Int) : CVF Tryd.prog TabAt 13 [aE n, aI k] [aB (isB n k)] := fun w S vs hg hlt ha => by
  obtain ⟨v, vs', rfl, h1, ha⟩ := ha.uncons
  obtain ⟨u, hu, h2⟩ := one_arg ha
  subst hu
  cases h1
  cases h2
  refine (is_any n k w).mono fun r w' ⟨he, hw⟩ => ?_
  subst hw
  exact ⟨_, he, DRel.val rfl, Below.refl _ _⟩
/-! plain laws -/
theorem sgI_eq {a b : Int} {p q : Nat} (h : a * 2 ^ p = b * 2 ^ q) : sgI a = sgI b := by rw [← sgI_mul a p, h, sgI_mul b q]
/-- The comparison of two numbers, from what they are times 2^q. -/
theorem cmp_sgn {a b A B : Int} {da db q : Nat} (ha : a * 2 ^ q = A * 2 ^ da) (hb : b * 2 ^ q = B * 2 ^ db) : dyCmp a da b db = sgI (A - B) := by
  unfold dyCmp dySum
  rw [sgI_eq (nf_eq _ _)]
  refine sgI_eq (p := q) (q := max da db) ?_
  have e1 : a * 2 ^ (max da db - da) * 2 ^ q = A * 2 ^ max da db := by
    rw [Int.mul_right_comm, ha, Int.mul_assoc, ← Int.pow_add]; congr 2; omega
  have e2 : b * 2 ^ (max da db - db) * 2 ^ q = B * 2 ^ max da db := by
    rw [Int.mul_right_comm, hb, Int.mul_assoc, ← Int.pow_add]; congr 2; omega
  rw [Int.add_mul, Int.neg_mul, Int.neg_mul, e1, e2, Int.sub_mul]
  omega
theorem shift_val {x k : Int} {q : Nat} (h1 : -65536 ≤ k) (h2 : k ≤ 65536) (hq : 0 ≤ k + q) : (dyShift x 0 k).1 * 2 ^ q = x * 2 ^ (k + q).toNat * 2 ^ (dyShift x 0 k).2 := by
  unfold dyShift
  rw [show max (-65536) (min k 65536) = k by omega]
  split
  · rename_i h
    rw [Nat.zero_add]
    have e := nf_eq x (-k).toNat
    rw [show q = (-k).toNat + (k + q).toNat by omega, Int.pow_add, ← Int.mul_assoc, e, Int.mul_right_comm]
    congr 3
    omega
  · rename_i h
    show x * 2 ^ k.toNat * 2 ^ q = x * 2 ^ (k + q).toNat * 2 ^ 0
    rw [Int.mul_assoc, ← Int.pow_add, Int.pow_zero, Int.mul_one]
    congr 2
    omega
end Go.Proofs.YtjlocofimlgaoaaDoor
