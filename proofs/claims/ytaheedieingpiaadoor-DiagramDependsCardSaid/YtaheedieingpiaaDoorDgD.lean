/- Two scalars compared: the document's way and the program's way agree. Condition: both are within their bounds. -/
import Derived.Test.YtaheedieingpiaaDoorDgC
namespace Go.Proofs.YtaheedieingpiaaDoor
set_option linter.unusedVariables false
set_option linter.unusedSimpArgs false
set_option linter.unusedSectionVars false
open Go.RowKit

/-- A scalar's value, times 2^62. -/
def sc62 (num ex : Int) : Int := num * 2 ^ (ex + 62).toNat
def scCmp (an ae bn be : Int) : Int := sgI (sc62 an ae - sc62 bn be)
theorem sc62_shift {num ex : Int} (h1 : -62 ≤ ex) (h2 : ex ≤ 30) : (dyShift num 0 ex).1 * 2 ^ 62 = sc62 num ex * 2 ^ (dyShift num 0 ex).2 := by
  unfold dyShift sc62
  have e : max (-65536) (min ex 65536) = ex := by omega
  rw [e]
  by_cases h : ex < 0
  · rw [if_pos h]
    obtain ⟨n, hn⟩ : ∃ n : Nat, ex = -(n : Int) := ⟨(-ex).toNat, by omega⟩
    have e1 : (-ex).toNat = n := by omega
    have e2 : (ex + 62).toNat = 62 - n := by omega
    rw [e1, e2, Nat.zero_add]
    have h3 := nf_eq num n
    have h4 : (2 : Int) ^ 62 = 2 ^ n * 2 ^ (62 - n) := by rw [← Int.pow_add, show n + (62 - n) = 62 by omega]
    rw [h4, ← Int.mul_assoc, h3, Int.mul_assoc, Int.mul_assoc, Int.mul_comm (2 ^ _) (2 ^ _)]
  · rw [if_neg h]
    obtain ⟨n, rfl⟩ := Int.eq_ofNat_of_zero_le (show 0 ≤ ex by omega)
    rw [Int.toNat_natCast, nf_done (by omega), show ((n : Int) + 62).toNat = n + 62 by omega, Int.pow_add]
    simp [Int.mul_assoc]
theorem pCmp_sc {an ae bn be : Int} (h1 : scOk an ae) (h2 : scOk bn be) : pCmp (dyShift an 0 ae).1 (dyShift an 0 ae).2 (dyShift bn 0 be).1 (dyShift bn 0 be).2 = scCmp an ae bn be := by
  have e1 := sc62_shift h1.2.2.1 h1.2.2.2 (num := an)
  have e2 := sc62_shift h2.2.2.1 h2.2.2.2 (num := bn)
  unfold pCmp scCmp
  revert e1 e2
  generalize dyShift an 0 ae = p
  generalize dyShift bn 0 be = q
  obtain ⟨x, dx⟩ := p
  obtain ⟨y, dy⟩ := q
  generalize sc62 an ae = V1
  generalize sc62 bn be = V2
  intro e1 e2
  dsimp only at e1 e2 ⊢
  rw [← sgI_mul _ 62, ← sgI_mul (V1 - V2) (max dx dy)]
  congr 1
  have f1 : (2 : Int) ^ max dx dy = 2 ^ dx * 2 ^ (max dx dy - dx) := by rw [← Int.pow_add, show dx + (max dx dy - dx) = max dx dy by omega]
  have f2 : (2 : Int) ^ max dx dy = 2 ^ dy * 2 ^ (max dx dy - dy) := by rw [← Int.pow_add, show dy + (max dx dy - dy) = max dx dy by omega]
  rw [Int.sub_mul, Int.sub_mul]
  congr 1
  · rw [f1, ← Int.mul_assoc, ← e1, Int.mul_assoc, Int.mul_assoc, Int.mul_comm (2 ^ _) (2 ^ _)]
  · rw [f2, ← Int.mul_assoc, ← e2, Int.mul_assoc, Int.mul_assoc, Int.mul_comm (2 ^ _) (2 ^ _)]
/-- Where the doubling of one number ends. -/
structure DblAt (n e n0 e0 e1 : Int) : Prop where
  eq : sc62 n e = sc62 n0 e0
  lo : -62 ≤ e
  hi : e ≤ e0
  least : e = e0 ∨ e1 ≤ e
  small : -4294967296 < n ∧ n < 4294967296
  same : e = e0 → n = n0
theorem sgI_pos {x : Int} (h : 0 < x) : sgI x = 1 := by unfold sgI; rw [if_neg (by omega), if_neg (by omega)]
theorem sgI_neg {x : Int} (h : x < 0) : sgI x = -1 := by unfold sgI; rw [if_neg (by omega), if_pos h]
theorem sc62_eq {n e : Int} (k : Nat) (h : -62 ≤ e - k) : sc62 n e = (n * 2 ^ k) * 2 ^ (e - k + 62).toNat := by
  unfold sc62
  rw [Int.mul_assoc, ← Int.pow_add, show k + (e - (k : Int) + 62).toNat = (e + 62).toNat by omega]
theorem sc62_zero (e : Int) : sc62 0 e = 0 := by simp [sc62]
theorem big_pos {n : Int} (h : 2147483648 ≤ n) (k : Nat) : 2147483648 ≤ n * 2 ^ k := by
  have hp : (1 : Int) ≤ 2 ^ k := by have := Int.pow_pos (n := 2) (m := k) (by decide); omega
  have := Int.mul_le_mul_of_nonneg_left hp (show 0 ≤ n by omega)
  omega
theorem big_neg {n : Int} (h : n ≤ -2147483648) (k : Nat) : n * 2 ^ k ≤ -2147483648 := by
  have := big_pos (n := -n) (by omega) k
  rw [Int.neg_mul] at this
  omega
theorem sgI_swap (x y : Int) : sgI (x - y) = -sgI (y - x) := by rw [← sgI_negv]; congr 1; omega
/-- The end: equal exponents, or the greater one's number is 0 or too great to be compared otherwise. -/
theorem cmp_end1 {a ea b eb : Int} (h1 : -62 ≤ eb) (h2 : eb ≤ ea) (h : ea = eb ∨ a = 0 ∨ 2147483648 ≤ a ∨ a ≤ -2147483648) (hb : -2147483648 < b ∧ b < 2147483648) : sgI (sc62 a ea - sc62 b eb) = sgI (a - b) := by
  obtain ⟨k, hk⟩ := Int.eq_ofNat_of_zero_le (show 0 ≤ ea - eb by omega)
  have e1 : sc62 a ea = (a * 2 ^ k) * 2 ^ (eb + 62).toNat := by rw [sc62_eq k (by omega), show ea - (k : Int) = eb by omega]
  have e2 : sc62 a ea - sc62 b eb = (a * 2 ^ k - b) * 2 ^ (eb + 62).toNat := by rw [e1, Int.sub_mul]; rfl
  rw [e2, sgI_mul]
  rcases h with h | h | h | h
  · have : k = 0 := by omega
    subst this
    simp
  · subst h; simp
  · have := big_pos h k
    rw [sgI_pos (by omega), sgI_pos (by omega)]
  · have := big_neg h k
    rw [sgI_neg (by omega), sgI_neg (by omega)]
theorem cmp_end2 {a ea b eb : Int} (h1 : -62 ≤ ea) (h2 : ea ≤ eb) (h : eb = ea ∨ b = 0 ∨ 2147483648 ≤ b ∨ b ≤ -2147483648) (ha : -2147483648 < a ∧ a < 2147483648) : sgI (sc62 a ea - sc62 b eb) = sgI (a - b) := by
  rw [sgI_swap, cmp_end1 h1 h2 h ha, ← sgI_swap]
theorem dbl_step {n e n0 e0 e1 : Int} (h : DblAt n e n0 e0 e1) (hs : -2147483648 < n ∧ n < 2147483648) (hgt : e1 < e) (h1 : -62 ≤ e1) : DblAt (2 * n) (e - 1) n0 e0 e1 :=
  ⟨by rw [← h.eq, sc62_eq (n := n) (e := e) 1 (by omega)]; unfold sc62; rw [Int.mul_comm 2 n]; rfl, by omega, by have := h.hi; omega, .inr (by omega), by omega, fun h2 => by have := h.hi; omega⟩
theorem sgI_three (x y : Int) : sgI (x - y) = if x < y then -1 else if y < x then 1 else 0 := by
  by_cases h : x < y
  · rw [if_pos h, sgI_neg (by omega)]
  · rw [if_neg h]
    by_cases h2 : y < x
    · rw [if_pos h2, sgI_pos (by omega)]
    · rw [if_neg h2, show x - y = 0 by omega]; rfl
theorem cmp_done {an ae bn be n e n2 e2 : Int} (H1 : DblAt n e an ae be) (X1 : e ≤ be ∨ n = 0 ∨ 2147483648 ≤ n ∨ n ≤ -2147483648) (H2 : DblAt n2 e2 bn be e) (X2 : e2 ≤ e ∨ n2 = 0 ∨ 2147483648 ≤ n2 ∨ n2 ≤ -2147483648)
    (sa : -2147483648 < an ∧ an < 2147483648) (sb : -2147483648 < bn ∧ bn < 2147483648) : scCmp an ae bn be = sgI (n - n2) := by
  unfold scCmp
  rw [← H1.eq, ← H2.eq]
  have l1 := H1.lo
  have l2 := H2.lo
  have u1 := H1.hi
  have u2 := H2.hi
  by_cases hc : be ≤ e
  · have he : e2 = be := by rcases H2.least with h | h <;> omega
    have hn := H2.same he
    exact cmp_end1 l2 (by omega) (by rcases X1 with h | h | h | h <;> omega) (by rw [hn]; exact sb)
  · have he : e = ae := by rcases H1.least with h | h <;> omega
    have hn := H1.same he
    exact cmp_end2 l1 (by rcases H2.least with h | h <;> omega) (by rcases X2 with h | h | h | h <;> rcases H2.least with h' | h' <;> omega) (by rw [hn]; exact sa)
end Go.Proofs.YtaheedieingpiaaDoor
