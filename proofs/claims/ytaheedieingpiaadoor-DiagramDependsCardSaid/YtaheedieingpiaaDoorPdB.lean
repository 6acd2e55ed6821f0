/- The zeros at the low end of a word, and of a number. No conditions. -/
import Derived.Test.YtaheedieingpiaaDoorPdA
namespace Go.Proofs.YtaheedieingpiaaDoor
set_option linter.unusedVariables false
set_option linter.unusedSimpArgs false
set_option linter.unusedSectionVars false
open Go.RowKit

/-- math/bits' table, as it lies in its variable. -/
def tzTab : List Int := [0, 1, 28, 2, 29, 14, 24, 3, 30, 22, 20, 15, 25, 17, 4, 8, 31, 27, 13, 23, 21, 19, 16, 7, 26, 12, 18, 6, 11, 5, 10, 9]
def TabAt (w : World) : Prop := 0 < w.heap.size ∧ ∀ j z, tzTab[j]? = some z → w.cell? ⟨0, j, none⟩ = some (.int .u8 z)
theorem TabAt.below {w w' : World} {B : Nat} (h : TabAt w) (hb : Below B w w') (hB : 0 < B) : TabAt w' :=
  ⟨Nat.lt_of_lt_of_le h.1 hb.size, fun j z hz => (hb.cell (p := ⟨0, j, none⟩) hB).trans (h.2 j z hz)⟩
theorem TabAt.call {w w' : World} (h : TabAt w) (hb : Below w.heap.size w w') : TabAt w' := h.below hb h.1
theorem tz_tab : ∀ k : Nat, k < 32 → tzTab[(2 ^ k * 125613361 % 4294967296) / 134217728]? = some (k : Int) := by decide
/-- A word that is not zero has its lowest bit somewhere. -/
theorem low_bit : ∀ (n : Nat) {x : Nat}, 0 < x → x < 2 ^ n → ∃ k, k < n ∧ x % 2 ^ k = 0 ∧ x / 2 ^ k % 2 = 1
  | 0, x, h, h2 => by simp at h2; omega
  | n + 1, x, h, h2 => by
    by_cases hx : x % 2 = 1
    · exact ⟨0, by omega, Nat.mod_one _, by simpa using hx⟩
    · obtain ⟨k, hk, h3, h4⟩ := low_bit n (x := x / 2) (by omega) (by rw [Nat.pow_succ] at h2; omega)
      refine ⟨k + 1, by omega, ?_, ?_⟩
      · rw [Nat.pow_succ', Nat.mod_mul]
        omega
      · rw [Nat.pow_succ', ← Nat.div_div_eq_div_mul]
        exact h4
theorem and_neg {n k x : Nat} (hk : k < n) (hx : x < 2 ^ n) (h1 : x % 2 ^ k = 0) (h2 : x / 2 ^ k % 2 = 1) : x &&& (2 ^ n - x) = 2 ^ k := by
  have hp := Nat.two_pow_pos k
  have e0 := Nat.div_add_mod x (2 ^ k)
  have hx0 : 0 < x := by
    rcases Nat.eq_zero_or_pos x with h | h
    · rw [h] at h2; simp at h2
    · exact h
  have e : 2 ^ n - x = 2 ^ n - ((x - 1) + 1) := by omega
  rw [e]
  apply Nat.eq_of_testBit_eq
  intro i
  rw [Nat.testBit_and, Nat.testBit_two_pow_sub_succ (by omega), Nat.testBit_two_pow]
  have hdiv : ∀ y, y.testBit i = decide (y / 2 ^ i % 2 = 1) := fun y => by rw [Nat.testBit_eq_decide_div_mod_eq]
  rw [hdiv, hdiv]
  rcases Nat.lt_trichotomy i k with hik | hik | hik
  · have hz : x / 2 ^ i % 2 = 0 := by
      have es : 2 ^ k = 2 ^ i * (2 * 2 ^ (k - i - 1)) := by rw [← Nat.pow_succ', ← Nat.pow_add]; congr 1; omega
      have : x = 2 ^ i * (2 * (2 ^ (k - i - 1) * (x / 2 ^ k))) := by
        rw [h1, Nat.add_zero] at e0
        rw [← Nat.mul_assoc 2, ← Nat.mul_assoc, ← es]
        exact e0.symm
      rw [this, Nat.mul_div_cancel_left _ (Nat.two_pow_pos i)]
      omega
    rw [decide_eq_false (show ¬ x / 2 ^ i % 2 = 1 by omega), decide_eq_false (show ¬ k = i by omega)]
    rfl
  · subst hik
    have hq : (x - 1) / 2 ^ i % 2 = 0 := by
      obtain ⟨q, hq1⟩ : ∃ q, x / 2 ^ i = q + 1 := Nat.exists_eq_succ_of_ne_zero (fun h => by rw [h] at h2; simp at h2)
      rw [h1, Nat.add_zero, hq1, Nat.mul_add, Nat.mul_one] at e0
      have hxq : x - 1 = (2 ^ i - 1) + 2 ^ i * q := by
        generalize 2 ^ i * q = r at *
        omega
      rw [hxq, Nat.add_mul_div_left _ _ hp, Nat.div_eq_of_lt (show 2 ^ i - 1 < 2 ^ i by omega), Nat.zero_add]
      omega
    rw [decide_eq_true h2, decide_eq_false (show ¬ (x - 1) / 2 ^ i % 2 = 1 by omega), decide_eq_true hk]
    simp
  · have hq : (x - 1) / 2 ^ i = x / 2 ^ i := by
      have hm : 0 < x % 2 ^ i := by
        rcases Nat.eq_zero_or_pos (x % 2 ^ i) with h | h
        · exfalso
          have es : 2 ^ i = 2 ^ k * (2 * 2 ^ (i - k - 1)) := by rw [← Nat.pow_succ', ← Nat.pow_add]; congr 1; omega
          have e1 := Nat.div_add_mod x (2 ^ i)
          rw [h, Nat.add_zero, es] at e1
          rw [← e1, Nat.mul_assoc, Nat.mul_div_cancel_left _ hp, Nat.mul_assoc] at h2
          omega
        · exact h
      have e1 := Nat.div_add_mod x (2 ^ i)
      have hlt := Nat.mod_lt x (Nat.two_pow_pos i)
      have hxq : x - 1 = (x % 2 ^ i - 1) + 2 ^ i * (x / 2 ^ i) := by omega
      rw [hxq, Nat.add_mul_div_left _ _ (Nat.two_pow_pos i), Nat.div_eq_of_lt (by omega), Nat.zero_add]
    rw [hq, decide_eq_false (show ¬ k = i by omega)]
    by_cases hb : x / 2 ^ i % 2 = 1
    · rw [decide_eq_true hb]; simp
    · rw [decide_eq_false hb]; rfl
theorem bits_and_u32_nat (a b : Nat) (ha : a < 4294967296) (hb : b < 4294967296) : bits .and .u32 (a : Int) (b : Int) = ((a &&& b : Nat) : Int) :=
  (bits_nat .u32 32 (by decide) (fun n h0 h1 => by rw [IntKind.wrap_u32]; omega) a b (by omega) (by omega)).1
set_option maxRecDepth 100000 in
set_option maxHeartbeats 4000000 in
theorem tz_any (x k : Nat) (w : World) (hx : x < 4294967296) (hk : k < 32) (h1 : x % 2 ^ k = 0) (h2 : x / 2 ^ k % 2 = 1) (ht : TabAt w) :
    Calls Tryd.prog 63 #[.int .u32 (x : Int)] w fun e w' => e = .returned (.int .i64 (k : Int)) ∧ w = w' := by
  have hx0 : x ≠ 0 := fun h => by rw [h] at h2; simp at h2
  have hxb : ((x : Int) == 0) = false := by rw [beq_eq_false_iff_ne]; omega
  have ha := and_neg (n := 32) hk (by omega) h1 h2
  obtain ⟨p, hp⟩ : ∃ p, p = 2 ^ k := ⟨_, rfl⟩
  have hneg : -(x : Int) % 4294967296 = ((4294967296 - x : Nat) : Int) := by omega
  have hand : bits .and .u32 (x : Int) (-(x : Int) % 4294967296) = (p : Int) := by
    rw [hneg, bits_and_u32_nat x _ hx (by omega), hp]
    exact congrArg _ ha
  obtain ⟨j, hj⟩ : ∃ j, j = (2 ^ k * 125613361 % 4294967296) / 134217728 := ⟨_, rfl⟩
  have hjj : (p : Int) * 125613361 % 4294967296 / 134217728 = (j : Int) := by rw [hj, ← hp]; omega
  have hj0 : j < 32 := by rw [hj]; omega
  have hj32 : (j : Int) < 32 := by omega
  have hc := ht.2 j k (by rw [hj]; exact tz_tab k hk)
  have h0 := ht.1
  have hk32 : (k : Int) < 256 := by omega
  clear h1 h2 ht ha hp hneg hj hk
  go_enter Tryd.func63, Tryd.ntmps63
  go_wp2_with fail
  go_ret
  exact ⟨rfl, rfl⟩
end Go.Proofs.YtaheedieingpiaaDoor
