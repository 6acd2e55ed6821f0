/- The program's numbers: trim, Valid, parts, Sign. No conditions. The zeros at the low end of a word, and of a number. No conditions. The zeros at the low end of a number. No conditions. -/
import Derived.Test.YtjlocofimlgaoaaDoorWd
namespace Go.Proofs.YtjlocofimlgaoaaDoor
set_option linter.unusedVariables false
set_option linter.unusedSimpArgs false
set_option linter.unusedSectionVars false
open Go.RowKit

set_option maxHeartbeats 1000000 in
theorem ptrim_any (A : Option Addr) (ws : List Nat) (c m : Nat) (w : World) (h : CellsAt w m A (w32 ws)) (hc : ws.length ≤ c) (hl : ws.length ≤ 1000000) :
    Calls Tryd.prog 113 #[.slice A ws.length c] w fun e w' => e = .returned (.slice A (trimL ws).length c) ∧ w = w' := by
  have H := Lib.hid h
  clear h
  go_enter Tryd.func113, Tryd.ntmps113
  go_wp2_with fail
  go_loopw [3] (fun i wr => trRel w ws i wr) (fun i _ => (intOf i).toNat)
  case atStart => exact ⟨ws.length, Nat.le_refl _, rfl, rfl, rfl⟩
  case round =>
    obtain ⟨k, hk, rfl, ht, rfl⟩ := hrel
    have HT := Lib.hid ht
    clear ht
    by_cases h0 : k = 0
    · subst h0
      go_wp2_with fail
      go_ret
      refine ⟨?_, rfl⟩
      rw [trimL_len, ← HT.out]
      rfl
    · obtain ⟨j, rfl⟩ := Nat.exists_eq_succ_of_ne_zero h0
      obtain ⟨b, off, z, rfl, hbm, hbs, hx, hcc⟩ := H.out.w32_ (k := j) (by omega)
      have HX := Lib.hid hx
      clear hx
      by_cases hz : z = 0
      · subst hz
        go_wp2_with fail
        have e1 : trimN ws j = trimN ws ws.length := by
          rw [← HT.out]
          show trimN ws j = if ws[j]?.getD 0 = 0 then trimN ws j else j + 1
          rw [if_pos (by rw [HX.out]; rfl)]
        exact ⟨⟨j, by omega, by go_num, e1, rfl⟩, by simp [intOf]; try omega⟩
      · have hz' : ((z : Int) == 0) = false := by simp; omega
        go_wp2_with fail
        go_ret
        refine ⟨?_, rfl⟩
        have e1 : j + 1 = trimN ws ws.length := by
          rw [← HT.out]
          show j + 1 = if ws[j]?.getD 0 = 0 then trimN ws j else j + 1
          rw [if_neg (by rw [HX.out]; exact hz)]
        rw [trimL_len, ← e1]
        rfl
set_option maxRecDepth 100000 in
set_option maxHeartbeats 2000000 in
theorem pvalid_any (neg : Bool) (A : Option Addr) (n den c m : Nat) (w : World) (hm : m ≤ w.heap.size) (h : CellsAt w m A (w32 (canon n))) (hl : (canon n).length ≤ 100000) (ok : DyOk neg n den) :
    Calls Tryd.prog 70 #[.agg #[.bool neg, .slice A (canon n).length c, .int .i64 (den : Int)]] w fun e w' => e = .returned (.bool true) ∧ Below w.heap.size w w' := by
  by_cases h0 : n = 0
  · obtain ⟨rfl, rfl⟩ := ok.zero h0
    subst h0
    rw [canon_zero]
    clear h hl ok
    go_enter Tryd.func70, Tryd.ntmps70
    go_wp2_with fail
    go_ret
    exact ⟨rfl, (Below.refl _ w).alloc (Nat.le_refl _) _⟩
  · have hp := canon_ne h0
    have ht := canon_top h0
    obtain ⟨b, off, z, rfl, q1, q2, hz, g1⟩ := h.w32_ (k := (canon n).length - 1) (by omega)
    have hz0 : ((z : Int) != 0) = true := by
      rw [hz] at ht
      simp at ht
      simp
      omega
    have g0 : w.cell? ⟨b, off, none⟩ = some (.int .u32 ((n % 4294967296 : Nat) : Int)) := by
      obtain ⟨b', off', z', hA, _, _, hz', g'⟩ := h.w32_ (k := 0) hp
      cases hA
      rw [canon_head h0] at hz'
      cases hz'
      exact g'
    obtain ⟨L, hL⟩ : ∃ L, L = (canon n).length - 1 := ⟨_, rfl⟩
    obtain ⟨x, hx⟩ : ∃ x : Nat, x = n % 4294967296 := ⟨_, rfl⟩
    have hlen : (canon n).length = L + 1 := by omega
    have hd := ok.fine
    have ho := ok.odd
    rw [← hx] at g0
    rw [← hL] at g1
    rw [hlen]
    have hl' : L ≤ 100000 := by omega
    have e0 : ((L : Int) + 1 == 0) = false := by simp; omega
    have hodd : den ≠ 0 → (x : Int) % 2 = 1 := fun hne => by have := ho hne; omega
    clear h hl ok ho ht hz hL hx hlen hp h0
    by_cases hden : den = 0
    · subst hden
      clear hodd hd
      go_enter Tryd.func70, Tryd.ntmps70
      go_wp2_with fail
      go_ret
      exact ⟨rfl, (Below.refl _ w).alloc (Nat.le_refl _) _⟩
    · have ho := hodd hden
      have d0 : ((den : Int) == 0) = false := by simp; omega
      have d1 : decide ((den : Int) ≤ 65536) = true := decide_eq_true (by omega)
      clear hodd hden
      go_enter Tryd.func70, Tryd.ntmps70
      go_wp2_with fail
      go_ret
      exact ⟨rfl, (Below.refl _ w).alloc (Nat.le_refl _) _⟩
set_option maxRecDepth 100000 in
set_option maxHeartbeats 4000000 in
theorem parts_w {v : Value} {x : Int} {d lo m : Nat} {w : World} (D : DyR w lo m v x d) (hm : m ≤ w.heap.size) (hl : (canon x.natAbs).length ≤ 100000) :
    Calls Tryd.prog 79 #[v] w fun e w' => ∃ nb A L c, v = .agg #[.bool nb, .slice A L c, .int .i64 (d : Int)] ∧ e = .returned (.tuple #[.bool nb, .slice A L c, .int .i64 (d : Int)]) ∧ Below w.heap.size w w' := by
  have hok := dy_ok D.bound.1 D.bound.2
  have D0 := Lib.hid D
  obtain ⟨A, c, rfl, h1, h2, h3, h4, h5, h6⟩ := D
  have H3 := Lib.hid h3
  have HOK := Lib.hid hok
  have HL := Lib.hid hl
  clear h3 hok hl h6 h4
  obtain ⟨nb, hnb⟩ : ∃ nb, nb = decide (x < 0) := ⟨_, rfl⟩
  rw [← hnb] at HOK D0 ⊢
  clear hnb
  have b0 : Below w.heap.size w (w.alloc (.cells #[.bool nb, .slice A (canon x.natAbs).length c, .int .i64 (d : Int)] 37)) := ext_alloc (Below.refl _ _) _
  have r0 := RowD.new_ w [.bool nb, .slice A (canon x.natAbs).length c, .int .i64 (d : Int)] 37
  go_enter Tryd.func79, Tryd.ntmps79
  go_wp2_with fail
  go_at_call 70
  refine (pvalid_any nb A x.natAbs d c m _ (by simp; omega) (H3.out.below b0 hm) HL.out HOK.out).mono ?_
  rintro e w1 ⟨rfl, hb⟩
  have s0 := r0.below hb (by simp)
  have b1 := b0.trans (hb.mono (by simp))
  have k0 : w1.cell? ⟨w.heap.size, 0, none⟩ = some (.bool nb) := s0.cell 0
  have k1 : w1.cell? ⟨w.heap.size, 1, none⟩ = some (.slice A (canon x.natAbs).length c) := s0.cell 1
  have k2 : w1.cell? ⟨w.heap.size, 2, none⟩ = some (.int .i64 (d : Int)) := s0.cell 2
  clear hb r0 b0 s0
  go_wp2_with fail
  go_quiet (fail)
  go_wp2_with fail
  refine bodyPost_ret (v := .tuple #[.bool nb, .slice A (canon x.natAbs).length c, .int .i64 (d : Int)]) (by simp [results, Tryd.results79, go_sem]) rfl ⟨nb, A, _, c, rfl, rfl, below_drewN b1 _⟩
set_option maxRecDepth 100000 in
set_option maxHeartbeats 4000000 in
theorem psign_w {v : Value} {x : Int} {d lo m : Nat} {w : World} (D : DyR w lo m v x d) (hm : m ≤ w.heap.size) (hl : (canon x.natAbs).length ≤ 100000) :
    Calls Tryd.prog 74 #[v] w fun e w' => e = .returned (.int .i64 (sgI x)) ∧ Below w.heap.size w w' := by
  obtain ⟨nb, A, L, c, rfl, HD⟩ := D.form
  have D0 := Lib.hid D
  have b0 : Below w.heap.size w (w.alloc (.cells #[.bool nb, .slice A L c, .int .i64 (d : Int)] 37)) := ext_alloc (Below.refl _ _) _
  clear D
  by_cases hx : x = 0
  · have hL : (L : Int) = 0 := by have := HD.out.2.1; rw [hx] at this; simp [canon_zero] at this; omega
    have hLb : ((L : Int) == 0) = true := by rw [hL]; rfl
    have HV := Lib.hid (show sgI x = 0 by unfold sgI; rw [if_pos hx])
    have HL := Lib.hid hL
    clear hL hx
    go_enter Tryd.func74, Tryd.ntmps74
    go_wp2_with fail
    go_at_call 79
    refine (parts_w (D0.out.below b0 hm) (by simp; omega) hl).mono ?_
    rintro e w1 ⟨nb', A', L', c', he, rfl, hb⟩
    cases he
    go_wp2_with fail
    go_ret
    exact ⟨by rw [HV.out]; rfl, b0.trans (hb.mono (by simp))⟩
  · have hL : (L : Int) ≠ 0 := by have := HD.out.2.1; have h2 := canon_ne (n := x.natAbs) (by omega); omega
    have hLb : ((L : Int) == 0) = false := by rw [beq_eq_false_iff_ne]; exact hL
    have hnb := HD.out.1
    cases nb with
    | true =>
      have hx2 : x < 0 := by simpa using hnb.symm
      have HV := Lib.hid (show sgI x = -1 by unfold sgI; rw [if_neg hx, if_pos hx2])
      clear hL hx hnb hx2
      go_enter Tryd.func74, Tryd.ntmps74
      go_wp2_with fail
      go_at_call 79
      refine (parts_w (D0.out.below b0 hm) (by simp; omega) hl).mono ?_
      rintro e w1 ⟨nb', A', L', c', he, rfl, hb⟩
      cases he
      go_wp2_with fail
      go_ret
      exact ⟨by rw [HV.out]; rfl, b0.trans (hb.mono (by simp))⟩
    | false =>
      have hx2 : ¬ x < 0 := by simpa using hnb.symm
      have HV := Lib.hid (show sgI x = 1 by unfold sgI; rw [if_neg hx, if_neg hx2])
      clear hL hx hnb hx2
      go_enter Tryd.func74, Tryd.ntmps74
      go_wp2_with fail
      go_at_call 79
      refine (parts_w (D0.out.below b0 hm) (by simp; omega) hl).mono ?_
      rintro e w1 ⟨nb', A', L', c', he, rfl, hb⟩
      cases he
      go_wp2_with fail
      go_ret
      exact ⟨by rw [HV.out]; rfl, b0.trans (hb.mono (by simp))⟩
end Go.Proofs.YtjlocofimlgaoaaDoor
namespace Go.Proofs.YtjlocofimlgaoaaDoor
set_option linter.unusedVariables false
set_option linter.unusedSimpArgs false
set_option linter.unusedSectionVars false
open Go.RowKit

/-- math/bits' table, as it lies in its variable. -/
def tzTab : List Int := [0, 1, 28, 2, 29, 14, 24, 3, 30, 22, 20, 15, 25, 17, 4, 8, 31, 27, 13, 23, 21, 19, 16, 7, 26, 12, 18, 6, 11, 5, 10, 9]
def TabAt (w : World) : Prop := 0 < w.heap.size ∧ ∀ j z, tzTab[j]? = some z → w.cell? ⟨0, j, none⟩ = some (.int .u8 z)
theorem TabAt.below {w w' : World} {B : Nat} (h : TabAt w) (hb : Below B w w') (hB : 0 < B) : TabAt w' :=
  ⟨Nat.lt_of_lt_of_le h.1 hb.size, fun j z hz => (hb.cell (p := ⟨0, j, none⟩) hB).trans (h.2 j z hz)⟩
theorem TabAt.call {w w' : World} (h : TabAt w) (hb : Below w.heap.size w w') : TabAt w' := h.below hb h.1
theorem tz_tab : ∀ k : Nat, k < 32 → tzTab[(2 ^ k * 125613361 % 4294967296) / 134217728]? = some (k : Int) := by decide
/-- A word that is not zero has its lowest bit somewhere. -/
theorem low_bit : ∀ (n : Nat) {x : Nat}, 0 < x → x < 2 ^ n → ∃ k, k < n ∧ x % 2 ^ k = 0 ∧ x / 2 ^ k % 2 = 1
  | 0, x, h, h2 => by simp at h2; omega
  | n + 1, x, h, h2 => by
    by_cases hx : x % 2 = 1
    · exact ⟨0, by omega, Nat.mod_one _, by simpa using hx⟩
    · obtain ⟨k, hk, h3, h4⟩ := low_bit n (x := x / 2) (by omega) (by rw [Nat.pow_succ] at h2; omega)
      refine ⟨k + 1, by omega, ?_, ?_⟩
      · rw [Nat.pow_succ', Nat.mod_mul]
        omega
      · rw [Nat.pow_succ', ← Nat.div_div_eq_div_mul]
        exact h4
theorem and_neg {n k x : Nat} (hk : k < n) (hx : x < 2 ^ n) (h1 : x % 2 ^ k = 0) (h2 : x / 2 ^ k % 2 = 1) : x &&& (2 ^ n - x) = 2 ^ k := by
  have hp := Nat.two_pow_pos k
  have e0 := Nat.div_add_mod x (2 ^ k)
  have hx0 : 0 < x := by
    rcases Nat.eq_zero_or_pos x with h | h
    · rw [h] at h2; simp at h2
    · exact h
  have e : 2 ^ n - x = 2 ^ n - ((x - 1) + 1) := by omega
  rw [e]
  apply Nat.eq_of_testBit_eq
  intro i
  rw [Nat.testBit_and, Nat.testBit_two_pow_sub_succ (by omega), Nat.testBit_two_pow]
  have hdiv : ∀ y, y.testBit i = decide (y / 2 ^ i % 2 = 1) := fun y => by rw [Nat.testBit_eq_decide_div_mod_eq]
  rw [hdiv, hdiv]
  rcases Nat.lt_trichotomy i k with hik | hik | hik
  · have hz : x / 2 ^ i % 2 = 0 := by
      have es : 2 ^ k = 2 ^ i * (2 * 2 ^ (k - i - 1)) := by rw [← Nat.pow_succ', ← Nat.pow_add]; congr 1; omega
      have : x = 2 ^ i * (2 * (2 ^ (k - i - 1) * (x / 2 ^ k))) := by
        rw [h1, Nat.add_zero] at e0
        rw [← Nat.mul_assoc 2, ← Nat.mul_assoc, ← es]
        exact e0.symm
      rw [this, Nat.mul_div_cancel_left _ (Nat.two_pow_pos i)]
      omega
    rw [decide_eq_false (show ¬ x / 2 ^ i % 2 = 1 by omega), decide_eq_false (show ¬ k = i by omega)]
    rfl
  · subst hik
    have hq : (x - 1) / 2 ^ i % 2 = 0 := by
      obtain ⟨q, hq1⟩ : ∃ q, x / 2 ^ i = q + 1 := Nat.exists_eq_succ_of_ne_zero (fun h => by rw [h] at h2; simp at h2)
      rw [h1, Nat.add_zero, hq1, Nat.mul_add, Nat.mul_one] at e0
      have hxq : x - 1 = (2 ^ i - 1) + 2 ^ i * q := by
        generalize 2 ^ i * q = r at *
        omega
      rw [hxq, Nat.add_mul_div_left _ _ hp, Nat.div_eq_of_lt (show 2 ^ i - 1 < 2 ^ i by omega), Nat.zero_add]
      omega
    rw [decide_eq_true h2, decide_eq_false (show ¬ (x - 1) / 2 ^ i % 2 = 1 by omega), decide_eq_true hk]
    simp
  · have hq : (x - 1) / 2 ^ i = x / 2 ^ i := by
      have hm : 0 < x % 2 ^ i := by
        rcases Nat.eq_zero_or_pos (x % 2 ^ i) with h | h
        · exfalso
          have es : 2 ^ i = 2 ^ k * (2 * 2 ^ (i - k - 1)) := by rw [← Nat.pow_succ', ← Nat.pow_add]; congr 1; omega
          have e1 := Nat.div_add_mod x (2 ^ i)
          rw [h, Nat.add_zero, es] at e1
          rw [← e1, Nat.mul_assoc, Nat.mul_div_cancel_left _ hp, Nat.mul_assoc] at h2
          omega
        · exact h
      have e1 := Nat.div_add_mod x (2 ^ i)
      have hlt := Nat.mod_lt x (Nat.two_pow_pos i)
      have hxq : x - 1 = (x % 2 ^ i - 1) + 2 ^ i * (x / 2 ^ i) := by omega
      rw [hxq, Nat.add_mul_div_left _ _ (Nat.two_pow_pos i), Nat.div_eq_of_lt (by omega), Nat.zero_add]
    rw [hq, decide_eq_false (show ¬ k = i by omega)]
    by_cases hb : x / 2 ^ i % 2 = 1
    · rw [decide_eq_true hb]; simp
    · rw [decide_eq_false hb]; rfl
theorem bits_and_u32_nat (a b : Nat) (ha : a < 4294967296) (hb : b < 4294967296) : bits .and .u32 (a : Int) (b : Int) = ((a &&& b : Nat) : Int) :=
  (bits_nat .u32 32 (by decide) (fun n h0 h1 => by rw [IntKind.wrap_u32]; omega) a b (by omega) (by omega)).1
set_option maxRecDepth 100000 in
set_option maxHeartbeats 4000000 in
theorem tz_any (x k : Nat) (w : World) (hx : x < 4294967296) (hk : k < 32) (h1 : x % 2 ^ k = 0) (h2 : x / 2 ^ k % 2 = 1) (ht : TabAt w) :
    Calls Tryd.prog 122 #[.int .u32 (x : Int)] w fun e w' => e = .returned (.int .i64 (k : Int)) ∧ w = w' := by
  have hx0 : x ≠ 0 := fun h => by rw [h] at h2; simp at h2
  have hxb : ((x : Int) == 0) = false := by rw [beq_eq_false_iff_ne]; omega
  have ha := and_neg (n := 32) hk (by omega) h1 h2
  obtain ⟨p, hp⟩ : ∃ p, p = 2 ^ k := ⟨_, rfl⟩
  have hneg : -(x : Int) % 4294967296 = ((4294967296 - x : Nat) : Int) := by omega
  have hand : bits .and .u32 (x : Int) (-(x : Int) % 4294967296) = (p : Int) := by
    rw [hneg, bits_and_u32_nat x _ hx (by omega), hp]
    exact congrArg _ ha
  obtain ⟨j, hj⟩ : ∃ j, j = (2 ^ k * 125613361 % 4294967296) / 134217728 := ⟨_, rfl⟩
  have hjj : (p : Int) * 125613361 % 4294967296 / 134217728 = (j : Int) := by rw [hj, ← hp]; omega
  have hj0 : j < 32 := by rw [hj]; omega
  have hj32 : (j : Int) < 32 := by omega
  have hc := ht.2 j k (by rw [hj]; exact tz_tab k hk)
  have h0 := ht.1
  have hk32 : (k : Int) < 256 := by omega
  clear h1 h2 ht ha hp hneg hj hk
  go_enter Tryd.func122, Tryd.ntmps122
  go_wp2_with fail
  go_ret
  exact ⟨rfl, rfl⟩
end Go.Proofs.YtjlocofimlgaoaaDoor
namespace Go.Proofs.YtjlocofimlgaoaaDoor
set_option linter.unusedVariables false
set_option linter.unusedSimpArgs false
set_option linter.unusedSectionVars false
open Go.RowKit

/-- z is the number of zero bits at n's low end. -/
def TzOf (n z : Nat) : Prop := n % 2 ^ z = 0 ∧ n / 2 ^ z % 2 = 1
theorem pow32_ (k : Nat) : 2 ^ (32 * k) = 4294967296 ^ k := by rw [Nat.pow_mul]
theorem zr_hit {a : List Nat} {k t x : Nat} (h : wordsOk a) (h0 : wval (a.take k) = 0) (hx : a[k]?.getD 0 = x) (ht : t < 32) (h1 : x % 2 ^ t = 0) (h2 : x / 2 ^ t % 2 = 1) : TzOf (wval a) (32 * k + t) := by
  refine ⟨?_, ?_⟩
  · rw [Nat.pow_add, Nat.mod_mul, pow32_, wval_drop h]
    have e1 : wval a % 4294967296 ^ k = 0 := by
      have e := wval_append (a.take k) (a.drop k)
      rw [List.take_append_drop, h0, Nat.zero_add] at e
      by_cases hk : k ≤ a.length
      · rw [List.length_take, Nat.min_eq_left hk] at e
        rw [e]
        exact Nat.mul_mod_right _ _
      · rw [List.drop_eq_nil_of_le (by omega)] at e
        rw [e]
        simp [wval]
    rw [e1, wval_drop_get, hx]
    have es : (4294967296 : Nat) = 2 ^ t * 2 ^ (32 - t) := by rw [← Nat.pow_add, show t + (32 - t) = 32 by omega]
    rw [es, Nat.mul_assoc, Nat.add_mul_mod_self_left, h1]
    simp
  · rw [wval_bit h, show (32 * k + t) / 32 = k by omega, show (32 * k + t) % 32 = t by omega, hx]
    exact h2
theorem tzOf_ne {n z : Nat} (h : TzOf n z) : n ≠ 0 := fun h0 => by
  have := h.2
  rw [h0] at this
  simp at this
def zrRel (a : List Nat) (w : World) (i : Value) (wr : World) : Prop := ∃ k : Nat, k ≤ a.length ∧ i = .int .i64 (k : Int) ∧ wval (a.take k) = 0 ∧ w = wr
set_option maxRecDepth 100000 in
set_option maxHeartbeats 4000000 in
theorem zeros_any (A : Option Addr) (n c m : Nat) (w : World) (hm : m ≤ w.heap.size) (h : CellsAt w m A (w32 (canon n))) (hl : (canon n).length ≤ 100000) (ht : TabAt w) :
    Calls Tryd.prog 114 #[.slice A (canon n).length c] w fun e w' => (∃ z : Nat, e = .returned (.int .i64 (z : Int)) ∧ (n = 0 → z = 1099511627776) ∧ (n ≠ 0 → TzOf n z ∧ z ≤ 3200000)) ∧ w = w' := by
  have H := Lib.hid h
  have HT := Lib.hid ht
  clear h ht
  go_enter Tryd.func114, Tryd.ntmps114
  go_wp2_with fail
  go_loopw [7] (fun i wr => zrRel (canon n) w i wr) (fun i _ => (canon n).length - (intOf i).toNat)
  case atStart => exact ⟨0, Nat.zero_le _, rfl, rfl, rfl⟩
  case round =>
    obtain ⟨k, hk, rfl, h0, rfl⟩ := hrel
    have H0 := Lib.hid h0
    clear h0
    by_cases hlt : k < (canon n).length
    · obtain ⟨b1, o1, x, rfl, q1, q2, hx, g1⟩ := H.out.w32_ hlt
      have bx := canon_ok n x (List.mem_of_getElem? hx)
      have HX := Lib.hid (show (canon n)[k]?.getD 0 = x by rw [hx]; rfl)
      have ka' : (k : Int) < ((canon n).length : Int) := by omega
      have HXX := Lib.hid hx
      clear hx
      by_cases hz : x = 0
      · subst hz
        go_wp2_with fail
        refine ⟨⟨k + 1, by omega, by go_num, ?_, rfl⟩, by simp [intOf]; try omega⟩
        rw [wval_take_succ, H0.out, HX.out]
        simp
      · obtain ⟨t, ht, h1, h2⟩ := low_bit 32 (x := x) (by omega) (by omega)
        have hz' : ((x : Int) != 0) = true := by simp; omega
        have H1 := Lib.hid h1
        have H2 := Lib.hid h2
        clear h1 h2
        go_wp2_with (go_at_call 122; refine (tz_any x t w bx ht H1.out H2.out HT.out).mono ?_; rintro e w1 ⟨rfl, rfl⟩)
        go_ret
        have hhit := zr_hit (canon_ok n) H0.out HX.out ht H1.out H2.out
        rw [wval_canon] at hhit
        refine ⟨⟨32 * k + t, ?_, fun hn => absurd hn (tzOf_ne hhit), fun _ => ⟨hhit, by omega⟩⟩, rfl⟩
        have : ((32 * k + t : Nat) : Int) = 32 * (k : Int) + (t : Int) := by omega
        rw [this]
        rfl
    · have hle : ¬ (k : Int) < ((canon n).length : Int) := by omega
      go_wp2_with fail
      go_ret
      refine ⟨⟨1099511627776, rfl, fun _ => rfl, fun hn => ?_⟩, rfl⟩
      exfalso
      have := H0.out
      rw [List.take_of_length_le (by omega), wval_canon] at this
      exact hn this
end Go.Proofs.YtjlocofimlgaoaaDoor
