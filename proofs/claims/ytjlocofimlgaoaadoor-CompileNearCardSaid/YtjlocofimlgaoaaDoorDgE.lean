/- Blocks: how many arguments, scalars and their numbers. No conditions. Two scalars compared: the document's way and the program's way agree. Condition: both are within their bounds. The document's comparison of two scalars. Condition: both are within their bounds. -/
import Derived.Test.YtjlocofimlgaoaaDoorPdJ
import Derived.Test.YtjlocofimlgaoaaDoorDgB
import Derived.Deep.RegionHeld3
namespace Go.Proofs.YtjlocofimlgaoaaDoor
set_option linter.unusedVariables false
set_option linter.unusedSimpArgs false
set_option linter.unusedSectionVars false
open Go.RowKit

def arityM (k : Int) : Int := if k = 1 then 0 else if k = 0 ∨ k = 2 ∨ k = 5 ∨ k = 10 ∨ k = 6 ∨ k = 11 then 1 else if k = 3 ∨ k = 4 ∨ k = 7 ∨ k = 8 ∨ k = 9 then 2 else -1
theorem ar_eq {a b : Int} (h : a = b) : Ending.returned (.int .i64 a) = .returned (.int .i64 b) := by rw [h]
set_option maxHeartbeats 1000000 in
theorem arity_any (k : Int) (w : World) : Calls Tryd.prog 99 #[.int .i64 k] w fun e w' => e = .returned (.int .i64 (arityM k)) ∧ w = w' := by
  go_enter Tryd.func99, Tryd.ntmps99
  go_wp2
  all_goals
    go_ret
    exact ⟨ar_eq (by simp only [beq_iff_eq, beq_eq_false_iff_ne, ne_eq] at *; simp [arityM, *]), rfl⟩
set_option maxHeartbeats 1000000 in
theorem rArity_any (k : Int) (w : World) : Calls Tryd.prog 90 #[.int .i64 k] w fun e w' => e = .returned (.int .i64 (arityM k)) ∧ w = w' := by
  go_enter Tryd.func90, Tryd.ntmps90
  go_wp2
  all_goals
    go_ret
    exact ⟨ar_eq (by simp only [beq_iff_eq, beq_eq_false_iff_ne, ne_eq] at *; simp [arityM, *]), rfl⟩
def withinB (n lo hi : Int) : Bool := decide (lo ≤ n ∧ n ≤ hi)
set_option maxHeartbeats 400000 in
theorem within_any (n lo hi : Int) (w : World) : Calls Tryd.prog 51 #[.int .i64 n, .int .i64 lo, .int .i64 hi] w fun e w' => e = .returned (.bool (withinB n lo hi)) ∧ w = w' := by
  by_cases h1 : lo ≤ n
  · by_cases h2 : n ≤ hi
    · have HV := Lib.hid (show withinB n lo hi = true from decide_eq_true ⟨h1, h2⟩)
      go_enter Tryd.func51, Tryd.ntmps51
      go_wp2
      go_ret
      exact ⟨by rw [HV.out]; rfl, rfl⟩
    · have HV := Lib.hid (show withinB n lo hi = false from decide_eq_false (fun h => h2 h.2))
      go_enter Tryd.func51, Tryd.ntmps51
      go_wp2
      go_ret
      exact ⟨by rw [HV.out]; rfl, rfl⟩
  · have HV := Lib.hid (show withinB n lo hi = false from decide_eq_false (fun h => h1 h.1))
    go_enter Tryd.func51, Tryd.ntmps51
    go_wp2
    go_ret
    exact ⟨by rw [HV.out]; rfl, rfl⟩
/-- A scalar that a block uses is within its bounds. -/
def scOk (num ex : Int) : Prop := -2147483648 < num ∧ num < 2147483648 ∧ -62 ≤ ex ∧ ex ≤ 30
instance (num ex : Int) : Decidable (scOk num ex) := by unfold scOk; infer_instance
def scalE (num ex : Int) (used : Bool) : Int := if used = true then (if scOk num ex then 0 else 3) else (if num = 0 ∧ ex = 0 then 0 else 2)
theorem er_0 {n : Int} (h : n = 0) : Ending.returned .nilIface = .returned (errV n) := by rw [h]; rfl
theorem er_n {n k : Int} (h : n = k) (hk : k ≠ 0) : Ending.returned (.iface 34 (.int .i64 k)) = .returned (errV n) := by rw [h, errV_n hk]
set_option maxRecDepth 100000 in
set_option maxHeartbeats 4000000 in
theorem scalar_any (num ex : Int) (used : Bool) (w : World) : Calls Tryd.prog 100 #[.agg #[.int .i64 num, .int .i64 ex], .bool used] w fun e w' => e = .returned (errV (scalE num ex used)) ∧ Below w.heap.size w w' := by
  cases used with
  | false =>
    go_enter Tryd.func100, Tryd.ntmps100
    go_wp2
    all_goals
      go_ret
      first
        | exact ⟨er_0 (by simp only [scalE, Bool.false_eq_true, if_false]; split <;> omega), al_ _ _⟩
        | exact ⟨er_n (k := 2) (by simp only [scalE, Bool.false_eq_true, if_false]; split <;> omega) (by decide), al_ _ _⟩
  | true =>
    by_cases hs : scOk num ex
    · have HV := Lib.hid (show scalE num ex true = 0 by unfold scalE; rw [if_pos rfl, if_pos hs])
      obtain ⟨h1, h2, h3, h4⟩ := hs
      go_enter Tryd.func100, Tryd.ntmps100
      go_wp2
      go_ret
      exact ⟨er_0 HV.out, al_ _ _⟩
    · have HV := Lib.hid (show scalE num ex true = 3 by unfold scalE; rw [if_pos rfl, if_neg hs])
      have HS := Lib.hid hs
      clear hs
      go_enter Tryd.func100, Tryd.ntmps100
      go_wp2
      all_goals
        go_ret
        first
          | exact ⟨er_n (k := 3) HV.out (by decide), al_ _ _⟩
          | (exfalso; exact HS.out ⟨by omega, by omega, by omega, by omega⟩)
set_option maxRecDepth 100000 in
set_option maxHeartbeats 4000000 in
theorem rScalar_any (num ex : Int) (used : Bool) (w : World) : Calls Tryd.prog 91 #[.agg #[.int .i64 num, .int .i64 ex], .bool used] w fun e w' => e = .returned (.int .i64 (scalE num ex used)) ∧ Below w.heap.size w w' := by
  cases used with
  | false =>
    go_enter Tryd.func91, Tryd.ntmps91
    go_wp2
    all_goals
      go_ret
      exact ⟨ar_eq (by simp only [scalE, Bool.false_eq_true, if_false]; split <;> omega), al_ _ _⟩
  | true =>
    by_cases hn : -2147483647 ≤ num ∧ num ≤ 2147483647
    · have W1 : withinB num (-2147483647) 2147483647 = true := decide_eq_true hn
      by_cases he : -62 ≤ ex ∧ ex ≤ 30
      · have W2 : withinB ex (-62) 30 = true := decide_eq_true he
        have HV := Lib.hid (show scalE num ex true = 0 by unfold scalE; rw [if_pos rfl, if_pos ⟨by omega, by omega, he.1, he.2⟩])
        clear hn he
        go_enter Tryd.func91, Tryd.ntmps91
        go_wp2_with (go_at_call 51; refine (within_any _ _ _ _).mono ?_; rintro e w1 ⟨rfl, rfl⟩)
        go_ret
        exact ⟨by rw [HV.out]; rfl, al_ _ _⟩
      · have W2 : withinB ex (-62) 30 = false := decide_eq_false he
        have HV := Lib.hid (show scalE num ex true = 3 by unfold scalE; rw [if_pos rfl, if_neg (fun h => he ⟨h.2.2.1, h.2.2.2⟩)])
        clear hn he
        go_enter Tryd.func91, Tryd.ntmps91
        go_wp2_with (go_at_call 51; refine (within_any _ _ _ _).mono ?_; rintro e w1 ⟨rfl, rfl⟩)
        go_ret
        exact ⟨by rw [HV.out]; rfl, al_ _ _⟩
    · have W1 : withinB num (-2147483647) 2147483647 = false := decide_eq_false hn
      have HV := Lib.hid (show scalE num ex true = 3 by unfold scalE; rw [if_pos rfl, if_neg (fun h => hn ⟨by have := h.1; omega, by have := h.2.1; omega⟩)])
      clear hn
      go_enter Tryd.func91, Tryd.ntmps91
      go_wp2_with (go_at_call 51; refine (within_any _ _ _ _).mono ?_; rintro e w1 ⟨rfl, rfl⟩)
      go_ret
      exact ⟨by rw [HV.out]; rfl, al_ _ _⟩
theorem res_value {tmps : Array Value} {w : World} {b : Nat} {v0 v1 v2 : Value} (h2 : tmps.getD 2 undef = .pointer (some ⟨b, 0, none⟩)) (hB : RowD w b [v0, v1, v2] 37) :
    (results Tryd.f101 tmps).run Tryd.prog w = .ok (.agg #[v0, v1, v2]) w := by
  have k0 := hB.cell 0
  have k1 := hB.cell 1
  have k2 := hB.cell 2
  simp at k0 k1 k2
  simp at h2
  simp [results, Tryd.results101, go_sem, h2, k0, k1, k2]
set_option maxRecDepth 100000 in
set_option maxHeartbeats 4000000 in
theorem value_any (num ex : Int) (w : World) (h : scOk num ex) (ht : TabAt w) : Calls Tryd.prog 101 #[.agg #[.int .i64 num, .int .i64 ex]] w fun e w' => ∃ v, e = .returned v ∧ DyR w' w.heap.size w'.heap.size v (dyShift num 0 ex).1 (dyShift num 0 ex).2 ∧ Below w.heap.size w w' := by
  obtain ⟨h1, h2, h3, h4⟩ := h
  have hln : (canon num.natAbs).length ≤ 50000 := Nat.le_trans (canon_len_le (k := 1) (by omega)) (by decide)
  have b0 : Below w.heap.size w ((w.alloc (.cells #[.int .i64 num, .int .i64 ex] 23)).alloc (.cells #[.bool false, .slice none 0 0, .int .i64 0] 37)) := ext_alloc (ext_alloc (Below.refl _ _) _) _
  have r0 := (RowD.new_ w [.int .i64 num, .int .i64 ex] 23).call (al_ _ (.cells #[.bool false, .slice none 0 0, .int .i64 0] 37))
  have r1 := RowD.new_ (w.alloc (.cells #[.int .i64 num, .int .i64 ex] 23)) [.bool false, .slice none 0 0, .int .i64 0] 37
  rw [show (w.alloc (.cells #[.int .i64 num, .int .i64 ex] 23)).heap.size = w.heap.size + 1 by simp] at r1
  have HT := Lib.hid ht
  clear ht
  go_enter Tryd.func101, Tryd.ntmps101
  go_wp2_with fail
  obtain ⟨W, hW⟩ : ∃ W, W = ((w.alloc (.cells #[.int .i64 num, .int .i64 ex] 23)).alloc (.cells #[.bool false, .slice none 0 0, .int .i64 0] 37)) := ⟨_, rfl⟩
  have hWs : w.heap.size + 2 ≤ W.heap.size := by rw [hW]; simp
  rw [← hW]
  rw [← hW] at b0 r0 r1
  clear hW
  have a0 : W.cell? ⟨w.heap.size, 0, none⟩ = some (.int .i64 num) := r0.cell 0
  have a1 : W.cell? ⟨w.heap.size, 1, none⟩ = some (.int .i64 ex) := r0.cell 1
  have hk : SK W (w.heap.size + 1) (w.heap.size + 1) W := SK.refl (by omega) ⟨_, _, _, r1⟩
  have HTW := HT.out.below b0 HT.out.1
  go_region_held3 (fun w' => (∀ b o, b < w.heap.size + 1 → w'.cell? ⟨b, o, none⟩ = W.cell? ⟨b, o, none⟩) ∧ SK W (w.heap.size + 1) (w.heap.size + 1) w')
    (first
      | (refine SK.all ?_
         first
           | assumption
           | exact hk
           | exact hk.drew
           | exact ((SK.set (by assumption) (by omega) _ _).set (by omega) _ _).set (by omega) _ _))
    (first
      | (go_at_call 38; refine (pof_any num (by omega) (by omega) _ (HTW.below (Below.refl _ W).drew HTW.1)).mono ?_; (rintro e w5 ⟨v5, rfl, D5, hb5⟩; have hk5 := SK.call hk.drew hb5; have hf5 := hk5.lt; have HT5 := (HTW.below (Below.refl _ W).drew HTW.1).call hb5; obtain ⟨nb5, A5, L5, c5, rfl, _⟩ := D5.form))
      | (go_at_call 41; refine (pshift_any D5 (Nat.le_refl _) hln (by omega) HT5).mono ?_; (rintro e w6 ⟨v6, rfl, D6, hb6⟩; have hk6 := SK.call hk5 hb6; have hf6 := hk6.lt; obtain ⟨nb6, A9, L9, c9, rfl, _⟩ := D6.form; obtain ⟨z0, z1, z2, rz, k0, k1, k2, kf⟩ := SK.cells hk6)))
  go_wp2_with fail
  refine bodyPost_ret (res_value rfl (((rz.set_ 0 _).set_ 1 _).set_ 2 _)) rfl ⟨_, rfl, ?_, (((b0.trans (hk6.is.mono (by omega))).setCell (by simp) _).setCell (by simp) _).setCell (by simp) _⟩
  exact ((((D6.set_ (by omega) 0 _).set_ (by omega) 1 _).set_ (by omega) 2 _).low (by omega)).more (by simp)
end Go.Proofs.YtjlocofimlgaoaaDoor
namespace Go.Proofs.YtjlocofimlgaoaaDoor
set_option linter.unusedVariables false
set_option linter.unusedSimpArgs false
set_option linter.unusedSectionVars false
open Go.RowKit

/-- A scalar's value, times 2^62. -/
def sc62 (num ex : Int) : Int := num * 2 ^ (ex + 62).toNat
def scCmp (an ae bn be : Int) : Int := sgI (sc62 an ae - sc62 bn be)
theorem sc62_shift {num ex : Int} (h1 : -62 ≤ ex) (h2 : ex ≤ 30) : (dyShift num 0 ex).1 * 2 ^ 62 = sc62 num ex * 2 ^ (dyShift num 0 ex).2 := by
  unfold dyShift sc62
  have e : max (-65536) (min ex 65536) = ex := by omega
  rw [e]
  by_cases h : ex < 0
  · rw [if_pos h]
    obtain ⟨n, hn⟩ : ∃ n : Nat, ex = -(n : Int) := ⟨(-ex).toNat, by omega⟩
    have e1 : (-ex).toNat = n := by omega
    have e2 : (ex + 62).toNat = 62 - n := by omega
    rw [e1, e2, Nat.zero_add]
    have h3 := nf_eq num n
    have h4 : (2 : Int) ^ 62 = 2 ^ n * 2 ^ (62 - n) := by rw [← Int.pow_add, show n + (62 - n) = 62 by omega]
    rw [h4, ← Int.mul_assoc, h3, Int.mul_assoc, Int.mul_assoc, Int.mul_comm (2 ^ _) (2 ^ _)]
  · rw [if_neg h]
    obtain ⟨n, rfl⟩ := Int.eq_ofNat_of_zero_le (show 0 ≤ ex by omega)
    rw [Int.toNat_natCast, nf_done (by omega), show ((n : Int) + 62).toNat = n + 62 by omega, Int.pow_add]
    simp [Int.mul_assoc]
theorem pCmp_sc {an ae bn be : Int} (h1 : scOk an ae) (h2 : scOk bn be) : pCmp (dyShift an 0 ae).1 (dyShift an 0 ae).2 (dyShift bn 0 be).1 (dyShift bn 0 be).2 = scCmp an ae bn be := by
  have e1 := sc62_shift h1.2.2.1 h1.2.2.2 (num := an)
  have e2 := sc62_shift h2.2.2.1 h2.2.2.2 (num := bn)
  unfold pCmp scCmp
  revert e1 e2
  generalize dyShift an 0 ae = p
  generalize dyShift bn 0 be = q
  obtain ⟨x, dx⟩ := p
  obtain ⟨y, dy⟩ := q
  generalize sc62 an ae = V1
  generalize sc62 bn be = V2
  intro e1 e2
  dsimp only at e1 e2 ⊢
  rw [← sgI_mul _ 62, ← sgI_mul (V1 - V2) (max dx dy)]
  congr 1
  have f1 : (2 : Int) ^ max dx dy = 2 ^ dx * 2 ^ (max dx dy - dx) := by rw [← Int.pow_add, show dx + (max dx dy - dx) = max dx dy by omega]
  have f2 : (2 : Int) ^ max dx dy = 2 ^ dy * 2 ^ (max dx dy - dy) := by rw [← Int.pow_add, show dy + (max dx dy - dy) = max dx dy by omega]
  rw [Int.sub_mul, Int.sub_mul]
  congr 1
  · rw [f1, ← Int.mul_assoc, ← e1, Int.mul_assoc, Int.mul_assoc, Int.mul_comm (2 ^ _) (2 ^ _)]
  · rw [f2, ← Int.mul_assoc, ← e2, Int.mul_assoc, Int.mul_assoc, Int.mul_comm (2 ^ _) (2 ^ _)]
/-- Where the doubling of one number ends. -/
structure DblAt (n e n0 e0 e1 : Int) : Prop where
  eq : sc62 n e = sc62 n0 e0
  lo : -62 ≤ e
  hi : e ≤ e0
  least : e = e0 ∨ e1 ≤ e
  small : -4294967296 < n ∧ n < 4294967296
  same : e = e0 → n = n0
theorem sgI_pos {x : Int} (h : 0 < x) : sgI x = 1 := by unfold sgI; rw [if_neg (by omega), if_neg (by omega)]
theorem sgI_neg {x : Int} (h : x < 0) : sgI x = -1 := by unfold sgI; rw [if_neg (by omega), if_pos h]
theorem sc62_eq {n e : Int} (k : Nat) (h : -62 ≤ e - k) : sc62 n e = (n * 2 ^ k) * 2 ^ (e - k + 62).toNat := by
  unfold sc62
  rw [Int.mul_assoc, ← Int.pow_add, show k + (e - (k : Int) + 62).toNat = (e + 62).toNat by omega]
theorem big_pos {n : Int} (h : 2147483648 ≤ n) (k : Nat) : 2147483648 ≤ n * 2 ^ k := by
  have hp : (1 : Int) ≤ 2 ^ k := by have := Int.pow_pos (n := 2) (m := k) (by decide); omega
  have := Int.mul_le_mul_of_nonneg_left hp (show 0 ≤ n by omega)
  omega
theorem big_neg {n : Int} (h : n ≤ -2147483648) (k : Nat) : n * 2 ^ k ≤ -2147483648 := by
  have := big_pos (n := -n) (by omega) k
  rw [Int.neg_mul] at this
  omega
theorem sgI_swap (x y : Int) : sgI (x - y) = -sgI (y - x) := by rw [← sgI_negv]; congr 1; omega
/-- The end: equal exponents, or the greater one's number is 0 or too great to be compared otherwise. -/
theorem cmp_end1 {a ea b eb : Int} (h1 : -62 ≤ eb) (h2 : eb ≤ ea) (h : ea = eb ∨ a = 0 ∨ 2147483648 ≤ a ∨ a ≤ -2147483648) (hb : -2147483648 < b ∧ b < 2147483648) : sgI (sc62 a ea - sc62 b eb) = sgI (a - b) := by
  obtain ⟨k, hk⟩ := Int.eq_ofNat_of_zero_le (show 0 ≤ ea - eb by omega)
  have e1 : sc62 a ea = (a * 2 ^ k) * 2 ^ (eb + 62).toNat := by rw [sc62_eq k (by omega), show ea - (k : Int) = eb by omega]
  have e2 : sc62 a ea - sc62 b eb = (a * 2 ^ k - b) * 2 ^ (eb + 62).toNat := by rw [e1, Int.sub_mul]; rfl
  rw [e2, sgI_mul]
  rcases h with h | h | h | h
  · have : k = 0 := by omega
    subst this
    simp
  · subst h; simp
  · have := big_pos h k
    rw [sgI_pos (by omega), sgI_pos (by omega)]
  · have := big_neg h k
    rw [sgI_neg (by omega), sgI_neg (by omega)]
theorem cmp_end2 {a ea b eb : Int} (h1 : -62 ≤ ea) (h2 : ea ≤ eb) (h : eb = ea ∨ b = 0 ∨ 2147483648 ≤ b ∨ b ≤ -2147483648) (ha : -2147483648 < a ∧ a < 2147483648) : sgI (sc62 a ea - sc62 b eb) = sgI (a - b) := by
  rw [sgI_swap, cmp_end1 h1 h2 h ha, ← sgI_swap]
theorem dbl_step {n e n0 e0 e1 : Int} (h : DblAt n e n0 e0 e1) (hs : -2147483648 < n ∧ n < 2147483648) (hgt : e1 < e) (h1 : -62 ≤ e1) : DblAt (2 * n) (e - 1) n0 e0 e1 :=
  ⟨by rw [← h.eq, sc62_eq (n := n) (e := e) 1 (by omega)]; unfold sc62; rw [Int.mul_comm 2 n]; rfl, by omega, by have := h.hi; omega, .inr (by omega), by omega, fun h2 => by have := h.hi; omega⟩
theorem sgI_three (x y : Int) : sgI (x - y) = if x < y then -1 else if y < x then 1 else 0 := by
  by_cases h : x < y
  · rw [if_pos h, sgI_neg (by omega)]
  · rw [if_neg h]
    by_cases h2 : y < x
    · rw [if_pos h2, sgI_pos (by omega)]
    · rw [if_neg h2, show x - y = 0 by omega]; rfl
theorem cmp_done {an ae bn be n e n2 e2 : Int} (H1 : DblAt n e an ae be) (X1 : e ≤ be ∨ n = 0 ∨ 2147483648 ≤ n ∨ n ≤ -2147483648) (H2 : DblAt n2 e2 bn be e) (X2 : e2 ≤ e ∨ n2 = 0 ∨ 2147483648 ≤ n2 ∨ n2 ≤ -2147483648)
    (sa : -2147483648 < an ∧ an < 2147483648) (sb : -2147483648 < bn ∧ bn < 2147483648) : scCmp an ae bn be = sgI (n - n2) := by
  unfold scCmp
  rw [← H1.eq, ← H2.eq]
  have l1 := H1.lo
  have l2 := H2.lo
  have u1 := H1.hi
  have u2 := H2.hi
  by_cases hc : be ≤ e
  · have he : e2 = be := by rcases H2.least with h | h <;> omega
    have hn := H2.same he
    exact cmp_end1 l2 (by omega) (by rcases X1 with h | h | h | h <;> omega) (by rw [hn]; exact sb)
  · have he : e = ae := by rcases H1.least with h | h <;> omega
    have hn := H1.same he
    exact cmp_end2 l1 (by rcases H2.least with h | h <;> omega) (by rcases X2 with h | h | h | h <;> rcases H2.least with h' | h' <;> omega) (by rw [hn]; exact sa)
end Go.Proofs.YtjlocofimlgaoaaDoor
namespace Go.Proofs.YtjlocofimlgaoaaDoor
set_option linter.unusedVariables false
set_option linter.unusedSimpArgs false
set_option linter.unusedSectionVars false
open Go.RowKit

def exOf (w : World) (b : Nat) : Int := intOf ((w.cell? ⟨b, 1, none⟩).getD undef)
def cm1Rel (w : World) (an ae bn be : Int) (wr : World) : Prop :=
  ∃ n e, RowD wr w.heap.size [.int .i64 n, .int .i64 e] 23 ∧ RowD wr (w.heap.size + 1) [.int .i64 bn, .int .i64 be] 23 ∧ DblAt n e an ae be ∧ Below w.heap.size w wr
def cm2Rel (w : World) (an ae bn be : Int) (wr : World) : Prop :=
  ∃ n e, RowD wr (w.heap.size + 1) [.int .i64 n, .int .i64 e] 23 ∧ RowD wr w.heap.size [.int .i64 an, .int .i64 ae] 23 ∧ DblAt n e bn be ae ∧ Below w.heap.size w wr
theorem exOf_row {w : World} {b t : Nat} {x : Value} {e : Int} (h : RowD w b [x, .int .i64 e] t) : exOf w b = e := by
  unfold exOf
  rw [show w.cell? ⟨b, 1, none⟩ = some (.int .i64 e) from h.cell 1]
  rfl
theorem cm_store {w wr : World} {b c t : Nat} {u v n e : Int} {vs : List Value} (h : RowD wr b [.int .i64 u, .int .i64 v] t) (h2 : RowD wr c vs t) (hbc : c ≠ b) (hb : w.heap.size ≤ b) (hw : Below w.heap.size w wr) :
    RowD ((wr.setCell ⟨b, 0, none⟩ (.int .i64 n)).setCell ⟨b, 1, none⟩ (.int .i64 e)) b [.int .i64 n, .int .i64 e] t ∧ RowD ((wr.setCell ⟨b, 0, none⟩ (.int .i64 n)).setCell ⟨b, 1, none⟩ (.int .i64 e)) c vs t ∧
      Below w.heap.size w ((wr.setCell ⟨b, 0, none⟩ (.int .i64 n)).setCell ⟨b, 1, none⟩ (.int .i64 e)) :=
  ⟨(h.set_ 0 _).set_ 1 _, (h2.other_ hbc 0 _).other_ hbc 1 _, (hw.setCell hb _).setCell hb _⟩
set_option maxRecDepth 100000 in
set_option maxHeartbeats 4000000 in
theorem scmp_any (an ae bn be : Int) (w : World) (h1 : scOk an ae) (h2 : scOk bn be) :
    Calls Tryd.prog 92 #[.agg #[.int .i64 an, .int .i64 ae], .agg #[.int .i64 bn, .int .i64 be]] w fun e w' => e = .returned (.int .i64 (scCmp an ae bn be)) ∧ Below w.heap.size w w' := by
  obtain ⟨a1, a2, a3, a4⟩ := h1
  obtain ⟨b1, b2, b3, b4⟩ := h2
  have b0 : Below w.heap.size w ((w.alloc (.cells #[.int .i64 an, .int .i64 ae] 23)).alloc (.cells #[.int .i64 bn, .int .i64 be] 23)) := ext_alloc (ext_alloc (Below.refl _ _) _) _
  have r0 := (RowD.new_ w [.int .i64 an, .int .i64 ae] 23).call (al_ _ (.cells #[.int .i64 bn, .int .i64 be] 23))
  have r1 := RowD.new_ (w.alloc (.cells #[.int .i64 an, .int .i64 ae] 23)) [.int .i64 bn, .int .i64 be] 23
  rw [show (w.alloc (.cells #[.int .i64 an, .int .i64 ae] 23)).heap.size = w.heap.size + 1 by simp] at r1
  go_enter Tryd.func92, Tryd.ntmps92
  go_wp2_with fail
  obtain ⟨W, hW⟩ : ∃ W, W = ((w.alloc (.cells #[.int .i64 an, .int .i64 ae] 23)).alloc (.cells #[.int .i64 bn, .int .i64 be] 23)) := ⟨_, rfl⟩
  rw [← hW]
  rw [← hW] at b0 r0 r1
  clear hW
  go_loopw [] (fun wr => cm1Rel w an ae bn be wr) (fun wr => (exOf wr w.heap.size - be).toNat)
  case atStart => exact ⟨an, ae, r0, r1, ⟨rfl, by omega, by omega, .inl rfl, by omega, fun _ => rfl⟩, b0⟩
  case round =>
    clear b0 r0 r1
    obtain ⟨n, e, r0, r1, hd, hb⟩ := hrel
    have c0 : wr.cell? ⟨w.heap.size, 0, none⟩ = some (.int .i64 n) := r0.cell 0
    have c1 : wr.cell? ⟨w.heap.size, 1, none⟩ = some (.int .i64 e) := r0.cell 1
    have c2 : wr.cell? ⟨w.heap.size + 1, 0, none⟩ = some (.int .i64 bn) := r1.cell 0
    have c3 : wr.cell? ⟨w.heap.size + 1, 1, none⟩ = some (.int .i64 be) := r1.cell 1
    have z0 := r0.lt
    have z1 := r1.lt
    have f0 := r0.free
    have f1 := r1.free
    have d1 := hd.small.1
    have d2 := hd.small.2
    have d3 := hd.lo
    have d4 := hd.hi
    have HD := Lib.hid hd
    have R0 := Lib.hid r0
    have R1 := Lib.hid r1
    clear hd r0 r1
    by_cases hgo : be < e ∧ n ≠ 0 ∧ -2147483648 < n ∧ n < 2147483648
    · obtain ⟨g1, g2, g3, g4⟩ := hgo
      have g2 : (n == 0) = false := by simpa using g2
      go_wp2_with fail
      obtain ⟨s0, s1, s2⟩ := cm_store (n := 2 * n) (e := e - 1) R0.out R1.out (by omega) (by omega) hb
      refine ⟨⟨2 * n, e - 1, by first | exact s0 | (rw [wrap64_in' (by omega) (by omega)]; exact s0), s1, dbl_step HD.out ⟨g3, g4⟩ g1 (by omega), s2⟩, ?_⟩
      rw [exOf_row s0, exOf_row R0.out]
      omega
    · have hx : e ≤ be ∨ n = 0 ∨ 2147483648 ≤ n ∨ n ≤ -2147483648 := by omega
      have X1 := Lib.hid hx
      clear hgo
      have key : (decide (be < e) = false) ∨ (decide (be < e) = true ∧ (n == 0) = true) ∨ (decide (be < e) = true ∧ (n == 0) = false ∧ 2147483648 ≤ n) ∨ (decide (be < e) = true ∧ (n == 0) = false ∧ n ≤ -2147483648) := by
        simp only [decide_eq_false_iff_not, decide_eq_true_eq, beq_iff_eq, beq_eq_false_iff_ne]
        omega
      clear hx
      rcases key with k1 | ⟨k1, k2⟩ | ⟨k1, k2, k3⟩ | ⟨k1, k2, k3⟩
      all_goals
        go_wp2_with fail
        all_goals try (exfalso; omega)
        clear c0 c1 c2 c3 f0 f1 k1
        obtain ⟨w1, hw1⟩ : ∃ w1, w1 = wr := ⟨_, rfl⟩
        rw [← hw1] at R0 R1 hb
        rw [← hw1]
        clear hw1 z0 z1
        go_loopw [] (fun wr => cm2Rel w n e bn be wr) (fun wr => (exOf wr (w.heap.size + 1) - e).toNat)
        case atStart => exact ⟨bn, be, R1.out, R0.out, ⟨rfl, by omega, by omega, .inl rfl, by omega, fun _ => rfl⟩, hb⟩
        case round =>
          clear hb R0 R1
          obtain ⟨n2, e2, r0, r1, hd, hb⟩ := hrel
          have c0 : wr.cell? ⟨w.heap.size + 1, 0, none⟩ = some (.int .i64 n2) := r0.cell 0
          have c1 : wr.cell? ⟨w.heap.size + 1, 1, none⟩ = some (.int .i64 e2) := r0.cell 1
          have c2 : wr.cell? ⟨w.heap.size, 0, none⟩ = some (.int .i64 n) := r1.cell 0
          have c3 : wr.cell? ⟨w.heap.size, 1, none⟩ = some (.int .i64 e) := r1.cell 1
          have z0 := r0.lt
          have z1 := r1.lt
          have f0 := r0.free
          have f1 := r1.free
          have j1 := hd.small.1
          have j2 := hd.small.2
          have j3 := hd.lo
          have j4 := hd.hi
          have HD2 := Lib.hid hd
          have R0 := Lib.hid r0
          have R1 := Lib.hid r1
          clear hd r0 r1
          by_cases hgo : e < e2 ∧ n2 ≠ 0 ∧ -2147483648 < n2 ∧ n2 < 2147483648
          · obtain ⟨g1, g2, g3, g4⟩ := hgo
            have g2 : (n2 == 0) = false := by simpa using g2
            clear d1 d2 d4
            go_wp2_with fail
            all_goals try (exfalso; omega)
            obtain ⟨s0, s1, s2⟩ := cm_store (n := 2 * n2) (e := e2 - 1) R0.out R1.out (by omega) (by omega) hb
            refine ⟨⟨2 * n2, e2 - 1, by first | exact s0 | (rw [wrap64_in' (by omega) (by omega)]; exact s0), s1, dbl_step HD2.out ⟨g3, g4⟩ g1 (by omega), s2⟩, ?_⟩
            rw [exOf_row s0, exOf_row R0.out]
            omega
          · have hx : e2 ≤ e ∨ n2 = 0 ∨ 2147483648 ≤ n2 ∨ n2 ≤ -2147483648 := by omega
            have HV := Lib.hid (cmp_done HD.out X1.out HD2.out hx ⟨a1, a2⟩ ⟨b1, b2⟩)
            have HV2 := Lib.hid (HV.out.trans (sgI_three n n2))
            clear HV hgo
            have key : (decide (e < e2) = false) ∨ (decide (e < e2) = true ∧ (n2 == 0) = true) ∨ (decide (e < e2) = true ∧ (n2 == 0) = false ∧ 2147483648 ≤ n2) ∨ (decide (e < e2) = true ∧ (n2 == 0) = false ∧ n2 ≤ -2147483648) := by
              simp only [decide_eq_false_iff_not, decide_eq_true_eq, beq_iff_eq, beq_eq_false_iff_ne]
              omega
            clear hx
            rcases key with k1 | ⟨k1, k2⟩ | ⟨k1, k2, k3⟩ | ⟨k1, k2, k3⟩
            all_goals
              go_wp2_with fail
              all_goals try (exfalso; omega)
              all_goals try go_wp2_with fail
              all_goals
                go_ret
                refine ⟨?_, hb⟩
                rw [HV2.out]
                first
                  | (rw [if_pos (by omega)]; rfl)
                  | (rw [if_neg (by omega), if_pos (by omega)]; rfl)
                  | (rw [if_neg (by omega), if_neg (by omega)]; rfl)
end Go.Proofs.YtjlocofimlgaoaaDoor
