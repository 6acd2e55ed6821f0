/- Raw values of scalars: plain laws. No conditions. The program's raw values. Condition: the table of math/bits stands in block 0. -/
import Derived.Test.YtjlocofimlgaoaaDoorWd
import Derived.Test.YtjlocofimlgaoaaDoorPdO
import Derived.Test.YtjlocofimlgaoaaDoorNoi
import Derived.Test.YtjlocofimlgaoaaDoorSt3
namespace Go.Proofs.YtjlocofimlgaoaaDoor
set_option linter.unusedVariables false
set_option linter.unusedSimpArgs false
set_option linter.unusedSectionVars false
open Go.RowKit

/-- The greatest integer that is at most x * 2^k. -/
def shE (x k : Int) : Int := if k < 0 then x / 2 ^ (-k).toNat else x * 2 ^ k.toNat
theorem nf_floor (x : Int) (p : Nat) : (nf x p).1 / 2 ^ (nf x p).2 = x / 2 ^ p := by
  induction p generalizing x with
  | zero => rfl
  | succ p ih =>
    unfold nf
    split
    · rename_i h
      rw [ih]
      have e : x = 2 * (x / 2) := by omega
      rw [Int.pow_succ, Int.mul_comm (2 ^ p) 2, ← Int.ediv_ediv_of_nonneg (by omega)]
    · rfl
theorem dyFloor_zero (x : Int) (d : Nat) : dyFloor x d 0 = (x / 2 ^ d, 0) := by
  unfold dyFloor
  by_cases h : d ≤ 0
  · have : d = 0 := by omega
    subst this
    simp
  · rw [if_neg h]
    rfl
theorem sh_val {x k : Int} (h1 : -65536 ≤ k) (h2 : k ≤ 65536) : dyFloor (dyShift x 0 k).1 (dyShift x 0 k).2 0 = (shE x k, 0) := by
  rw [dyFloor_zero]
  congr 1
  unfold dyShift shE
  rw [show max (-65536) (min k 65536) = k by omega]
  by_cases h : k < 0
  · rw [if_pos h, if_pos h, Nat.zero_add]
    exact nf_floor _ _
  · rw [if_neg h, if_neg h]
    show x * 2 ^ k.toNat / 2 ^ 0 = _
    simp
/-- The raw value of n * 2^e with the scale f, and its error. -/
def rawOk (n e f : Int) : Prop := -2147483648 < n ∧ n < 2147483648 ∧ -62 ≤ e ∧ e ≤ 30 ∧ 0 ≤ f ∧ f ≤ 30
instance (n e f : Int) : Decidable (rawOk n e f) := by unfold rawOk; infer_instance
def rawErr (n e f : Int) : Int := if rawOk n e f then (if -2147483648 ≤ shE n (e + f) ∧ shE n (e + f) < 2147483648 then 0 else 13) else 3
def rawV (n e f : Int) : Int := if rawErr n e f = 0 then shE n (e + f) else 0
theorem raw_no {n e f : Int} (h : ¬ rawOk n e f) : rawErr n e f = 3 ∧ rawV n e f = 0 := by
  have h1 : rawErr n e f = 3 := if_neg h
  exact ⟨h1, by unfold rawV; rw [h1]; rfl⟩
theorem raw_far {n e f : Int} (h : rawOk n e f) (h2 : ¬ (-2147483648 ≤ shE n (e + f) ∧ shE n (e + f) < 2147483648)) : rawErr n e f = 13 ∧ rawV n e f = 0 := by
  have h1 : rawErr n e f = 13 := by unfold rawErr; rw [if_pos h, if_neg h2]
  exact ⟨h1, by unfold rawV; rw [h1]; rfl⟩
theorem raw_yes {n e f : Int} (h : rawOk n e f) (h2 : -2147483648 ≤ shE n (e + f) ∧ shE n (e + f) < 2147483648) : rawErr n e f = 0 ∧ rawV n e f = shE n (e + f) := by
  have h1 : rawErr n e f = 0 := by unfold rawErr; rw [if_pos h, if_pos h2]
  exact ⟨h1, by unfold rawV; rw [h1]; rfl⟩
theorem abs_mul_le {x : Int} {k : Nat} (hx : x.natAbs ≤ 2147483648) (hk : k ≤ 100) : (x * 2 ^ k).natAbs ≤ 2147483648 * 2 ^ 100 := by
  rw [Int.natAbs_mul, Int.natAbs_pow]
  exact Nat.mul_le_mul hx (Nat.pow_le_pow_right (by decide) hk)
theorem abs_div_le {x : Int} (k : Nat) : (x / 2 ^ k).natAbs ≤ x.natAbs := by
  have hp : (0 : Int) < 2 ^ k := Int.pow_pos (by decide)
  have h1 := Int.mul_ediv_add_emod x (2 ^ k)
  have h2 := Int.emod_nonneg x (Int.ne_of_gt hp)
  have h3 := Int.emod_lt_of_pos x hp
  have hle : (0 : Int) ≤ x → 0 ≤ x / 2 ^ k := fun h => Int.ediv_nonneg h (Int.le_of_lt hp)
  by_cases h : 0 ≤ x
  · have h4 := hle h
    have h5 := Int.ediv_le_self (2 ^ k) h
    omega
  · have h4 : x ≤ x / 2 ^ k := by
      rw [Int.le_ediv_iff_mul_le hp]
      have h6 : (1 : Int) ≤ 2 ^ k := hp
      have h7 := Int.mul_nonneg (a := -x) (b := 2 ^ k - 1) (by omega) (by omega)
      rw [Int.neg_mul, Int.mul_sub, Int.mul_one] at h7
      omega
    have h5 : x / 2 ^ k < 0 := Int.ediv_neg_of_neg_of_pos (by omega) hp
    omega
/-- How long the numbers are on the way. -/
theorem sh_len {x k : Int} (hx : x.natAbs ≤ 2147483648) (h1 : -100 ≤ k) (h2 : k ≤ 100) : (canon (dyShift x 0 k).1.natAbs).length ≤ 5 := by
  refine canon_len_le (Nat.lt_of_le_of_lt (m := 2147483648 * 2 ^ 100) ?_ (by decide))
  unfold dyShift
  rw [show max (-65536) (min k 65536) = k by omega]
  by_cases h : k < 0
  · rw [if_pos h]
    exact Nat.le_trans (nf_abs_le _ _) (Nat.le_trans hx (by decide))
  · rw [if_neg h]
    exact Nat.le_trans (nf_abs_le _ _) (abs_mul_le hx (by omega))
theorem shE_len {x k : Int} (hx : x.natAbs ≤ 2147483648) (h2 : k ≤ 100) : (canon (shE x k).natAbs).length ≤ 5 := by
  refine canon_len_le (Nat.lt_of_le_of_lt (m := 2147483648 * 2 ^ 100) ?_ (by decide))
  unfold shE
  by_cases h : k < 0
  · rw [if_pos h]
    exact Nat.le_trans (abs_div_le _) (Nat.le_trans hx (by decide))
  · rw [if_neg h]
    exact abs_mul_le hx (by omega)
end Go.Proofs.YtjlocofimlgaoaaDoor
namespace Go.Proofs.YtjlocofimlgaoaaDoor
set_option linter.unusedVariables false
set_option linter.unusedSimpArgs false
set_option linter.unusedSectionVars false
open Go.RowKit

theorem rawOk_parts {n e f : Int} (h : rawOk n e f) : ¬ n ≤ -2147483648 ∧ ¬ 2147483648 ≤ n ∧ ¬ e < -62 ∧ ¬ 30 < e ∧ ¬ f < 0 ∧ ¬ 30 < f := by
  unfold rawOk at h
  omega
theorem rawOk_not {n e f : Int} (h : ¬ rawOk n e f) : n ≤ -2147483648 ∨ (¬ n ≤ -2147483648 ∧ 2147483648 ≤ n) ∨ (¬ n ≤ -2147483648 ∧ ¬ 2147483648 ≤ n ∧ e < -62) ∨ (¬ n ≤ -2147483648 ∧ ¬ 2147483648 ≤ n ∧ ¬ e < -62 ∧ 30 < e) ∨
    (¬ n ≤ -2147483648 ∧ ¬ 2147483648 ≤ n ∧ ¬ e < -62 ∧ ¬ 30 < e ∧ f < 0) ∨ (¬ n ≤ -2147483648 ∧ ¬ 2147483648 ≤ n ∧ ¬ e < -62 ∧ ¬ 30 < e ∧ ¬ f < 0 ∧ 30 < f) := by
  unfold rawOk at h
  omega
set_option maxRecDepth 100000 in
set_option maxHeartbeats 4000000 in
theorem praw_no (n e f : Int) (w : World) (h : ¬ rawOk n e f) :
    Calls Tryd.prog 10 #[.agg #[.int .i64 n, .int .i64 e], .int .i64 f] w fun r w' => r = .returned (.tuple #[.int .i64 (rawV n e f), errV (rawErr n e f)]) ∧ Below w.heap.size w w' := by
  have HV := Lib.hid (raw_no h)
  have b0 := al_ w (.cells #[.int .i64 n, .int .i64 e] 23)
  have r0 := RowD.new_ w [.int .i64 n, .int .i64 e] 23
  have h' := rawOk_not h
  clear h
  rcases h' with g0 | ⟨g0, g1⟩ | ⟨g0, g1, g2⟩ | ⟨g0, g1, g2, g3⟩ | ⟨g0, g1, g2, g3, g4⟩ | ⟨g0, g1, g2, g3, g4, g5⟩
  · have d0 : decide (n ≤ -2147483648) = true := decide_eq_true g0
    clear g0
    go_enter Tryd.func10, Tryd.ntmps10
    go_wp2_with fail
    exact bodyPost_ret (v := .tuple #[.int .i64 0, .iface 34 (.int .i64 3)]) (by simp [results, Tryd.results10, go_sem]) rfl ⟨by rw [HV.out.1, HV.out.2]; rfl, b0⟩
  · have d0 : decide (n ≤ -2147483648) = false := decide_eq_false g0
    have d1 : decide (2147483648 ≤ n) = true := decide_eq_true g1
    clear g0 g1
    go_enter Tryd.func10, Tryd.ntmps10
    go_wp2_with fail
    exact bodyPost_ret (v := .tuple #[.int .i64 0, .iface 34 (.int .i64 3)]) (by simp [results, Tryd.results10, go_sem]) rfl ⟨by rw [HV.out.1, HV.out.2]; rfl, b0⟩
  · have d0 : decide (n ≤ -2147483648) = false := decide_eq_false g0
    have d1 : decide (2147483648 ≤ n) = false := decide_eq_false g1
    have d2 : decide (e < -62) = true := decide_eq_true g2
    clear g0 g1 g2
    go_enter Tryd.func10, Tryd.ntmps10
    go_wp2_with fail
    exact bodyPost_ret (v := .tuple #[.int .i64 0, .iface 34 (.int .i64 3)]) (by simp [results, Tryd.results10, go_sem]) rfl ⟨by rw [HV.out.1, HV.out.2]; rfl, b0⟩
  · have d0 : decide (n ≤ -2147483648) = false := decide_eq_false g0
    have d1 : decide (2147483648 ≤ n) = false := decide_eq_false g1
    have d2 : decide (e < -62) = false := decide_eq_false g2
    have d3 : decide (30 < e) = true := decide_eq_true g3
    clear g0 g1 g2 g3
    go_enter Tryd.func10, Tryd.ntmps10
    go_wp2_with fail
    exact bodyPost_ret (v := .tuple #[.int .i64 0, .iface 34 (.int .i64 3)]) (by simp [results, Tryd.results10, go_sem]) rfl ⟨by rw [HV.out.1, HV.out.2]; rfl, b0⟩
  · have d0 : decide (n ≤ -2147483648) = false := decide_eq_false g0
    have d1 : decide (2147483648 ≤ n) = false := decide_eq_false g1
    have d2 : decide (e < -62) = false := decide_eq_false g2
    have d3 : decide (30 < e) = false := decide_eq_false g3
    have d4 : decide (f < 0) = true := decide_eq_true g4
    clear g0 g1 g2 g3 g4
    go_enter Tryd.func10, Tryd.ntmps10
    go_wp2_with fail
    exact bodyPost_ret (v := .tuple #[.int .i64 0, .iface 34 (.int .i64 3)]) (by simp [results, Tryd.results10, go_sem]) rfl ⟨by rw [HV.out.1, HV.out.2]; rfl, b0⟩
  · have d0 : decide (n ≤ -2147483648) = false := decide_eq_false g0
    have d1 : decide (2147483648 ≤ n) = false := decide_eq_false g1
    have d2 : decide (e < -62) = false := decide_eq_false g2
    have d3 : decide (30 < e) = false := decide_eq_false g3
    have d4 : decide (f < 0) = false := decide_eq_false g4
    have d5 : decide (30 < f) = true := decide_eq_true g5
    clear g0 g1 g2 g3 g4 g5
    go_enter Tryd.func10, Tryd.ntmps10
    go_wp2_with fail
    exact bodyPost_ret (v := .tuple #[.int .i64 0, .iface 34 (.int .i64 3)]) (by simp [results, Tryd.results10, go_sem]) rfl ⟨by rw [HV.out.1, HV.out.2]; rfl, b0⟩
set_option maxRecDepth 100000 in
set_option maxHeartbeats 4000000 in
theorem praw_ok (n e f : Int) (w : World) (h : rawOk n e f) (ht : TabAt w) :
    Calls Tryd.prog 10 #[.agg #[.int .i64 n, .int .i64 e], .int .i64 f] w fun r w' => r = .returned (.tuple #[.int .i64 (rawV n e f), errV (rawErr n e f)]) ∧ Below w.heap.size w w' := by
  have hp := rawOk_parts h
  have hn : n.natAbs ≤ 2147483648 := by have := hp.1; have := hp.2.1; omega
  have hk : -62 ≤ e + f ∧ e + f ≤ 60 := by obtain ⟨_, _, _, _, _, _⟩ := hp; omega
  have HOK := Lib.hid h
  have HT := Lib.hid ht
  obtain ⟨g0, g1, g2, g3, g4, g5⟩ := hp
  have d0 : decide (n ≤ -2147483648) = false := decide_eq_false g0
  have d1 : decide (2147483648 ≤ n) = false := decide_eq_false g1
  have d2 : decide (e < -62) = false := decide_eq_false g2
  have d3 : decide (30 < e) = false := decide_eq_false g3
  have d4 : decide (f < 0) = false := decide_eq_false g4
  have d5 : decide (30 < f) = false := decide_eq_false g5
  have hi1 : -9223372036854775808 ≤ n := by omega
  have hi2 : n < 9223372036854775808 := by omega
  have l5 : (canon n.natAbs).length ≤ 50000 := Nat.le_trans (canon_len_le (k := 1) (by omega)) (by decide)
  have l6 : (canon (dyShift n 0 (e + f)).1.natAbs).length ≤ 50000 := Nat.le_trans (sh_len hn (by omega) (by omega)) (by decide)
  have l7 : (canon (shE n (e + f)).natAbs).length ≤ 50000 := Nat.le_trans (shE_len hn (by omega)) (by decide)
  have hsv := Lib.hid (sh_val (x := n) (k := e + f) (by omega) (by omega))
  obtain ⟨k, hkk⟩ : ∃ k, k = e + f := ⟨_, rfl⟩
  have hw1 : IntKind.i64.wrap (e + f) = k := by rw [hkk]; exact IntWalk.i64_in _ (by omega)
  rw [← hkk] at l6 l7 hsv hk
  have HKK := Lib.hid hkk
  obtain ⟨x, hx⟩ : ∃ x, x = shE n k := ⟨_, rfl⟩
  rw [← hx] at l7 hsv
  have HX := Lib.hid hx
  clear h ht g0 g1 g2 g3 g4 g5 hkk hx
  go_enter Tryd.func10, Tryd.ntmps10
  go_wp2_with fail
  obtain ⟨W, hW⟩ : ∃ q, q = w.alloc (.cells #[.int .i64 n, .int .i64 e] 23) := ⟨_, rfl⟩
  have rX : RowD W w.heap.size [.int .i64 n, .int .i64 e] 23 := by rw [hW]; exact RowD.new_ _ _ _
  have bW : Below w.heap.size w W := by rw [hW]; exact al_ _ _
  rw [← hW]
  clear hW
  have hA := rX.lt
  have a0 : W.cell? ⟨w.heap.size, 0, none⟩ = some (.int .i64 n) := rX.cell 0
  have a1 : W.cell? ⟨w.heap.size, 1, none⟩ = some (.int .i64 e) := rX.cell 1
  have HTW := Lib.hid (HT.out.below bW HT.out.1)
  have hWs := bW.size
  refine wp_region_E1 13 13 11 (by kernel_rfl) (by kernel_rfl) (by kernel_rfl) (by decide) ?_
  dsimp only [List.take, List.drop]
  obtain ⟨u0, hu0⟩ : ∃ q, q = W.drew := ⟨_, rfl⟩
  have hS : Below W.heap.size W u0 := by rw [hu0]; exact (Below.refl _ _).drew
  rw [← hu0]
  clear hu0
  refine takeE 0 ?v0 rfl (by kernel_rfl) (by intro _ _ _ h; exact h) (by rfl) ?h0 ?r0
  case h0 =>
    intro w2 hx
    go_simp
    try rfl
  case' r0 => try simp only [Act.put, List.setIfInBounds_toArray, List.set_cons_zero, List.set_cons_succ]
  refine takeE 1 ?v1 rfl (by kernel_rfl) (by intro _ _ _ h; exact h) (by rfl) ?h1 ?r1
  case h1 =>
    intro w2 hx
    have e0 : w2.cell? ⟨w.heap.size, 0, none⟩ = some (.int .i64 n) := ((hS.trans (hx.more0.mono hS.size)).cell (p := ⟨w.heap.size, 0, none⟩) hA).trans a0
    go_simp
    try rfl
  case' r1 => try simp only [Act.put, List.setIfInBounds_toArray, List.set_cons_zero, List.set_cons_succ]
  refine takeE 3 ?v3 rfl (by kernel_rfl) (by intro _ _ _ h; exact h) (by rfl) ?h3 ?r3
  case h3 =>
    intro w2 hx
    go_simp
    try rfl
  case' r3 => try simp only [Act.put, List.setIfInBounds_toArray, List.set_cons_zero, List.set_cons_succ]
  refine takeE 4 ?v4 rfl (by kernel_rfl) (by intro _ _ _ h; exact h) (by rfl) ?h4 ?r4
  case h4 =>
    intro w2 hx
    have e1 : w2.cell? ⟨w.heap.size, 1, none⟩ = some (.int .i64 e) := ((hS.trans (hx.more0.mono hS.size)).cell (p := ⟨w.heap.size, 1, none⟩) hA).trans a1
    go_simp
    try rfl
  case' r4 => try simp only [Act.put, List.setIfInBounds_toArray, List.set_cons_zero, List.set_cons_succ]
  refine takeE 5 ?v5 rfl (by kernel_rfl) (by intro _ _ _ h; exact h) (by rfl) ?h5 ?r5
  case h5 =>
    intro w2 hx
    go_simp
    try rfl
  case' r5 => try simp only [Act.put, List.setIfInBounds_toArray, List.set_cons_zero, List.set_cons_succ]
  refine takeE 6 ?v6 rfl (by kernel_rfl) (by intro _ _ _ h; exact h) (by rfl) ?h6 ?r6
  case h6 =>
    intro w2 hx
    have hw2 := hw1
    go_simp
    try rfl
  case' r6 => try simp only [Act.put, List.setIfInBounds_toArray, List.set_cons_zero, List.set_cons_succ]
  refine makeE 12 (fun g => .pointer (some ⟨g, 0, none⟩)) (.cells #[.bool false, .slice none 0 0, .int .i64 0] 37) W.heap.size rfl (by kernel_rfl) (by intro _ _ _ _ h; exact h) (by rfl) (by intro w2; go_simp; try rfl) hS.size (by intro b h; exact h.elim) ?_
  refine stepE 2 rfl (by kernel_rfl) (by rfl) ?_
  intro x1 hx K hK
  have hS1 := hS.trans (hx.mono hS.size)
  clear hS
  go_simp
  refine (pof_any n hi1 hi2 x1 (HTW.out.below hS1 HTW.out.1)).mono ?_
  rintro e u1 ⟨v5, rfl, D5, hb⟩
  have hS := hS1.trans (hb.mono hS1.size)
  obtain ⟨nb5, A5, L5, c5, rfl, _⟩ := D5.form
  refine hK.out _ _ (MoreW.growU hb) ?_
  clear hK K hx hS1 hb
  try simp only [Act.put, List.setIfInBounds_toArray, List.set_cons_zero, List.set_cons_succ]
  refine stepE 7 rfl (by kernel_rfl) (by rfl) ?_
  intro x2 hx K hK
  have hS1 := hS.trans (hx.mono hS.size)
  clear hS
  replace D5 := (D5.below hx (Nat.le_refl _)).more hx.size
  go_simp
  refine (pshift_any (n := k) D5 (Nat.le_refl _) l5 (by omega) (HTW.out.below hS1 HTW.out.1)).mono ?_
  rintro e u2 ⟨v6, rfl, D6, hb⟩
  have hS := hS1.trans (hb.mono hS1.size)
  replace D5 := (D5.below hb (Nat.le_refl _)).more hb.size
  obtain ⟨nb6, A6, L6, c6, rfl, _⟩ := D6.form
  clear D5
  refine hK.out _ _ (MoreW.growU hb) ?_
  clear hK K hx hS1 hb
  try simp only [Act.put, List.setIfInBounds_toArray, List.set_cons_zero, List.set_cons_succ]
  refine stepE 8 rfl (by kernel_rfl) (by rfl) ?_
  intro x3 hx K hK
  have hS1 := hS.trans (hx.mono hS.size)
  clear hS
  replace D6 := (D6.below hx (Nat.le_refl _)).more hx.size
  go_simp
  refine (pfloor_any (den := 0) D6 (Nat.le_refl _) l6 (by omega) (HTW.out.below hS1 HTW.out.1)).mono ?_
  rintro e u3 ⟨v7, rfl, D7, hb⟩
  have hS := hS1.trans (hb.mono hS1.size)
  replace D6 := (D6.below hb (Nat.le_refl _)).more hb.size
  rw [hsv.out] at D7
  obtain ⟨nb7, A7, L7, c7, rfl, _⟩ := D7.form
  clear D6
  refine hK.out _ _ (MoreW.growU hb) ?_
  clear hK K hx hS1 hb
  try simp only [Act.put, List.setIfInBounds_toArray, List.set_cons_zero, List.set_cons_succ]
  refine takeE 9 ?v9 rfl (by kernel_rfl) (by intro _ _ _ h; exact h) (by rfl) ?h9 ?r9
  case h9 =>
    intro w2 hx
    go_simp
    try rfl
  case' r9 => try simp only [Act.put, List.setIfInBounds_toArray, List.set_cons_zero, List.set_cons_succ]
  refine takeE 10 ?v10 rfl (by kernel_rfl) (by intro _ _ _ h; exact h) (by rfl) ?h10 ?r10
  case h10 =>
    intro w2 hx
    go_simp
    try rfl
  case' r10 => try simp only [Act.put, List.setIfInBounds_toArray, List.set_cons_zero, List.set_cons_succ]
  refine takeE 11 ?v11 rfl (by kernel_rfl) (by intro _ _ _ h; exact h) (by rfl) ?h11 ?r11
  case h11 =>
    intro w2 hx
    go_simp
    try rfl
  case' r11 => try simp only [Act.put, List.setIfInBounds_toArray, List.set_cons_zero, List.set_cons_succ]
  refine endE (by kernel_rfl) ?_
  intro u4 hx g hg hU hgo
  dsimp only [PartQ]
  have rg : RowD u4 g [.bool false, .slice none 0 0, .int .i64 0] 37 := hgo
  have hS4 := hS.trans (hx.mono hS.size)
  replace D7 := (D7.below hx (Nat.le_refl _)).more hx.size
  clear hx hS hU hgo
  have RG := Lib.hid rg
  have HD7 := Lib.hid D7
  have HS4 := Lib.hid hS4
  have c0 : u4.cell? ⟨g, 0, none⟩ = some (.bool false) := rg.cell 0
  have c1 : u4.cell? ⟨g, 1, none⟩ = some (.slice none 0 0) := rg.cell 1
  have c2 : u4.cell? ⟨g, 2, none⟩ = some (.int .i64 0) := rg.cell 2
  have cf := rg.free
  have cg := rg.lt
  clear rg D7 hS4 a0 a1
  go_wp2_with fail
  refine NoPanic.normal ?_
  go_wp2_with fail
  go_at_call 42
  obtain ⟨y, hy⟩ : ∃ q, q = (((u4.setCell ⟨g, 0, none⟩ (.bool nb7)).setCell ⟨g, 1, none⟩ (.slice A7 L7 c7)).setCell ⟨g, 2, none⟩ (.int .i64 0)) := ⟨_, rfl⟩
  have Dy : DyR y x3.heap.size y.heap.size (.agg #[.bool nb7, .slice A7 L7 c7, .int .i64 ((0 : Nat) : Int)]) x 0 := by rw [hy, size3d]; exact HD7.out.set3H RG.out noWd3 noWd3
  have hSy : Below W.heap.size W y := by rw [hy]; exact below_set3d HS4.out hg _ _ _
  try rw [← hy]
  clear hy
  refine (pint_any (m := y.heap.size) Dy rfl (Nat.le_refl _) l7).mono ?_
  rintro e8 u8 ⟨rfl, hb8⟩
  have HF := Lib.hid (bW.trans ((hSy.trans (hb8.mono hSy.size)).mono hWs))
  clear hb8 hSy Dy HS4 RG HD7 cf cg c0 c1 c2 hg
  by_cases h32 : -2147483648 ≤ x ∧ x < 2147483648
  · have HV := Lib.hid (raw_yes HOK.out (by rw [← HKK.out, ← HX.out]; exact h32))
    have h64 := i64_yes (x := x) (by omega)
    rw [h64.1, h64.2]
    have f1 : decide (x < -2147483648) = false := decide_eq_false (by omega)
    have f2 : decide (2147483648 ≤ x) = false := decide_eq_false (by omega)
    clear h64
    clear h32
    go_wp2_with fail
    exact bodyPost_ret (v := .tuple #[.int .i64 x, .nilIface]) (by simp [results, Tryd.results10, go_sem]) rfl ⟨by rw [HV.out.1, HV.out.2, ← HKK.out, ← HX.out]; rfl, HF.out⟩
  · by_cases h64 : -9223372036854775808 ≤ x ∧ x < 9223372036854775808
    · by_cases h7 : x < -2147483648
      · have HV := Lib.hid (raw_far HOK.out (by rw [← HKK.out, ← HX.out]; exact h32))
        have h6 := i64_yes h64
        rw [h6.1, h6.2]
        have f1 : decide (x < -2147483648) = true := decide_eq_true h7
        clear h6 h64 h7
        clear h32
        go_wp2_with fail
        exact bodyPost_ret (v := .tuple #[.int .i64 0, .iface 34 (.int .i64 13)]) (by simp [results, Tryd.results10, go_sem]) rfl ⟨by rw [HV.out.1, HV.out.2]; rfl, HF.out⟩
      · have HV := Lib.hid (raw_far HOK.out (by rw [← HKK.out, ← HX.out]; exact h32))
        have h6 := i64_yes h64
        rw [h6.1, h6.2]
        have f1 : decide (x < -2147483648) = false := decide_eq_false h7
        have f2 : decide (2147483648 ≤ x) = true := decide_eq_true (by omega)
        clear h6 h64 h7
        clear h32
        go_wp2_with fail
        exact bodyPost_ret (v := .tuple #[.int .i64 0, .iface 34 (.int .i64 13)]) (by simp [results, Tryd.results10, go_sem]) rfl ⟨by rw [HV.out.1, HV.out.2]; rfl, HF.out⟩
    · have HV := Lib.hid (raw_far HOK.out (by rw [← HKK.out, ← HX.out]; exact h32))
      have h6 := i64_no h64
      rw [h6.1, h6.2]
      clear h6 h64
      clear h32
      go_wp2_with fail
      exact bodyPost_ret (v := .tuple #[.int .i64 0, .iface 34 (.int .i64 13)]) (by simp [results, Tryd.results10, go_sem]) rfl ⟨by rw [HV.out.1, HV.out.2]; rfl, HF.out⟩
theorem praw_any (n e f : Int) (w : World) (ht : TabAt w) :
    Calls Tryd.prog 10 #[.agg #[.int .i64 n, .int .i64 e], .int .i64 f] w fun r w' => r = .returned (.tuple #[.int .i64 (rawV n e f), errV (rawErr n e f)]) ∧ Below w.heap.size w w' := by
  by_cases h : rawOk n e f
  · exact praw_ok n e f w h ht
  · exact praw_no n e f w h
end Go.Proofs.YtjlocofimlgaoaaDoor
