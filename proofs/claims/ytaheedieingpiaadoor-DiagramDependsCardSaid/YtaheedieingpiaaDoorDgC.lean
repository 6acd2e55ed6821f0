/- Blocks: how many arguments, scalars and their numbers. No conditions. -/
import Derived.Test.YtaheedieingpiaaDoorPdJ
import Derived.Test.YtaheedieingpiaaDoorDgB
import Derived.Deep.RegionHeld3
namespace Go.Proofs.YtaheedieingpiaaDoor
set_option linter.unusedVariables false
set_option linter.unusedSimpArgs false
set_option linter.unusedSectionVars false
open Go.RowKit

def arityM (k : Int) : Int := if k = 1 then 0 else if k = 0 ∨ k = 2 ∨ k = 5 ∨ k = 10 ∨ k = 6 ∨ k = 11 then 1 else if k = 3 ∨ k = 4 ∨ k = 7 ∨ k = 8 ∨ k = 9 then 2 else -1
theorem ar_eq {a b : Int} (h : a = b) : Ending.returned (.int .i64 a) = .returned (.int .i64 b) := by rw [h]
set_option maxHeartbeats 1000000 in
theorem arity_any (k : Int) (w : World) : Calls Tryd.prog 46 #[.int .i64 k] w fun e w' => e = .returned (.int .i64 (arityM k)) ∧ w = w' := by
  go_enter Tryd.func46, Tryd.ntmps46
  go_wp2
  all_goals
    go_ret
    exact ⟨ar_eq (by simp only [beq_iff_eq, beq_eq_false_iff_ne, ne_eq] at *; simp [arityM, *]), rfl⟩
set_option maxHeartbeats 1000000 in
theorem rArity_any (k : Int) (w : World) : Calls Tryd.prog 42 #[.int .i64 k] w fun e w' => e = .returned (.int .i64 (arityM k)) ∧ w = w' := by
  go_enter Tryd.func42, Tryd.ntmps42
  go_wp2
  all_goals
    go_ret
    exact ⟨ar_eq (by simp only [beq_iff_eq, beq_eq_false_iff_ne, ne_eq] at *; simp [arityM, *]), rfl⟩
def withinB (n lo hi : Int) : Bool := decide (lo ≤ n ∧ n ≤ hi)
set_option maxHeartbeats 400000 in
theorem within_any (n lo hi : Int) (w : World) : Calls Tryd.prog 31 #[.int .i64 n, .int .i64 lo, .int .i64 hi] w fun e w' => e = .returned (.bool (withinB n lo hi)) ∧ w = w' := by
  by_cases h1 : lo ≤ n
  · by_cases h2 : n ≤ hi
    · have HV := Lib.hid (show withinB n lo hi = true from decide_eq_true ⟨h1, h2⟩)
      go_enter Tryd.func31, Tryd.ntmps31
      go_wp2
      go_ret
      exact ⟨by rw [HV.out]; rfl, rfl⟩
    · have HV := Lib.hid (show withinB n lo hi = false from decide_eq_false (fun h => h2 h.2))
      go_enter Tryd.func31, Tryd.ntmps31
      go_wp2
      go_ret
      exact ⟨by rw [HV.out]; rfl, rfl⟩
  · have HV := Lib.hid (show withinB n lo hi = false from decide_eq_false (fun h => h1 h.1))
    go_enter Tryd.func31, Tryd.ntmps31
    go_wp2
    go_ret
    exact ⟨by rw [HV.out]; rfl, rfl⟩
/-- A scalar that a block uses is within its bounds. -/
def scOk (num ex : Int) : Prop := -2147483648 < num ∧ num < 2147483648 ∧ -62 ≤ ex ∧ ex ≤ 30
instance (num ex : Int) : Decidable (scOk num ex) := by unfold scOk; infer_instance
def scalE (num ex : Int) (used : Bool) : Int := if used = true then (if scOk num ex then 0 else 3) else (if num = 0 ∧ ex = 0 then 0 else 2)
theorem er_0 {n : Int} (h : n = 0) : Ending.returned .nilIface = .returned (errV n) := by rw [h]; rfl
theorem er_n {n k : Int} (h : n = k) (hk : k ≠ 0) : Ending.returned (.iface 35 (.int .i64 k)) = .returned (errV n) := by rw [h, errV_n hk]
set_option maxRecDepth 100000 in
set_option maxHeartbeats 4000000 in
theorem scalar_any (num ex : Int) (used : Bool) (w : World) : Calls Tryd.prog 47 #[.agg #[.int .i64 num, .int .i64 ex], .bool used] w fun e w' => e = .returned (errV (scalE num ex used)) ∧ Below w.heap.size w w' := by
  cases used with
  | false =>
    go_enter Tryd.func47, Tryd.ntmps47
    go_wp2
    all_goals
      go_ret
      first
        | exact ⟨er_0 (by simp only [scalE, Bool.false_eq_true, if_false]; split <;> omega), al_ _ _⟩
        | exact ⟨er_n (k := 2) (by simp only [scalE, Bool.false_eq_true, if_false]; split <;> omega) (by decide), al_ _ _⟩
  | true =>
    by_cases hs : scOk num ex
    · have HV := Lib.hid (show scalE num ex true = 0 by unfold scalE; rw [if_pos rfl, if_pos hs])
      obtain ⟨h1, h2, h3, h4⟩ := hs
      go_enter Tryd.func47, Tryd.ntmps47
      go_wp2
      go_ret
      exact ⟨er_0 HV.out, al_ _ _⟩
    · have HV := Lib.hid (show scalE num ex true = 3 by unfold scalE; rw [if_pos rfl, if_neg hs])
      have HS := Lib.hid hs
      clear hs
      go_enter Tryd.func47, Tryd.ntmps47
      go_wp2
      all_goals
        go_ret
        first
          | exact ⟨er_n (k := 3) HV.out (by decide), al_ _ _⟩
          | (exfalso; exact HS.out ⟨by omega, by omega, by omega, by omega⟩)
set_option maxRecDepth 100000 in
set_option maxHeartbeats 4000000 in
theorem rScalar_any (num ex : Int) (used : Bool) (w : World) : Calls Tryd.prog 43 #[.agg #[.int .i64 num, .int .i64 ex], .bool used] w fun e w' => e = .returned (.int .i64 (scalE num ex used)) ∧ Below w.heap.size w w' := by
  cases used with
  | false =>
    go_enter Tryd.func43, Tryd.ntmps43
    go_wp2
    all_goals
      go_ret
      exact ⟨ar_eq (by simp only [scalE, Bool.false_eq_true, if_false]; split <;> omega), al_ _ _⟩
  | true =>
    by_cases hn : -2147483647 ≤ num ∧ num ≤ 2147483647
    · have W1 : withinB num (-2147483647) 2147483647 = true := decide_eq_true hn
      by_cases he : -62 ≤ ex ∧ ex ≤ 30
      · have W2 : withinB ex (-62) 30 = true := decide_eq_true he
        have HV := Lib.hid (show scalE num ex true = 0 by unfold scalE; rw [if_pos rfl, if_pos ⟨by omega, by omega, he.1, he.2⟩])
        clear hn he
        go_enter Tryd.func43, Tryd.ntmps43
        go_wp2_with (go_at_call 31; refine (within_any _ _ _ _).mono ?_; rintro e w1 ⟨rfl, rfl⟩)
        go_ret
        exact ⟨by rw [HV.out]; rfl, al_ _ _⟩
      · have W2 : withinB ex (-62) 30 = false := decide_eq_false he
        have HV := Lib.hid (show scalE num ex true = 3 by unfold scalE; rw [if_pos rfl, if_neg (fun h => he ⟨h.2.2.1, h.2.2.2⟩)])
        clear hn he
        go_enter Tryd.func43, Tryd.ntmps43
        go_wp2_with (go_at_call 31; refine (within_any _ _ _ _).mono ?_; rintro e w1 ⟨rfl, rfl⟩)
        go_ret
        exact ⟨by rw [HV.out]; rfl, al_ _ _⟩
    · have W1 : withinB num (-2147483647) 2147483647 = false := decide_eq_false hn
      have HV := Lib.hid (show scalE num ex true = 3 by unfold scalE; rw [if_pos rfl, if_neg (fun h => hn ⟨by have := h.1; omega, by have := h.2.1; omega⟩)])
      clear hn
      go_enter Tryd.func43, Tryd.ntmps43
      go_wp2_with (go_at_call 31; refine (within_any _ _ _ _).mono ?_; rintro e w1 ⟨rfl, rfl⟩)
      go_ret
      exact ⟨by rw [HV.out]; rfl, al_ _ _⟩
theorem res_value {tmps : Array Value} {w : World} {b : Nat} {v0 v1 v2 : Value} (h2 : tmps.getD 2 undef = .pointer (some ⟨b, 0, none⟩)) (hB : RowD w b [v0, v1, v2] 76) :
    (results Tryd.f49 tmps).run Tryd.prog w = .ok (.agg #[v0, v1, v2]) w := by
  have k0 := hB.cell 0
  have k1 := hB.cell 1
  have k2 := hB.cell 2
  simp at k0 k1 k2
  simp at h2
  simp [results, Tryd.results49, go_sem, h2, k0, k1, k2]
set_option maxRecDepth 100000 in
set_option maxHeartbeats 4000000 in
theorem value_any (num ex : Int) (w : World) (h : scOk num ex) (ht : TabAt w) : Calls Tryd.prog 49 #[.agg #[.int .i64 num, .int .i64 ex]] w fun e w' => ∃ v, e = .returned v ∧ DyR w' w.heap.size w'.heap.size v (dyShift num 0 ex).1 (dyShift num 0 ex).2 ∧ Below w.heap.size w w' := by
  obtain ⟨h1, h2, h3, h4⟩ := h
  have hln : (canon num.natAbs).length ≤ 50000 := Nat.le_trans (canon_len_le (k := 1) (by omega)) (by decide)
  have b0 : Below w.heap.size w ((w.alloc (.cells #[.int .i64 num, .int .i64 ex] 42)).alloc (.cells #[.bool false, .slice none 0 0, .int .i64 0] 76)) := ext_alloc (ext_alloc (Below.refl _ _) _) _
  have r0 := (RowD.new_ w [.int .i64 num, .int .i64 ex] 42).call (al_ _ (.cells #[.bool false, .slice none 0 0, .int .i64 0] 76))
  have r1 := RowD.new_ (w.alloc (.cells #[.int .i64 num, .int .i64 ex] 42)) [.bool false, .slice none 0 0, .int .i64 0] 76
  rw [show (w.alloc (.cells #[.int .i64 num, .int .i64 ex] 42)).heap.size = w.heap.size + 1 by simp] at r1
  have HT := Lib.hid ht
  clear ht
  go_enter Tryd.func49, Tryd.ntmps49
  go_wp2_with fail
  obtain ⟨W, hW⟩ : ∃ W, W = ((w.alloc (.cells #[.int .i64 num, .int .i64 ex] 42)).alloc (.cells #[.bool false, .slice none 0 0, .int .i64 0] 76)) := ⟨_, rfl⟩
  have hWs : w.heap.size + 2 ≤ W.heap.size := by rw [hW]; simp
  rw [← hW]
  rw [← hW] at b0 r0 r1
  clear hW
  have a0 : W.cell? ⟨w.heap.size, 0, none⟩ = some (.int .i64 num) := r0.cell 0
  have a1 : W.cell? ⟨w.heap.size, 1, none⟩ = some (.int .i64 ex) := r0.cell 1
  have hk : SK W (w.heap.size + 1) (w.heap.size + 1) W := SK.refl (by omega) ⟨_, _, _, r1⟩
  have HTW := HT.out.below b0 HT.out.1
  go_region_held3 (fun w' => (∀ b o, b < w.heap.size + 1 → w'.cell? ⟨b, o, none⟩ = W.cell? ⟨b, o, none⟩) ∧ SK W (w.heap.size + 1) (w.heap.size + 1) w')
    (first
      | (refine SK.all ?_
         first
           | assumption
           | exact hk
           | exact hk.drew
           | exact ((SK.set (by assumption) (by omega) _ _).set (by omega) _ _).set (by omega) _ _))
    (first
      | (go_at_call 54; refine (pof_any num (by omega) (by omega) _ (HTW.below (Below.refl _ W).drew HTW.1)).mono ?_; (rintro e w5 ⟨v5, rfl, D5, hb5⟩; have hk5 := SK.call hk.drew hb5; have hf5 := hk5.lt; have HT5 := (HTW.below (Below.refl _ W).drew HTW.1).call hb5; obtain ⟨nb5, A5, L5, c5, rfl, _⟩ := D5.form))
      | (go_at_call 53; refine (pshift_any D5 (Nat.le_refl _) hln (by omega) HT5).mono ?_; (rintro e w6 ⟨v6, rfl, D6, hb6⟩; have hk6 := SK.call hk5 hb6; have hf6 := hk6.lt; obtain ⟨nb6, A9, L9, c9, rfl, _⟩ := D6.form; obtain ⟨z0, z1, z2, rz, k0, k1, k2, kf⟩ := SK.cells hk6)))
  go_wp2_with fail
  refine bodyPost_ret (res_value rfl (((rz.set_ 0 _).set_ 1 _).set_ 2 _)) rfl ⟨_, rfl, ?_, (((b0.trans (hk6.is.mono (by omega))).setCell (by simp) _).setCell (by simp) _).setCell (by simp) _⟩
  exact ((((D6.set_ (by omega) 0 _).set_ (by omega) 1 _).set_ (by omega) 2 _).low (by omega)).more (by simp)
end Go.Proofs.YtaheedieingpiaaDoor
