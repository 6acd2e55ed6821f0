/- The chosen scales, as plain data. No conditions. -/
import Derived.Test.YtejnnljjmafjaaaDoorScM
namespace Go.Proofs.YtejnnljjmafjaaaDoor
set_option linter.unusedVariables false
set_option linter.unusedSimpArgs false
set_option linter.unusedSectionVars false
open Go.RowKit

theorem ch_codes {n : Nat} {R : List Iv} (h : ¬ chErr (gvErr n R) R = 0) : chErr (gvErr n R) R = 11 ∨ chErr (gvErr n R) R = 2 ∨ chErr (gvErr n R) R = 4 := by
  unfold chErr at h ⊢
  by_cases hg : gvErr n R = 0
  · rw [if_pos hg] at h ⊢
    by_cases ha : R.all (fun a => decide (0 ≤ chS a)) = true
    · rw [if_pos ha] at h; exact absurd rfl h
    · rw [if_neg ha]; exact .inr (.inr rfl)
  · rw [if_neg hg] at h ⊢
    unfold gvErr at hg ⊢
    by_cases h1 : R.length = n
    · rw [if_pos h1] at hg ⊢
      by_cases h2 : R.all ivB = true
      · rw [if_pos h2] at hg; exact absurd rfl hg
      · rw [if_neg h2]; exact .inr (.inl rfl)
    · rw [if_neg h1]; exact .inl rfl
theorem ch_oe {g : Int} {R : List Iv} (h : ¬ chErr g R = 0) : chO g R = [] := if_neg h
/-- Where scales are chosen. -/
theorem ch_parts {n : Nat} {R : List Iv} (h : chErr (gvErr n R) R = 0) : gvErr n R = 0 ∧ R.length = n ∧ ∀ y ∈ R, ivB y = true ∧ 0 ≤ chS y := by
  unfold chErr at h
  by_cases hg : gvErr n R = 0
  · rw [if_pos hg] at h
    by_cases ha : R.all (fun a => decide (0 ≤ chS a)) = true
    · exact ⟨hg, (gv_ok hg).1, fun y hy => ⟨List.all_eq_true.1 (gv_ok hg).2 y hy, of_decide_eq_true (List.all_eq_true.1 ha y hy)⟩⟩
    · rw [if_neg ha] at h; cases h
  · rw [if_neg hg] at h; exact absurd h hg
theorem pick_room (a : Iv) : ∀ n, 0 ≤ pick a n → roomB a (pick a n) 1073741824 = true ∧ (pick a n + 1 < (n : Int) → roomB a (pick a n + 1) 1073741824 = false)
  | 0, h => by unfold pick at h; omega
  | n + 1, h => by
    unfold pick at h ⊢
    by_cases hr : roomB a (n : Int) 1073741824 = true
    · rw [if_pos hr] at h ⊢
      exact ⟨hr, fun h2 => by omega⟩
    · rw [if_neg hr] at h ⊢
      have ih := pick_room a n h
      refine ⟨ih.1, fun h2 => ?_⟩
      by_cases h3 : pick a n + 1 < (n : Int)
      · exact ih.2 h3
      · have : pick a n + 1 = (n : Int) := by omega
        rw [this]
        simpa using hr
theorem chS_room {a : Iv} (h : 0 ≤ chS a) : roomB a (chS a) 1073741824 = true := (pick_room a 31 h).1
theorem chS_next {a : Iv} (h : 0 ≤ chS a) (h2 : chS a < 30) : roomB a (chS a + 1) 1073741824 = false := (pick_room a 31 h).2 (by show chS a + 1 < 31; omega)
theorem pCmp_le {x : Int} {d : Nat} {y : Int} : pCmp x d y 0 ≤ 0 ↔ x ≤ y * 2 ^ d := by
  unfold pCmp
  rw [show max d 0 = d by omega, Nat.sub_self, Nat.sub_zero, sgI_le0, Int.pow_zero, Int.mul_one]
  omega
theorem room_more {a : Iv} {f m1 m2 : Int} (h : roomB a f m1 = true) (hm : m1 ≤ m2) : roomB a f m2 = true := by
  unfold roomB at h ⊢
  refine decide_eq_true (pCmp_le.2 (Int.le_trans (pCmp_le.1 (of_decide_eq_true h)) ?_))
  exact Int.mul_le_mul_of_nonneg_right hm (Int.le_of_lt (Int.pow_pos (by decide)))
theorem fit_all {R : List Iv} (h : ∀ y ∈ R, ivB y = true ∧ 0 ≤ chS y) : (R.zip (R.map chS)).all fit1 = true := by
  rw [List.all_eq_true]
  intro p hp
  obtain ⟨y, n⟩ := p
  have h1 : y ∈ R := (List.of_mem_zip hp).1
  have h2 : n = chS y := by
    obtain ⟨i, hi⟩ := List.getElem?_of_mem hp
    rw [List.getElem?_zip_eq_some] at hi
    have h3 := hi.2
    rw [List.getElem?_map, hi.1] at h3
    simpa using h3.symm
  subst h2
  exact fit_yes (h y h1).2 (chS_range y).2 (room_more (chS_room (h y h1).2) (by decide))
theorem chs_at {R : List Iv} {xs : List Int} {k : Nat} {y : Iv} {n : Int} (hx : xs = R.map chS) (hy : R[k]? = some y) (hn : xs[k]? = some n) : n = chS y := by
  rw [hx, List.getElem?_map, hy] at hn
  simpa using hn.symm
theorem intsB_refl (xs : List Int) : intsB xs xs = true := by simp [intsB]
def grR (W : World) (xs : List Int) (i : Value) (wr : World) : Prop := ∃ k : Nat, k ≤ xs.length ∧ i = .int .i64 (k : Int) ∧ Below W.heap.size W wr
end Go.Proofs.YtejnnljjmafjaaaDoor
