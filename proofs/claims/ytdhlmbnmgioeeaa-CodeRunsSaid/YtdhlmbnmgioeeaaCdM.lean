/- What a program without errors has: plain facts. No conditions. -/
import Derived.Test.YtdhlmbnmgioeeaaCdE
namespace Go.Proofs.Ytdhlmbnmgioeeaa
set_option linter.unusedVariables false
set_option linter.unusedSimpArgs false
set_option linter.unusedSectionVars false
open Go.RowKit

theorem firstErr_zero {l : List Int} (h : firstErr l = 0) : ∀ x ∈ l, x = 0 := by
  induction l with
  | nil => simp
  | cons y l ih =>
    intro x hx
    by_cases hy : y = 0
    · rcases List.mem_cons.1 hx with rfl | hx
      · exact hy
      · exact ih (by simpa [firstErr, hy] using h) x hx
    · rw [firstErr, if_neg hy] at h
      exact absurd h hy
theorem firstErr_of {l : List Int} (h : ∀ x ∈ l, x = 0) : firstErr l = 0 := by
  induction l with
  | nil => rfl
  | cons y l ih =>
    have hy : y = 0 := h y (by simp)
    rw [firstErr, if_pos hy]
    exact ih fun x hx => h x (by simp [hx])

structure InsOk (np n : Nat) (x : Ins) : Prop where
  is : (usesR x.op).2.2.2.2.2 = true
  dst0 : 0 ≤ x.dst
  dst1 : x.dst < n
  a : (usesR x.op).1 = true → 0 ≤ x.a ∧ x.a < (if x.op = 0 then (np : Int) else n)
  b : (usesR x.op).2.1 = true → 0 ≤ x.b ∧ x.b < n
  sa : (usesR x.op).2.2.1 = true → -62 ≤ x.sa ∧ x.sa ≤ 30
  sb : (usesR x.op).2.2.2.1 = true → -62 ≤ x.sb ∧ x.sb ≤ 30
  imm : (usesR x.op).2.2.2.2.1 = true → shortB x.imm = true
theorem ite_zero {c : Prop} [Decidable c] {k e : Int} (h : (if c then k else e) = 0) (hk : k ≠ 0) : ¬ c ∧ e = 0 := by
  by_cases hc : c
  · rw [if_pos hc] at h
    exact absurd h hk
  · rw [if_neg hc] at h
    exact ⟨hc, h⟩
theorem insOk {np n : Nat} {x : Ins} (h : x.err np n = 0) : InsOk np n x := by
  unfold Ins.err insErr at h
  obtain ⟨h1, h⟩ := ite_zero h (by decide)
  obtain ⟨h2, h⟩ := ite_zero h (by decide)
  obtain ⟨h3, h⟩ := ite_zero h (by decide)
  obtain ⟨h4, h⟩ := ite_zero h (by decide)
  obtain ⟨h5, h⟩ := ite_zero h (by decide)
  obtain ⟨h6, h⟩ := ite_zero h (by decide)
  obtain ⟨h7, h⟩ := ite_zero h (by decide)
  have h2 := Decidable.not_not.1 h2
  refine ⟨by simpa using h1, h2.1, h2.2, fun g => ?_, fun g => ?_, fun g => ?_, fun g => ?_, fun g => ?_⟩
  · exact Decidable.byContradiction fun q => h3 ⟨g, q⟩
  · exact Decidable.byContradiction fun q => h4 ⟨g, q⟩
  · have := fun q => h5 ⟨g, q⟩
    simpa [shiftB] using this
  · have := fun q => h6 ⟨g, q⟩
    simpa [shiftB] using this
  · have := fun q => h7 ⟨g, q⟩
    simpa using this

structure POk (ps : List Prt) (is : List Int) (xs : List Ins) (os : List Int) : Prop where
  l1 : ps.length ≤ 16
  l2 : is.length ≤ 192
  l3 : xs.length ≤ 256
  l4 : os.length ≤ 16
  port : ∀ p ∈ ps, shortB p.lo = true ∧ shortB p.hi = true ∧ p.lo ≤ p.hi ∧ 0 ≤ p.fr ∧ p.fr ≤ 30
  init : ∀ n ∈ is, shortB n = true
  ins : ∀ x ∈ xs, InsOk ps.length is.length x
  out : ∀ o ∈ os, 0 ≤ o ∧ o < is.length
theorem pOk {ps : List Prt} {is : List Int} {xs : List Ins} {os : List Int} (h : progErr ps is xs os = 0) : POk ps is xs os := by
  unfold progErr at h
  split at h
  · omega
  · rename_i hl
    have hl := Decidable.not_not.1 hl
    have h0 := firstErr_zero h
    refine ⟨hl.1, hl.2.1, hl.2.2.1, hl.2.2.2, fun p hp => ?_, fun n hn => ?_, fun x hx => ?_, fun o ho => ?_⟩
    · have := h0 (portErr p) (by simp only [List.mem_append, List.mem_map]; exact .inl ⟨p, hp, rfl⟩)
      unfold portErr at this
      split at this
      · assumption
      · omega
    · have := h0 (initErr n) (by simp only [List.mem_append, List.mem_map]; exact .inr (.inl ⟨n, hn, rfl⟩))
      unfold initErr at this
      split at this
      · assumption
      · omega
    · exact insOk (h0 (Ins.err ps.length is.length x) (by simp only [List.mem_append, List.mem_map]; exact .inr (.inr (.inl ⟨x, hx, rfl⟩))))
    · have := h0 (outErr is.length o) (by simp only [List.mem_append, List.mem_map]; exact .inr (.inr (.inr ⟨o, ho, rfl⟩)))
      unfold outErr at this
      split at this
      · assumption
      · omega
end Go.Proofs.Ytdhlmbnmgioeeaa
