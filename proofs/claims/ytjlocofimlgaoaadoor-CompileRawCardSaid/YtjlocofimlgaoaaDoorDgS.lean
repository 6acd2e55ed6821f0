/- What a block uses within a tick. Condition: lists of at most a million; for the program the table of math/bits stands in block 0. -/
import Derived.Test.YtjlocofimlgaoaaDoorDgQ
import Derived.Test.YtjlocofimlgaoaaDoorDgH
import Derived.Test.YtjlocofimlgaoaaDoorDgI
namespace Go.Proofs.YtjlocofimlgaoaaDoor
set_option linter.unusedVariables false
set_option linter.unusedSimpArgs false
set_option linter.unusedSectionVars false
open Go.RowKit

def mark0 (bs : List Bk) (i : Nat) : List Bool := (List.replicate bs.length false).set i true
def usesL (bs : List Bk) (i : Nat) : List Int := natI (markL (passes bs false bs.length (mark0 bs i)))
def usesE (ps : List Prt) (bs : List Bk) (os : List Int) (i : Int) : Int := if ¬ dgErr ps bs os = 0 then dgErr ps bs os else if 0 ≤ i ∧ i < (bs.length : Int) then 0 else 10
def usesO (ps : List Prt) (bs : List Bk) (os : List Int) (i : Int) : List Int := if usesE ps bs os i = 0 then usesL bs i.toNat else []
def UsesP (ps : List Prt) (bs : List Bk) (os : List Int) (i : Int) (w : World) (e : Ending) (w' : World) : Prop :=
  ∃ v, e = .returned (.tuple #[v, errV (usesE ps bs os i)]) ∧ OwnI w' w.heap.size v (usesO ps bs os i) ∧ Below w.heap.size w w'
theorem pre_of {ps : List Prt} {bs : List Bk} {os : List Int} (h : dgErr ps bs os = 0) : sizeOk ps bs os ∧ preErr ps bs os = 0 ∧ ordErr bs = 0 := by
  unfold dgErr at h
  by_cases h1 : sizeOk ps bs os
  · rw [if_neg (not_not_intro h1)] at h
    by_cases h2 : preErr ps bs os = 0
    · rw [if_neg (not_not_intro h2)] at h
      exact ⟨h1, h2, h⟩
    · rw [if_pos h2] at h
      exact absurd h h2
  · rw [if_pos h1] at h; cases h
theorem pre_blk {ps : List Prt} {bs : List Bk} {os : List Int} (h : preErr ps bs os = 0) : firstErr (bs.map (blkErr ps.length bs.length)) = 0 := by
  unfold preErr at h
  rw [firstErr_append] at h
  by_cases h1 : firstErr (ps.map portE) = 0
  · rw [if_pos h1, firstErr_append] at h
    by_cases h2 : firstErr (bs.map (blkErr ps.length bs.length)) = 0
    · exact h2
    · rw [if_neg h2] at h; exact h
  · rw [if_neg h1] at h; exact absurd h h1
theorem dg_succ {ps : List Prt} {bs : List Bk} {os : List Int} (h : dgErr ps bs os = 0) : SuccOk bs := succ_ok (pre_blk (pre_of h).2.1)
theorem isM_rep (n j : Nat) : isM (List.replicate n false) j = false := by
  unfold isM
  rw [List.getElem?_replicate]
  split <;> rfl
theorem unM_le (m : List Bool) : unM m ≤ m.length := List.length_filter_le _ _
/-- The program's marks are the document's. -/
theorem mark_is {bs : List Bk} {i : Nat} {l' : List Bool} (hok : SuccOk bs) (hi : i < bs.length) (h : MarkPost bs false (List.replicate bs.length false) i l') : l' = passes bs false bs.length (mark0 bs i) := by
  have hl : (mark0 bs i).length = bs.length := by simp [mark0]
  refine marks_eq (by rw [h.len, passes_len, hl]; simp) fun j _ => ?_
  show isM l' j = true ↔ isM (passes bs false bs.length (mark0 bs i)) j = true
  rw [h.reach (isM_rep _), passes_reach hok hl]
  constructor
  · intro hr
    exact ⟨i, by unfold mark0; rw [isM_set (by simpa using hi)]; simp, hr⟩
  · rintro ⟨s, hs, hr⟩
    unfold mark0 at hs
    rw [isM_set (by simpa using hi), isM_rep] at hs
    have e : i = s := by simpa using hs
    subst e
    exact hr
theorem fl_markL (m : List Bool) : fl (isM m) m.length = markL m := rfl
end Go.Proofs.YtjlocofimlgaoaaDoor
