/- What a block uses within a tick. Condition: lists of at most a million; for the program the table of math/bits stands in block 0. The example of the document; Is; Order, Delays of the program. Condition: lists of at most a million; the table of math/bits stands in block 0. -/
import Derived.Test.YtjlocofimlgaoaaDoorDgQ
import Derived.Test.YtjlocofimlgaoaaDoorDgI
namespace Go.Proofs.YtjlocofimlgaoaaDoor
set_option linter.unusedVariables false
set_option linter.unusedSimpArgs false
set_option linter.unusedSectionVars false
open Go.RowKit

def mark0 (bs : List Bk) (i : Nat) : List Bool := (List.replicate bs.length false).set i true
def usesL (bs : List Bk) (i : Nat) : List Int := natI (markL (passes bs false bs.length (mark0 bs i)))
def usesE (ps : List Prt) (bs : List Bk) (os : List Int) (i : Int) : Int := if ¬ dgErr ps bs os = 0 then dgErr ps bs os else if 0 ≤ i ∧ i < (bs.length : Int) then 0 else 10
def usesO (ps : List Prt) (bs : List Bk) (os : List Int) (i : Int) : List Int := if usesE ps bs os i = 0 then usesL bs i.toNat else []
def UsesP (ps : List Prt) (bs : List Bk) (os : List Int) (i : Int) (w : World) (e : Ending) (w' : World) : Prop :=
  ∃ v, e = .returned (.tuple #[v, errV (usesE ps bs os i)]) ∧ OwnI w' w.heap.size v (usesO ps bs os i) ∧ Below w.heap.size w w'
theorem pre_of {ps : List Prt} {bs : List Bk} {os : List Int} (h : dgErr ps bs os = 0) : sizeOk ps bs os ∧ preErr ps bs os = 0 ∧ ordErr bs = 0 := by
  unfold dgErr at h
  by_cases h1 : sizeOk ps bs os
  · rw [if_neg (not_not_intro h1)] at h
    by_cases h2 : preErr ps bs os = 0
    · rw [if_neg (not_not_intro h2)] at h
      exact ⟨h1, h2, h⟩
    · rw [if_pos h2] at h
      exact absurd h h2
  · rw [if_pos h1] at h; cases h
theorem pre_blk {ps : List Prt} {bs : List Bk} {os : List Int} (h : preErr ps bs os = 0) : firstErr (bs.map (blkErr ps.length bs.length)) = 0 := by
  unfold preErr at h
  rw [firstErr_append] at h
  by_cases h1 : firstErr (ps.map portE) = 0
  · rw [if_pos h1, firstErr_append] at h
    by_cases h2 : firstErr (bs.map (blkErr ps.length bs.length)) = 0
    · exact h2
    · rw [if_neg h2] at h; exact h
  · rw [if_neg h1] at h; exact absurd h h1
theorem dg_succ {ps : List Prt} {bs : List Bk} {os : List Int} (h : dgErr ps bs os = 0) : SuccOk bs := succ_ok (pre_blk (pre_of h).2.1)
end Go.Proofs.YtjlocofimlgaoaaDoor
namespace Go.Proofs.YtjlocofimlgaoaaDoor
set_option linter.unusedVariables false
set_option linter.unusedSimpArgs false
set_option linter.unusedSectionVars false
open Go.RowKit

def isB (n k : Int) : Bool := decide (n ≠ 0 ∧ n = k)
/- The example, its lists in the blocks from n. -/
def exBs (n : Nat) (k : Int) : List Bk := [⟨0, some ⟨n + 1 + 1, 0, none⟩, [0], 1, 0, 0, 0, 0⟩, ⟨3, some ⟨n + 1 + 1 + 1, 0, none⟩, [0, 2], 2, 0, 0, 0, 0⟩, ⟨k, some ⟨n + 1 + 1 + 1 + 1, 0, none⟩, [1], 1, 0, 0, 0, 0⟩]
def exDg (n : Nat) (k : Int) : Dg := ⟨some ⟨n, 0, none⟩, [⟨-8, 8, 0⟩], 1, some ⟨n + 1 + 1 + 1 + 1 + 1, 0, none⟩, exBs n k, 3, some ⟨n + 1, 0, none⟩, [1], 1⟩
/-- Where the example lies. -/
structure ExAt (w : World) (n : Nat) (k : Int) : Prop where
  h1 : RowD w n (flat Prt.cells [⟨-8, 8, 0⟩]) 72
  h2 : RowD w (n + 1) (ints [1]) 3
  h3 : RowD w (n + 1 + 1) (ints [0]) 3
  h4 : RowD w (n + 1 + 1 + 1) (ints [0, 2]) 3
  h5 : RowD w (n + 1 + 1 + 1 + 1) (ints [1]) 3
  h6 : RowD w (n + 1 + 1 + 1 + 1 + 1) (flat Bk.cells (exBs n k)) 67
theorem ExAt.call {w w' : World} {n : Nat} {k : Int} (h : ExAt w n k) (hb : Below w.heap.size w w') : ExAt w' n k := ⟨h.h1.call hb, h.h2.call hb, h.h3.call hb, h.h4.call hb, h.h5.call hb, h.h6.call hb⟩
def ExP (w : World) (e : Ending) (w' : World) : Prop := ∃ n, w.heap.size ≤ n ∧ e = .returned (exDg n 2).val ∧ ExAt w' n 2 ∧ Below w.heap.size w w'
theorem row_cells {w : World} {b t : Nat} {vs : List Value} (h : RowD w b vs t) : CellsAt w w.heap.size (some ⟨b, 0, none⟩) vs := fun _ => ⟨b, 0, rfl, h.lt, h.lt, fun j u hu => by rw [Nat.zero_add, h.cell j, hu]⟩
theorem ExAt.at_ {w : World} {n : Nat} {k : Int} (h : ExAt w n k) : DgAt w w.heap.size (exDg n k) := by
  obtain ⟨h1, h2, h3, h4, h5, h6⟩ := h
  refine ⟨row_cells h1, row_cells h6, row_cells h2, fun b hb => ?_, (show (1 : Nat) ≤ 1000000 by decide), (show (3 : Nat) ≤ 1000000 by decide), (show (1 : Nat) ≤ 1000000 by decide)⟩
  simp only [exDg, exBs, List.mem_cons, List.not_mem_nil, or_false] at hb
  rcases hb with rfl | rfl | rfl
  · exact ⟨row_cells h3, (show (1 : Nat) ≤ 1000000 by decide)⟩
  · exact ⟨row_cells h4, (show (2 : Nat) ≤ 1000000 by decide)⟩
  · exact ⟨row_cells h5, (show (1 : Nat) ≤ 1000000 by decide)⟩
theorem ExAt.set_ {w : World} {n : Nat} {k : Int} (h : ExAt w n k) (k' : Int) : ExAt (w.setCell ⟨n + 1 + 1 + 1 + 1 + 1, 12, none⟩ (.int .i64 k')) n k' :=
  ⟨h.h1.other_ (by omega) _ _, h.h2.other_ (by omega) _ _, h.h3.other_ (by omega) _ _, h.h4.other_ (by omega) _ _, h.h5.other_ (by omega) _ _, h.h6.set_ 12 (.int .i64 k')⟩
end Go.Proofs.YtjlocofimlgaoaaDoor
