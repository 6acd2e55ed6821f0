/- The document's marking, pass after pass. Condition: arguments that are blocks lie within the list. -/
import Derived.Test.YtjlocofimlgaoaaDoorDgH
namespace Go.Proofs.YtjlocofimlgaoaaDoor
set_option linter.unusedVariables false
set_option linter.unusedSimpArgs false
set_option linter.unusedSectionVars false
open Go.RowKit

theorem passes_succ (bs : List Bk) (over : Bool) : ∀ (k : Nat) (m : List Bool), passes bs over (k + 1) m = passM bs over (passes bs over k m)
  | 0, _ => rfl
  | k + 1, m => passes_succ bs over k (passM bs over m)
def foldI (bs : List Bk) (over : Bool) (m : List Bool) (i : Nat) : List Bool := (List.range i).foldl (pass1 bs over) m
theorem foldI_succ (bs : List Bk) (over : Bool) (m : List Bool) (i : Nat) : foldI bs over m (i + 1) = pass1 bs over (foldI bs over m i) i := by unfold foldI; rw [List.range_succ, List.foldl_append]; rfl
theorem foldI_len (bs : List Bk) (over : Bool) (m : List Bool) (i : Nat) : (foldI bs over m i).length = m.length := foldP_len _ _ _ _
def setsT (xs : List Int) (c : List Bool) (t : Nat) : List Bool := (xs.take t).foldl (fun m a => m.set a.toNat true) c
theorem setsT_succ {xs : List Int} {c : List Bool} {t : Nat} {a : Int} (h : xs[t]? = some a) : setsT xs c (t + 1) = (setsT xs c t).set a.toNat true := by
  unfold setsT
  rw [List.take_add_one, h, List.foldl_append]
  rfl
theorem setsT_len (xs : List Int) (c : List Bool) (t : Nat) : (setsT xs c t).length = c.length := foldSet_len _ _
theorem setsT_all {bs : List Bk} {over : Bool} {c : List Bool} {i t : Nat} (hm : isM c i = true) (ht : (succs bs over i).length ≤ t) : setsT (succs bs over i) c t = pass1 bs over c i := by
  unfold setsT pass1
  rw [if_pos hm, List.take_of_length_le ht]
theorem pass1_no {bs : List Bk} {over : Bool} {c : List Bool} {i : Nat} (hm : isM c i = false) : pass1 bs over c i = c := by unfold pass1; rw [if_neg (by rw [hm]; decide)]
theorem pass1_nil {bs : List Bk} {over : Bool} {c : List Bool} {i : Nat} (hs : succs bs over i = []) : pass1 bs over c i = c := by unfold pass1; rw [hs]; split <;> rfl
def NeedP (bs : List Bk) (over : Bool) (l : List Bool) (g : Nat) (w : World) (e : Ending) (w' : World) : Prop :=
  e = .returned (.slice (some ⟨g, 0, none⟩) bs.length bs.length) ∧ RowD w' g (bools (passes bs over bs.length l)) 4 ∧ Apart g w w'
def nd1 (bs : List Bk) (over : Bool) (l : List Bool) (g : Nat) (w : World) (vs : List Value) (v : Value) (wr : World) : Prop :=
  ∃ k : Nat, k ≤ bs.length ∧ v = .int .i64 (k : Int) ∧ RowD wr g (bools (passes bs over k l)) 4 ∧ RowD wr w.heap.size vs 46 ∧ Apart g w wr
def nd2 (bs : List Bk) (over : Bool) (l : List Bool) (g : Nat) (w : World) (vs : List Value) (v : Value) (wr : World) : Prop :=
  ∃ i : Nat, i ≤ bs.length ∧ v = .int .i64 (i : Int) ∧ RowD wr g (bools (foldI bs over l i)) 4 ∧ RowD wr w.heap.size vs 46 ∧ Apart g w wr
def nd3 (xs : List Int) (c : List Bool) (g : Nat) (w : World) (vs : List Value) (v : Value) (wr : World) : Prop :=
  ∃ t : Nat, t ≤ xs.length ∧ v = .int .i64 (t : Int) ∧ RowD wr g (bools (setsT xs c t)) 4 ∧ RowD wr w.heap.size vs 46 ∧ Apart g w wr
end Go.Proofs.YtjlocofimlgaoaaDoor
