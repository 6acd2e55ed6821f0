/- The program's marking, which calls itself. Condition: arguments that are blocks lie within the list. The document's marking, pass after pass. Condition: arguments that are blocks lie within the list. -/
import Derived.Test.YtjlocofimlgaoaaDoorDgG
namespace Go.Proofs.YtjlocofimlgaoaaDoor
set_option linter.unusedVariables false
set_option linter.unusedSimpArgs false
set_option linter.unusedSectionVars false
open Go.RowKit

theorem rowD_of {w : World} {base e g n : Nat} {xs : List Value} (h : w.ownsRow base e 1 (.slice (some ⟨g, 0, none⟩) n n) n xs) : RowD w g xs e := by
  obtain ⟨hl, h2⟩ := h
  rcases h2 with ⟨h', _⟩ | ⟨g', cap', cur, h', hb, hg, hnc, hcm, hcs, htake⟩
  · simp at h'
  · simp only [Value.slice.injEq, Option.some.injEq, Addr.mk.injEq, and_true, true_and] at h'
    obtain ⟨rfl, rfl⟩ := h'
    rw [List.take_of_length_le (by simp; omega)] at htake
    unfold RowD
    rw [hg, ← htake]
/-- All blocks but one are as they were. -/
structure Apart (g : Nat) (w w' : World) : Prop where
  os : w'.os = w.os
  tape : w'.tape = w.tape
  output : w'.output = w.output
  size : w.heap.size ≤ w'.heap.size
  block : ∀ k, k < w.heap.size → k ≠ g → w'.heap[k]? = w.heap[k]?
theorem Apart.refl (g : Nat) (w : World) : Apart g w w := ⟨rfl, rfl, rfl, Nat.le_refl _, fun _ _ _ => rfl⟩
theorem Apart.trans {g : Nat} {a b c : World} (h : Apart g a b) (k : Apart g b c) : Apart g a c :=
  ⟨k.os.trans h.os, k.tape.trans h.tape, k.output.trans h.output, Nat.le_trans h.size k.size, fun i hi hg => (k.block i (Nat.lt_of_lt_of_le hi h.size) hg).trans (h.block i hi hg)⟩
theorem Apart.of {g : Nat} {w w' : World} (h : Below w.heap.size w w') : Apart g w w' := ⟨h.os, h.tape, h.output, h.size, fun k hk _ => h.block k hk⟩
theorem Apart.below {g m : Nat} {w w' : World} (h : Apart g w w') (hg : m ≤ g) (hm : m ≤ w.heap.size) : Below m w w' :=
  ⟨h.os, h.tape, h.output, h.size, fun k hk => h.block k (Nat.lt_of_lt_of_le hk hm) (by omega)⟩
theorem Apart.set {g j : Nat} {w : World} (u : Value) : Apart g w (w.setCell ⟨g, j, none⟩ u) := by
  have h : Below g w (w.setCell ⟨g, j, none⟩ u) := (Below.refl g w).setCell (Nat.le_refl _) u
  refine ⟨h.os, h.tape, h.output, h.size, fun k hk hg => ?_⟩
  show (w.heap.modify g _)[k]? = w.heap[k]?
  rw [Array.getElem?_modify]
  simp [Ne.symm hg]
theorem RowD.apart {w w' : World} {g b t : Nat} {vs : List Value} (h : RowD w b vs t) (ha : Apart g w w') (hb : b ≠ g) : RowD w' b vs t := (ha.block b h.lt hb).trans h
theorem bools_set (l : List Bool) (i : Nat) (x : Bool) : bools (l.set i x) = (bools l).set i (.bool x) := by simp [bools, List.map_set]
theorem bools_get {l : List Bool} {i : Nat} (h : i < l.length) : (bools l)[i]? = some (.bool (isM l i)) := by simp [bools, isM, h]
/-- What a call of the marking leaves in memory. -/
def MarkP (bs : List Bk) (over : Bool) (l : List Bool) (i g : Nat) (w : World) (e : Ending) (w' : World) : Prop :=
  e = .returned (.tuple #[]) ∧ ∃ l', MarkPost bs over l i l' ∧ RowD w' g (bools l') 4 ∧ Apart g w w'
def mkRel (bs : List Bk) (over : Bool) (l : List Bool) (i g : Nat) (w : World) (vs : List Value) (v : Value) (wr : World) : Prop :=
  ∃ k l', k ≤ (succs bs over i).length ∧ v = .int .i64 ((k : Nat) : Int) ∧ MarkMid bs over l i k l' ∧ RowD wr g (bools l') 4 ∧ RowD wr w.heap.size vs 46 ∧ Apart g w wr
theorem succs_len {bs : List Bk} {k : Nat} {x : Bk} {over : Bool} (h : bs[k]? = some x) (hl : x.args.length ≤ 1000000) : (succs bs over k).length ≤ 1000000 := by
  rw [succs_of h]
  split
  · simp
  · split
    · simp
    · exact hl
theorem MarkMid.un {bs : List Bk} {over : Bool} {l l' : List Bool} {i k : Nat} (h : MarkMid bs over l i k l') (hi : i < l.length) (hm : isM l i = false) : unM l' < unM l := by
  have h1 := unM_set hi hm
  have h2 := unM_mono (m := l.set i true) (m' := l') (by rw [h.len]; simp) (fun j hj => by
    rw [isM_set hi] at hj
    simp at hj
    rcases hj with hj | hj
    · exact h.mono j hj
    · subst hj; exact h.self)
  omega
end Go.Proofs.YtjlocofimlgaoaaDoor
namespace Go.Proofs.YtjlocofimlgaoaaDoor
set_option linter.unusedVariables false
set_option linter.unusedSimpArgs false
set_option linter.unusedSectionVars false
open Go.RowKit

def foldI (bs : List Bk) (over : Bool) (m : List Bool) (i : Nat) : List Bool := (List.range i).foldl (pass1 bs over) m
def setsT (xs : List Int) (c : List Bool) (t : Nat) : List Bool := (xs.take t).foldl (fun m a => m.set a.toNat true) c
def NeedP (bs : List Bk) (over : Bool) (l : List Bool) (g : Nat) (w : World) (e : Ending) (w' : World) : Prop :=
  e = .returned (.slice (some ⟨g, 0, none⟩) bs.length bs.length) ∧ RowD w' g (bools (passes bs over bs.length l)) 4 ∧ Apart g w w'
def nd1 (bs : List Bk) (over : Bool) (l : List Bool) (g : Nat) (w : World) (vs : List Value) (v : Value) (wr : World) : Prop :=
  ∃ k : Nat, k ≤ bs.length ∧ v = .int .i64 (k : Int) ∧ RowD wr g (bools (passes bs over k l)) 4 ∧ RowD wr w.heap.size vs 46 ∧ Apart g w wr
def nd2 (bs : List Bk) (over : Bool) (l : List Bool) (g : Nat) (w : World) (vs : List Value) (v : Value) (wr : World) : Prop :=
  ∃ i : Nat, i ≤ bs.length ∧ v = .int .i64 (i : Int) ∧ RowD wr g (bools (foldI bs over l i)) 4 ∧ RowD wr w.heap.size vs 46 ∧ Apart g w wr
def nd3 (xs : List Int) (c : List Bool) (g : Nat) (w : World) (vs : List Value) (v : Value) (wr : World) : Prop :=
  ∃ t : Nat, t ≤ xs.length ∧ v = .int .i64 (t : Int) ∧ RowD wr g (bools (setsT xs c t)) 4 ∧ RowD wr w.heap.size vs 46 ∧ Apart g w wr
end Go.Proofs.YtjlocofimlgaoaaDoor
