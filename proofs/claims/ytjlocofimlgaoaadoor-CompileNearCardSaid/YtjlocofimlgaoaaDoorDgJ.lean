/- The order of the blocks, as the document makes it. Condition: arguments that are blocks lie within the list. -/
import Derived.Test.YtjlocofimlgaoaaDoorDgI
namespace Go.Proofs.YtjlocofimlgaoaaDoor
set_option linter.unusedVariables false
set_option linter.unusedSimpArgs false
set_option linter.unusedSectionVars false
open Go.RowKit

theorem OwnI.call {w w' : World} {base : Nat} {v : Value} {xs : List Int} (h : OwnI w base v xs) (hb : Below w.heap.size w w') : OwnI w' base v xs := h.below hb (fun g hg => (World.ownsRow.lt h g hg).2)
theorem natI_len (l : List Nat) : (natI l).length = l.length := by simp [natI]
theorem natI_app (l : List Nat) (i : Nat) : natI (l ++ [i]) = natI l ++ [(i : Int)] := by simp [natI]
theorem natI_has (l : List Nat) (i : Nat) : (natI l).contains (i : Int) = l.contains i := by
  induction l with
  | nil => rfl
  | cons x l ih =>
    show List.contains ((x : Int) :: natI l) (i : Int) = _
    rw [List.contains_cons, List.contains_cons, ih]
    have e : ((i : Int) == (x : Int)) = (i == x) := by
      by_cases h : i = x
      · subst h; simp
      · rw [beq_eq_false_iff_ne.2 h, beq_eq_false_iff_ne.2 (show ¬ (i : Int) = (x : Int) by omega)]
    rw [e]
theorem rdy_def (bs : List Bk) (out : List Nat) (i : Nat) : rdy bs out i = (!doneB bs out i && (preds bs i).all fun a => doneB bs out a.toNat) := rfl
/-- No block below k is ready. -/
def NoneB (bs : List Bk) (out : List Nat) (k : Nat) : Prop := ∀ j, j < k → rdy bs out j = false
theorem NoneB.zero (bs : List Bk) (out : List Nat) : NoneB bs out 0 := fun j h => absurd h (Nat.not_lt_zero j)
theorem NoneB.succ {bs : List Bk} {out : List Nat} {k : Nat} (h : NoneB bs out k) (h2 : rdy bs out k = false) : NoneB bs out (k + 1) := fun j hj => by
  by_cases e : j = k
  · subst e; exact h2
  · exact h j (by omega)
theorem find_first {p : Nat → Bool} {n k : Nat} (hk : k < n) (h : ∀ j, j < k → p j = false) (h2 : p k = true) : (List.range n).find? p = some k := by
  rw [List.find?_eq_some_iff_append]
  refine ⟨h2, List.range k, (List.range n).drop (k + 1), ?_, fun a ha => by simpa using h a (by simpa using ha)⟩
  refine List.ext_getElem? fun i => ?_
  rcases Nat.lt_trichotomy i k with h3 | h3 | h3
  · rw [List.getElem?_append_left (by simpa using h3)]
    simp [h3, show i < n by omega]
  · subst h3
    rw [List.getElem?_append_right (by simp)]
    simp [hk]
  · rw [List.getElem?_append_right (by simp; omega)]
    simp only [List.length_range]
    obtain ⟨q, rfl⟩ : ∃ q, i = k + 1 + q := ⟨i - k - 1, by omega⟩
    rw [show k + 1 + q - k = q + 1 by omega]
    simp [List.getElem?_drop]
theorem find_none {p : Nat → Bool} {n : Nat} (h : ∀ j, j < n → p j = false) : (List.range n).find? p = none := by
  rw [List.find?_eq_none]
  intro x hx
  simpa using h x (by simpa using hx)
theorem nxt_at {bs : List Bk} {out : List Nat} {k : Nat} (hk : k < bs.length) (h : NoneB bs out k) (h2 : rdy bs out k = true) : nxt bs out = some k := find_first hk h h2
theorem nxt_none {bs : List Bk} {out : List Nat} (h : NoneB bs out bs.length) : nxt bs out = none := find_none h
/-- What has been listed, on the way to the order. -/
structure OrdOk (bs : List Bk) (out : List Nat) : Prop where
  ok : OutOk bs out
  more : ordN bs bs.length out = ordM bs
theorem OrdOk.nil (bs : List Bk) : OrdOk bs [] := ⟨OutOk.nil bs, rfl⟩
theorem OrdOk.push {bs : List Bk} {out : List Nat} {i : Nat} (h : OrdOk bs out) (hn : nxt bs out = some i) : OrdOk bs (out ++ [i]) := by
  refine ⟨h.ok.push hn, ?_⟩
  have h1 := ordN_more bs.length (bs.length + 1) h.ok (by have := nonDel_le bs; omega) (by omega)
  rw [← h.more, h1]
  show _ = match nxt bs out with | none => out | some i => ordN bs bs.length (out ++ [i])
  rw [hn]
theorem OrdOk.done {bs : List Bk} {out : List Nat} (h : OrdOk bs out) (hn : nxt bs out = none) : ordM bs = out := by
  rw [← h.more]
  cases hb : bs.length with
  | zero => rfl
  | succ f =>
    show (match nxt bs out with | none => out | some i => ordN bs f (out ++ [i])) = out
    rw [hn]
theorem OrdOk.full {bs : List Bk} {out : List Nat} (h : OrdOk bs out) (hf : nonDel bs ≤ out.length) : ordM bs = out := by
  refine h.done ?_
  cases hn : nxt bs out with
  | none => rfl
  | some i =>
    have := (h.ok.push hn).le
    simp at this
    omega
theorem OrdOk.lt {bs : List Bk} {out : List Nat} {i : Nat} (h : OrdOk bs out) (hn : nxt bs out = some i) : out.length < nonDel bs := by
  have := (h.ok.push hn).le
  simp at this
  omega
/-- Whether the first t of a block's arguments are done. -/
def allT (bs : List Bk) (out : List Nat) (xs : List Int) (t : Nat) : Bool := (xs.take t).all fun a => doneB bs out a.toNat
theorem allT_succ {bs : List Bk} {out : List Nat} {xs : List Int} {t : Nat} {a : Int} (h : xs[t]? = some a) : allT bs out xs (t + 1) = (allT bs out xs t && doneB bs out a.toNat) := by
  unfold allT
  rw [List.take_add_one, h, List.all_append]
  simp
theorem allT_all {bs : List Bk} {out : List Nat} {xs : List Int} {t : Nat} (h : xs.length ≤ t) : allT bs out xs t = xs.all fun a => doneB bs out a.toNat := by unfold allT; rw [List.take_of_length_le h]
end Go.Proofs.YtjlocofimlgaoaaDoor
