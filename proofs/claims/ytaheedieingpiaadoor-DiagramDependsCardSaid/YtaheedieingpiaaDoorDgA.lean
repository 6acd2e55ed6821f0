/- Diagrams as plain data: the order of the blocks, what a block depends on. No conditions. -/
import Derived.Test.YtaheedieingpiaaDoorMod
namespace Go.Proofs.YtaheedieingpiaaDoor
set_option linter.unusedVariables false
set_option linter.unusedSimpArgs false
set_option linter.unusedSectionVars false
open Go.RowKit

/-- A block, and where its arguments lie. -/
structure Bk where
  kind : Int
  A : Option Addr
  args : List Int
  cap : Nat
  vn : Int
  ve : Int
  un : Int
  ue : Int
def Bk.cells (b : Bk) : List Value := [.int .i64 b.kind, .slice b.A b.args.length b.cap, .int .i64 b.vn, .int .i64 b.ve, .int .i64 b.un, .int .i64 b.ue]
def bk0 : Bk := ⟨0, none, [], 0, 0, 0, 0, 0⟩
def kindAt (bs : List Bk) (i : Nat) : Int := (bs[i]?.getD bk0).kind
def argsAt (bs : List Bk) (i : Nat) : List Int := (bs[i]?.getD bk0).args
/-- The arguments that are blocks. -/
def preds (bs : List Bk) (i : Nat) : List Int := if kindAt bs i = 0 then [] else argsAt bs i
/-- All arguments of all blocks that are blocks lie within the list. -/
def ArgsOk (bs : List Bk) : Prop := ∀ i, i < bs.length → ∀ a ∈ preds bs i, 0 ≤ a ∧ a < bs.length

theorem nd_le : ∀ {l1 l2 : List Nat}, l1.Nodup → (∀ x ∈ l1, x ∈ l2) → l1.length ≤ l2.length
  | [], _, _, _ => Nat.zero_le _
  | x :: l, l2, hn, hs => by
    have hx := hs x (by simp)
    have hn' := List.nodup_cons.1 hn
    have := nd_le (l1 := l) (l2 := l2.erase x) hn'.2 (fun y hy => (List.mem_erase_of_ne (fun h => hn'.1 (by rw [← h]; exact hy))).2 (hs y (by simp [hy])))
    rw [List.length_erase_of_mem hx] at this
    have hp : 0 < l2.length := List.length_pos_of_mem hx
    simp
    omega
theorem filter_two (p : Nat → Bool) (l : List Nat) : (l.filter p).length + (l.filter fun i => !p i).length = l.length := by
  induction l with
  | nil => rfl
  | cons x l ih =>
    simp only [List.filter_cons]
    cases h : p x <;> simp <;> omega
/- The order. -/
def doneB (bs : List Bk) (out : List Nat) (j : Nat) : Bool := kindAt bs j == 2 || out.contains j
def rdy (bs : List Bk) (out : List Nat) (i : Nat) : Bool := !doneB bs out i && (preds bs i).all fun a => doneB bs out a.toNat
def nxt (bs : List Bk) (out : List Nat) : Option Nat := (List.range bs.length).find? (rdy bs out)
def ordN (bs : List Bk) : Nat → List Nat → List Nat
  | 0, out => out
  | f + 1, out => match nxt bs out with
    | none => out
    | some i => ordN bs f (out ++ [i])
/-- How many blocks are no delays. -/
def nonDel (bs : List Bk) : Nat := ((List.range bs.length).filter fun i => kindAt bs i != 2).length
def ordM (bs : List Bk) : List Nat := ordN bs bs.length []
def delL (bs : List Bk) : List Nat := (List.range bs.length).filter fun i => kindAt bs i == 2
/-- What has been listed: blocks that are no delays, each once. -/
structure OutOk (bs : List Bk) (out : List Nat) : Prop where
  nodup : out.Nodup
  mem : ∀ j ∈ out, j < bs.length ∧ kindAt bs j ≠ 2
theorem nxt_some {bs : List Bk} {out : List Nat} {i : Nat} (h : nxt bs out = some i) : i < bs.length ∧ rdy bs out i = true := by
  have h1 := List.find?_some h
  have h2 := List.mem_of_find?_eq_some h
  exact ⟨by simpa using h2, h1⟩
theorem OutOk.nil (bs : List Bk) : OutOk bs [] := ⟨List.nodup_nil, by simp⟩
theorem OutOk.push {bs : List Bk} {out : List Nat} (h : OutOk bs out) {i : Nat} (hn : nxt bs out = some i) : OutOk bs (out ++ [i]) := by
  obtain ⟨h1, h2⟩ := nxt_some hn
  simp only [rdy, doneB, Bool.and_eq_true, Bool.not_eq_true', Bool.or_eq_false_iff, beq_eq_false_iff_ne] at h2
  refine ⟨List.nodup_append.2 ⟨h.nodup, by simp, fun x hx y hy => ?_⟩, fun j hj => ?_⟩
  · simp at hy
    subst hy
    intro he
    subst he
    have := h2.1.2
    simp [hx] at this
  · rcases List.mem_append.1 hj with hj | hj
    · exact h.mem j hj
    · simp at hj
      subst hj
      exact ⟨h1, h2.1.1⟩
theorem OutOk.le {bs : List Bk} {out : List Nat} (h : OutOk bs out) : out.length ≤ nonDel bs := by
  have hs : out ⊆ (List.range bs.length).filter fun i => kindAt bs i != 2 := fun j hj => by
    have := h.mem j hj
    simp [this.1, this.2]
  exact nd_le h.nodup hs
theorem nonDel_le (bs : List Bk) : nonDel bs ≤ bs.length := by
  unfold nonDel
  have := List.length_filter_le (fun i => kindAt bs i != 2) (List.range bs.length)
  simpa using this
theorem ordN_ok {bs : List Bk} : ∀ (f : Nat) {out : List Nat}, OutOk bs out → OutOk bs (ordN bs f out)
  | 0, _, h => h
  | f + 1, out, h => by
    unfold ordN
    split
    · exact h
    · rename_i i hi
      exact ordN_ok f (h.push hi)
/-- Beyond so many steps as there are blocks left nothing more is listed. -/
theorem ordN_more {bs : List Bk} : ∀ (f g : Nat) {out : List Nat}, OutOk bs out → nonDel bs - out.length ≤ f → f ≤ g → ordN bs f out = ordN bs g out
  | 0, g, out, h, hf, _ => by
    have hfull : out.length = nonDel bs := by have := h.le; omega
    cases g with
    | zero => rfl
    | succ g =>
      show out = match nxt bs out with | none => out | some i => ordN bs g (out ++ [i])
      cases hn : nxt bs out with
      | none => rfl
      | some i =>
        have := (h.push hn).le
        simp at this
        omega
  | f + 1, 0, _, _, _, hg => by omega
  | f + 1, g + 1, out, h, hf, hg => by
    show (match nxt bs out with | none => out | some i => ordN bs f (out ++ [i])) = match nxt bs out with | none => out | some i => ordN bs g (out ++ [i])
    cases hn : nxt bs out with
    | none => rfl
    | some i => exact ordN_more f g (h.push hn) (by simp; omega) (by omega)
theorem ordM_left (bs : List Bk) : ordN bs (nonDel bs) [] = ordM bs := ordN_more _ _ (OutOk.nil bs) (by simp) (nonDel_le bs)
theorem del_len (bs : List Bk) : (delL bs).length + nonDel bs = bs.length := by
  unfold delL nonDel
  have h := filter_two (fun i => kindAt bs i == 2) (List.range bs.length)
  rw [List.length_range] at h
  exact h

/- What a block depends on. -/
def succs (bs : List Bk) (over : Bool) (i : Nat) : List Int := if kindAt bs i = 2 ∧ over = false then [] else preds bs i
inductive Reach (bs : List Bk) (over : Bool) : Nat → Nat → Prop
  | refl (i : Nat) : Reach bs over i i
  | step {i j : Nat} {a : Int} : Reach bs over i j → a ∈ succs bs over j → Reach bs over i a.toNat
theorem Reach.trans {bs : List Bk} {over : Bool} {i j k : Nat} (h1 : Reach bs over i j) (h2 : Reach bs over j k) : Reach bs over i k := by
  induction h2 with
  | refl => exact h1
  | step _ ha ih => exact Reach.step ih ha
/-- The marks as a list. -/
def markL (m : List Bool) : List Nat := (List.range m.length).filter fun i => m[i]?.getD false
theorem marks_eq {m m' : List Bool} (hl : m.length = m'.length) (h : ∀ j, j < m.length → (m[j]?.getD false = true ↔ m'[j]?.getD false = true)) : m = m' := by
  refine List.ext_getElem hl fun j h1 h2 => ?_
  have := h j h1
  rw [List.getElem?_eq_getElem h1, List.getElem?_eq_getElem h2] at this
  simp at this
  cases hm : m[j] <;> cases hm' : m'[j] <;> simp_all
end Go.Proofs.YtaheedieingpiaaDoor
