/- Diagrams as plain data: the order of the blocks, what a block depends on. No conditions. Diagrams as plain data: what is marked. No conditions. -/
import Derived.Test.YtjlocofimlgaoaaDoorMod
namespace Go.Proofs.YtjlocofimlgaoaaDoor
set_option linter.unusedVariables false
set_option linter.unusedSimpArgs false
set_option linter.unusedSectionVars false
open Go.RowKit

/-- A block, and where its arguments lie. -/
structure Bk where
  kind : Int
  A : Option Addr
  args : List Int
  cap : Nat
  vn : Int
  ve : Int
  un : Int
  ue : Int
def Bk.cells (b : Bk) : List Value := [.int .i64 b.kind, .slice b.A b.args.length b.cap, .int .i64 b.vn, .int .i64 b.ve, .int .i64 b.un, .int .i64 b.ue]
def bk0 : Bk := ⟨0, none, [], 0, 0, 0, 0, 0⟩
def kindAt (bs : List Bk) (i : Nat) : Int := (bs[i]?.getD bk0).kind
def argsAt (bs : List Bk) (i : Nat) : List Int := (bs[i]?.getD bk0).args
/-- The arguments that are blocks. -/
def preds (bs : List Bk) (i : Nat) : List Int := if kindAt bs i = 0 then [] else argsAt bs i
/-- All arguments of all blocks that are blocks lie within the list. -/
def ArgsOk (bs : List Bk) : Prop := ∀ i, i < bs.length → ∀ a ∈ preds bs i, 0 ≤ a ∧ a < bs.length

theorem nd_le : ∀ {l1 l2 : List Nat}, l1.Nodup → (∀ x ∈ l1, x ∈ l2) → l1.length ≤ l2.length
  | [], _, _, _ => Nat.zero_le _
  | x :: l, l2, hn, hs => by
    have hx := hs x (by simp)
    have hn' := List.nodup_cons.1 hn
    have := nd_le (l1 := l) (l2 := l2.erase x) hn'.2 (fun y hy => (List.mem_erase_of_ne (fun h => hn'.1 (by rw [← h]; exact hy))).2 (hs y (by simp [hy])))
    rw [List.length_erase_of_mem hx] at this
    have hp : 0 < l2.length := List.length_pos_of_mem hx
    simp
    omega
theorem filter_two (p : Nat → Bool) (l : List Nat) : (l.filter p).length + (l.filter fun i => !p i).length = l.length := by
  induction l with
  | nil => rfl
  | cons x l ih =>
    simp only [List.filter_cons]
    cases h : p x <;> simp <;> omega
/- The order. -/
def doneB (bs : List Bk) (out : List Nat) (j : Nat) : Bool := kindAt bs j == 2 || out.contains j
def rdy (bs : List Bk) (out : List Nat) (i : Nat) : Bool := !doneB bs out i && (preds bs i).all fun a => doneB bs out a.toNat
def nxt (bs : List Bk) (out : List Nat) : Option Nat := (List.range bs.length).find? (rdy bs out)
def ordN (bs : List Bk) : Nat → List Nat → List Nat
  | 0, out => out
  | f + 1, out => match nxt bs out with
    | none => out
    | some i => ordN bs f (out ++ [i])
/-- How many blocks are no delays. -/
def nonDel (bs : List Bk) : Nat := ((List.range bs.length).filter fun i => kindAt bs i != 2).length
def ordM (bs : List Bk) : List Nat := ordN bs bs.length []
def delL (bs : List Bk) : List Nat := (List.range bs.length).filter fun i => kindAt bs i == 2
/-- What has been listed: blocks that are no delays, each once. -/
structure OutOk (bs : List Bk) (out : List Nat) : Prop where
  nodup : out.Nodup
  mem : ∀ j ∈ out, j < bs.length ∧ kindAt bs j ≠ 2
theorem nxt_some {bs : List Bk} {out : List Nat} {i : Nat} (h : nxt bs out = some i) : i < bs.length ∧ rdy bs out i = true := by
  have h1 := List.find?_some h
  have h2 := List.mem_of_find?_eq_some h
  exact ⟨by simpa using h2, h1⟩
theorem OutOk.nil (bs : List Bk) : OutOk bs [] := ⟨List.nodup_nil, by simp⟩
theorem OutOk.push {bs : List Bk} {out : List Nat} (h : OutOk bs out) {i : Nat} (hn : nxt bs out = some i) : OutOk bs (out ++ [i]) := by
  obtain ⟨h1, h2⟩ := nxt_some hn
  simp only [rdy, doneB, Bool.and_eq_true, Bool.not_eq_true', Bool.or_eq_false_iff, beq_eq_false_iff_ne] at h2
  refine ⟨List.nodup_append.2 ⟨h.nodup, by simp, fun x hx y hy => ?_⟩, fun j hj => ?_⟩
  · simp at hy
    subst hy
    intro he
    subst he
    have := h2.1.2
    simp [hx] at this
  · rcases List.mem_append.1 hj with hj | hj
    · exact h.mem j hj
    · simp at hj
      subst hj
      exact ⟨h1, h2.1.1⟩
theorem OutOk.le {bs : List Bk} {out : List Nat} (h : OutOk bs out) : out.length ≤ nonDel bs := by
  have hs : out ⊆ (List.range bs.length).filter fun i => kindAt bs i != 2 := fun j hj => by
    have := h.mem j hj
    simp [this.1, this.2]
  exact nd_le h.nodup hs
theorem nonDel_le (bs : List Bk) : nonDel bs ≤ bs.length := by
  unfold nonDel
  have := List.length_filter_le (fun i => kindAt bs i != 2) (List.range bs.length)
  simpa using this
theorem ordN_ok {bs : List Bk} : ∀ (f : Nat) {out : List Nat}, OutOk bs out → OutOk bs (ordN bs f out)
  | 0, _, h => h
  | f + 1, out, h => by
    unfold ordN
    split
    · exact h
    · rename_i i hi
      exact ordN_ok f (h.push hi)
/-- Beyond so many steps as there are blocks left nothing more is listed. -/
theorem ordN_more {bs : List Bk} : ∀ (f g : Nat) {out : List Nat}, OutOk bs out → nonDel bs - out.length ≤ f → f ≤ g → ordN bs f out = ordN bs g out
  | 0, g, out, h, hf, _ => by
    have hfull : out.length = nonDel bs := by have := h.le; omega
    cases g with
    | zero => rfl
    | succ g =>
      show out = match nxt bs out with | none => out | some i => ordN bs g (out ++ [i])
      cases hn : nxt bs out with
      | none => rfl
      | some i =>
        have := (h.push hn).le
        simp at this
        omega
  | f + 1, 0, _, _, _, hg => by omega
  | f + 1, g + 1, out, h, hf, hg => by
    show (match nxt bs out with | none => out | some i => ordN bs f (out ++ [i])) = match nxt bs out with | none => out | some i => ordN bs g (out ++ [i])
    cases hn : nxt bs out with
    | none => rfl
    | some i => exact ordN_more f g (h.push hn) (by simp; omega) (by omega)
theorem del_len (bs : List Bk) : (delL bs).length + nonDel bs = bs.length := by
  unfold delL nonDel
  have h := filter_two (fun i => kindAt bs i == 2) (List.range bs.length)
  rw [List.length_range] at h
  exact h

/- What a block depends on. -/
def succs (bs : List Bk) (over : Bool) (i : Nat) : List Int := if kindAt bs i = 2 ∧ over = false then [] else preds bs i
inductive Reach (bs : List Bk) (over : Bool) : Nat → Nat → Prop
  | refl (i : Nat) : Reach bs over i i
  | step {i j : Nat} {a : Int} : Reach bs over i j → a ∈ succs bs over j → Reach bs over i a.toNat
theorem Reach.trans {bs : List Bk} {over : Bool} {i j k : Nat} (h1 : Reach bs over i j) (h2 : Reach bs over j k) : Reach bs over i k := by
  induction h2 with
  | refl => exact h1
  | step _ ha ih => exact Reach.step ih ha
/-- The marks as a list. -/
def markL (m : List Bool) : List Nat := (List.range m.length).filter fun i => m[i]?.getD false
end Go.Proofs.YtjlocofimlgaoaaDoor
namespace Go.Proofs.YtjlocofimlgaoaaDoor
set_option linter.unusedVariables false
set_option linter.unusedSimpArgs false
set_option linter.unusedSectionVars false
open Go.RowKit

def isM (m : List Bool) (j : Nat) : Bool := m[j]?.getD false
theorem isM_set {m : List Bool} {i j : Nat} (hi : i < m.length) : isM (m.set i true) j = (isM m j || i == j) := by
  unfold isM
  rw [List.getElem?_set]
  by_cases h : i = j
  · subst h
    simp [hi]
  · have : (i == j) = false := by simpa using h
    simp [h]
theorem isM_set_mono {m : List Bool} {i j : Nat} (h : isM m j = true) : isM (m.set i true) j = true := by
  by_cases hi : i < m.length
  · rw [isM_set hi, h]; rfl
  · rw [List.set_eq_of_length_le (by omega)]; exact h
def SuccOk (bs : List Bk) : Prop := ∀ i, i < bs.length → ∀ a ∈ preds bs i, 0 ≤ a ∧ a < (bs.length : Int)
theorem succs_preds {bs : List Bk} {over : Bool} {i : Nat} {a : Int} (h : a ∈ succs bs over i) : a ∈ preds bs i := by
  unfold succs at h
  split at h
  · cases h
  · exact h
/-- What a call of the marking leaves. -/
structure MarkPost (bs : List Bk) (over : Bool) (m : List Bool) (i : Nat) (m' : List Bool) : Prop where
  len : m'.length = m.length
  mono : ∀ j, isM m j = true → isM m' j = true
  self : isM m' i = true
  from_ : ∀ j, isM m' j = true → isM m j = true ∨ Reach bs over i j
  closed : ∀ j, isM m' j = true → isM m j = false → ∀ a ∈ succs bs over j, isM m' a.toNat = true
theorem MarkPost.same {bs : List Bk} {over : Bool} {m : List Bool} {i : Nat} (h : isM m i = true) : MarkPost bs over m i m :=
  ⟨rfl, fun _ h => h, h, fun _ h => .inl h, fun j h1 h2 => by rw [h1] at h2; cases h2⟩
/-- In the middle of a call: the first k of the arguments are done. -/
structure MarkMid (bs : List Bk) (over : Bool) (m : List Bool) (i k : Nat) (m' : List Bool) : Prop where
  len : m'.length = m.length
  mono : ∀ j, isM m j = true → isM m' j = true
  self : isM m' i = true
  from_ : ∀ j, isM m' j = true → isM m j = true ∨ Reach bs over i j
  closed : ∀ j, j ≠ i → isM m' j = true → isM m j = false → ∀ a ∈ succs bs over j, isM m' a.toNat = true
  args : ∀ t, t < k → ∀ a, (succs bs over i)[t]? = some a → isM m' a.toNat = true
theorem MarkMid.start {bs : List Bk} {over : Bool} {m : List Bool} {i : Nat} (hi : i < m.length) : MarkMid bs over m i 0 (m.set i true) :=
  ⟨by simp, fun j h => isM_set_mono h, by rw [isM_set hi]; simp, fun j h => by
    rw [isM_set hi] at h
    simp at h
    rcases h with h | h
    · exact .inl h
    · subst h; exact .inr (Reach.refl _), fun j hj h1 h2 => by
    rw [isM_set hi, h2] at h1
    simp at h1
    exact absurd h1.symm hj, fun t ht => by omega⟩
theorem MarkMid.step {bs : List Bk} {over : Bool} {m m' m'' : List Bool} {i k : Nat} {a : Int} (h : MarkMid bs over m i k m') (ha : (succs bs over i)[k]? = some a) (h2 : MarkPost bs over m' a.toNat m'') : MarkMid bs over m i (k + 1) m'' := by
  have hr : Reach bs over i a.toNat := Reach.step (Reach.refl i) (List.mem_of_getElem? ha)
  refine ⟨h2.len.trans h.len, fun j hj => h2.mono j (h.mono j hj), h2.mono i h.self, fun j hj => ?_, fun j hji h1 hm b hb => ?_, fun t ht b hb => ?_⟩
  · rcases h2.from_ j hj with h3 | h3
    · exact h.from_ j h3
    · exact .inr (hr.trans h3)
  · by_cases hmj : isM m' j = true
    · exact h2.mono _ (h.closed j hji hmj hm b hb)
    · exact h2.closed j h1 (by simpa using hmj) b hb
  · by_cases htk : t = k
    · subst htk
      rw [ha] at hb
      cases hb
      exact h2.self
    · exact h2.mono _ (h.args t (by omega) b hb)
theorem MarkMid.done {bs : List Bk} {over : Bool} {m m' : List Bool} {i k : Nat} (h : MarkMid bs over m i k m') (hk : (succs bs over i).length ≤ k) : MarkPost bs over m i m' :=
  ⟨h.len, h.mono, h.self, h.from_, fun j h1 h2 a ha => by
    by_cases hji : j = i
    · subst hji
      obtain ⟨t, ht, rfl⟩ := List.getElem_of_mem ha
      exact h.args t (by omega) _ (List.getElem?_eq_getElem ht)
    · exact h.closed j hji h1 h2 a ha⟩
/-- How many are not marked. -/
def unM (m : List Bool) : Nat := (m.filter fun b => !b).length
theorem unM_set : ∀ {m : List Bool} {i : Nat}, i < m.length → isM m i = false → unM (m.set i true) + 1 = unM m
  | [], i, h, _ => by simp at h
  | b :: m, 0, _, h => by
    simp [isM] at h
    subst h
    simp [unM]
  | b :: m, i + 1, h, h2 => by
    have h3 : i < m.length := by simpa using h
    have h4 : isM m i = false := by simpa [isM] using h2
    have ih := unM_set h3 h4
    unfold unM at ih ⊢
    simp only [List.set_cons_succ, List.filter_cons]
    cases b <;> simp <;> omega
theorem unM_mono : ∀ {m m' : List Bool}, m'.length = m.length → (∀ j, isM m j = true → isM m' j = true) → unM m' ≤ unM m
  | [], [], _, _ => Nat.le_refl _
  | [], _ :: _, h, _ => by simp at h
  | _ :: _, [], h, _ => by simp at h
  | b :: m, c :: m', hl, h => by
    have ih := unM_mono (m := m) (m' := m') (by simpa using hl) (fun j hj => by
      have := h (j + 1) (by simpa [isM] using hj)
      simpa [isM] using this)
    have h0 := h 0
    unfold unM at ih ⊢
    simp only [List.filter_cons]
    cases b <;> cases c <;> simp [isM] at h0 ⊢ <;> omega

/- The document's way: pass after pass. -/
def pass1 (bs : List Bk) (over : Bool) (m : List Bool) (i : Nat) : List Bool := if isM m i = true then (succs bs over i).foldl (fun m a => m.set a.toNat true) m else m
def passM (bs : List Bk) (over : Bool) (m : List Bool) : List Bool := (List.range bs.length).foldl (pass1 bs over) m
def passes (bs : List Bk) (over : Bool) : Nat → List Bool → List Bool
  | 0, m => m
  | k + 1, m => passes bs over k (passM bs over m)
/-- One pass that leaves all as it is: nothing is lacking. -/
def ClosedM (bs : List Bk) (over : Bool) (m : List Bool) : Prop := ∀ i, isM m i = true → ∀ a ∈ succs bs over i, isM m a.toNat = true
end Go.Proofs.YtjlocofimlgaoaaDoor
