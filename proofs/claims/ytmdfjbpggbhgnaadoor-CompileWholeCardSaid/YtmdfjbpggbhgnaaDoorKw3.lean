/- What the proofs of this claim share, part 3. No conditions. -/
import Derived.Test.YtmdfjbpggbhgnaaDoorKw2
import Derived.Lib.Hide
set_option linter.unusedVariables false
set_option linter.unusedSimpArgs false
set_option linter.unusedSectionVars false
namespace Go.Proofs.YtmdfjbpggbhgnaaDoor
open Go.RowKit
def BoxAt (w : World) (b : Nat) (vs : List Value) : Prop := b < w.heap.size ∧ ∀ j u, vs[j]? = some u → w.cell? ⟨b, j, none⟩ = some u
theorem BoxAt.below {w w' : World} {b B : Nat} {vs : List Value} (h : BoxAt w b vs) (hb : Below B w w') (hB : b < B) : BoxAt w' b vs :=
  ⟨Nat.lt_of_lt_of_le h.1 hb.size, fun j u hu => (hb.cell (p := ⟨b, j, none⟩) hB).trans (h.2 j u hu)⟩
theorem BoxAt.c0 {w : World} {b : Nat} {v0 : Value} {vs : List Value} (h : BoxAt w b (v0 :: vs)) : w.cell? ⟨b, 0, none⟩ = some v0 := h.2 0 _ rfl
theorem BoxAt.c1 {w : World} {b : Nat} {v0 v1 : Value} {vs : List Value} (h : BoxAt w b (v0 :: v1 :: vs)) : w.cell? ⟨b, 1, none⟩ = some v1 := h.2 1 _ rfl
theorem BoxAt.c2 {w : World} {b : Nat} {v0 v1 v2 : Value} {vs : List Value} (h : BoxAt w b (v0 :: v1 :: v2 :: vs)) : w.cell? ⟨b, 2, none⟩ = some v2 := h.2 2 _ rfl
theorem BoxAt.c3 {w : World} {b : Nat} {v0 v1 v2 v3 : Value} {vs : List Value} (h : BoxAt w b (v0 :: v1 :: v2 :: v3 :: vs)) : w.cell? ⟨b, 3, none⟩ = some v3 := h.2 3 _ rfl
theorem BoxAt.new_ (w : World) (vs : List Value) (t : TypeId) : BoxAt (w.alloc (.cells vs.toArray t)) w.heap.size vs :=
  ⟨by simp, fun j u hu => by simp [go_sem, hu]⟩
structure Prt where
  lo : Int
  hi : Int
  fr : Int
def Prt.cells (p : Prt) : List Value := [.int .i64 p.lo, .int .i64 p.hi, .int .i64 p.fr]
structure Ins where
  op : Int
  dst : Int
  a : Int
  b : Int
  sa : Int
  sb : Int
  imm : Int
def Ins.cells (x : Ins) : List Value := [.int .i64 x.op, .int .i64 x.dst, .int .i64 x.a, .int .i64 x.b, .int .i64 x.sa, .int .i64 x.sb, .int .i64 x.imm]
def flat {α : Type} (f : α → List Value) (l : List α) : List Value := (l.map f).flatten
theorem flat_get {α : Type} {f : α → List Value} {s : Nat} (hf : ∀ x, (f x).length = s) : ∀ {l : List α} {k j : Nat} {x : α}, l[k]? = some x → j < s → (flat f l)[k * s + j]? = (f x)[j]?
  | [], k, j, x, h, _ => by simp at h
  | y :: l, 0, j, x, h, hj => by
    have e : y = x := by simpa using h
    subst e
    simp only [flat, List.map_cons, List.flatten_cons]
    rw [List.getElem?_append_left (by rw [hf]; omega)]
    simp
  | y :: l, k + 1, j, x, h, hj => by
    have ih := flat_get hf (l := l) (k := k) (j := j) (x := x) (by simpa using h) hj
    simp only [flat, List.map_cons, List.flatten_cons] at ih ⊢
    rw [List.getElem?_append_right (by rw [hf, Nat.add_mul]; omega), hf, show (k + 1) * s + j - s = k * s + j by rw [Nat.add_mul]; omega]
    exact ih
theorem flat_ne {α : Type} {f : α → List Value} {s : Nat} (hf : ∀ x, (f x).length = s) (hs : 0 < s) {l : List α} {k : Nat} (h : k < l.length) : flat f l ≠ [] := by
  intro h0
  have := flat_get hf (l := l) (k := k) (j := 0) (List.getElem?_eq_getElem h) hs
  rw [h0] at this
  have hl := hf l[k]
  have h1 : (f l[k])[0]? = none := by rw [← this]; rfl
  rw [List.getElem?_eq_none_iff] at h1
  omega
theorem CellsAt.row {w : World} {m s : Nat} {A : Option Addr} {α : Type} {f : α → List Value} {l : List α} (h : CellsAt w m A (flat f l)) (hf : ∀ x, (f x).length = s) (hs : 0 < s) {k : Nat} (hk : k < l.length) :
    ∃ b off x, A = some ⟨b, off, none⟩ ∧ b < m ∧ b < w.heap.size ∧ l[k]? = some x ∧ ∀ j u, (f x)[j]? = some u → w.cell? ⟨b, off + k * s + j, none⟩ = some u := by
  obtain ⟨b, off, hA, hbm, hbs, hc⟩ := h (flat_ne hf hs hk)
  refine ⟨b, off, l[k], hA, hbm, hbs, List.getElem?_eq_getElem hk, fun j u hu => ?_⟩
  rw [Nat.add_assoc]
  refine hc _ u ?_
  have hj : j < s := by rw [← hf l[k]]; exact (List.getElem?_eq_some_iff.1 hu).1
  rw [flat_get hf (List.getElem?_eq_getElem hk) hj, hu]
def firstErr : List Int → Int
  | [] => 0
  | x :: l => if x = 0 then firstErr l else x
theorem firstErr_append (a b : List Int) : firstErr (a ++ b) = if firstErr a = 0 then firstErr b else firstErr a := by
  induction a with
  | nil => simp [firstErr]
  | cons x l ih =>
    by_cases h : x = 0
    · simp [firstErr, h, ih]
    · simp [firstErr, h]
theorem fe_step {l : List Int} {k : Nat} (h : l[k]? = some 0) (ht : firstErr (l.take k) = 0) : firstErr (l.take (k + 1)) = 0 := by
  rw [List.take_add_one, h, firstErr_append, ht]
  simp [firstErr]
theorem fe_hit {l : List Int} {k : Nat} {e : Int} (h : l[k]? = some e) (he : e ≠ 0) (ht : firstErr (l.take k) = 0) : firstErr l = e := by
  rw [← List.take_append_drop k l, firstErr_append, if_pos ht]
  have hk := (List.getElem?_eq_some_iff.1 h)
  obtain ⟨hk, he'⟩ := hk
  rw [List.drop_eq_getElem_cons hk, he']
  simp [firstErr, he]
theorem fe_mid {pre l post : List Int} {k : Nat} {e : Int} (hp : firstErr pre = 0) (h : l[k]? = some e) (he : e ≠ 0) (ht : firstErr (l.take k) = 0) : firstErr (pre ++ (l ++ post)) = e := by
  rw [firstErr_append, if_pos hp, firstErr_append, fe_hit h he ht, if_neg he]
theorem fe_all {l : List Int} {k : Nat} (hk : l.length ≤ k) (ht : firstErr (l.take k) = 0) : firstErr l = 0 := by rwa [List.take_of_length_le hk] at ht
end Go.Proofs.YtmdfjbpggbhgnaaDoor
