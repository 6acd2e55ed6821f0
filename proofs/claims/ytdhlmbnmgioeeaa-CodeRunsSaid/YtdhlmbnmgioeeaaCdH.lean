/- Whether two runs left the same; what a run is, as plain data. No conditions. -/
import Derived.Test.YtdhlmbnmgioeeaaCdG
namespace Go.Proofs.Ytdhlmbnmgioeeaa
set_option linter.unusedVariables false
set_option linter.unusedSimpArgs false
set_option linter.unusedSectionVars false
open Go.RowKit

/-- What a run left. -/
structure RunD where
  cells : List Int
  outs : List Int
  over : Bool
def RunD.zero : RunD := ⟨[], [], false⟩
def sameB (a b : RunD) : Bool := decide (a.over = b.over ∧ a.cells = b.cells ∧ a.outs = b.outs)

set_option maxHeartbeats 2000000 in
theorem same_any (A1 A2 B1 B2 : Option Addr) (a b : RunD) (c1 c2 d1 d2 m : Nat) (w : World) (hm : m ≤ w.heap.size) (h1 : CellsAt w m A1 (ints a.cells)) (h2 : CellsAt w m A2 (ints a.outs)) (h3 : CellsAt w m B1 (ints b.cells)) (h4 : CellsAt w m B2 (ints b.outs))
    (l1 : a.cells.length ≤ 1000000) (l2 : a.outs.length ≤ 1000000) (l3 : b.cells.length ≤ 1000000) (l4 : b.outs.length ≤ 1000000) :
    Calls Try.prog 15 #[.agg #[.slice A1 a.cells.length c1, .slice A2 a.outs.length c2, .bool a.over], .agg #[.slice B1 b.cells.length d1, .slice B2 b.outs.length d2, .bool b.over]] w fun e w' => e = .returned (.bool (sameB a b)) ∧ Below w.heap.size w w' := by
  have H1 := Lib.hid h1
  have H2 := Lib.hid h2
  have H3 := Lib.hid h3
  have H4 := Lib.hid h4
  clear h1 h2 h3 h4
  have b0 : ∀ (vs us : Array Value), Below w.heap.size w ((w.alloc (.cells vs 32)).alloc (.cells us 32)) := fun _ _ => ext_alloc (ext_alloc (Below.refl _ _) _) _
  by_cases ho : a.over = b.over
  · have e1 : (a.over == b.over) = true := by simpa using ho
    have HO := Lib.hid ho
    clear ho
    by_cases hc : intsB a.cells b.cells = true
    · have HC := Lib.hid hc
      clear hc
      go_enter Try.func15, Try.ntmps15
      go_wp2_with fail
      go_at_call 18
      refine (ints_any A1 B1 a.cells b.cells c1 d1 m _ (H1.out.below (b0 _ _) hm) (H3.out.below (b0 _ _) hm) (by omega) (by omega)).mono ?_
      rintro e w1 ⟨rfl, hb⟩
      rw [HC.out]
      obtain ⟨hc, hf, hs, hz⟩ := ext_at (m := w.heap.size + 2) hb (by simp) (by simp)
      have b1 : Below w.heap.size w w1 := (b0 _ _).trans (hb.mono (by simp; omega))
      clear hb
      go_wp2_with fail
      go_at_call 18
      refine (ints_any A2 B2 a.outs b.outs c2 d2 m _ (H2.out.below b1 hm) (H4.out.below b1 hm) (by omega) (by omega)).mono ?_
      rintro e w2 ⟨rfl, hb2⟩
      go_wp2_with fail
      go_ret
      refine ⟨ret_bool ?_, b1.trans (hb2.mono b1.size)⟩
      have h1 := HC.out
      have h2 := HO.out
      rw [Bool.eq_iff_iff]
      simp only [sameB, intsB, decide_eq_true_eq] at *
      simp [h1, h2]
    · have HC : Hid (intsB a.cells b.cells = false) := Lib.hid (by simpa using hc)
      clear hc
      go_enter Try.func15, Try.ntmps15
      go_wp2_with fail
      go_at_call 18
      refine (ints_any A1 B1 a.cells b.cells c1 d1 m _ (H1.out.below (b0 _ _) hm) (H3.out.below (b0 _ _) hm) (by omega) (by omega)).mono ?_
      rintro e w1 ⟨rfl, hb⟩
      rw [HC.out]
      obtain ⟨hc, hf, hs, hz⟩ := ext_at (m := w.heap.size + 2) hb (by simp) (by simp)
      have b1 : Below w.heap.size w w1 := (b0 _ _).trans (hb.mono (by simp; omega))
      clear hb
      go_wp2_with fail
      go_ret
      refine ⟨ret_bool ?_, b1⟩
      have h1 := HC.out
      simp only [intsB, decide_eq_false_iff_not] at h1
      simp [sameB, h1]
  · have e1 : (a.over == b.over) = false := by simpa using ho
    have HO := Lib.hid ho
    clear ho
    go_enter Try.func15, Try.ntmps15
    go_wp2_with fail
    go_ret
    exact ⟨ret_bool (decide_eq_false (fun h => HO.out h.1)).symm, b0 _ _⟩

/-- A block that is a variable of the call's own, whole. -/
def Blk (w : World) (b : Nat) (vs : List Value) (t : TypeId) : Prop := w.heap[b]? = some (.cells vs.toArray t (0, 0))
theorem Blk.lt {w : World} {b t : Nat} {vs : List Value} (h : Blk w b vs t) : b < w.heap.size := (Array.getElem?_eq_some_iff.1 h).1
theorem Blk.new_ (w : World) (vs : List Value) (t : TypeId) : Blk (w.alloc (.cells vs.toArray t)) w.heap.size vs t := heap_alloc_new w _
theorem Blk.below {w w' : World} {b B t : Nat} {vs : List Value} (h : Blk w b vs t) (hb : Below B w w') (hB : b < B) : Blk w' b vs t := (hb.block b hB).trans h
theorem Blk.cell {w : World} {b t : Nat} {vs : List Value} (h : Blk w b vs t) (j : Nat) : w.cell? ⟨b, j, none⟩ = vs[j]? := by
  rw [cell_of_row w b j vs.toArray t (0, 0) h]
  simp
theorem Blk.free {w : World} {b t : Nat} {vs : List Value} (h : Blk w b vs t) (j : Nat) : w.frozen? ⟨b, j, none⟩ = false := frozen_of_row w b j vs.toArray t h
theorem Blk.set_ {w : World} {b t : Nat} {vs : List Value} (h : Blk w b vs t) (j : Nat) (u : Value) : Blk (w.setCell ⟨b, j, none⟩ u) b (vs.set j u) t := by
  have := heap_setCell_same w b j vs.toArray t u h
  simpa [Blk] using this

theorem OwnI.at_ {w : World} {base g c : Nat} {xs : List Int} {n : Nat} (h : OwnI w base (.slice (some ⟨g, 0, none⟩) n c) xs) (hn : n = xs.length) {j : Nat} (hj : j < n) : w.cell? ⟨g, j, none⟩ = some (.int .i64 (xs[j]?.getD 0)) := by
  subst hn
  rw [World.ownsRow.cellAt h j (by omega)]
  simp [ints, hj]
theorem OwnI.free {w : World} {base g c : Nat} {xs : List Int} {n : Nat} (h : OwnI w base (.slice (some ⟨g, 0, none⟩) n c) xs) (hn : n = xs.length) (j : Nat) : w.frozen? ⟨g, j, none⟩ = false := by
  subst hn
  exact World.ownsRow.frozenAt h j
theorem OwnI.put {w : World} {base g c : Nat} {xs : List Int} {n : Nat} (h : OwnI w base (.slice (some ⟨g, 0, none⟩) n c) xs) (hn : n = xs.length) (j : Nat) (z : Int) : OwnI (w.setCell ⟨g, j, none⟩ (.int .i64 z)) base (.slice (some ⟨g, 0, none⟩) n c) (xs.set j z) := by
  subst hn
  have := (World.ownsRow.stored h j (.int .i64 z)).1
  unfold OwnI
  rw [List.length_set]
  have e : ints (xs.set j z) = (ints xs).set j (.int .i64 z) := by simp [ints]
  rw [e]
  exact this
end Go.Proofs.Ytdhlmbnmgioeeaa
