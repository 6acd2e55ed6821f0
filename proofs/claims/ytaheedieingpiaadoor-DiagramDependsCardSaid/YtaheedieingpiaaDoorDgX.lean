/- What stands while a law on a diagram goes on. No conditions. -/
import Derived.Test.YtaheedieingpiaaDoorDgW
import Derived.Test.YtaheedieingpiaaDoorDgR
import Derived.Test.YtaheedieingpiaaDoorDoor
namespace Go.Proofs.YtaheedieingpiaaDoor
set_option linter.unusedVariables false
set_option linter.unusedSimpArgs false
set_option linter.unusedSectionVars false
open Go.RowKit

/-- The diagram's box is the first new block; the old memory is as it was. -/
structure Lx (w0 w : World) (d : Dg) : Prop where
  bel : Below w0.heap.size w0 w
  box : RowD w w0.heap.size d.vals 26
  tab : TabAt w
theorem Lx.start (w0 : World) (d : Dg) (ht : TabAt w0) : Lx w0 (w0.alloc (.cells d.vals.toArray 26)) d :=
  ⟨al_ _ _, RowD.new_ _ _ _, ht.below (al_ _ _) ht.1⟩
theorem Lx.next {w0 w w' : World} {d : Dg} (h : Lx w0 w d) (hb : Below w.heap.size w w') : Lx w0 w' d :=
  ⟨h.bel.trans (hb.mono h.bel.size), h.box.call hb, h.tab.call hb⟩
theorem Lx.al {w0 w : World} {d : Dg} (h : Lx w0 w d) (o : Obj) : Lx w0 (w.alloc o) d := h.next (al_ w o)
theorem Lx.c0 {w0 w : World} {d : Dg} (h : Lx w0 w d) : w.cell? ⟨w0.heap.size, 0, none⟩ = some (.slice d.A1 d.ps.length d.c1) := h.box.cell 0
theorem Lx.c1 {w0 w : World} {d : Dg} (h : Lx w0 w d) : w.cell? ⟨w0.heap.size, 1, none⟩ = some (.slice d.A2 d.bs.length d.c2) := h.box.cell 1
theorem Lx.c2 {w0 w : World} {d : Dg} (h : Lx w0 w d) : w.cell? ⟨w0.heap.size, 2, none⟩ = some (.slice d.A3 d.os.length d.c3) := h.box.cell 2
theorem Lx.lt {w0 w : World} {d : Dg} (h : Lx w0 w d) : w0.heap.size < w.heap.size := h.box.lt
theorem Lx.le {w0 w : World} {d : Dg} (h : Lx w0 w d) : w0.heap.size ≤ w.heap.size := Nat.le_of_lt h.box.lt
theorem Lx.dg {w0 w : World} {d : Dg} (h : Lx w0 w d) (hd : DgAt w0 w0.heap.size d) : DgAt w w0.heap.size d := hd.below h.bel (Nat.le_refl _)
/-- A diagram that is short enough. -/
theorem DgIn.light {w : World} {d : Dg} (h : DgIn w d) (hl : lightG d = true) : DgAt w w.heap.size d := by
  unfold lightG at hl
  simp only [Bool.and_eq_true, decide_eq_true_eq, List.all_eq_true] at hl
  obtain ⟨⟨h1, h2, h3⟩, h4⟩ := hl
  exact ⟨h.ps, h.bs, h.os, fun b hb => ⟨h.args b hb, by have := h4 b hb; omega⟩, by omega, by omega, by omega⟩
theorem usesO_in {ps : List Prt} {bs : List Bk} {os : List Int} {k : Nat} (he : dgErr ps bs os = 0) (hk : k < bs.length) : usesE ps bs os (k : Int) = 0 ∧ usesO ps bs os (k : Int) = usesL bs k := by
  have h1 : usesE ps bs os (k : Int) = 0 := by
    unfold usesE
    rw [if_neg (not_not_intro he), if_pos (by omega)]
  exact ⟨h1, by unfold usesO; rw [if_pos h1, Int.toNat_natCast]⟩
theorem usesO_out {ps : List Prt} {bs : List Bk} {os : List Int} {i : Int} (he : dgErr ps bs os = 0) (hk : ¬ (0 ≤ i ∧ i < (bs.length : Int))) : usesE ps bs os i = 10 ∧ usesO ps bs os i = [] := by
  have h1 : usesE ps bs os i = 10 := by
    unfold usesE
    rw [if_neg (not_not_intro he), if_neg hk]
  exact ⟨h1, by unfold usesO; rw [if_neg (by rw [h1]; decide)]⟩
theorem usesO_err {ps : List Prt} {bs : List Bk} {os : List Int} {i : Int} (he : ¬ dgErr ps bs os = 0) : usesE ps bs os i = dgErr ps bs os ∧ usesO ps bs os i = [] := by
  have h1 : usesE ps bs os i = dgErr ps bs os := by
    unfold usesE
    rw [if_pos he]
  exact ⟨h1, by unfold usesO; rw [if_neg (by rw [h1]; exact he)]⟩
theorem intsB_refl (xs : List Int) : intsB xs xs = true := by simp [intsB]
theorem markL_len (m : List Bool) : (markL m).length ≤ m.length := by
  unfold markL
  have := List.length_filter_le (fun i => m[i]?.getD false) (List.range m.length)
  simpa using this
theorem usesL_len (bs : List Bk) (i : Nat) : (usesL bs i).length ≤ bs.length := by
  unfold usesL
  rw [natI_len]
  have := markL_len (passes bs false bs.length (mark0 bs i))
  rw [passes_len] at this
  simpa [mark0] using this
end Go.Proofs.YtaheedieingpiaaDoor
