/- Lists of blocks that a call has made itself: what they own, and append. No conditions. -/
import Derived.Test.YtaheedieingpiaaDoorDgZ
import Derived.Deep.AppendLies
import Derived.Deep.RegionLaw
namespace Go.Proofs.YtaheedieingpiaaDoor
set_option linter.unusedVariables false
set_option linter.unusedSimpArgs false
set_option linter.unusedSectionVars false
open Go.RowKit Go.Deep

def zBlk : Value := .agg #[.int .i64 0, .slice none 0 0, .int .i64 0, .int .i64 0, .int .i64 0, .int .i64 0]
theorem info_blk : (Tryd.prog.info? 44).map (fun i => (i.zero, i.size, i.bytes)) = some (some zBlk, 6, 64) := by kernel_rfl
theorem under_blks : Tryd.prog.underlying 23 = some (.slice 44) := by kernel_rfl
/-- The slice value v owns these blocks, in a memory block of the call's own. -/
def OwnB (w : World) (base : Nat) (v : Value) (l : List Bk) : Prop := w.ownsRow base 44 6 v l.length (flat Bk.cells l)
theorem OwnB.nil_ (w : World) (base : Nat) : OwnB w base (.slice none 0 0) [] := World.ownsRow_nil w base _ _
theorem OwnB.view {w : World} {base : Nat} {v : Value} {l : List Bk} (h : OwnB w base v l) : ∃ A c, v = .slice A l.length c ∧ (A = none → c = 0) ∧ CellsAt w w.heap.size A (flat Bk.cells l) := by
  rcases h.2 with ⟨rfl, h0⟩ | ⟨g, cap, cur, rfl, hb, hg, hn, hm, hs, ht⟩
  · have : l = [] := List.eq_nil_of_length_eq_zero h0
    subst this
    exact ⟨none, 0, rfl, fun _ => rfl, CellsAt.nil_⟩
  · have hlt := (World.ownsRow.lt h g rfl).2
    refine ⟨some ⟨g, 0, none⟩, cap, rfl, by simp, fun _ => ⟨g, 0, rfl, hlt, hlt, fun j u hu => ?_⟩⟩
    have := World.ownsRow.cells h (g := g) rfl j u hu
    rcases j with _ | j
    · simpa [Addr.add] using this
    · simpa [Addr.add] using this
theorem OwnB.alloc {w : World} {base : Nat} {v : Value} {l : List Bk} (h : OwnB w base v l) (o : Obj) : OwnB (w.alloc o) base v l := World.ownsRow.alloc h o
theorem OwnB.drew {w : World} {base : Nat} {v : Value} {l : List Bk} (h : OwnB w base v l) : OwnB w.drew base v l := h
theorem OwnB.drewN {w : World} {base : Nat} {v : Value} {l : List Bk} (h : OwnB w base v l) (n : Nat) : OwnB (w.drewN n) base v l := by
  induction n generalizing w with
  | zero => exact h
  | succ n ih => exact ih (w := w.drew) h.drew
theorem OwnB.base_ {w : World} {base : Nat} {v : Value} {l : List Bk} (h : OwnB w base v l) {base' : Nat} (hb : base' ≤ base) : OwnB w base' v l := by
  refine ⟨h.1, ?_⟩
  rcases h.2 with hn | ⟨g, cap, cur, rfl, hbg, rest⟩
  · exact .inl hn
  · exact .inr ⟨g, cap, cur, rfl, Nat.le_trans hb hbg, rest⟩
theorem OwnB.below {w w' : World} {base B : Nat} {v : Value} {l : List Bk} (h : OwnB w base v l) (hb : Below B w w') (hv : ∀ g, v.ownBlock = some g → g < B) : OwnB w' base v l := by
  refine ⟨h.1, ?_⟩
  rcases h.2 with hn | ⟨g, cap, cur, rfl, hbg, hg, rest⟩
  · exact .inl hn
  · refine .inr ⟨g, cap, cur, rfl, hbg, ?_, rest⟩
    rw [hb.block g (hv g rfl)]
    exact hg
theorem OwnB.call {w w' : World} {base : Nat} {v : Value} {l : List Bk} (h : OwnB w base v l) (hb : Below w.heap.size w w') : OwnB w' base v l := h.below hb (fun g hg => (World.ownsRow.lt h g hg).2)
theorem OwnB.set_below {w : World} {base : Nat} {v : Value} {l : List Bk} (h : OwnB w base v l) {b j : Nat} (u : Value) (hb : b < base) : OwnB (w.setCell ⟨b, j, none⟩ u) base v l := by
  refine ⟨h.1, ?_⟩
  rcases h.2 with hn | ⟨g, cap, cur, rfl, hbg, hg, rest⟩
  · exact .inl hn
  · refine .inr ⟨g, cap, cur, rfl, hbg, ?_, rest⟩
    rw [heap_setCell_other _ ⟨b, j, none⟩ g _ (by simp; omega)]
    exact hg
/-- Of another block nothing is touched. -/
theorem OwnB.at_block {w w' : World} {base : Nat} {v : Value} {l : List Bk} (h : OwnB w base v l) (hb : ∀ g, v.ownBlock = some g → w'.heap[g]? = w.heap[g]?) (hs : base ≤ w'.heap.size) : OwnB w' base v l := by
  refine ⟨h.1, ?_⟩
  rcases h.2 with hn | ⟨g, cap, cur, rfl, hbg, hg, rest⟩
  · exact .inl hn
  · refine .inr ⟨g, cap, cur, rfl, hbg, ?_, rest⟩
    rw [hb g rfl]
    exact hg
/-- append of one block, as a step of a statement whose order is left open. -/
theorem step_pushB {w : World} {ops : Array Oper} {o : Oper} {a : Act} {K : Act → World → Prop} {Q : Exit → Act → World → Prop} {E : Prop} (hgd : o.guard = none) (s x : Operand)
    (ho : o.op = .call { callee := .builtin .append, args := #[s, x], argTypes := #[23, 23] })
    (base : Nat) (v : Value) (l : List Bk) (b : Bk) (g : Nat) (hs : a.eval s = v) (hown : OwnB w base v l) (hx : a.eval x = .slice (some ⟨g, 0, none⟩) 1 1) (hg : ∀ j u, b.cells[j]? = some u → w.cell? ⟨g, j, none⟩ = some u)
    (hlen : l.length < 1000000) (hbase : base ≤ w.heap.size) (H : Nat) (hH : w.heap.size = H)
    (h : ∀ v' w', OwnB w' base v' (l ++ [b]) → w.grownBy w' v.ownBlock → Below base w w' → (v'.ownBlock = v.ownBlock ∨ v'.ownBlock = some H) → K (a.put o.dst v') w') : if Region.wanted o (yielded ops a.tmps) = true then Oper.wp Tryd.prog o a w K Q else E := by
  obtain ⟨i0, hi, hz0, hz1, hz2⟩ := info_parts info_blk
  refine step_append_lies w hgd s x 23 ho base 44 i0 zBlk 6 64 under_blks hi hz0 hz1 hz2 rfl (by decide) v l.length (flat Bk.cells l) hs hown ⟨g, 0, none⟩ 1 1 b.cells hx rfl ?_ (by simp [Bk.cells, Value.oneCell']) (by decide) (by unfold maxLen; omega) (by omega) hbase H hH (fun g' cap w' h1 h2 h3 _ => h _ w' ?_ h2 ((Below.refl base w).grown h2 hbase (fun g hg => (World.ownsRow.lt hown g hg).1)) ?_)
  · intro j u hu
    have := hg j u hu
    rwa [Go.WideShapes.add_plain, Nat.zero_add]
  · have e : flat Bk.cells (l ++ [b]) = flat Bk.cells l ++ b.cells := by simp [flat]
    unfold OwnB
    rw [e, List.length_append]
    exact h1
  · rcases h3 with h3 | h3
    · left; rw [h3]; rfl
    · right; rw [h3]; rfl
/-- append of one block, in the text's order. -/
theorem push_bk {w : World} {ops : Array Oper} {rest : List Oper} {o : Oper} {a : Act} {Q : Exit → Act → World → Prop} (hgd : o.guard = none) (s x : Operand)
    (ho : o.op = .call { callee := .builtin .append, args := #[s, x], argTypes := #[23, 23] })
    (base : Nat) (v : Value) (l : List Bk) (b : Bk) (g : Nat) (hs : a.eval s = v) (hown : OwnB w base v l) (hx : a.eval x = .slice (some ⟨g, 0, none⟩) 1 1) (hg : ∀ j u, b.cells[j]? = some u → w.cell? ⟨g, j, none⟩ = some u)
    (hlen : l.length < 1000000) (hbase : base ≤ w.heap.size)
    (h : ∀ v' w', OwnB w' base v' (l ++ [b]) → w.grownBy w' v.ownBlock → Below base w w' → wpList Tryd.prog ops Q rest (a.put o.dst v') w') : wpList Tryd.prog ops Q (o :: rest) a w := by
  obtain ⟨i0, hi, hz0, hz1, hz2⟩ := info_parts info_blk
  refine wpList_append_own w hgd s x 23 ho base 44 i0 zBlk 6 64 under_blks hi hz0 hz1 hz2 rfl (by decide) v l.length (flat Bk.cells l) hs hown ⟨g, 0, none⟩ 1 1 b.cells hx rfl ?_ (by simp [Bk.cells, Value.oneCell']) (by unfold maxLen; omega) (by omega) hbase (fun v' w' h1 h2 _ => h v' w' ?_ h2 ((Below.refl base w).grown h2 hbase (fun g hg => (World.ownsRow.lt hown g hg).1)))
  · intro j u hu
    have := hg j u hu
    rwa [Go.WideShapes.add_plain, Nat.zero_add]
  · have e : flat Bk.cells (l ++ [b]) = flat Bk.cells l ++ b.cells := by simp [flat]
    unfold OwnB
    rw [e, List.length_append]
    exact h1
theorem sl_to {w : World} {M : Nat} {A : Option Addr} {xs : List Int} {c : Nat} (h : CellsAt w M A (ints xs)) (h1 : 1 ≤ xs.length) (h3 : xs.length ≤ c) :
    ∃ B r D, D = xs.take 1 ∧ (∀ w', (Instr.slice 24 (.slice A xs.length c) none (some (.int .i64 1)) none).run Tryd.prog w' = .ok (.slice B D.length r) w') ∧ CellsAt w M B (ints D) := by
  have hl : (xs.take 1).length = 1 := by simp; omega
  refine ⟨if c = 0 then A else A.map (·.add (0 * 1)), c - 0, _, rfl, fun w' => ?_, fun hne => ?_⟩
  · rw [run_slice_h w' 24 A xs.length c Tryd.underlying24 .i64 1 (by omega) (by omega), sz_int]
    simp only [Result.andThen, sliced, hl]
    rfl
  · have hp2 := h.part 0 1
    simp only [List.drop_zero] at hp2
    obtain ⟨b, off, rfl, hc⟩ := hp2 hne
    rw [if_neg (by omega), Option.map_some, Nat.zero_mul, Go.WideShapes.add_plain]
    exact hc hne
end Go.Proofs.YtaheedieingpiaaDoor
