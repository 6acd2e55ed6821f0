/- Slices of numbers that a call has made itself: what they own, and append. No conditions. -/
import Derived.Test.YtjlocofimlgaoaaDoorMod
import Derived.Test.YtjlocofimlgaoaaDoorRows
import Derived.Laws.AppendOwnNone
import Derived.Laws.OwnMore
namespace Go.Proofs.YtjlocofimlgaoaaDoor
set_option linter.unusedVariables false
set_option linter.unusedSimpArgs false
set_option linter.unusedSectionVars false
open Go.RowKit Go.Deep

theorem info_int : (Tryd.prog.info? 3).map (fun i => (i.zero, i.size, i.bytes)) = some (some (.int .i64 0), 1, 8) := by kernel_rfl
theorem under_ints : Tryd.prog.underlying 44 = some (.slice 3) := by kernel_rfl

/-- The slice value v owns these numbers, in a block of the call's own. -/
def OwnI (w : World) (base : Nat) (v : Value) (xs : List Int) : Prop := w.ownsRow base 3 1 v xs.length (ints xs)
theorem OwnI.nil_ (w : World) (base : Nat) : OwnI w base (.slice none 0 0) [] := World.ownsRow_nil w base _ _
theorem OwnI.lit0 {w : World} {base : Nat} (h : base ≤ w.heap.size) : OwnI (w.alloc (.cells #[] 3)) base (.slice (some ⟨w.heap.size, 0, none⟩) 0 0) [] := World.ownsRow_made w #[] 0 h (Nat.zero_le _) rfl
theorem OwnI.view {w : World} {base : Nat} {v : Value} {xs : List Int} (h : OwnI w base v xs) : ∃ A c, v = .slice A xs.length c ∧ (A = none → c = 0) ∧ CellsAt w w.heap.size A (ints xs) := by
  rcases h.2 with ⟨rfl, h0⟩ | ⟨g, cap, cur, rfl, hb, hg, hn, hm, hs, ht⟩
  · have : xs = [] := List.eq_nil_of_length_eq_zero h0
    subst this
    exact ⟨none, 0, rfl, fun _ => rfl, CellsAt.nil_⟩
  · have hlt := (World.ownsRow.lt h g rfl).2
    refine ⟨some ⟨g, 0, none⟩, cap, rfl, by simp, fun _ => ⟨g, 0, rfl, hlt, hlt, fun j u hu => ?_⟩⟩
    have := World.ownsRow.cells h (g := g) rfl j u hu
    rcases j with _ | j
    · simpa [Addr.add] using this
    · simpa [Addr.add] using this
theorem OwnI.base_ {w : World} {base : Nat} {v : Value} {xs : List Int} (h : OwnI w base v xs) {base' : Nat} (hb : base' ≤ base) : OwnI w base' v xs := by
  refine ⟨h.1, ?_⟩
  rcases h.2 with hn | ⟨g, cap, cur, rfl, hbg, rest⟩
  · exact .inl hn
  · exact .inr ⟨g, cap, cur, rfl, Nat.le_trans hb hbg, rest⟩

theorem app_ints {w : World} {ops : Array Oper} {rest : List Oper} {o : Oper} {a : Act} {Q : Exit → Act → World → Prop} (hgd : o.guard = none) (s x : Operand)
    (ho : o.op = .call { callee := .builtin .append, args := #[s, x], argTypes := #[44, 44] })
    (base : Nat) (v : Value) (xs ys : List Int) (A : Option Addr) (c m : Nat) (hs : a.eval s = v) (hown : OwnI w base v xs) (hx : a.eval x = .slice A ys.length c) (hn : A = none → c = 0) (hc : CellsAt w m A (ints ys))
    (hlen : xs.length + ys.length ≤ 1000000) (hbase : base ≤ w.heap.size)
    (h : ∀ v' w', OwnI w' base v' (xs ++ ys) → w.grownBy w' v.ownBlock → Below base w w' → wpList Tryd.prog ops Q rest (a.put o.dst v') w') : wpList Tryd.prog ops Q (o :: rest) a w := by
  obtain ⟨i0, hi, hz0, hz1, hz2⟩ := info_parts info_int
  rcases A with _ | ⟨b, off, l⟩
  · have hy : ys = [] := by
      rcases ys with _ | ⟨y, ys⟩
      · rfl
      · obtain ⟨b, off, hA, _⟩ := hc (by simp [ints])
        cases hA
    subst hy
    have hc0 := hn rfl
    subst hc0
    exact wpList_append_own_none hgd s x 44 ho base 3 i0 1 under_ints hi v xs.length (ints xs) hs hown hx (h v w (by rw [List.append_nil]; exact hown) ⟨rfl, rfl, rfl, Nat.le_refl _, fun _ _ _ => rfl⟩ (Below.refl _ _))
  · refine wpList_append_own w hgd s x 44 ho base 3 i0 (.int .i64 0) 1 8 under_ints hi hz0 hz1 hz2 rfl (by decide) v xs.length (ints xs) hs hown ⟨b, off, l⟩ ys.length c (ints ys) hx (by simp [ints]) ?_ ?_ (by unfold maxLen; omega) (by omega) hbase (fun v' w' h1 h2 _ => h v' w' ?_ h2 ((Below.refl base w).grown h2 hbase (fun g hg => (World.ownsRow.lt hown g hg).1)))
    · intro j u hu
      obtain ⟨b', off', hA, _, _, hcc⟩ := hc (fun h0 => by rw [h0] at hu; simp at hu)
      cases hA
      have hu' := hcc j u hu
      rcases j with _ | j
      · simpa [Addr.add] using hu'
      · simpa [Addr.add] using hu'
    · intro u hu
      obtain ⟨z, _, rfl⟩ := List.mem_map.1 hu
      rfl
    · have e : ints (xs ++ ys) = ints xs ++ ints ys := by simp [ints]
      unfold OwnI
      rw [e, List.length_append]
      exact h1
theorem OwnI.alloc {w : World} {base : Nat} {v : Value} {xs : List Int} (h : OwnI w base v xs) (o : Obj) : OwnI (w.alloc o) base v xs := World.ownsRow.alloc h o
theorem OwnI.drew {w : World} {base : Nat} {v : Value} {xs : List Int} (h : OwnI w base v xs) : OwnI w.drew base v xs := h
theorem OwnI.drewN {w : World} {base : Nat} {v : Value} {xs : List Int} (h : OwnI w base v xs) (n : Nat) : OwnI (w.drewN n) base v xs := by
  induction n generalizing w with
  | zero => exact h
  | succ n ih => exact ih (w := w.drew) h.drew
theorem push_int {w : World} {ops : Array Oper} {rest : List Oper} {o : Oper} {a : Act} {Q : Exit → Act → World → Prop} (hgd : o.guard = none) (s x : Operand)
    (ho : o.op = .call { callee := .builtin .append, args := #[s, x], argTypes := #[44, 44] })
    (base : Nat) (v : Value) (xs : List Int) (z : Int) (g : Nat) (hs : a.eval s = v) (hown : OwnI w base v xs) (hx : a.eval x = .slice (some ⟨g, 0, none⟩) 1 1) (hg : w.cell? ⟨g, 0, none⟩ = some (.int .i64 z))
    (hlen : xs.length < 1000000) (hbase : base ≤ w.heap.size)
    (h : ∀ v' w', OwnI w' base v' (xs ++ [z]) → w.grownBy w' v.ownBlock → Below base w w' → wpList Tryd.prog ops Q rest (a.put o.dst v') w') : wpList Tryd.prog ops Q (o :: rest) a w := by
  have hgl : g < w.heap.size := by
    rcases Nat.lt_or_ge g w.heap.size with h | h
    · exact h
    · simp [World.cell?, Array.getElem?_eq_none h] at hg
  exact app_ints hgd s x ho base v xs [z] _ 1 w.heap.size hs hown hx (by simp) (fun _ => ⟨g, 0, rfl, hgl, hgl, fun j u hu => by
    rcases j with _ | j
    · simp [ints] at hu; subst hu; exact hg
    · simp [ints] at hu⟩) (by simp; omega) hbase h
theorem OwnI.below {w w' : World} {base B : Nat} {v : Value} {xs : List Int} (h : OwnI w base v xs) (hb : Below B w w') (hv : ∀ g, v.ownBlock = some g → g < B) : OwnI w' base v xs := by
  refine ⟨h.1, ?_⟩
  rcases h.2 with hn | ⟨g, cap, cur, rfl, hbg, hg, rest⟩
  · exact .inl hn
  · refine .inr ⟨g, cap, cur, rfl, hbg, ?_, rest⟩
    rw [hb.block g (hv g rfl)]
    exact hg
end Go.Proofs.YtjlocofimlgaoaaDoor
