/- Numbers while another block of three cells is filled. No conditions. -/
import Derived.Test.YtjlocofimlgaoaaDoorWd
namespace Go.Proofs.YtjlocofimlgaoaaDoor
set_option linter.unusedVariables false
set_option linter.unusedSimpArgs false
set_option linter.unusedSectionVars false
open Go.RowKit

/-- No word among the cells. -/
def NoWd (vs : List Value) : Prop := ∀ u ∈ vs, ∀ z, u ≠ .int .u32 z
theorem RowD.notwd {w : World} {g t m : Nat} {vs : List Value} {A : Option Addr} {ws : List Nat} (h : RowD w g vs t) (hn : NoWd vs) (hc : CellsAt w m A (w32 ws)) (j : Nat) (u : Value) : CellsAt (w.setCell ⟨g, j, none⟩ u) m A (w32 ws) := fun hx => by
  obtain ⟨b, off, hA, hbm, hbs, hcc⟩ := hc hx
  have hne : b ≠ g := fun he => by
    have hp : 0 < ws.length := by
      have := w32_len ws
      rcases Nat.eq_zero_or_pos ws.length with h0 | h0
      · exact absurd (List.eq_nil_of_length_eq_zero (this.trans h0)) hx
      · exact h0
    have h1 := hcc 0 (.int .u32 (ws[0] : Int)) (by simp [w32, hp])
    rw [he, h.cell] at h1
    exact hn _ (List.mem_of_getElem? h1) _ rfl
  refine ⟨b, off, hA, hbm, by simpa using hbs, fun i v hv => ?_⟩
  rw [World.cell?_setCell_other _ _ _ _ (fun e => hne (by cases e; rfl))]
  exact hcc i v hv
theorem DyR.setH {w : World} {lo hi d g t : Nat} {v : Value} {x : Int} {vs : List Value} (h : DyR w lo hi v x d) (hg : RowD w g vs t) (hn : NoWd vs) (j : Nat) (u : Value) : DyR (w.setCell ⟨g, j, none⟩ u) lo hi v x d := by
  obtain ⟨A, c, e, h1, h2, h3, h4, h5, h6⟩ := h
  exact ⟨A, c, e, h1, h2, hg.notwd hn h3 j u, h4, h5, h6⟩
theorem NoWd.set {vs : List Value} (h : NoWd vs) (j : Nat) {u : Value} (hu : ∀ z, u ≠ .int .u32 z) : NoWd (vs.set j u) := fun v hv z => by
  rcases List.mem_or_eq_of_mem_set hv with h1 | rfl
  · exact h v h1 z
  · exact hu z
theorem noWd3 {b1 : Bool} {A1 : Option Addr} {L1 c1 : Nat} {d1 : Int} : NoWd [.bool b1, .slice A1 L1 c1, .int .i64 d1] := by
  intro u hu z
  simp only [List.mem_cons, List.not_mem_nil, or_false] at hu
  rcases hu with rfl | rfl | rfl <;> simp
theorem RowD.set3d {w : World} {b t : Nat} {v0 v1 v2 : Value} (h : RowD w b [v0, v1, v2] t) (a0 a1 a2 : Value) : RowD (((w.setCell ⟨b, 0, none⟩ a0).setCell ⟨b, 1, none⟩ a1).setCell ⟨b, 2, none⟩ a2) b [a0, a1, a2] t := ((h.set_ 0 a0).set_ 1 a1).set_ 2 a2
theorem DyR.set3H {w : World} {lo hi d g t : Nat} {v : Value} {x : Int} {v0 v1 v2 a0 a1 a2 : Value} (h : DyR w lo hi v x d) (hg : RowD w g [v0, v1, v2] t) (hn : NoWd [v0, v1, v2]) (ha : NoWd [a0, a1, a2]) :
    DyR (((w.setCell ⟨g, 0, none⟩ a0).setCell ⟨g, 1, none⟩ a1).setCell ⟨g, 2, none⟩ a2) lo hi v x d := by
  have k0 := hn.set 0 (ha a0 (by simp))
  have k1 := k0.set 1 (ha a1 (by simp))
  exact ((h.setH hg hn 0 a0).setH (hg.set_ 0 a0) k0 1 a1).setH ((hg.set_ 0 a0).set_ 1 a1) k1 2 a2
theorem size3d (w : World) (g : Nat) (a0 a1 a2 : Value) : (((w.setCell ⟨g, 0, none⟩ a0).setCell ⟨g, 1, none⟩ a1).setCell ⟨g, 2, none⟩ a2).heap.size = w.heap.size := by simp
theorem below_set3d {W w : World} {m g : Nat} (h : Below m W w) (hg : m ≤ g) (a0 a1 a2 : Value) : Below m W (((w.setCell ⟨g, 0, none⟩ a0).setCell ⟨g, 1, none⟩ a1).setCell ⟨g, 2, none⟩ a2) :=
  ((h.setCell hg a0).setCell hg a1).setCell hg a2
end Go.Proofs.YtjlocofimlgaoaaDoor
