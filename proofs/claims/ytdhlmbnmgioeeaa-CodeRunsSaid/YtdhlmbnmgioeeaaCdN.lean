/- The fixed fact 'awake': two runs of fixed programs. No conditions. -/
import Derived.Test.YtdhlmbnmgioeeaaCdL
namespace Go.Proofs.Ytdhlmbnmgioeeaa
set_option linter.unusedVariables false
set_option linter.unusedSimpArgs false
set_option linter.unusedSectionVars false
open Go.RowKit

theorem Blk.old {w : World} {b t : Nat} {vs : List Value} (h : Blk w b vs t) (o : Obj) : Blk (w.alloc o) b vs t := h.below ((Below.refl _ w).alloc (Nat.le_refl _) o) h.lt
theorem CellsAt.set_other {w : World} {m : Nat} {A : Option Addr} {xs : List Value} (h : CellsAt w m A xs) {b j : Nat} (u : Value) (hA : ∀ a : Addr, A = some a → a.block ≠ b) : CellsAt (w.setCell ⟨b, j, none⟩ u) m A xs := fun hx => by
  obtain ⟨g, off, rfl, hbm, hbs, hc⟩ := h hx
  refine ⟨g, off, rfl, hbm, by simpa using hbs, fun i u hu => ?_⟩
  have hne : g ≠ b := hA _ rfl
  rw [World.cell?_setCell_other _ _ _ _ (by first | (simp; omega) | simp_all)]
  exact hc i u hu
theorem Blk.new (w : World) (vs : List Value) (t b : Nat) (hb : b = w.heap.size) : Blk (w.alloc (.cells vs.toArray t)) b vs t := hb ▸ Blk.new_ w vs t

set_option maxRecDepth 100000 in
set_option maxHeartbeats 4000000 in
theorem awake_any (w : World) : Calls Try.prog 10 #[] w fun e w' => e = .returned (.bool true) ∧ Below w.heap.size w w' := by
  go_enter Try.func10, Try.ntmps10
  go_wp2_with fail
  go_at_call 12
  have B0 := ((((Blk.new w [.int .i64 5, .int .i64 (-3), .int .i64 0] 3 _ rfl).old (.cells #[.int .i64 2] 3)).old (.cells #[.int .i64 3, .int .i64 2, .int .i64 0, .int .i64 1, .int .i64 1, .int .i64 (-1), .int .i64 0] 49)).old (.cells #[.slice none 0 0, .slice (some ⟨w.heap.size, 0, none⟩) 3 3, .slice (some ⟨w.heap.size + 1 + 1, 0, none⟩) 1 1, .slice (some ⟨w.heap.size + 1, 0, none⟩) 1 1] 26)).old (.cells #[.int .i64 5, .int .i64 (-3), .int .i64 0] 3)
  have B1 := (((Blk.new (w.alloc (.cells #[.int .i64 5, .int .i64 (-3), .int .i64 0] 3)) [.int .i64 2] 3 (w.heap.size + 1) (by simp)).old (.cells #[.int .i64 3, .int .i64 2, .int .i64 0, .int .i64 1, .int .i64 1, .int .i64 (-1), .int .i64 0] 49)).old (.cells #[.slice none 0 0, .slice (some ⟨w.heap.size, 0, none⟩) 3 3, .slice (some ⟨w.heap.size + 1 + 1, 0, none⟩) 1 1, .slice (some ⟨w.heap.size + 1, 0, none⟩) 1 1] 26)).old (.cells #[.int .i64 5, .int .i64 (-3), .int .i64 0] 3)
  have B2 := ((Blk.new ((w.alloc (.cells #[.int .i64 5, .int .i64 (-3), .int .i64 0] 3)).alloc (.cells #[.int .i64 2] 3)) [.int .i64 3, .int .i64 2, .int .i64 0, .int .i64 1, .int .i64 1, .int .i64 (-1), .int .i64 0] 49 (w.heap.size + 1 + 1) (by simp)).old (.cells #[.slice none 0 0, .slice (some ⟨w.heap.size, 0, none⟩) 3 3, .slice (some ⟨w.heap.size + 1 + 1, 0, none⟩) 1 1, .slice (some ⟨w.heap.size + 1, 0, none⟩) 1 1] 26)).old (.cells #[.int .i64 5, .int .i64 (-3), .int .i64 0] 3)
  have B4 := Blk.new ((((w.alloc (.cells #[.int .i64 5, .int .i64 (-3), .int .i64 0] 3)).alloc (.cells #[.int .i64 2] 3)).alloc (.cells #[.int .i64 3, .int .i64 2, .int .i64 0, .int .i64 1, .int .i64 1, .int .i64 (-1), .int .i64 0] 49)).alloc (.cells #[.slice none 0 0, .slice (some ⟨w.heap.size, 0, none⟩) 3 3, .slice (some ⟨w.heap.size + 1 + 1, 0, none⟩) 1 1, .slice (some ⟨w.heap.size + 1, 0, none⟩) 1 1] 26)) [.int .i64 5, .int .i64 (-3), .int .i64 0] 3 (w.heap.size + 1 + 1 + 1 + 1) (by simp)
  have hsz : (((((w.alloc (.cells #[.int .i64 5, .int .i64 (-3), .int .i64 0] 3)).alloc (.cells #[.int .i64 2] 3)).alloc (.cells #[.int .i64 3, .int .i64 2, .int .i64 0, .int .i64 1, .int .i64 1, .int .i64 (-1), .int .i64 0] 49)).alloc (.cells #[.slice none 0 0, .slice (some ⟨w.heap.size, 0, none⟩) 3 3, .slice (some ⟨w.heap.size + 1 + 1, 0, none⟩) 1 1, .slice (some ⟨w.heap.size + 1, 0, none⟩) 1 1] 26)).alloc (.cells #[.int .i64 5, .int .i64 (-3), .int .i64 0] 3) ).heap.size = w.heap.size + 5 := by simp
  refine (run_any none (some ⟨w.heap.size, 0, none⟩) (some ⟨w.heap.size + 1 + 1, 0, none⟩) (some ⟨w.heap.size + 1, 0, none⟩) (some ⟨w.heap.size + 1 + 1 + 1 + 1, 0, none⟩) none [] [5, -3, 0] [⟨3, 2, 0, 1, 1, -1, 0⟩] [2] [5, -3, 0] [] 0 3 1 1 3 0 (w.heap.size + 5) _ (by rw [hsz]; exact Nat.le_refl _) CellsAt.nil_ (B0.cells_ (by omega)) (B2.cells_ (by omega)) (B1.cells_ (by omega)) (B4.cells_ (by omega)) CellsAt.nil_ (by simp) _ _ aw1 aw3).mono ?_
  rintro e w1 ⟨A, c, B, d, rfl, hA, hB, hcA, hcB, hb, hgA, hgB⟩
  rw [errV_0]
  obtain ⟨qc, qf, qs, qz⟩ := ext_at (m := w.heap.size + 5) hb (by rw [hsz]; exact Nat.le_refl _) (by rw [hsz]; exact Nat.le_refl _)
  clear hsz
  have C0 := B0.below hb (by first | (simp; omega) | simp)
  have C1 := B1.below hb (by first | (simp; omega) | simp)
  clear B0 B1 B2 B4
  go_wp2_with fail
  go_at_call 12
  have hP : Below (w.heap.size + 1 + 1 + 1) w1 (w1.setCell ⟨w.heap.size + 1 + 1 + 1, 2, none⟩ (.slice (some ⟨w1.heap.size + 1, 0, none⟩) 1 1)) := (Below.refl _ _).setCell (p := ⟨w.heap.size + 1 + 1 + 1, 2, none⟩) (Nat.le_refl _) _
  obtain ⟨W, hW⟩ : ∃ W, W = w1.setCell ⟨w.heap.size + 1 + 1 + 1, 2, none⟩ (.slice (some ⟨w1.heap.size + 1, 0, none⟩) 1 1) := ⟨_, rfl⟩
  rw [← hW] at hP ⊢
  have hWs : W.heap.size = w1.heap.size := by rw [hW]; simp
  rw [← hWs]
  have hq : w.heap.size + 5 ≤ W.heap.size := by rw [hWs]; exact qz
  have D0 := (((C0.below hP (by omega)).old (.cells #[.slice A 3 c, .slice B 1 d, .bool false] 32)).old (.cells #[.int .i64 6, .int .i64 2, .int .i64 0, .int .i64 0, .int .i64 0, .int .i64 0, .int .i64 1073741824] 49)).old (.cells #[.int .i64 5, .int .i64 (-3), .int .i64 0] 3)
  have D1 := (((C1.below hP (by omega)).old (.cells #[.slice A 3 c, .slice B 1 d, .bool false] 32)).old (.cells #[.int .i64 6, .int .i64 2, .int .i64 0, .int .i64 0, .int .i64 0, .int .i64 0, .int .i64 1073741824] 49)).old (.cells #[.int .i64 5, .int .i64 (-3), .int .i64 0] 3)
  have D2 := (Blk.new (W.alloc (.cells #[.slice A 3 c, .slice B 1 d, .bool false] 32)) [.int .i64 6, .int .i64 2, .int .i64 0, .int .i64 0, .int .i64 0, .int .i64 0, .int .i64 1073741824] 49 (W.heap.size + 1) (by simp)).old (.cells #[.int .i64 5, .int .i64 (-3), .int .i64 0] 3)
  have D3 := Blk.new ((W.alloc (.cells #[.slice A 3 c, .slice B 1 d, .bool false] 32)).alloc (.cells #[.int .i64 6, .int .i64 2, .int .i64 0, .int .i64 0, .int .i64 0, .int .i64 0, .int .i64 1073741824] 49)) [.int .i64 5, .int .i64 (-3), .int .i64 0] 3 (W.heap.size + 1 + 1) (by simp)
  have hsz : (((W.alloc (.cells #[.slice A 3 c, .slice B 1 d, .bool false] 32)).alloc (.cells #[.int .i64 6, .int .i64 2, .int .i64 0, .int .i64 0, .int .i64 0, .int .i64 0, .int .i64 1073741824] 49)).alloc (.cells #[.int .i64 5, .int .i64 (-3), .int .i64 0] 3)).heap.size = W.heap.size + 3 := by simp
  have hB3 := (((Below.refl W.heap.size W).alloc (Nat.le_refl _) (.cells #[.slice A 3 c, .slice B 1 d, .bool false] 32)).alloc (by simp) (.cells #[.int .i64 6, .int .i64 2, .int .i64 0, .int .i64 0, .int .i64 0, .int .i64 0, .int .i64 1073741824] 49)).alloc (by simp; omega) (.cells #[.int .i64 5, .int .i64 (-3), .int .i64 0] 3)
  refine (run_any none (some ⟨w.heap.size, 0, none⟩) (some ⟨W.heap.size + 1, 0, none⟩) (some ⟨w.heap.size + 1, 0, none⟩) (some ⟨W.heap.size + 1 + 1, 0, none⟩) none [] [5, -3, 0] [⟨6, 2, 0, 0, 0, 0, 1073741824⟩] [2] [5, -3, 0] [] 0 3 1 1 3 0 (W.heap.size + 3) _ (by rw [hsz]; exact Nat.le_refl _) CellsAt.nil_ (D0.cells_ (by omega)) (D2.cells_ (by omega)) (D1.cells_ (by omega)) (D3.cells_ (by omega)) CellsAt.nil_ (by simp) _ _ aw2 aw4).mono ?_
  rintro e w2 ⟨A', c', B', d', rfl, hA', hB', hcA', hcB', hb2, hgA', hgB'⟩
  rw [errV_0]
  obtain ⟨rc, rf, rs, rz⟩ := ext_at (m := W.heap.size + 3) hb2 (by rw [hsz]; exact Nat.le_refl _) (by rw [hsz]; exact Nat.le_refl _)
  clear hsz
  have hcB1 : CellsAt W w1.heap.size B (ints [8]) := by
    rw [hW]
    exact hcB.set_other _ (fun a ha h0 => by have := hgB a ha; simp at this; omega)
  have hcB2 := hcB1.below (hB3.trans (hb2.mono (by simp; omega))) (by omega)
  have hbw : Below w.heap.size w w2 := (((((((Below.refl w.heap.size w).alloc (Nat.le_refl _) (.cells #[.int .i64 5, .int .i64 (-3), .int .i64 0] 3)).alloc (by simp) (.cells #[.int .i64 2] 3)).alloc (by simp; omega) (.cells #[.int .i64 3, .int .i64 2, .int .i64 0, .int .i64 1, .int .i64 1, .int .i64 (-1), .int .i64 0] 49)).alloc (by simp; omega) (.cells #[.slice none 0 0, .slice (some ⟨w.heap.size, 0, none⟩) 3 3, .slice (some ⟨w.heap.size + 1 + 1, 0, none⟩) 1 1, .slice (some ⟨w.heap.size + 1, 0, none⟩) 1 1] 26)).alloc (by simp; omega) (.cells #[.int .i64 5, .int .i64 (-3), .int .i64 0] 3)).trans (hb.mono (by simp; omega))).trans ((hP.mono (by omega)).trans ((hB3.mono (by omega)).trans (hb2.mono (by simp; omega))))
  clear hb hb2 hB3 hcB hcB1 hcA hP D0 D1 D2 D3 C0 C1 hW
  go_wp2_with fail
  go_at_call 18
  have E1 := Blk.new (w2.alloc (.cells #[.slice A' 3 c', .slice B' 1 d', .bool true] 32)) [.int .i64 8] 3 (w2.heap.size + 1) (by simp)
  have hb4 := ((Below.refl w2.heap.size w2).alloc (Nat.le_refl _) (.cells #[.slice A' 3 c', .slice B' 1 d', .bool true] 32)).alloc (by simp) (.cells #[.int .i64 8] 3)
  refine (ints_any B (some ⟨w2.heap.size + 1, 0, none⟩) [8] [8] d 1 (w2.heap.size + 2) _ ((hcB2.below hb4 (by omega)).more (by omega)) (E1.cells_ (by omega)) (by simp) (by simp)).mono ?_
  rintro e w3 ⟨rfl, hb3⟩
  obtain ⟨tc, tf, ts, tz⟩ := ext_at (m := w2.heap.size + 2) hb3 (by simp) (by simp)
  have hcB3 := (hcB'.below hb4 (Nat.le_refl _)).below hb3 (by simp; omega)
  have hbw3 := hbw.trans ((hb4.mono (by have := hbw.size; omega)).trans (hb3.mono (by have := hbw.size; simp; omega)))
  clear hb3 hb4 E1 hcB2 hcB'
  have i1 : intsB [8] [8] = true := by decide
  rw [i1]
  go_wp2_with fail
  go_at_call 18
  have E2 := Blk.new w3 [.int .i64 2147483647] 3 w3.heap.size rfl
  have hb5 := (Below.refl w3.heap.size w3).alloc (Nat.le_refl _) (.cells #[.int .i64 2147483647] 3)
  refine (ints_any B' (some ⟨w3.heap.size, 0, none⟩) [2147483647] [2147483647] d' 1 (w3.heap.size + 1) _ ((hcB3.below hb5 (by omega)).more (by omega)) (E2.cells_ (by omega)) (by simp) (by simp)).mono ?_
  rintro e w4 ⟨rfl, hb6⟩
  have i2 : intsB [2147483647] [2147483647] = true := by decide
  rw [i2]
  go_wp2_with fail
  go_ret
  exact ⟨rfl, hbw3.trans ((hb5.mono hbw3.size).trans (hb6.mono (by have := hbw3.size; simp; omega)))⟩
end Go.Proofs.Ytdhlmbnmgioeeaa
