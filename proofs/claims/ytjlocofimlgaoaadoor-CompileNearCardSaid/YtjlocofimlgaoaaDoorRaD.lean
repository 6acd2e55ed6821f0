/- The document's Fit. No conditions. The document's values and raw values of scalars. No conditions. -/
import Derived.Test.YtjlocofimlgaoaaDoorRaB
import Derived.Test.YtjlocofimlgaoaaDoorRd
namespace Go.Proofs.YtjlocofimlgaoaaDoor
set_option linter.unusedVariables false
set_option linter.unusedSimpArgs false
set_option linter.unusedSectionVars false
open Go.RowKit

def fitV (n : Int) : Int := max (-2147483648) (min n 2147483647)
def fitB (n : Int) : Bool := decide (-2147483648 ≤ n ∧ n < 2147483648)
end Go.Proofs.YtjlocofimlgaoaaDoor
namespace Go.Proofs.YtjlocofimlgaoaaDoor
set_option linter.unusedVariables false
set_option linter.unusedSimpArgs false
set_option linter.unusedSectionVars false
open Go.RowKit

theorem res_rValue {tmps : Array Value} {w : World} {b : Nat} {v0 v1 v2 : Value} (h2 : tmps.getD 2 undef = .pointer (some ⟨b, 0, none⟩)) (hB : RowD w b [v0, v1, v2] 37) :
    (results Tryd.f14 tmps).run Tryd.prog w = .ok (.agg #[v0, v1, v2]) w := by
  have k0 := hB.cell 0
  have k1 := hB.cell 1
  have k2 := hB.cell 2
  simp at k0 k1 k2
  simp at h2
  simp [results, Tryd.results14, go_sem, h2, k0, k1, k2]
set_option maxRecDepth 100000 in
set_option maxHeartbeats 4000000 in
theorem rvalue_any (n e : Int) (h1 : -9223372036854775808 ≤ n) (h2 : n < 9223372036854775808) (w : World) :
    Calls Tryd.prog 14 #[.agg #[.int .i64 n, .int .i64 e]] w fun r w' => ∃ v', r = .returned v' ∧ DyR w' w.heap.size w'.heap.size v' (dyShift n 0 e).1 (dyShift n 0 e).2 ∧ Below w.heap.size w w' := by
  have l5 : (canon n.natAbs).length ≤ 50000 := Nat.le_trans (canon_len_le (k := 2) (by omega)) (by decide)
  go_enter Tryd.func14, Tryd.ntmps14
  go_wp2_with fail
  obtain ⟨W, hW⟩ : ∃ q, q = (w.alloc (.cells #[.int .i64 n, .int .i64 e] 23)).alloc (.cells #[.bool false, .slice none 0 0, .int .i64 0] 37) := ⟨_, rfl⟩
  have rX : RowD W w.heap.size [.int .i64 n, .int .i64 e] 23 := by rw [hW]; exact (RowD.new_ _ _ _).call (al_ _ _)
  have rR : RowD W (w.heap.size + 1) [.bool false, .slice none 0 0, .int .i64 0] 37 := by rw [hW]; have h := RowD.new_ (w.alloc (.cells #[.int .i64 n, .int .i64 e] 23)) [.bool false, .slice none 0 0, .int .i64 0] 37; rwa [show (w.alloc (.cells #[.int .i64 n, .int .i64 e] 23)).heap.size = w.heap.size + 1 by simp] at h
  have bW : Below w.heap.size w W := by rw [hW]; exact ext_alloc (ext_alloc (Below.refl _ _) _) _
  rw [← hW]
  clear hW
  have hA := rX.lt
  have hA2 := rR.lt
  have a0 : W.cell? ⟨w.heap.size, 0, none⟩ = some (.int .i64 n) := rX.cell 0
  have a1 : W.cell? ⟨w.heap.size, 1, none⟩ = some (.int .i64 e) := rX.cell 1
  have hWs := bW.size
  refine wp_region_E 6 (by kernel_rfl) (by kernel_rfl) ?_
  dsimp only [List.take, List.drop]
  obtain ⟨u0, hu0⟩ : ∃ q, q = W.drew := ⟨_, rfl⟩
  have hS : Below W.heap.size W u0 := by rw [hu0]; exact (Below.refl _ _).drew
  rw [← hu0]
  clear hu0
  refine takeE 0 ?v0 rfl (by kernel_rfl) (by intro _ _ _ h; exact h) (by rfl) ?h0 ?r0
  case h0 =>
    intro w2 hx
    go_simp
    try rfl
  case' r0 => try simp only [Act.put, List.setIfInBounds_toArray, List.set_cons_zero, List.set_cons_succ]
  refine takeE 1 ?v1 rfl (by kernel_rfl) (by intro _ _ _ h; exact h) (by rfl) ?h1 ?r1
  case h1 =>
    intro w2 hx
    have e0 : w2.cell? ⟨w.heap.size, 0, none⟩ = some (.int .i64 n) := ((hS.trans (hx.more0.mono hS.size)).cell (p := ⟨w.heap.size, 0, none⟩) hA).trans a0
    go_simp
    try rfl
  case' r1 => try simp only [Act.put, List.setIfInBounds_toArray, List.set_cons_zero, List.set_cons_succ]
  refine takeE 3 ?v3 rfl (by kernel_rfl) (by intro _ _ _ h; exact h) (by rfl) ?h3 ?r3
  case h3 =>
    intro w2 hx
    go_simp
    try rfl
  case' r3 => try simp only [Act.put, List.setIfInBounds_toArray, List.set_cons_zero, List.set_cons_succ]
  refine takeE 4 ?v4 rfl (by kernel_rfl) (by intro _ _ _ h; exact h) (by rfl) ?h4 ?r4
  case h4 =>
    intro w2 hx
    have e1 : w2.cell? ⟨w.heap.size, 1, none⟩ = some (.int .i64 e) := ((hS.trans (hx.more0.mono hS.size)).cell (p := ⟨w.heap.size, 1, none⟩) hA).trans a1
    go_simp
    try rfl
  case' r4 => try simp only [Act.put, List.setIfInBounds_toArray, List.set_cons_zero, List.set_cons_succ]
  refine stepE 2 rfl (by kernel_rfl) (by rfl) ?_
  intro x1 hx K hK
  have hS1 := hS.trans (hx.mono hS.size)
  clear hS
  go_simp
  refine (of_any n h1 h2 x1).mono ?_
  rintro e u1 ⟨v5, rfl, D5, hb⟩
  have hS := hS1.trans (hb.mono hS1.size)
  obtain ⟨nb5, A5, L5, c5, rfl, _⟩ := D5.form
  refine hK.out _ _ (MoreW.growU hb) ?_
  clear hK K hx hS1 hb
  try simp only [Act.put, List.setIfInBounds_toArray, List.set_cons_zero, List.set_cons_succ]
  refine stepE 5 rfl (by kernel_rfl) (by rfl) ?_
  intro x2 hx K hK
  have hS1 := hS.trans (hx.mono hS.size)
  clear hS
  replace D5 := (D5.below hx (Nat.le_refl _)).more hx.size
  go_simp
  refine (dshift_any (n := e) D5 (Nat.le_refl _) l5 (by omega)).mono ?_
  rintro e u2 ⟨v6, rfl, D6, hb⟩
  have hS := hS1.trans (hb.mono hS1.size)
  replace D5 := (D5.below hb (Nat.le_refl _)).more hb.size
  have hx2 := hS1.size
  obtain ⟨nb6, A6, L6, c6, rfl, _⟩ := D6.form
  clear D5
  refine hK.out _ _ (MoreW.growU hb) ?_
  clear hK K hx hS1 hb
  try simp only [Act.put, List.setIfInBounds_toArray, List.set_cons_zero, List.set_cons_succ]
  refine endE (by kernel_rfl) ?_
  intro u4 hx
  have hS4 := hS.trans (hx.mono hS.size)
  replace D6 := (D6.below hx (Nat.le_refl _)).more hx.size
  have r4 := rR.below hS4 hA2
  have HD6 := Lib.hid D6
  have R4 := Lib.hid r4
  have B4 := Lib.hid (bW.trans (hS4.mono hWs))
  have q0 : u4.cell? ⟨w.heap.size + 1, 0, none⟩ = some (.bool false) := r4.cell 0
  have q1 : u4.cell? ⟨w.heap.size + 1, 1, none⟩ = some (.slice none 0 0) := r4.cell 1
  have q2 : u4.cell? ⟨w.heap.size + 1, 2, none⟩ = some (.int .i64 0) := r4.cell 2
  have qf := r4.free
  have hu4 := r4.lt
  clear D6 r4 hS4 hS hx a0 a1 rX rR bW
  go_wp2_with fail
  refine bodyPost_ret (res_rValue rfl (R4.out.set3d _ _ _)) rfl ⟨_, rfl, ?_, below_set3d B4.out (by omega) _ _ _⟩
  rw [size3d]
  exact (HD6.out.set3H R4.out noWd3 noWd3).low (by omega)
end Go.Proofs.YtjlocofimlgaoaaDoor
