/- The fixed fact of the statements: the example. Condition: the table of math/bits stands in block 0. -/
import Derived.Test.YtaheedieingpiaaDoorDgV
namespace Go.Proofs.YtaheedieingpiaaDoor
set_option linter.unusedVariables false
set_option linter.unusedSimpArgs false
set_option linter.unusedSectionVars false
open Go.RowKit

theorem two_ints (w : World) (l : List Int) (o : Obj) (h : o = .cells (ints l).toArray 3) : CellsAt (w.alloc o) (w.heap.size + 1) (some ⟨w.heap.size, 0, none⟩) (ints l) := by
  subst h
  exact (row_cells (RowD.new_ w (ints l) 3)).more (by simp)
set_option maxRecDepth 100000 in
set_option maxHeartbeats 4000000 in
theorem awake_any (w : World) (ht : TabAt w) : Calls Tryd.prog 11 #[] w fun e w' => e = .returned (.bool true) ∧ Below w.heap.size w w' := by
  have HT := Lib.hid ht
  clear ht
  go_enter Tryd.func11, Tryd.ntmps11
  go_wp2_with fail
  go_at_call 30
  refine (example_any w).mono ?_
  rintro e w1 ⟨n, hn, rfl, hx, hb⟩
  have HX1 := Lib.hid hx
  have HB1 := Lib.hid hb
  have hw1 := hb.size
  have hn1 := hx.h1.lt
  have hn6 := hx.h6.lt
  clear hx hb
  simp only [Dg.val, exDg, List.length_cons, List.length_nil, exBs]
  go_wp2_with fail
  go_at_call 19
  have X2 := HX1.out.call (al_ w1 (.cells #[.slice (some ⟨n, 0, none⟩) 1 1, .slice (some ⟨n + 1 + 1 + 1 + 1 + 1, 0, none⟩) 3 3, .slice (some ⟨n + 1, 0, none⟩) 1 1] 26))
  have B2 := HB1.out.alloc HB1.out.size (.cells #[.slice (some ⟨n, 0, none⟩) 1 1, .slice (some ⟨n + 1 + 1 + 1 + 1 + 1, 0, none⟩) 3 3, .slice (some ⟨n + 1, 0, none⟩) 1 1] 26)
  have R2 := RowD.new_ w1 [.slice (some ⟨n, 0, none⟩) 1 1, .slice (some ⟨n + 1 + 1 + 1 + 1 + 1, 0, none⟩) 3 3, .slice (some ⟨n + 1, 0, none⟩) 1 1] 26
  refine (Order_any (exDg n 2) _ _ (Nat.le_refl _) X2.at_ (HT.out.below B2 HT.out.1)).mono ?_
  rintro e w2 ⟨v2, rfl, hown, hb⟩
  rw [show dgE (exDg n 2) = 0 from ex_err n, errV_0]
  rw [show ordO (exDg n 2) = [0, 1] from (if_pos (ex_err n)).trans (ex_ord n)] at hown
  have HO2 := Lib.hid hown
  have HX3 := Lib.hid (X2.call hb)
  have HR3 := Lib.hid (R2.call hb)
  have HB3 := Lib.hid (B2.trans (hb.mono B2.size))
  have c0 : w2.cell? ⟨w1.heap.size, 0, none⟩ = some (.slice (some ⟨n, 0, none⟩) 1 1) := HR3.out.cell 0
  have c1 : w2.cell? ⟨w1.heap.size, 1, none⟩ = some (.slice (some ⟨n + 1 + 1 + 1 + 1 + 1, 0, none⟩) 3 3) := HR3.out.cell 1
  have c2 : w2.cell? ⟨w1.heap.size, 2, none⟩ = some (.slice (some ⟨n + 1, 0, none⟩) 1 1) := HR3.out.cell 2
  have z2 : w1.heap.size < w2.heap.size := HR3.out.lt
  clear X2 B2 R2 hown hb
  go_wp2_with fail
  go_at_call 14
  refine (uses_any (exDg n 2) 1 _ _ (Nat.le_refl _) HX3.out.at_ (HT.out.below HB3.out HT.out.1)).mono ?_
  rintro e w3 ⟨v3, rfl, hown, hb⟩
  have hu : usesE (exDg n 2).ps (exDg n 2).bs (exDg n 2).os 1 = 0 := by
    exact (if_neg (not_not_intro (ex_err n))).trans (if_pos (show (0 : Int) ≤ 1 ∧ (1 : Int) < ((3 : Nat) : Int) by decide))
  rw [hu, errV_0]
  rw [show usesO (exDg n 2).ps (exDg n 2).bs (exDg n 2).os 1 = [0, 1, 2] from (if_pos hu).trans (ex_uses n)] at hown
  have HO3 := Lib.hid hown
  have HX4 := Lib.hid (HX3.out.call hb)
  have HR4 := Lib.hid (HR3.out.call hb)
  have HB4 := Lib.hid (HB3.out.trans (hb.mono HB3.out.size))
  have HO2' := Lib.hid (HO2.out.call hb)
  clear hu hown hb c0 c1 c2 HO2
  have c1 : w3.cell? ⟨w1.heap.size, 1, none⟩ = some (.slice (some ⟨n + 1 + 1 + 1 + 1 + 1, 0, none⟩) 3 3) := HR4.out.cell 1
  have k12 : w3.cell? ⟨n + 1 + 1 + 1 + 1 + 1, 12, none⟩ = some (.int .i64 2) := HX4.out.h6.cell 12
  have f6 := HX4.out.h6.free
  have z3 : w1.heap.size < w3.heap.size := HR4.out.lt
  have zn : n + 1 + 1 + 1 + 1 + 1 < w3.heap.size := HX4.out.h6.lt
  obtain ⟨A2, d2, rfl, _, _⟩ := HO2'.out.view
  obtain ⟨A3, d3, rfl, _, _⟩ := HO3.out.view
  have O2 := Lib.hid (HO2'.out.setLow (g := n + 1 + 1 + 1 + 1 + 1) (by simp; omega) 12 (.int .i64 5))
  have O3 := Lib.hid (HO3.out.setLow (g := n + 1 + 1 + 1 + 1 + 1) (by omega) 12 (.int .i64 5))
  have X5 := Lib.hid (HX4.out.set_ 5)
  have R5 := Lib.hid (HR4.out.other_ (k := n + 1 + 1 + 1 + 1 + 1) (by omega) 12 (.int .i64 5))
  have B5 := Lib.hid (HB4.out.setCell (show w.heap.size ≤ (⟨n + 1 + 1 + 1 + 1 + 1, 12, none⟩ : Addr).block by show w.heap.size ≤ n + 1 + 1 + 1 + 1 + 1; omega) (.int .i64 5))
  clear HO2' HO3 HX4 HR4 HB4
  go_wp2_with fail
  clear c1 k12 f6
  obtain ⟨W, hW⟩ : ∃ W, W = w3.setCell ⟨n + 1 + 1 + 1 + 1 + 1, 12, none⟩ (.int .i64 5) := ⟨_, rfl⟩
  have zW : W.heap.size = w3.heap.size := by rw [hW]; simp
  rw [← hW] at O2 O3 X5 R5 B5
  rw [← hW]
  clear hW
  go_at_call 16
  refine (ints_any A2 (some ⟨w3.heap.size, 0, none⟩) [0, 1] [0, 1] d2 2 (W.heap.size + 1) _ ((O2.out.cells.below (al_ W _) (Nat.le_refl _)).more (by omega)) (by rw [← zW]; exact two_ints W [0, 1] _ rfl) (by simp) (by simp)).mono ?_
  rintro e w4 ⟨rfl, hb⟩
  rw [show intsB [0, 1] [0, 1] = true from rfl]
  have hb4 := (al_ W (.cells #[.int .i64 0, .int .i64 1] 3)).trans (hb.mono (by simp))
  have O3' := Lib.hid (O3.out.call hb4)
  have X6 := Lib.hid (X5.out.call hb4)
  have R6 := Lib.hid (R5.out.call hb4)
  have B6 := Lib.hid (B5.out.trans (hb4.mono B5.out.size))
  clear hb hb4 O2 O3 X5 R5 B5
  go_wp2_with fail
  go_at_call 16
  refine (ints_any A3 (some ⟨w4.heap.size, 0, none⟩) [0, 1, 2] [0, 1, 2] d3 3 (w4.heap.size + 1) _ ((O3'.out.cells.below (al_ w4 _) (Nat.le_refl _)).more (by omega)) (two_ints w4 [0, 1, 2] _ rfl) (by simp) (by simp)).mono ?_
  rintro e w5 ⟨rfl, hb⟩
  rw [show intsB [0, 1, 2] [0, 1, 2] = true from rfl]
  have hb5 := (al_ w4 (.cells #[.int .i64 0, .int .i64 1, .int .i64 2] 3)).trans (hb.mono (by simp))
  have X7 := Lib.hid (X6.out.call hb5)
  have R7 := Lib.hid (R6.out.call hb5)
  have B7 := Lib.hid (B6.out.trans (hb5.mono B6.out.size))
  clear hb hb5 X6 R6 B6 O3'
  have c0 : w5.cell? ⟨w1.heap.size, 0, none⟩ = some (.slice (some ⟨n, 0, none⟩) 1 1) := R7.out.cell 0
  have c1 : w5.cell? ⟨w1.heap.size, 1, none⟩ = some (.slice (some ⟨n + 1 + 1 + 1 + 1 + 1, 0, none⟩) 3 3) := R7.out.cell 1
  have c2 : w5.cell? ⟨w1.heap.size, 2, none⟩ = some (.slice (some ⟨n + 1, 0, none⟩) 1 1) := R7.out.cell 2
  have z5 : w1.heap.size < w5.heap.size := R7.out.lt
  go_wp2_with fail
  go_at_call 18
  refine (Check_any (exDg n 5) _ _ (Nat.le_refl _) X7.out.at_ (HT.out.below B7.out HT.out.1)).mono ?_
  rintro e w6 ⟨rfl, hb⟩
  rw [ex_cycle n]
  go_wp2_with fail
  go_at_call 15
  refine (is_any 24 24 _).mono ?_
  rintro e w7 ⟨rfl, rfl⟩
  rw [isB_self (by decide)]
  go_wp2_with fail
  go_ret
  exact ⟨rfl, B7.out.trans (hb.mono B7.out.size)⟩
end Go.Proofs.YtaheedieingpiaaDoor
