/- The fixed fact of the statements: the example. Condition: the table of math/bits stands in block 0. What stands while a law on a diagram goes on. No conditions. -/
import Derived.Test.YtaheedieingpiaaDoorDgV
import Derived.Test.YtaheedieingpiaaDoorDgR
import Derived.Test.YtaheedieingpiaaDoorDoor
namespace Go.Proofs.YtaheedieingpiaaDoor
set_option linter.unusedVariables false
set_option linter.unusedSimpArgs false
set_option linter.unusedSectionVars false
open Go.RowKit

theorem two_ints (w : World) (l : List Int) (o : Obj) (h : o = .cells (ints l).toArray 3) : CellsAt (w.alloc o) (w.heap.size + 1) (some ⟨w.heap.size, 0, none⟩) (ints l) := by
  subst h
  exact (row_cells (RowD.new_ w (ints l) 3)).more (by simp)
set_option maxRecDepth 100000 in
set_option maxHeartbeats 4000000 in
theorem awake_any (w : World) (ht : TabAt w) : Calls Tryd.prog 11 #[] w fun e w' => e = .returned (.bool true) ∧ Below w.heap.size w w' := by
  have HT := Lib.hid ht
  clear ht
  go_enter Tryd.func11, Tryd.ntmps11
  go_wp2_with fail
  go_at_call 30
  refine (example_any w).mono ?_
  rintro e w1 ⟨n, hn, rfl, hx, hb⟩
  have HX1 := Lib.hid hx
  have HB1 := Lib.hid hb
  have hw1 := hb.size
  have hn1 := hx.h1.lt
  have hn6 := hx.h6.lt
  clear hx hb
  simp only [Dg.val, exDg, List.length_cons, List.length_nil, exBs]
  go_wp2_with fail
  go_at_call 19
  have X2 := HX1.out.call (al_ w1 (.cells #[.slice (some ⟨n, 0, none⟩) 1 1, .slice (some ⟨n + 1 + 1 + 1 + 1 + 1, 0, none⟩) 3 3, .slice (some ⟨n + 1, 0, none⟩) 1 1] 26))
  have B2 := HB1.out.alloc HB1.out.size (.cells #[.slice (some ⟨n, 0, none⟩) 1 1, .slice (some ⟨n + 1 + 1 + 1 + 1 + 1, 0, none⟩) 3 3, .slice (some ⟨n + 1, 0, none⟩) 1 1] 26)
  have R2 := RowD.new_ w1 [.slice (some ⟨n, 0, none⟩) 1 1, .slice (some ⟨n + 1 + 1 + 1 + 1 + 1, 0, none⟩) 3 3, .slice (some ⟨n + 1, 0, none⟩) 1 1] 26
  refine (Order_any (exDg n 2) _ _ (Nat.le_refl _) X2.at_ (HT.out.below B2 HT.out.1)).mono ?_
  rintro e w2 ⟨v2, rfl, hown, hb⟩
  rw [show dgE (exDg n 2) = 0 from ex_err n, errV_0]
  rw [show ordO (exDg n 2) = [0, 1] from (if_pos (ex_err n)).trans (ex_ord n)] at hown
  have HO2 := Lib.hid hown
  have HX3 := Lib.hid (X2.call hb)
  have HR3 := Lib.hid (R2.call hb)
  have HB3 := Lib.hid (B2.trans (hb.mono B2.size))
  have c0 : w2.cell? ⟨w1.heap.size, 0, none⟩ = some (.slice (some ⟨n, 0, none⟩) 1 1) := HR3.out.cell 0
  have c1 : w2.cell? ⟨w1.heap.size, 1, none⟩ = some (.slice (some ⟨n + 1 + 1 + 1 + 1 + 1, 0, none⟩) 3 3) := HR3.out.cell 1
  have c2 : w2.cell? ⟨w1.heap.size, 2, none⟩ = some (.slice (some ⟨n + 1, 0, none⟩) 1 1) := HR3.out.cell 2
  have z2 : w1.heap.size < w2.heap.size := HR3.out.lt
  clear X2 B2 R2 hown hb
  go_wp2_with fail
  go_at_call 14
  refine (uses_any (exDg n 2) 1 _ _ (Nat.le_refl _) HX3.out.at_ (HT.out.below HB3.out HT.out.1)).mono ?_
  rintro e w3 ⟨v3, rfl, hown, hb⟩
  have hu : usesE (exDg n 2).ps (exDg n 2).bs (exDg n 2).os 1 = 0 := by
    exact (if_neg (not_not_intro (ex_err n))).trans (if_pos (show (0 : Int) ≤ 1 ∧ (1 : Int) < ((3 : Nat) : Int) by decide))
  rw [hu, errV_0]
  rw [show usesO (exDg n 2).ps (exDg n 2).bs (exDg n 2).os 1 = [0, 1, 2] from (if_pos hu).trans (ex_uses n)] at hown
  have HO3 := Lib.hid hown
  have HX4 := Lib.hid (HX3.out.call hb)
  have HR4 := Lib.hid (HR3.out.call hb)
  have HB4 := Lib.hid (HB3.out.trans (hb.mono HB3.out.size))
  have HO2' := Lib.hid (HO2.out.call hb)
  clear hu hown hb c0 c1 c2 HO2
  have c1 : w3.cell? ⟨w1.heap.size, 1, none⟩ = some (.slice (some ⟨n + 1 + 1 + 1 + 1 + 1, 0, none⟩) 3 3) := HR4.out.cell 1
  have k12 : w3.cell? ⟨n + 1 + 1 + 1 + 1 + 1, 12, none⟩ = some (.int .i64 2) := HX4.out.h6.cell 12
  have f6 := HX4.out.h6.free
  have z3 : w1.heap.size < w3.heap.size := HR4.out.lt
  have zn : n + 1 + 1 + 1 + 1 + 1 < w3.heap.size := HX4.out.h6.lt
  obtain ⟨A2, d2, rfl, _, _⟩ := HO2'.out.view
  obtain ⟨A3, d3, rfl, _, _⟩ := HO3.out.view
  have O2 := Lib.hid (HO2'.out.setLow (g := n + 1 + 1 + 1 + 1 + 1) (by simp; omega) 12 (.int .i64 5))
  have O3 := Lib.hid (HO3.out.setLow (g := n + 1 + 1 + 1 + 1 + 1) (by omega) 12 (.int .i64 5))
  have X5 := Lib.hid (HX4.out.set_ 5)
  have R5 := Lib.hid (HR4.out.other_ (k := n + 1 + 1 + 1 + 1 + 1) (by omega) 12 (.int .i64 5))
  have B5 := Lib.hid (HB4.out.setCell (show w.heap.size ≤ (⟨n + 1 + 1 + 1 + 1 + 1, 12, none⟩ : Addr).block by show w.heap.size ≤ n + 1 + 1 + 1 + 1 + 1; omega) (.int .i64 5))
  clear HO2' HO3 HX4 HR4 HB4
  go_wp2_with fail
  clear c1 k12 f6
  obtain ⟨W, hW⟩ : ∃ W, W = w3.setCell ⟨n + 1 + 1 + 1 + 1 + 1, 12, none⟩ (.int .i64 5) := ⟨_, rfl⟩
  have zW : W.heap.size = w3.heap.size := by rw [hW]; simp
  rw [← hW] at O2 O3 X5 R5 B5
  rw [← hW]
  clear hW
  go_at_call 16
  refine (ints_any A2 (some ⟨w3.heap.size, 0, none⟩) [0, 1] [0, 1] d2 2 (W.heap.size + 1) _ ((O2.out.cells.below (al_ W _) (Nat.le_refl _)).more (by omega)) (by rw [← zW]; exact two_ints W [0, 1] _ rfl) (by simp) (by simp)).mono ?_
  rintro e w4 ⟨rfl, hb⟩
  rw [show intsB [0, 1] [0, 1] = true from rfl]
  have hb4 := (al_ W (.cells #[.int .i64 0, .int .i64 1] 3)).trans (hb.mono (by simp))
  have O3' := Lib.hid (O3.out.call hb4)
  have X6 := Lib.hid (X5.out.call hb4)
  have R6 := Lib.hid (R5.out.call hb4)
  have B6 := Lib.hid (B5.out.trans (hb4.mono B5.out.size))
  clear hb hb4 O2 O3 X5 R5 B5
  go_wp2_with fail
  go_at_call 16
  refine (ints_any A3 (some ⟨w4.heap.size, 0, none⟩) [0, 1, 2] [0, 1, 2] d3 3 (w4.heap.size + 1) _ ((O3'.out.cells.below (al_ w4 _) (Nat.le_refl _)).more (by omega)) (two_ints w4 [0, 1, 2] _ rfl) (by simp) (by simp)).mono ?_
  rintro e w5 ⟨rfl, hb⟩
  rw [show intsB [0, 1, 2] [0, 1, 2] = true from rfl]
  have hb5 := (al_ w4 (.cells #[.int .i64 0, .int .i64 1, .int .i64 2] 3)).trans (hb.mono (by simp))
  have X7 := Lib.hid (X6.out.call hb5)
  have R7 := Lib.hid (R6.out.call hb5)
  have B7 := Lib.hid (B6.out.trans (hb5.mono B6.out.size))
  clear hb hb5 X6 R6 B6 O3'
  have c0 : w5.cell? ⟨w1.heap.size, 0, none⟩ = some (.slice (some ⟨n, 0, none⟩) 1 1) := R7.out.cell 0
  have c1 : w5.cell? ⟨w1.heap.size, 1, none⟩ = some (.slice (some ⟨n + 1 + 1 + 1 + 1 + 1, 0, none⟩) 3 3) := R7.out.cell 1
  have c2 : w5.cell? ⟨w1.heap.size, 2, none⟩ = some (.slice (some ⟨n + 1, 0, none⟩) 1 1) := R7.out.cell 2
  have z5 : w1.heap.size < w5.heap.size := R7.out.lt
  go_wp2_with fail
  go_at_call 18
  refine (Check_any (exDg n 5) _ _ (Nat.le_refl _) X7.out.at_ (HT.out.below B7.out HT.out.1)).mono ?_
  rintro e w6 ⟨rfl, hb⟩
  rw [ex_cycle n]
  go_wp2_with fail
  go_at_call 15
  refine (is_any 24 24 _).mono ?_
  rintro e w7 ⟨rfl, rfl⟩
  rw [isB_self (by decide)]
  go_wp2_with fail
  go_ret
  exact ⟨rfl, B7.out.trans (hb.mono B7.out.size)⟩
end Go.Proofs.YtaheedieingpiaaDoor
namespace Go.Proofs.YtaheedieingpiaaDoor
set_option linter.unusedVariables false
set_option linter.unusedSimpArgs false
set_option linter.unusedSectionVars false
open Go.RowKit

/-- The diagram's box is the first new block; the old memory is as it was. -/
structure Lx (w0 w : World) (d : Dg) : Prop where
  bel : Below w0.heap.size w0 w
  box : RowD w w0.heap.size d.vals 26
  tab : TabAt w
theorem Lx.start (w0 : World) (d : Dg) (ht : TabAt w0) : Lx w0 (w0.alloc (.cells d.vals.toArray 26)) d :=
  ⟨al_ _ _, RowD.new_ _ _ _, ht.below (al_ _ _) ht.1⟩
theorem Lx.next {w0 w w' : World} {d : Dg} (h : Lx w0 w d) (hb : Below w.heap.size w w') : Lx w0 w' d :=
  ⟨h.bel.trans (hb.mono h.bel.size), h.box.call hb, h.tab.call hb⟩
theorem Lx.al {w0 w : World} {d : Dg} (h : Lx w0 w d) (o : Obj) : Lx w0 (w.alloc o) d := h.next (al_ w o)
theorem Lx.c0 {w0 w : World} {d : Dg} (h : Lx w0 w d) : w.cell? ⟨w0.heap.size, 0, none⟩ = some (.slice d.A1 d.ps.length d.c1) := h.box.cell 0
theorem Lx.c1 {w0 w : World} {d : Dg} (h : Lx w0 w d) : w.cell? ⟨w0.heap.size, 1, none⟩ = some (.slice d.A2 d.bs.length d.c2) := h.box.cell 1
theorem Lx.c2 {w0 w : World} {d : Dg} (h : Lx w0 w d) : w.cell? ⟨w0.heap.size, 2, none⟩ = some (.slice d.A3 d.os.length d.c3) := h.box.cell 2
theorem Lx.lt {w0 w : World} {d : Dg} (h : Lx w0 w d) : w0.heap.size < w.heap.size := h.box.lt
theorem Lx.le {w0 w : World} {d : Dg} (h : Lx w0 w d) : w0.heap.size ≤ w.heap.size := Nat.le_of_lt h.box.lt
theorem Lx.dg {w0 w : World} {d : Dg} (h : Lx w0 w d) (hd : DgAt w0 w0.heap.size d) : DgAt w w0.heap.size d := hd.below h.bel (Nat.le_refl _)
/-- A diagram that is short enough. -/
theorem DgIn.light {w : World} {d : Dg} (h : DgIn w d) (hl : lightG d = true) : DgAt w w.heap.size d := by
  unfold lightG at hl
  simp only [Bool.and_eq_true, decide_eq_true_eq, List.all_eq_true] at hl
  obtain ⟨⟨h1, h2, h3⟩, h4⟩ := hl
  exact ⟨h.ps, h.bs, h.os, fun b hb => ⟨h.args b hb, by have := h4 b hb; omega⟩, by omega, by omega, by omega⟩
theorem usesO_in {ps : List Prt} {bs : List Bk} {os : List Int} {k : Nat} (he : dgErr ps bs os = 0) (hk : k < bs.length) : usesE ps bs os (k : Int) = 0 ∧ usesO ps bs os (k : Int) = usesL bs k := by
  have h1 : usesE ps bs os (k : Int) = 0 := by
    unfold usesE
    rw [if_neg (not_not_intro he), if_pos (by omega)]
  exact ⟨h1, by unfold usesO; rw [if_pos h1, Int.toNat_natCast]⟩
theorem usesO_out {ps : List Prt} {bs : List Bk} {os : List Int} {i : Int} (he : dgErr ps bs os = 0) (hk : ¬ (0 ≤ i ∧ i < (bs.length : Int))) : usesE ps bs os i = 10 ∧ usesO ps bs os i = [] := by
  have h1 : usesE ps bs os i = 10 := by
    unfold usesE
    rw [if_neg (not_not_intro he), if_neg hk]
  exact ⟨h1, by unfold usesO; rw [if_neg (by rw [h1]; decide)]⟩
theorem usesO_err {ps : List Prt} {bs : List Bk} {os : List Int} {i : Int} (he : ¬ dgErr ps bs os = 0) : usesE ps bs os i = dgErr ps bs os ∧ usesO ps bs os i = [] := by
  have h1 : usesE ps bs os i = dgErr ps bs os := by
    unfold usesE
    rw [if_pos he]
  exact ⟨h1, by unfold usesO; rw [if_neg (by rw [h1]; exact he)]⟩
theorem intsB_refl (xs : List Int) : intsB xs xs = true := by simp [intsB]
theorem markL_len (m : List Bool) : (markL m).length ≤ m.length := by
  unfold markL
  have := List.length_filter_le (fun i => m[i]?.getD false) (List.range m.length)
  simpa using this
theorem usesL_len (bs : List Bk) (i : Nat) : (usesL bs i).length ≤ bs.length := by
  unfold usesL
  rw [natI_len]
  have := markL_len (passes bs false bs.length (mark0 bs i))
  rw [passes_len] at this
  simpa [mark0] using this
end Go.Proofs.YtaheedieingpiaaDoor
