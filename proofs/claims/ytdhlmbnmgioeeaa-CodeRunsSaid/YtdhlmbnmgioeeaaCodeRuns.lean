/- CodeRuns: for every program, cells and inputs the law returns true: what a run leaves is what the document's Run leaves, or the first error. No conditions. -/
import Derived.Test.YtdhlmbnmgioeeaaZd
namespace Go.Proofs.Ytdhlmbnmgioeeaa
set_option linter.unusedVariables false
set_option linter.unusedSimpArgs false
set_option linter.unusedSectionVars false
open Go.ChangeShapes Go.WideShapes Go.ChangeAt Go.RowKit Go.Joins

theorem run_lens {ps : List Prt} {is : List Int} {xs : List Ins} {os cs inn : List Int} {r : RunD} (h : runM ps is xs os cs inn = r) (h1 : cs.length ≤ 1000) (h2 : os.length ≤ 1000) : r.cells.length ≤ 1000000 ∧ r.outs.length ≤ 1000000 := by
  subst h
  by_cases he : runErr ps is xs os cs inn = 0
  · rw [runM_ok he]
    refine ⟨?_, ?_⟩
    · show (runR inn xs (cs, false)).1.length ≤ _
      rw [runR_len]
      show cs.length ≤ _
      omega
    · show (outsOf _ os).length ≤ _
      simp [outsOf]
      omega
  · rw [runM_err rfl he]
    exact ⟨by decide, by decide⟩

set_option maxRecDepth 100000 in
set_option maxHeartbeats 4000000 in
theorem runs_heavy (A1 A2 A3 A4 X1 X2 : Option Addr) (ps : List Prt) (is : List Int) (xs : List Ins) (os xc xi : List Int) (c1 c2 c3 c4 d1 d2 : Nat) (w : World) (hp : PAt w w.heap.size A1 A2 A3 A4 ps is xs os) (hx1 : CellsAt w w.heap.size X1 (ints xc)) (hx2 : CellsAt w w.heap.size X2 (ints xi))  (hl : lightB ps is xs os = false) : Calls Try.prog 3 #[.agg #[.slice A1 ps.length c1, .slice A2 is.length c2, .slice A3 xs.length c3, .slice A4 os.length c4], .agg #[.slice X1 xc.length d1, .slice X2 xi.length d2]] w fun e w' => e = .returned (.bool true) ∧ Below w.heap.size w w' := by
  have HP := Lib.hid hp
  have H5 := Lib.hid hx1
  have H6 := Lib.hid hx2
  clear hp hx1 hx2
  have HL := Lib.hid hl
  clear hl
  have K0 := Lib.hid (Cy.start HP.out H5.out H6.out [.slice A1 ps.length c1, .slice A2 is.length c2, .slice A3 xs.length c3, .slice A4 os.length c4] [.slice X1 xc.length d1, .slice X2 xi.length d2] 26 28)
  clear HP H5 H6
  have f0_0 := K0.out.box.c0
  have f0_1 := K0.out.box.c1
  have f0_2 := K0.out.box.c2
  have f0_3 := K0.out.box.c3
  have g0_0 := K0.out.box2.c0
  have g0_1 := K0.out.box2.c1
  have z0 := K0.out.box.1
  have y0 := K0.out.box2.1
  go_enter Try.func3, Try.ntmps3
  go_wp2_with fail
  go_at_call 10
  refine (awake_any _).mono ?_
  rintro e w1 ⟨rfl, hb⟩
  have K1 := Lib.hid ((K0.out).next hb)
  clear hb
  clear f0_0 f0_1 f0_2 f0_3 g0_0 g0_1 z0 y0
  have f1_0 := K1.out.box.c0
  have f1_1 := K1.out.box.c1
  have f1_2 := K1.out.box.c2
  have f1_3 := K1.out.box.c3
  have g1_0 := K1.out.box2.c0
  have g1_1 := K1.out.box2.c1
  have z1 := K1.out.box.1
  have y1 := K1.out.box2.1
  go_wp2_with fail
  go_at_call 11
  refine (light_any A1 A2 A3 A4 ps is xs os c1 c2 c3 c4 _).mono ?_
  rintro e w2 ⟨rfl, hb⟩
  have K2 := Lib.hid ((K1.out).next hb)
  rw [HL.out]
  clear hb
  clear f1_0 f1_1 f1_2 f1_3 g1_0 g1_1 z1 y1
  have f2_0 := K2.out.box.c0
  have f2_1 := K2.out.box.c1
  have f2_2 := K2.out.box.c2
  have f2_3 := K2.out.box.c3
  have g2_0 := K2.out.box2.c0
  have g2_1 := K2.out.box2.c1
  have z2 := K2.out.box.1
  have y2 := K2.out.box2.1
  go_wp2_with fail
  go_at_call 10
  refine (awake_any _).mono ?_
  rintro e w3 ⟨rfl, hb⟩
  have K3 := Lib.hid ((K2.out).next hb)
  clear hb
  clear f2_0 f2_1 f2_2 f2_3 g2_0 g2_1 z2 y2
  have f3_0 := K3.out.box.c0
  have f3_1 := K3.out.box.c1
  have f3_2 := K3.out.box.c2
  have f3_3 := K3.out.box.c3
  have g3_0 := K3.out.box2.c0
  have g3_1 := K3.out.box2.c1
  have z3 := K3.out.box.1
  have y3 := K3.out.box2.1
  go_wp2_with fail
  go_ret
  exact ⟨rfl, K3.out.bel⟩
set_option maxRecDepth 100000 in
set_option maxHeartbeats 4000000 in
theorem runs_cells (A1 A2 A3 A4 X1 X2 : Option Addr) (ps : List Prt) (is : List Int) (xs : List Ins) (os xc xi : List Int) (c1 c2 c3 c4 d1 d2 : Nat) (w : World) (hp : PAt w w.heap.size A1 A2 A3 A4 ps is xs os) (hx1 : CellsAt w w.heap.size X1 (ints xc)) (hx2 : CellsAt w w.heap.size X2 (ints xi))  (hl : lightB ps is xs os = true) (h : 300 < xc.length) : Calls Try.prog 3 #[.agg #[.slice A1 ps.length c1, .slice A2 is.length c2, .slice A3 xs.length c3, .slice A4 os.length c4], .agg #[.slice X1 xc.length d1, .slice X2 xi.length d2]] w fun e w' => e = .returned (.bool true) ∧ Below w.heap.size w w' := by
  have HP := Lib.hid hp
  have H5 := Lib.hid hx1
  have H6 := Lib.hid hx2
  clear hp hx1 hx2
  have HL := Lib.hid hl
  have h' : (300 : Int) < (xc.length : Int) := by omega
  have h'' : decide ((300 : Int) < (xc.length : Int)) = true := by simp; omega
  clear hl h
  have K0 := Lib.hid (Cy.start HP.out H5.out H6.out [.slice A1 ps.length c1, .slice A2 is.length c2, .slice A3 xs.length c3, .slice A4 os.length c4] [.slice X1 xc.length d1, .slice X2 xi.length d2] 26 28)
  clear HP H5 H6
  have f0_0 := K0.out.box.c0
  have f0_1 := K0.out.box.c1
  have f0_2 := K0.out.box.c2
  have f0_3 := K0.out.box.c3
  have g0_0 := K0.out.box2.c0
  have g0_1 := K0.out.box2.c1
  have z0 := K0.out.box.1
  have y0 := K0.out.box2.1
  go_enter Try.func3, Try.ntmps3
  go_wp2_with fail
  go_at_call 10
  refine (awake_any _).mono ?_
  rintro e w1 ⟨rfl, hb⟩
  have K1 := Lib.hid ((K0.out).next hb)
  clear hb
  clear f0_0 f0_1 f0_2 f0_3 g0_0 g0_1 z0 y0
  have f1_0 := K1.out.box.c0
  have f1_1 := K1.out.box.c1
  have f1_2 := K1.out.box.c2
  have f1_3 := K1.out.box.c3
  have g1_0 := K1.out.box2.c0
  have g1_1 := K1.out.box2.c1
  have z1 := K1.out.box.1
  have y1 := K1.out.box2.1
  go_wp2_with fail
  go_at_call 11
  refine (light_any A1 A2 A3 A4 ps is xs os c1 c2 c3 c4 _).mono ?_
  rintro e w2 ⟨rfl, hb⟩
  have K2 := Lib.hid ((K1.out).next hb)
  rw [HL.out]
  clear hb
  clear f1_0 f1_1 f1_2 f1_3 g1_0 g1_1 z1 y1
  have f2_0 := K2.out.box.c0
  have f2_1 := K2.out.box.c1
  have f2_2 := K2.out.box.c2
  have f2_3 := K2.out.box.c3
  have g2_0 := K2.out.box2.c0
  have g2_1 := K2.out.box2.c1
  have z2 := K2.out.box.1
  have y2 := K2.out.box2.1
  go_wp2_with fail
  go_at_call 10
  refine (awake_any _).mono ?_
  rintro e w3 ⟨rfl, hb⟩
  have K3 := Lib.hid ((K2.out).next hb)
  clear hb
  clear f2_0 f2_1 f2_2 f2_3 g2_0 g2_1 z2 y2
  have f3_0 := K3.out.box.c0
  have f3_1 := K3.out.box.c1
  have f3_2 := K3.out.box.c2
  have f3_3 := K3.out.box.c3
  have g3_0 := K3.out.box2.c0
  have g3_1 := K3.out.box2.c1
  have z3 := K3.out.box.1
  have y3 := K3.out.box2.1
  go_wp2_with fail
  go_ret
  exact ⟨rfl, K3.out.bel⟩
set_option maxRecDepth 100000 in
set_option maxHeartbeats 4000000 in
theorem runs_ins (A1 A2 A3 A4 X1 X2 : Option Addr) (ps : List Prt) (is : List Int) (xs : List Ins) (os xc xi : List Int) (c1 c2 c3 c4 d1 d2 : Nat) (w : World) (hp : PAt w w.heap.size A1 A2 A3 A4 ps is xs os) (hx1 : CellsAt w w.heap.size X1 (ints xc)) (hx2 : CellsAt w w.heap.size X2 (ints xi))  (hl : lightB ps is xs os = true) (h1 : xc.length ≤ 300) (h : 60 < xi.length) : Calls Try.prog 3 #[.agg #[.slice A1 ps.length c1, .slice A2 is.length c2, .slice A3 xs.length c3, .slice A4 os.length c4], .agg #[.slice X1 xc.length d1, .slice X2 xi.length d2]] w fun e w' => e = .returned (.bool true) ∧ Below w.heap.size w w' := by
  have HP := Lib.hid hp
  have H5 := Lib.hid hx1
  have H6 := Lib.hid hx2
  clear hp hx1 hx2
  have HL := Lib.hid hl
  have h' : (60 : Int) < (xi.length : Int) := by omega
  have h'' : decide ((60 : Int) < (xi.length : Int)) = true := by simp; omega
  have h1' : decide ((300 : Int) < (xc.length : Int)) = false := by simp; omega
  have h1n : ¬ (300 : Int) < (xc.length : Int) := by omega
  clear hl h h1
  have K0 := Lib.hid (Cy.start HP.out H5.out H6.out [.slice A1 ps.length c1, .slice A2 is.length c2, .slice A3 xs.length c3, .slice A4 os.length c4] [.slice X1 xc.length d1, .slice X2 xi.length d2] 26 28)
  clear HP H5 H6
  have f0_0 := K0.out.box.c0
  have f0_1 := K0.out.box.c1
  have f0_2 := K0.out.box.c2
  have f0_3 := K0.out.box.c3
  have g0_0 := K0.out.box2.c0
  have g0_1 := K0.out.box2.c1
  have z0 := K0.out.box.1
  have y0 := K0.out.box2.1
  go_enter Try.func3, Try.ntmps3
  go_wp2_with fail
  go_at_call 10
  refine (awake_any _).mono ?_
  rintro e w1 ⟨rfl, hb⟩
  have K1 := Lib.hid ((K0.out).next hb)
  clear hb
  clear f0_0 f0_1 f0_2 f0_3 g0_0 g0_1 z0 y0
  have f1_0 := K1.out.box.c0
  have f1_1 := K1.out.box.c1
  have f1_2 := K1.out.box.c2
  have f1_3 := K1.out.box.c3
  have g1_0 := K1.out.box2.c0
  have g1_1 := K1.out.box2.c1
  have z1 := K1.out.box.1
  have y1 := K1.out.box2.1
  go_wp2_with fail
  go_at_call 11
  refine (light_any A1 A2 A3 A4 ps is xs os c1 c2 c3 c4 _).mono ?_
  rintro e w2 ⟨rfl, hb⟩
  have K2 := Lib.hid ((K1.out).next hb)
  rw [HL.out]
  clear hb
  clear f1_0 f1_1 f1_2 f1_3 g1_0 g1_1 z1 y1
  have f2_0 := K2.out.box.c0
  have f2_1 := K2.out.box.c1
  have f2_2 := K2.out.box.c2
  have f2_3 := K2.out.box.c3
  have g2_0 := K2.out.box2.c0
  have g2_1 := K2.out.box2.c1
  have z2 := K2.out.box.1
  have y2 := K2.out.box2.1
  go_wp2_with fail
  go_at_call 10
  refine (awake_any _).mono ?_
  rintro e w3 ⟨rfl, hb⟩
  have K3 := Lib.hid ((K2.out).next hb)
  clear hb
  clear f2_0 f2_1 f2_2 f2_3 g2_0 g2_1 z2 y2
  have f3_0 := K3.out.box.c0
  have f3_1 := K3.out.box.c1
  have f3_2 := K3.out.box.c2
  have f3_3 := K3.out.box.c3
  have g3_0 := K3.out.box2.c0
  have g3_1 := K3.out.box2.c1
  have z3 := K3.out.box.1
  have y3 := K3.out.box2.1
  go_wp2_with fail
  go_ret
  exact ⟨rfl, K3.out.bel⟩
set_option maxRecDepth 100000 in
set_option maxHeartbeats 4000000 in
theorem runs_bad (A1 A2 A3 A4 X1 X2 : Option Addr) (ps : List Prt) (is : List Int) (xs : List Ins) (os xc xi : List Int) (c1 c2 c3 c4 d1 d2 : Nat) (w : World) (hp : PAt w w.heap.size A1 A2 A3 A4 ps is xs os) (hx1 : CellsAt w w.heap.size X1 (ints xc)) (hx2 : CellsAt w w.heap.size X2 (ints xi)) (hn1 : X1 = none → d1 = 0) (hl : lightB ps is xs os = true) (h1 : xc.length ≤ 300) (h2 : xi.length ≤ 60) (he : progErr ps is xs os ≠ 0) : Calls Try.prog 3 #[.agg #[.slice A1 ps.length c1, .slice A2 is.length c2, .slice A3 xs.length c3, .slice A4 os.length c4], .agg #[.slice X1 xc.length d1, .slice X2 xi.length d2]] w fun e w' => e = .returned (.bool true) ∧ Below w.heap.size w w' := by
  have HP := Lib.hid hp
  have H5 := Lib.hid hx1
  have H6 := Lib.hid hx2
  have HN := Lib.hid hn1
  clear hp hx1 hx2 hn1
  have HL := Lib.hid hl
  have h1' : decide ((300 : Int) < (xc.length : Int)) = false := by simp; omega
  have h1n : ¬ (300 : Int) < (xc.length : Int) := by omega
  have h2' : decide ((60 : Int) < (xi.length : Int)) = false := by simp; omega
  have h2n : ¬ (60 : Int) < (xi.length : Int) := by omega
  have lxc : xc.length ≤ 1000 := by omega
  have lxi : xi.length ≤ 1000 := by omega
  obtain ⟨r, hr⟩ : ∃ r, r = runM ps is xs os xc xi := ⟨_, rfl⟩
  obtain ⟨er, her⟩ : ∃ er, er = runErr ps is xs os xc xi := ⟨_, rfl⟩
  have HRR := Lib.hid hr.symm
  have HER := Lib.hid her.symm
  have HLC := Lib.hid (run_lens (ps := ps) (is := is) (xs := xs) (os := os) (cs := xc) (inn := xi) (r := r) hr.symm (by omega) (by simp only [lightB, decide_eq_true_eq] at hl; omega))
  have hl4 := hl
  simp only [lightB, decide_eq_true_eq] at hl4
  have HL4 := Lib.hid hl4
  have HE := Lib.hid he
  clear hl hl4 h1 h2 he hr her
  have K0 := Lib.hid (Cy.start HP.out H5.out H6.out [.slice A1 ps.length c1, .slice A2 is.length c2, .slice A3 xs.length c3, .slice A4 os.length c4] [.slice X1 xc.length d1, .slice X2 xi.length d2] 26 28)
  clear HP H5 H6
  have f0_0 := K0.out.box.c0
  have f0_1 := K0.out.box.c1
  have f0_2 := K0.out.box.c2
  have f0_3 := K0.out.box.c3
  have g0_0 := K0.out.box2.c0
  have g0_1 := K0.out.box2.c1
  have z0 := K0.out.box.1
  have y0 := K0.out.box2.1
  go_enter Try.func3, Try.ntmps3
  go_wp2_with fail
  go_at_call 10
  refine (awake_any _).mono ?_
  rintro e w1 ⟨rfl, hb⟩
  have K1 := Lib.hid ((K0.out).next hb)
  clear hb
  clear f0_0 f0_1 f0_2 f0_3 g0_0 g0_1 z0 y0
  have f1_0 := K1.out.box.c0
  have f1_1 := K1.out.box.c1
  have f1_2 := K1.out.box.c2
  have f1_3 := K1.out.box.c3
  have g1_0 := K1.out.box2.c0
  have g1_1 := K1.out.box2.c1
  have z1 := K1.out.box.1
  have y1 := K1.out.box2.1
  go_wp2_with fail
  go_at_call 11
  refine (light_any A1 A2 A3 A4 ps is xs os c1 c2 c3 c4 _).mono ?_
  rintro e w2 ⟨rfl, hb⟩
  have K2 := Lib.hid ((K1.out).next hb)
  rw [HL.out]
  clear hb
  clear f1_0 f1_1 f1_2 f1_3 g1_0 g1_1 z1 y1
  have f2_0 := K2.out.box.c0
  have f2_1 := K2.out.box.c1
  have f2_2 := K2.out.box.c2
  have f2_3 := K2.out.box.c3
  have g2_0 := K2.out.box2.c0
  have g2_1 := K2.out.box2.c1
  have z2 := K2.out.box.1
  have y2 := K2.out.box2.1
  go_wp2_with fail
  go_at_call 12
  refine (run_any A1 A2 A3 A4 X1 X2 ps is xs os xc xi c1 c2 c3 c4 d1 d2 w.heap.size _ K2.out.le K2.out.prog.p K2.out.prog.i K2.out.prog.x K2.out.prog.o K2.out.x1 K2.out.x2 HN.out r er HRR.out HER.out).mono ?_
  rintro e w3 ⟨WA, wa, WB, wb, rfl, hWn, hWm, hWA, hWB, hb, _, _⟩
  have hal := (Below.refl w3.heap.size w3).alloc (Nat.le_refl _) (.cells (#[.slice WA r.cells.length wa, .slice WB r.outs.length wb, .bool r.over] : Array Value) 32)
  have hbb := hb.trans (hal.mono hb.size)
  have K3 := Lib.hid (K2.out.next hbb)
  have WA3 := Lib.hid (hWA.below hal (Nat.le_refl _))
  have WB3 := Lib.hid (hWB.below hal (Nat.le_refl _))
  have S3 := Lib.hid (BoxAt.new_ w3 [.slice WA r.cells.length wa, .slice WB r.outs.length wb, .bool r.over] 32)
  have hw3 := Lib.hid (show w.heap.size + 1 < w3.heap.size by have := hb.size; have := K2.out.lt; omega)
  clear f2_0 f2_1 f2_2 f2_3 g2_0 g2_1 z2 y2
  clear hbb hal hb hWA hWB hWn hWm
  obtain ⟨ee, hee⟩ : ∃ ee, ee = errV er := ⟨_, rfl⟩
  rw [← hee]
  have HEE := Lib.hid hee
  clear hee
  have f3_0 := K3.out.box.c0
  have f3_1 := K3.out.box.c1
  have f3_2 := K3.out.box.c2
  have f3_3 := K3.out.box.c3
  have g3_0 := K3.out.box2.c0
  have g3_1 := K3.out.box2.c1
  have z3 := K3.out.box.1
  have y3 := K3.out.box2.1
  obtain ⟨n, hnE⟩ : ∃ n, n = progErr ps is xs os := ⟨_, rfl⟩
  have HNE := Lib.hid hnE
  have n1 : (n != 0) = true := by have := HE.out; rw [← hnE] at this; simpa using this
  have n2 : (er == n) = true := by rw [hnE, ← HER.out, runErr_prog HE.out]; simp
  have HR0 := Lib.hid (show r = .zero from HRR.out.symm.trans (runM_err (runErr_prog HE.out) HE.out))
  clear hnE
  go_wp2_with fail
  go_at_call 13
  refine (rCheck_any A1 A2 A3 A4 ps is xs os c1 c2 c3 c4 w.heap.size _ K3.out.le K3.out.prog.p K3.out.prog.i K3.out.prog.x K3.out.prog.o).mono ?_
  rintro e w4 ⟨rfl, hb⟩
  have K4 := Lib.hid ((K3.out).next hb)
  rw [← HNE.out]
  have WA4 := Lib.hid (WA3.out.below hb (by simp))
  have WB4 := Lib.hid (WB3.out.below hb (by simp))
  have S4 := Lib.hid (S3.out.below hb S3.out.1)
  have hz4 := Lib.hid (show w3.heap.size + 1 ≤ w4.heap.size by have := hb.size; simp at this; omega)
  clear hb
  clear f3_0 f3_1 f3_2 f3_3 g3_0 g3_1 z3 y3
  have f4_0 := K4.out.box.c0
  have f4_1 := K4.out.box.c1
  have f4_2 := K4.out.box.c2
  have f4_3 := K4.out.box.c3
  have g4_0 := K4.out.box2.c0
  have g4_1 := K4.out.box2.c1
  have z4 := K4.out.box.1
  have y4 := K4.out.box2.1
  have s0 := S4.out.c0
  have s1 := S4.out.c1
  have s2 := S4.out.c2
  have sz := S4.out.1
  go_wp2_with fail
  go_at_call 14
  rw [HEE.out]
  refine (num_any er _).mono ?_
  rintro e w5 ⟨rfl, rfl⟩
  go_wp2_with fail
  go_at_call 15
  refine (same_any WA WB none none r .zero wa wb 0 0 w4.heap.size _ (Nat.le_refl _) (WA4.out.more (by have := hz4.out; omega)) (WB4.out.more (by have := hz4.out; omega)) CellsAt.nil_ CellsAt.nil_ HLC.out.1 HLC.out.2 (by decide) (by decide)).mono ?_
  rintro e w6 ⟨rfl, hb⟩
  have e5 : sameB r .zero = true := by rw [HR0.out]; decide
  rw [e5]
  have K6 := Lib.hid (K4.out.next hb)
  go_wp2_with fail
  go_ret
  exact ⟨rfl, K6.out.bel⟩
set_option maxRecDepth 100000 in
set_option maxHeartbeats 4000000 in
theorem runs_ok (A1 A2 A3 A4 X1 X2 : Option Addr) (ps : List Prt) (is : List Int) (xs : List Ins) (os xc xi : List Int) (c1 c2 c3 c4 d1 d2 : Nat) (w : World) (hp : PAt w w.heap.size A1 A2 A3 A4 ps is xs os) (hx1 : CellsAt w w.heap.size X1 (ints xc)) (hx2 : CellsAt w w.heap.size X2 (ints xi)) (hn1 : X1 = none → d1 = 0) (hl : lightB ps is xs os = true) (h1 : xc.length ≤ 300) (h2 : xi.length ≤ 60) (he : progErr ps is xs os = 0) : Calls Try.prog 3 #[.agg #[.slice A1 ps.length c1, .slice A2 is.length c2, .slice A3 xs.length c3, .slice A4 os.length c4], .agg #[.slice X1 xc.length d1, .slice X2 xi.length d2]] w fun e w' => e = .returned (.bool true) ∧ Below w.heap.size w w' := by
  have HP := Lib.hid hp
  have H5 := Lib.hid hx1
  have H6 := Lib.hid hx2
  have HN := Lib.hid hn1
  clear hp hx1 hx2 hn1
  have HL := Lib.hid hl
  have h1' : decide ((300 : Int) < (xc.length : Int)) = false := by simp; omega
  have h1n : ¬ (300 : Int) < (xc.length : Int) := by omega
  have h2' : decide ((60 : Int) < (xi.length : Int)) = false := by simp; omega
  have h2n : ¬ (60 : Int) < (xi.length : Int) := by omega
  have lxc : xc.length ≤ 1000 := by omega
  have lxi : xi.length ≤ 1000 := by omega
  obtain ⟨r, hr⟩ : ∃ r, r = runM ps is xs os xc xi := ⟨_, rfl⟩
  obtain ⟨er, her⟩ : ∃ er, er = runErr ps is xs os xc xi := ⟨_, rfl⟩
  have HRR := Lib.hid hr.symm
  have HER := Lib.hid her.symm
  have HLC := Lib.hid (run_lens (ps := ps) (is := is) (xs := xs) (os := os) (cs := xc) (inn := xi) (r := r) hr.symm (by omega) (by simp only [lightB, decide_eq_true_eq] at hl; omega))
  have hl4 := hl
  simp only [lightB, decide_eq_true_eq] at hl4
  have HL4 := Lib.hid hl4
  have HE := Lib.hid he
  clear hl hl4 h1 h2 he hr her
  have K0 := Lib.hid (Cy.start HP.out H5.out H6.out [.slice A1 ps.length c1, .slice A2 is.length c2, .slice A3 xs.length c3, .slice A4 os.length c4] [.slice X1 xc.length d1, .slice X2 xi.length d2] 26 28)
  clear HP H5 H6
  have f0_0 := K0.out.box.c0
  have f0_1 := K0.out.box.c1
  have f0_2 := K0.out.box.c2
  have f0_3 := K0.out.box.c3
  have g0_0 := K0.out.box2.c0
  have g0_1 := K0.out.box2.c1
  have z0 := K0.out.box.1
  have y0 := K0.out.box2.1
  go_enter Try.func3, Try.ntmps3
  go_wp2_with fail
  go_at_call 10
  refine (awake_any _).mono ?_
  rintro e w1 ⟨rfl, hb⟩
  have K1 := Lib.hid ((K0.out).next hb)
  clear hb
  clear f0_0 f0_1 f0_2 f0_3 g0_0 g0_1 z0 y0
  have f1_0 := K1.out.box.c0
  have f1_1 := K1.out.box.c1
  have f1_2 := K1.out.box.c2
  have f1_3 := K1.out.box.c3
  have g1_0 := K1.out.box2.c0
  have g1_1 := K1.out.box2.c1
  have z1 := K1.out.box.1
  have y1 := K1.out.box2.1
  go_wp2_with fail
  go_at_call 11
  refine (light_any A1 A2 A3 A4 ps is xs os c1 c2 c3 c4 _).mono ?_
  rintro e w2 ⟨rfl, hb⟩
  have K2 := Lib.hid ((K1.out).next hb)
  rw [HL.out]
  clear hb
  clear f1_0 f1_1 f1_2 f1_3 g1_0 g1_1 z1 y1
  have f2_0 := K2.out.box.c0
  have f2_1 := K2.out.box.c1
  have f2_2 := K2.out.box.c2
  have f2_3 := K2.out.box.c3
  have g2_0 := K2.out.box2.c0
  have g2_1 := K2.out.box2.c1
  have z2 := K2.out.box.1
  have y2 := K2.out.box2.1
  go_wp2_with fail
  go_at_call 12
  refine (run_any A1 A2 A3 A4 X1 X2 ps is xs os xc xi c1 c2 c3 c4 d1 d2 w.heap.size _ K2.out.le K2.out.prog.p K2.out.prog.i K2.out.prog.x K2.out.prog.o K2.out.x1 K2.out.x2 HN.out r er HRR.out HER.out).mono ?_
  rintro e w3 ⟨WA, wa, WB, wb, rfl, hWn, hWm, hWA, hWB, hb, _, _⟩
  have hal := (Below.refl w3.heap.size w3).alloc (Nat.le_refl _) (.cells (#[.slice WA r.cells.length wa, .slice WB r.outs.length wb, .bool r.over] : Array Value) 32)
  have hbb := hb.trans (hal.mono hb.size)
  have K3 := Lib.hid (K2.out.next hbb)
  have WA3 := Lib.hid (hWA.below hal (Nat.le_refl _))
  have WB3 := Lib.hid (hWB.below hal (Nat.le_refl _))
  have S3 := Lib.hid (BoxAt.new_ w3 [.slice WA r.cells.length wa, .slice WB r.outs.length wb, .bool r.over] 32)
  have hw3 := Lib.hid (show w.heap.size + 1 < w3.heap.size by have := hb.size; have := K2.out.lt; omega)
  clear f2_0 f2_1 f2_2 f2_3 g2_0 g2_1 z2 y2
  clear hbb hal hb hWA hWB hWn hWm
  obtain ⟨ee, hee⟩ : ∃ ee, ee = errV er := ⟨_, rfl⟩
  rw [← hee]
  have HEE := Lib.hid hee
  clear hee
  have f3_0 := K3.out.box.c0
  have f3_1 := K3.out.box.c1
  have f3_2 := K3.out.box.c2
  have f3_3 := K3.out.box.c3
  have g3_0 := K3.out.box2.c0
  have g3_1 := K3.out.box2.c1
  have z3 := K3.out.box.1
  have y3 := K3.out.box2.1
  go_wp2_with fail
  go_at_call 13
  refine (rCheck_any A1 A2 A3 A4 ps is xs os c1 c2 c3 c4 w.heap.size _ K3.out.le K3.out.prog.p K3.out.prog.i K3.out.prog.x K3.out.prog.o).mono ?_
  rintro e w4 ⟨rfl, hb⟩
  have K4 := Lib.hid ((K3.out).next hb)
  rw [HE.out]
  have WA4 := Lib.hid (WA3.out.below hb (by simp))
  have WB4 := Lib.hid (WB3.out.below hb (by simp))
  have S4 := Lib.hid (S3.out.below hb S3.out.1)
  have hz4 := Lib.hid (show w3.heap.size + 1 ≤ w4.heap.size by have := hb.size; simp at this; omega)
  clear hb
  clear f3_0 f3_1 f3_2 f3_3 g3_0 g3_1 z3 y3
  have f4_0 := K4.out.box.c0
  have f4_1 := K4.out.box.c1
  have f4_2 := K4.out.box.c2
  have f4_3 := K4.out.box.c3
  have g4_0 := K4.out.box2.c0
  have g4_1 := K4.out.box2.c1
  have z4 := K4.out.box.1
  have y4 := K4.out.box2.1
  go_wp2_with fail
  go_at_call 16
  have hrun := rRun_any A1 A2 A3 A4 X1 X2 ps is xs os xc xi c1 c2 c3 c4 d1 d2 w.heap.size w4 K4.out.le K4.out.prog.p K4.out.prog.i K4.out.prog.x K4.out.prog.o K4.out.x1 K4.out.x2 HN.out HE.out lxc lxi
  rw [HRR.out, HER.out] at hrun
  refine hrun.mono ?_
  clear hrun
  rintro e w5 ⟨QA, qa, QB, qb, rfl, _, _, hQA, hQB, hb⟩
  have hal := (Below.refl w5.heap.size w5).alloc (Nat.le_refl _) (.cells (#[.slice QA r.cells.length qa, .slice QB r.outs.length qb, .bool r.over] : Array Value) 32)
  have hbb := hb.trans (hal.mono hb.size)
  have K5 := Lib.hid (K4.out.next hbb)
  have WA5 := Lib.hid (WA4.out.below hbb (by have := hz4.out; omega))
  have WB5 := Lib.hid (WB4.out.below hbb (by have := hz4.out; omega))
  have S5 := Lib.hid (S4.out.below hbb S4.out.1)
  have T5 := Lib.hid (BoxAt.new_ w5 [.slice QA r.cells.length qa, .slice QB r.outs.length qb, .bool r.over] 32)
  have QA5 := Lib.hid (hQA.below hal (Nat.le_refl _))
  have QB5 := Lib.hid (hQB.below hal (Nat.le_refl _))
  have hz5 := Lib.hid (show w3.heap.size + 1 ≤ w5.heap.size by have := hz4.out; have := hb.size; omega)
  clear f4_0 f4_1 f4_2 f4_3 g4_0 g4_1 z4 y4
  clear hbb hal hb hQA hQB
  have f5_0 := K5.out.box.c0
  have f5_1 := K5.out.box.c1
  have f5_2 := K5.out.box.c2
  have f5_3 := K5.out.box.c3
  have g5_0 := K5.out.box2.c0
  have g5_1 := K5.out.box2.c1
  have z5 := K5.out.box.1
  have y5 := K5.out.box2.1
  have s0 := S5.out.c0
  have s1 := S5.out.c1
  have s2 := S5.out.c2
  have sz := S5.out.1
  have q0 := T5.out.c0
  have q1 := T5.out.c1
  have q2 := T5.out.c2
  have qz := T5.out.1
  go_wp2_with fail
  go_at_call 14
  rw [HEE.out]
  refine (num_any er _).mono ?_
  rintro e w6 ⟨rfl, rfl⟩
  have e6 : (er == er) = true := by simp
  go_wp2_with fail
  go_at_call 15
  refine (same_any WA WB QA QB r r wa wb qa qb (w5.heap.size + 1) _ (by simp) (WA5.out.more (by have := hz5.out; omega)) (WB5.out.more (by have := hz5.out; omega)) (QA5.out.more (by omega)) (QB5.out.more (by omega)) HLC.out.1 HLC.out.2 HLC.out.1 HLC.out.2).mono ?_
  rintro e w7 ⟨rfl, hb⟩
  have e5 : sameB r r = true := by simp [sameB]
  rw [e5]
  have K7 := Lib.hid (K5.out.next hb)
  go_wp2_with fail
  go_ret
  exact ⟨rfl, K7.out.bel⟩
theorem runs_walk (A1 A2 A3 A4 X1 X2 : Option Addr) (ps : List Prt) (is : List Int) (xs : List Ins) (os xc xi : List Int) (c1 c2 c3 c4 d1 d2 : Nat) (w : World) (hp : PAt w w.heap.size A1 A2 A3 A4 ps is xs os) (hx1 : CellsAt w w.heap.size X1 (ints xc)) (hx2 : CellsAt w w.heap.size X2 (ints xi)) (hn1 : X1 = none → d1 = 0) : Calls Try.prog 3 #[.agg #[.slice A1 ps.length c1, .slice A2 is.length c2, .slice A3 xs.length c3, .slice A4 os.length c4], .agg #[.slice X1 xc.length d1, .slice X2 xi.length d2]] w fun e w' => e = .returned (.bool true) ∧ Below w.heap.size w w' := by
  cases hl : lightB ps is xs os with
  | false => exact runs_heavy A1 A2 A3 A4 X1 X2 ps is xs os xc xi c1 c2 c3 c4 d1 d2 w hp hx1 hx2  hl
  | true =>
    by_cases h1 : xc.length ≤ 300
    · by_cases h2 : xi.length ≤ 60
      · by_cases he : progErr ps is xs os = 0
        · exact runs_ok A1 A2 A3 A4 X1 X2 ps is xs os xc xi c1 c2 c3 c4 d1 d2 w hp hx1 hx2 hn1 hl h1 h2 he
        · exact runs_bad A1 A2 A3 A4 X1 X2 ps is xs os xc xi c1 c2 c3 c4 d1 d2 w hp hx1 hx2 hn1 hl h1 h2 he
      · exact runs_ins A1 A2 A3 A4 X1 X2 ps is xs os xc xi c1 c2 c3 c4 d1 d2 w hp hx1 hx2  hl h1 (by omega)
    · exact runs_cells A1 A2 A3 A4 X1 X2 ps is xs os xc xi c1 c2 c3 c4 d1 d2 w hp hx1 hx2  hl (by omega)

set_option maxRecDepth 100000 in
theorem codeRuns_lifted (os : Os) (started : os.Started) (H : Type) (enc : TypeId × Value → H) :
    ReturnsInHanded {} Try.checked os 3 .any (Rows.codeRunsSpec.pre6 enc Try.prog Try.f3 Rows.codeRunsRow.domain false) (Rows.codeRunsSpec.post enc Try.prog Try.f3 false true false false) := by
  refine law_lift (C := Try.checked) (T := 4) own started (by kernel_rfl) Try.func3
    (ChangeSpec.witness6 (enc := enc) (C := Try.checked) false ⟨#[], #[.agg #[.slice none 0 0, .slice none 0 0, .slice none 0 0, .slice none 0 0], .agg #[.slice none 0 0, .slice none 0 0]], []⟩ 8 (by kernel_rfl) (by kernel_rfl) (by kernel_rfl) (by kernel_rfl))
    laidOut (by kernel_rfl) rfl Try.underlying4 (by kernel_rfl) ?_ ?_
  · intro ds h
    match ds, h with
    | [d1, d2], _ => exact ⟨rfl, rfl, rfl⟩
  · intro W base args ds p hval0 hA0 _ hsz0
    have hval : ∀ (j : Nat) t v, Try.f3.params[j]? = some t → args[j]? = some v → Value.okWide Try.prog W .any base t v := hval0
    have hA : DataW.TrodAll enc Try.prog W 0 (fun _ => true) true Try.f3.params.toList args.toList ds p := hA0
    clear hsz0
    rw [Try.params3] at hA hval
    obtain ⟨v0, vs0, d0, ds0, p0, q0, hargs, rfl, rfl, h0, r0⟩ := trodAll_cons hA
    obtain ⟨v1, vs1, d1, ds1, p1, q1, rfl, rfl, rfl, h1, r1⟩ := trodAll_cons r0
    obtain ⟨rfl, rfl, rfl⟩ := trodAll_nil r1
    obtain rfl : args = #[v0, v1] := by cases args; simp_all
    obtain ⟨A1, A2, A3, A4, ps, is, xs, os, c1, c2, c3, c4, rfl, hn, hp, _⟩ := open_prog (hval 0 26 v0 rfl rfl) h0
    obtain ⟨X1, X2, xc, xi, e1, e2, rfl, hn1, hx1, hx2, _⟩ := open_load (hval 1 28 v1 rfl rfl) h1
    exact runs_walk A1 A2 A3 A4 X1 X2 ps is xs os xc xi c1 c2 c3 c4 e1 e2 W hp hx1 hx2 hn1

theorem codeRuns_over : Rows.codeRunsRow.holds Try.pinned (OpenSpec.ofChange Rows.codeRunsSpec) :=
  OpenClaim.holds_of_wide 3 Try.f3 rfl rfl rfl rfl rfl rfl rfl ⟨rfl, rfl, rfl, rfl, rfl⟩ rfl rfl rfl rfl rfl (by kernel_rfl) Try.func3 (by kernel_rfl)
    (of_decide_eq_true (by kernel_rfl)) (by unfold Func.isWrapper; first | (rw [if_pos (by decide +kernel)]; kernel_rfl) | (rw [if_neg (by decide +kernel)]; exact ⟨rfl, rfl⟩))
    (fun os started H enc _ => codeRuns_lifted os started H enc)

theorem codeRuns_holds : Rows.CodeRunsSaid := codeRuns_over
#print axioms codeRuns_holds

end Go.Proofs.Ytdhlmbnmgioeeaa
