/- CodeJoins: for every program, cells, inputs and cut the law returns true: running the first instructions, and then the others, is running the program. No conditions. -/
import Derived.Test.YtdhlmbnmgioeeaaCdW
import Derived.Test.YtdhlmbnmgioeeaaCdV
namespace Go.Proofs.Ytdhlmbnmgioeeaa
set_option linter.unusedVariables false
set_option linter.unusedSimpArgs false
set_option linter.unusedSectionVars false
open Go.ChangeShapes Go.WideShapes Go.ChangeAt Go.RowKit Go.Joins

set_option maxRecDepth 100000 in
set_option maxHeartbeats 4000000 in
theorem joins_heavy (A1 A2 A3 A4 X1 X2 : Option Addr) (ps : List Prt) (is : List Int) (xs : List Ins) (os xc xi : List Int) (c1 c2 c3 c4 d1 d2 : Nat) (w : World) (hp : PAt w w.heap.size A1 A2 A3 A4 ps is xs os) (hx1 : CellsAt w w.heap.size X1 (ints xc)) (hx2 : CellsAt w w.heap.size X2 (ints xi)) (cut : Int) (hl : lightB ps is xs os = false) : Calls Try.prog 4 #[.agg #[.slice A1 ps.length c1, .slice A2 is.length c2, .slice A3 xs.length c3, .slice A4 os.length c4], .agg #[.slice X1 xc.length d1, .slice X2 xi.length d2], .int .u8 cut] w fun e w' => e = .returned (.bool true) ∧ Below w.heap.size w w' := by
  have HP := Lib.hid hp
  have H5 := Lib.hid hx1
  have H6 := Lib.hid hx2
  clear hp hx1 hx2
  have HL := Lib.hid hl
  clear hl
  have K0 := Lib.hid (Cy.start HP.out H5.out H6.out [.slice A1 ps.length c1, .slice A2 is.length c2, .slice A3 xs.length c3, .slice A4 os.length c4] [.slice X1 xc.length d1, .slice X2 xi.length d2] 26 28)
  clear HP H5 H6
  have f0_0 := K0.out.box.c0
  have f0_1 := K0.out.box.c1
  have f0_2 := K0.out.box.c2
  have f0_3 := K0.out.box.c3
  have g0_0 := K0.out.box2.c0
  have g0_1 := K0.out.box2.c1
  have z0 := K0.out.box.1
  have y0 := K0.out.box2.1
  go_enter Try.func4, Try.ntmps4
  go_wp2_with fail
  go_at_call 10
  refine (awake_any _).mono ?_
  rintro e w1 ⟨rfl, hb⟩
  have K1 := Lib.hid ((K0.out).next hb)
  clear hb
  clear f0_0 f0_1 f0_2 f0_3 g0_0 g0_1 z0 y0
  have f1_0 := K1.out.box.c0
  have f1_1 := K1.out.box.c1
  have f1_2 := K1.out.box.c2
  have f1_3 := K1.out.box.c3
  have g1_0 := K1.out.box2.c0
  have g1_1 := K1.out.box2.c1
  have z1 := K1.out.box.1
  have y1 := K1.out.box2.1
  go_wp2_with fail
  go_at_call 11
  refine (light_any A1 A2 A3 A4 ps is xs os c1 c2 c3 c4 _).mono ?_
  rintro e w2 ⟨rfl, hb⟩
  have K2 := Lib.hid ((K1.out).next hb)
  rw [HL.out]
  clear hb
  clear f1_0 f1_1 f1_2 f1_3 g1_0 g1_1 z1 y1
  have f2_0 := K2.out.box.c0
  have f2_1 := K2.out.box.c1
  have f2_2 := K2.out.box.c2
  have f2_3 := K2.out.box.c3
  have g2_0 := K2.out.box2.c0
  have g2_1 := K2.out.box2.c1
  have z2 := K2.out.box.1
  have y2 := K2.out.box2.1
  go_wp2_with fail
  go_at_call 10
  refine (awake_any _).mono ?_
  rintro e w3 ⟨rfl, hb⟩
  have K3 := Lib.hid ((K2.out).next hb)
  clear hb
  clear f2_0 f2_1 f2_2 f2_3 g2_0 g2_1 z2 y2
  have f3_0 := K3.out.box.c0
  have f3_1 := K3.out.box.c1
  have f3_2 := K3.out.box.c2
  have f3_3 := K3.out.box.c3
  have g3_0 := K3.out.box2.c0
  have g3_1 := K3.out.box2.c1
  have z3 := K3.out.box.1
  have y3 := K3.out.box2.1
  go_wp2_with fail
  go_ret
  exact ⟨rfl, K3.out.bel⟩
set_option maxRecDepth 100000 in
set_option maxHeartbeats 4000000 in
theorem joins_cells (A1 A2 A3 A4 X1 X2 : Option Addr) (ps : List Prt) (is : List Int) (xs : List Ins) (os xc xi : List Int) (c1 c2 c3 c4 d1 d2 : Nat) (w : World) (hp : PAt w w.heap.size A1 A2 A3 A4 ps is xs os) (hx1 : CellsAt w w.heap.size X1 (ints xc)) (hx2 : CellsAt w w.heap.size X2 (ints xi)) (cut : Int) (hl : lightB ps is xs os = true) (h : 300 < xc.length) : Calls Try.prog 4 #[.agg #[.slice A1 ps.length c1, .slice A2 is.length c2, .slice A3 xs.length c3, .slice A4 os.length c4], .agg #[.slice X1 xc.length d1, .slice X2 xi.length d2], .int .u8 cut] w fun e w' => e = .returned (.bool true) ∧ Below w.heap.size w w' := by
  have HP := Lib.hid hp
  have H5 := Lib.hid hx1
  have H6 := Lib.hid hx2
  clear hp hx1 hx2
  have HL := Lib.hid hl
  have h' : (300 : Int) < (xc.length : Int) := by omega
  have h'' : decide ((300 : Int) < (xc.length : Int)) = true := by simp; omega
  clear hl h
  have K0 := Lib.hid (Cy.start HP.out H5.out H6.out [.slice A1 ps.length c1, .slice A2 is.length c2, .slice A3 xs.length c3, .slice A4 os.length c4] [.slice X1 xc.length d1, .slice X2 xi.length d2] 26 28)
  clear HP H5 H6
  have f0_0 := K0.out.box.c0
  have f0_1 := K0.out.box.c1
  have f0_2 := K0.out.box.c2
  have f0_3 := K0.out.box.c3
  have g0_0 := K0.out.box2.c0
  have g0_1 := K0.out.box2.c1
  have z0 := K0.out.box.1
  have y0 := K0.out.box2.1
  go_enter Try.func4, Try.ntmps4
  go_wp2_with fail
  go_at_call 10
  refine (awake_any _).mono ?_
  rintro e w1 ⟨rfl, hb⟩
  have K1 := Lib.hid ((K0.out).next hb)
  clear hb
  clear f0_0 f0_1 f0_2 f0_3 g0_0 g0_1 z0 y0
  have f1_0 := K1.out.box.c0
  have f1_1 := K1.out.box.c1
  have f1_2 := K1.out.box.c2
  have f1_3 := K1.out.box.c3
  have g1_0 := K1.out.box2.c0
  have g1_1 := K1.out.box2.c1
  have z1 := K1.out.box.1
  have y1 := K1.out.box2.1
  go_wp2_with fail
  go_at_call 11
  refine (light_any A1 A2 A3 A4 ps is xs os c1 c2 c3 c4 _).mono ?_
  rintro e w2 ⟨rfl, hb⟩
  have K2 := Lib.hid ((K1.out).next hb)
  rw [HL.out]
  clear hb
  clear f1_0 f1_1 f1_2 f1_3 g1_0 g1_1 z1 y1
  have f2_0 := K2.out.box.c0
  have f2_1 := K2.out.box.c1
  have f2_2 := K2.out.box.c2
  have f2_3 := K2.out.box.c3
  have g2_0 := K2.out.box2.c0
  have g2_1 := K2.out.box2.c1
  have z2 := K2.out.box.1
  have y2 := K2.out.box2.1
  go_wp2_with fail
  go_at_call 10
  refine (awake_any _).mono ?_
  rintro e w3 ⟨rfl, hb⟩
  have K3 := Lib.hid ((K2.out).next hb)
  clear hb
  clear f2_0 f2_1 f2_2 f2_3 g2_0 g2_1 z2 y2
  have f3_0 := K3.out.box.c0
  have f3_1 := K3.out.box.c1
  have f3_2 := K3.out.box.c2
  have f3_3 := K3.out.box.c3
  have g3_0 := K3.out.box2.c0
  have g3_1 := K3.out.box2.c1
  have z3 := K3.out.box.1
  have y3 := K3.out.box2.1
  go_wp2_with fail
  go_ret
  exact ⟨rfl, K3.out.bel⟩
set_option maxRecDepth 100000 in
set_option maxHeartbeats 4000000 in
theorem joins_ins (A1 A2 A3 A4 X1 X2 : Option Addr) (ps : List Prt) (is : List Int) (xs : List Ins) (os xc xi : List Int) (c1 c2 c3 c4 d1 d2 : Nat) (w : World) (hp : PAt w w.heap.size A1 A2 A3 A4 ps is xs os) (hx1 : CellsAt w w.heap.size X1 (ints xc)) (hx2 : CellsAt w w.heap.size X2 (ints xi)) (cut : Int) (hl : lightB ps is xs os = true) (h1 : xc.length ≤ 300) (h : 60 < xi.length) : Calls Try.prog 4 #[.agg #[.slice A1 ps.length c1, .slice A2 is.length c2, .slice A3 xs.length c3, .slice A4 os.length c4], .agg #[.slice X1 xc.length d1, .slice X2 xi.length d2], .int .u8 cut] w fun e w' => e = .returned (.bool true) ∧ Below w.heap.size w w' := by
  have HP := Lib.hid hp
  have H5 := Lib.hid hx1
  have H6 := Lib.hid hx2
  clear hp hx1 hx2
  have HL := Lib.hid hl
  have h' : (60 : Int) < (xi.length : Int) := by omega
  have h'' : decide ((60 : Int) < (xi.length : Int)) = true := by simp; omega
  have h1' : decide ((300 : Int) < (xc.length : Int)) = false := by simp; omega
  have h1n : ¬ (300 : Int) < (xc.length : Int) := by omega
  clear hl h h1
  have K0 := Lib.hid (Cy.start HP.out H5.out H6.out [.slice A1 ps.length c1, .slice A2 is.length c2, .slice A3 xs.length c3, .slice A4 os.length c4] [.slice X1 xc.length d1, .slice X2 xi.length d2] 26 28)
  clear HP H5 H6
  have f0_0 := K0.out.box.c0
  have f0_1 := K0.out.box.c1
  have f0_2 := K0.out.box.c2
  have f0_3 := K0.out.box.c3
  have g0_0 := K0.out.box2.c0
  have g0_1 := K0.out.box2.c1
  have z0 := K0.out.box.1
  have y0 := K0.out.box2.1
  go_enter Try.func4, Try.ntmps4
  go_wp2_with fail
  go_at_call 10
  refine (awake_any _).mono ?_
  rintro e w1 ⟨rfl, hb⟩
  have K1 := Lib.hid ((K0.out).next hb)
  clear hb
  clear f0_0 f0_1 f0_2 f0_3 g0_0 g0_1 z0 y0
  have f1_0 := K1.out.box.c0
  have f1_1 := K1.out.box.c1
  have f1_2 := K1.out.box.c2
  have f1_3 := K1.out.box.c3
  have g1_0 := K1.out.box2.c0
  have g1_1 := K1.out.box2.c1
  have z1 := K1.out.box.1
  have y1 := K1.out.box2.1
  go_wp2_with fail
  go_at_call 11
  refine (light_any A1 A2 A3 A4 ps is xs os c1 c2 c3 c4 _).mono ?_
  rintro e w2 ⟨rfl, hb⟩
  have K2 := Lib.hid ((K1.out).next hb)
  rw [HL.out]
  clear hb
  clear f1_0 f1_1 f1_2 f1_3 g1_0 g1_1 z1 y1
  have f2_0 := K2.out.box.c0
  have f2_1 := K2.out.box.c1
  have f2_2 := K2.out.box.c2
  have f2_3 := K2.out.box.c3
  have g2_0 := K2.out.box2.c0
  have g2_1 := K2.out.box2.c1
  have z2 := K2.out.box.1
  have y2 := K2.out.box2.1
  go_wp2_with fail
  go_at_call 10
  refine (awake_any _).mono ?_
  rintro e w3 ⟨rfl, hb⟩
  have K3 := Lib.hid ((K2.out).next hb)
  clear hb
  clear f2_0 f2_1 f2_2 f2_3 g2_0 g2_1 z2 y2
  have f3_0 := K3.out.box.c0
  have f3_1 := K3.out.box.c1
  have f3_2 := K3.out.box.c2
  have f3_3 := K3.out.box.c3
  have g3_0 := K3.out.box2.c0
  have g3_1 := K3.out.box2.c1
  have z3 := K3.out.box.1
  have y3 := K3.out.box2.1
  go_wp2_with fail
  go_ret
  exact ⟨rfl, K3.out.bel⟩
set_option maxRecDepth 100000 in
set_option maxHeartbeats 4000000 in
theorem joins_bad (A1 A2 A3 A4 X1 X2 : Option Addr) (ps : List Prt) (is : List Int) (xs : List Ins) (os xc xi : List Int) (c1 c2 c3 c4 d1 d2 : Nat) (w : World) (hp : PAt w w.heap.size A1 A2 A3 A4 ps is xs os) (hx1 : CellsAt w w.heap.size X1 (ints xc)) (hx2 : CellsAt w w.heap.size X2 (ints xi)) (cut : Int) (hl : lightB ps is xs os = true) (h1 : xc.length ≤ 300) (h2 : xi.length ≤ 60) (he : progErr ps is xs os ≠ 0) : Calls Try.prog 4 #[.agg #[.slice A1 ps.length c1, .slice A2 is.length c2, .slice A3 xs.length c3, .slice A4 os.length c4], .agg #[.slice X1 xc.length d1, .slice X2 xi.length d2], .int .u8 cut] w fun e w' => e = .returned (.bool true) ∧ Below w.heap.size w w' := by
  have HP := Lib.hid hp
  have H5 := Lib.hid hx1
  have H6 := Lib.hid hx2
  clear hp hx1 hx2
  have HL := Lib.hid hl
  have h1' : decide ((300 : Int) < (xc.length : Int)) = false := by simp; omega
  have h1n : ¬ (300 : Int) < (xc.length : Int) := by omega
  have h2' : decide ((60 : Int) < (xi.length : Int)) = false := by simp; omega
  have h2n : ¬ (60 : Int) < (xi.length : Int) := by omega
  obtain ⟨n, hnE⟩ : ∃ n, n = progErr ps is xs os := ⟨_, rfl⟩
  have HNE := Lib.hid hnE
  have e1 : (n != 0) = true := by rw [← hnE] at he; simpa using he
  clear hl h1 h2 hnE he
  have K0 := Lib.hid (Cy.start HP.out H5.out H6.out [.slice A1 ps.length c1, .slice A2 is.length c2, .slice A3 xs.length c3, .slice A4 os.length c4] [.slice X1 xc.length d1, .slice X2 xi.length d2] 26 28)
  clear HP H5 H6
  have f0_0 := K0.out.box.c0
  have f0_1 := K0.out.box.c1
  have f0_2 := K0.out.box.c2
  have f0_3 := K0.out.box.c3
  have g0_0 := K0.out.box2.c0
  have g0_1 := K0.out.box2.c1
  have z0 := K0.out.box.1
  have y0 := K0.out.box2.1
  go_enter Try.func4, Try.ntmps4
  go_wp2_with fail
  go_at_call 10
  refine (awake_any _).mono ?_
  rintro e w1 ⟨rfl, hb⟩
  have K1 := Lib.hid ((K0.out).next hb)
  clear hb
  clear f0_0 f0_1 f0_2 f0_3 g0_0 g0_1 z0 y0
  have f1_0 := K1.out.box.c0
  have f1_1 := K1.out.box.c1
  have f1_2 := K1.out.box.c2
  have f1_3 := K1.out.box.c3
  have g1_0 := K1.out.box2.c0
  have g1_1 := K1.out.box2.c1
  have z1 := K1.out.box.1
  have y1 := K1.out.box2.1
  go_wp2_with fail
  go_at_call 11
  refine (light_any A1 A2 A3 A4 ps is xs os c1 c2 c3 c4 _).mono ?_
  rintro e w2 ⟨rfl, hb⟩
  have K2 := Lib.hid ((K1.out).next hb)
  rw [HL.out]
  clear hb
  clear f1_0 f1_1 f1_2 f1_3 g1_0 g1_1 z1 y1
  have f2_0 := K2.out.box.c0
  have f2_1 := K2.out.box.c1
  have f2_2 := K2.out.box.c2
  have f2_3 := K2.out.box.c3
  have g2_0 := K2.out.box2.c0
  have g2_1 := K2.out.box2.c1
  have z2 := K2.out.box.1
  have y2 := K2.out.box2.1
  go_wp2_with fail
  go_at_call 13
  refine (rCheck_any A1 A2 A3 A4 ps is xs os c1 c2 c3 c4 w.heap.size _ K2.out.le K2.out.prog.p K2.out.prog.i K2.out.prog.x K2.out.prog.o).mono ?_
  rintro e w3 ⟨rfl, hb⟩
  have K3 := Lib.hid ((K2.out).next hb)
  rw [← HNE.out]
  clear hb
  clear f2_0 f2_1 f2_2 f2_3 g2_0 g2_1 z2 y2
  have f3_0 := K3.out.box.c0
  have f3_1 := K3.out.box.c1
  have f3_2 := K3.out.box.c2
  have f3_3 := K3.out.box.c3
  have g3_0 := K3.out.box2.c0
  have g3_1 := K3.out.box2.c1
  have z3 := K3.out.box.1
  have y3 := K3.out.box2.1
  go_wp2_with fail
  go_at_call 10
  refine (awake_any _).mono ?_
  rintro e w4 ⟨rfl, hb⟩
  have K4 := Lib.hid ((K3.out).next hb)
  clear hb
  clear f3_0 f3_1 f3_2 f3_3 g3_0 g3_1 z3 y3
  have f4_0 := K4.out.box.c0
  have f4_1 := K4.out.box.c1
  have f4_2 := K4.out.box.c2
  have f4_3 := K4.out.box.c3
  have g4_0 := K4.out.box2.c0
  have g4_1 := K4.out.box2.c1
  have z4 := K4.out.box.1
  have y4 := K4.out.box2.1
  go_wp2_with fail
  go_ret
  exact ⟨rfl, K4.out.bel⟩
set_option maxRecDepth 100000 in
set_option maxHeartbeats 4000000 in
theorem joins_good (A1 A2 A3 A4 X1 X2 : Option Addr) (ps : List Prt) (is : List Int) (xs : List Ins) (os xc xi : List Int) (c1 c2 c3 c4 d1 d2 : Nat) (w : World) (hp : PAt w w.heap.size A1 A2 A3 A4 ps is xs os) (hx1 : CellsAt w w.heap.size X1 (ints xc)) (hx2 : CellsAt w w.heap.size X2 (ints xi)) (cut : Int) (hl : lightB ps is xs os = true) (h1 : xc.length ≤ 300) (h2 : xi.length ≤ 60) (he : progErr ps is xs os = 0) (h3 : 0 ≤ cut) (h4 : cut ≤ 255) (hcap : xs.length ≤ c3) : Calls Try.prog 4 #[.agg #[.slice A1 ps.length c1, .slice A2 is.length c2, .slice A3 xs.length c3, .slice A4 os.length c4], .agg #[.slice X1 xc.length d1, .slice X2 xi.length d2], .int .u8 cut] w fun e w' => e = .returned (.bool true) ∧ Below w.heap.size w w' := by
  have HP := Lib.hid hp
  have H5 := Lib.hid hx1
  have H6 := Lib.hid hx2
  clear hp hx1 hx2
  have HL := Lib.hid hl
  have HE := Lib.hid he
  have h1' : decide ((300 : Int) < (xc.length : Int)) = false := by simp; omega
  have h1n : ¬ (300 : Int) < (xc.length : Int) := by omega
  have h2' : decide ((60 : Int) < (xi.length : Int)) = false := by simp; omega
  have h2n : ¬ (60 : Int) < (xi.length : Int) := by omega
  have hl4 := hl
  simp only [lightB, decide_eq_true_eq] at hl4
  have HL4 := Lib.hid hl4
  clear hl hl4 h1 h2 he
  have K0 := Lib.hid (Cy.start HP.out H5.out H6.out [.slice A1 ps.length c1, .slice A2 is.length c2, .slice A3 xs.length c3, .slice A4 os.length c4] [.slice X1 xc.length d1, .slice X2 xi.length d2] 26 28)
  clear HP H5 H6
  have f0_0 := K0.out.box.c0
  have f0_1 := K0.out.box.c1
  have f0_2 := K0.out.box.c2
  have f0_3 := K0.out.box.c3
  have g0_0 := K0.out.box2.c0
  have g0_1 := K0.out.box2.c1
  have z0 := K0.out.box.1
  have y0 := K0.out.box2.1
  go_enter Try.func4, Try.ntmps4
  go_wp2_with fail
  go_at_call 10
  refine (awake_any _).mono ?_
  rintro e w1 ⟨rfl, hb⟩
  have K1 := Lib.hid ((K0.out).next hb)
  clear hb
  clear f0_0 f0_1 f0_2 f0_3 g0_0 g0_1 z0 y0
  have f1_0 := K1.out.box.c0
  have f1_1 := K1.out.box.c1
  have f1_2 := K1.out.box.c2
  have f1_3 := K1.out.box.c3
  have g1_0 := K1.out.box2.c0
  have g1_1 := K1.out.box2.c1
  have z1 := K1.out.box.1
  have y1 := K1.out.box2.1
  go_wp2_with fail
  go_at_call 11
  refine (light_any A1 A2 A3 A4 ps is xs os c1 c2 c3 c4 _).mono ?_
  rintro e w2 ⟨rfl, hb⟩
  have K2 := Lib.hid ((K1.out).next hb)
  rw [HL.out]
  clear hb
  clear f1_0 f1_1 f1_2 f1_3 g1_0 g1_1 z1 y1
  have f2_0 := K2.out.box.c0
  have f2_1 := K2.out.box.c1
  have f2_2 := K2.out.box.c2
  have f2_3 := K2.out.box.c3
  have g2_0 := K2.out.box2.c0
  have g2_1 := K2.out.box2.c1
  have z2 := K2.out.box.1
  have y2 := K2.out.box2.1
  go_wp2_with fail
  go_at_call 13
  refine (rCheck_any A1 A2 A3 A4 ps is xs os c1 c2 c3 c4 w.heap.size _ K2.out.le K2.out.prog.p K2.out.prog.i K2.out.prog.x K2.out.prog.o).mono ?_
  rintro e w3 ⟨rfl, hb⟩
  have K3 := Lib.hid ((K2.out).next hb)
  rw [HE.out]
  clear hb
  clear f2_0 f2_1 f2_2 f2_3 g2_0 g2_1 z2 y2
  have f3_0 := K3.out.box.c0
  have f3_1 := K3.out.box.c1
  have f3_2 := K3.out.box.c2
  have f3_3 := K3.out.box.c3
  have g3_0 := K3.out.box2.c0
  have g3_1 := K3.out.box2.c1
  have z3 := K3.out.box.1
  have y3 := K3.out.box2.1
  go_wp2_with fail
  go_at_call 17
  refine (fit_any A1 A2 A3 A4 X1 X2 ps is xs os xc xi c1 c2 c3 c4 d1 d2 w.heap.size _ K3.out.le K3.out.prog.p K3.out.x1 K3.out.x2 (by have := HL4.out; omega) (by have := HL4.out; omega)).mono ?_
  rintro e w4 ⟨FA, fa, FB, fb, rfl, hFA, hFB, hcA, hcB, hb⟩
  have K4 := Lib.hid ((K3.out).next hb)
  have HFA := Lib.hid hcA
  have HFB := Lib.hid hcB
  have HFN := Lib.hid hFA
  clear hcA hcB hFA hFB
  clear hb
  clear f3_0 f3_1 f3_2 f3_3 g3_0 g3_1 z3 y3
  have f4_0 := K4.out.box.c0
  have f4_1 := K4.out.box.c1
  have f4_2 := K4.out.box.c2
  have f4_3 := K4.out.box.c3
  have g4_0 := K4.out.box2.c0
  have g4_1 := K4.out.box2.c1
  have z4 := K4.out.box.1
  have y4 := K4.out.box2.1
  have hpo := pOk HE.out
  have lx : (xs.length : Int) ≤ 256 := by have := hpo.l3; omega
  obtain ⟨kc, hkc⟩ : ∃ kc : Nat, cut % ((xs.length : Int) + 1) = (kc : Int) := ⟨(cut % ((xs.length : Int) + 1)).toNat, by have := Int.emod_nonneg cut (b := (xs.length : Int) + 1) (by omega); omega⟩
  have hkl : kc ≤ xs.length := by have := Int.emod_lt_of_pos cut (b := (xs.length : Int) + 1) (by omega); omega
  have hwx : wrap64 ((xs.length : Int) + 1) = (xs.length : Int) + 1 := wrap_id (by omega) (by omega)
  clear hpo
  have z4a : w.heap.size < w4.heap.size + 1 := by omega
  have z4b : w.heap.size < w4.heap.size + 1 + 1 := by omega
  obtain ⟨w5, hw5⟩ : ∃ w5, w5 = (((w4.alloc (.cells #[.slice FA (fitC xc is.length).length fa, .slice FB (fitI ps xi ps.length).length fb] 28)).alloc (.cells #[.slice A1 ps.length c1, .slice A2 is.length c2, .slice A3 xs.length c3, .slice A4 os.length c4] 26)).alloc (.cells #[.slice A1 ps.length c1, .slice A2 is.length c2, .slice A3 xs.length c3, .slice A4 os.length c4] 26)).drew := ⟨_, rfl⟩
  have K5 := Lib.hid ((((K4.out.alloc (.cells #[.slice FA (fitC xc is.length).length fa, .slice FB (fitI ps xi ps.length).length fb] 28)).alloc (.cells #[.slice A1 ps.length c1, .slice A2 is.length c2, .slice A3 xs.length c3, .slice A4 os.length c4] 26)).alloc (.cells #[.slice A1 ps.length c1, .slice A2 is.length c2, .slice A3 xs.length c3, .slice A4 os.length c4] 26)).drew)
  have R0 := ((Blk.new w4 [.slice FA (fitC xc is.length).length fa, .slice FB (fitI ps xi ps.length).length fb] 28 _ rfl).old (.cells #[.slice A1 ps.length c1, .slice A2 is.length c2, .slice A3 xs.length c3, .slice A4 os.length c4] 26)).old (.cells #[.slice A1 ps.length c1, .slice A2 is.length c2, .slice A3 xs.length c3, .slice A4 os.length c4] 26)
  have R1 := (Blk.new (w4.alloc (.cells #[.slice FA (fitC xc is.length).length fa, .slice FB (fitI ps xi ps.length).length fb] 28)) [.slice A1 ps.length c1, .slice A2 is.length c2, .slice A3 xs.length c3, .slice A4 os.length c4] 26 (w4.heap.size + 1) (by simp)).old (.cells #[.slice A1 ps.length c1, .slice A2 is.length c2, .slice A3 xs.length c3, .slice A4 os.length c4] 26)
  have R2 := Blk.new ((w4.alloc (.cells #[.slice FA (fitC xc is.length).length fa, .slice FB (fitI ps xi ps.length).length fb] 28)).alloc (.cells #[.slice A1 ps.length c1, .slice A2 is.length c2, .slice A3 xs.length c3, .slice A4 os.length c4] 26)) [.slice A1 ps.length c1, .slice A2 is.length c2, .slice A3 xs.length c3, .slice A4 os.length c4] 26 (w4.heap.size + 1 + 1) (by simp)
  have b45 : Below w4.heap.size w4 w5 := by rw [hw5]; exact ((((Below.refl _ w4).alloc (Nat.le_refl _) _).alloc (by simp) _).alloc (by simp; omega) _).drew
  have R0' : Blk w5 w4.heap.size [.slice FA (fitC xc is.length).length fa, .slice FB (fitI ps xi ps.length).length fb] 28 := by rw [hw5]; exact R0
  have R1' : Blk w5 (w4.heap.size + 1) [.slice A1 ps.length c1, .slice A2 is.length c2, .slice A3 xs.length c3, .slice A4 os.length c4] 26 := by rw [hw5]; exact R1
  have R2' : Blk w5 (w4.heap.size + 1 + 1) [.slice A1 ps.length c1, .slice A2 is.length c2, .slice A3 xs.length c3, .slice A4 os.length c4] 26 := by rw [hw5]; exact R2
  rw [← hw5] at K5
  clear R0 R1 R2
  go_wp2_with fail
  go_region
  · rw [← hw5]
    clear hw5
    clear f4_0 f4_1 f4_2 f4_3 g4_0 g4_1 z4 y4
    have f5_0 := K5.out.box.c0
    have f5_1 := K5.out.box.c1
    have f5_2 := K5.out.box.c2
    have f5_3 := K5.out.box.c3
    have g5_0 := K5.out.box2.c0
    have g5_1 := K5.out.box2.c1
    have z5 := K5.out.box.1
    have y5 := K5.out.box2.1
    have HA5 := Lib.hid (HFA.out.below b45 (Nat.le_refl _))
    have HB5 := Lib.hid (HFB.out.below b45 (Nat.le_refl _))
    have pf : ∀ j, w5.frozen? ⟨w4.heap.size + 1, j, none⟩ = false := fun j => R1'.free j
    have p0 := R1'.cell 0
    have p1 := R1'.cell 1
    have p2 := R1'.cell 2
    have p3 := R1'.cell 3
    simp only [List.getElem?_cons_zero, List.getElem?_cons_succ] at p0 p1 p2 p3
    have qf : ∀ j, w5.frozen? ⟨w4.heap.size + 1 + 1, j, none⟩ = false := fun j => R2'.free j
    have q0 := R2'.cell 0
    have q1 := R2'.cell 1
    have q2 := R2'.cell 2
    have q3 := R2'.cell 3
    simp only [List.getElem?_cons_zero, List.getElem?_cons_succ] at q0 q1 q2 q3
    have r0 := R0'.cell 0
    have r1 := R0'.cell 1
    simp only [List.getElem?_cons_zero, List.getElem?_cons_succ] at r0 r1
    go_wp2_with fail
    go_region
    obtain ⟨w6, hw6⟩ : ∃ w6, w6 = ((w5.setCell ⟨w4.heap.size + 1, 2, none⟩ (.slice A3 kc c3)).setCell ⟨w4.heap.size + 1 + 1, 2, none⟩ (.slice (if c3 = kc then A3 else Option.map (fun x => x.add (kc * 7)) A3) (xs.length - kc) (c3 - kc))).drew := ⟨_, rfl⟩
    have hlow : w.heap.size + 1 < w4.heap.size := K4.out.lt
    have K6 := Lib.hid (((K5.out.low (wj := w5.setCell ⟨w4.heap.size + 1, 2, none⟩ (.slice A3 kc c3)) (B := w4.heap.size) hlow ((Below.refl _ w5).setCell (p := ⟨w4.heap.size + 1, 2, none⟩) (by simp; try omega) _)).low (wj := (w5.setCell ⟨w4.heap.size + 1, 2, none⟩ (.slice A3 kc c3)).setCell ⟨w4.heap.size + 1 + 1, 2, none⟩ (.slice (if c3 = kc then A3 else Option.map (fun x => x.add (kc * 7)) A3) (xs.length - kc) (c3 - kc))) (B := w4.heap.size) hlow ((Below.refl _ _).setCell (p := ⟨w4.heap.size + 1 + 1, 2, none⟩) (by simp; try omega) _)).drew)
    have b56 : Below w4.heap.size w5 w6 := by rw [hw6]; exact (((Below.refl w4.heap.size w5).setCell (p := ⟨w4.heap.size + 1, 2, none⟩) (by simp; try omega) _).setCell (p := ⟨w4.heap.size + 1 + 1, 2, none⟩) (by simp; try omega) _).drew
    have y0 : Blk w6 w4.heap.size [.slice FA (fitC xc is.length).length fa, .slice FB (fitI ps xi ps.length).length fb] 28 := by rw [hw6]; exact ((R0'.set_other (b' := w4.heap.size + 1) (j := 2) (by omega) (.slice A3 kc c3)).set_other (b' := w4.heap.size + 1 + 1) (j := 2) (by omega) (.slice (if c3 = kc then A3 else Option.map (fun x => x.add (kc * 7)) A3) (xs.length - kc) (c3 - kc)))
    have y9 : Blk w6 (w4.heap.size + 1) [.slice A1 ps.length c1, .slice A2 is.length c2, .slice A3 kc c3, .slice A4 os.length c4] 26 := by rw [hw6]; exact ((R1'.set_ 2 (.slice A3 kc c3)).set_other (b' := w4.heap.size + 1 + 1) (j := 2) (by omega) (.slice (if c3 = kc then A3 else Option.map (fun x => x.add (kc * 7)) A3) (xs.length - kc) (c3 - kc)))
    have y10 : Blk w6 (w4.heap.size + 1 + 1) [.slice A1 ps.length c1, .slice A2 is.length c2, .slice (if c3 = kc then A3 else Option.map (fun x => x.add (kc * 7)) A3) (xs.length - kc) (c3 - kc), .slice A4 os.length c4] 26 := by rw [hw6]; exact ((R2'.set_other (b' := w4.heap.size + 1) (j := 2) (by omega) (.slice A3 kc c3)).set_ 2 (.slice (if c3 = kc then A3 else Option.map (fun x => x.add (kc * 7)) A3) (xs.length - kc) (c3 - kc)))
    rw [← hw6] at K6 ⊢
    obtain ⟨Ad, hAd⟩ : ∃ Ad, Ad = (if c3 = kc then A3 else Option.map (fun x => x.add (kc * 7)) A3) := ⟨_, rfl⟩
    obtain ⟨xt, hxt⟩ : ∃ xt, xt = xs.take kc := ⟨_, rfl⟩
    obtain ⟨xd, hxd⟩ : ∃ xd, xd = xs.drop kc := ⟨_, rfl⟩
    have hlt : kc = xt.length := by rw [hxt, List.length_take]; omega
    have hld : xs.length - kc = xd.length := by rw [hxd, List.length_drop]
    have HXT := Lib.hid (K6.out.prog.x.take_ kc)
    have HXD := Lib.hid (K6.out.prog.x.drop_ (s := 7) (fun _ => rfl) kc hkl hcap)
    rw [← hAd, ← hxd] at HXD
    rw [← hxt] at HXT
    rw [← hAd, hld] at y10 ⊢
    obtain ⟨cd, hcd⟩ : ∃ cd, cd = c3 - kc := ⟨_, rfl⟩
    rw [← hcd] at y10 ⊢
    have y9' := y9
    rw [hlt] at y9'
    rw [hlt]
    have hsz6 : w4.heap.size + 1 + 1 < w6.heap.size := y10.lt
    have HA6 := Lib.hid (HA5.out.below b56 (Nat.le_refl _))
    have HB6 := Lib.hid (HB5.out.below b56 (Nat.le_refl _))
    have YB6 := Lib.hid y0.box
    have Y9 := Lib.hid y9'.box
    have Y10 := Lib.hid y10.box
    clear f5_0 f5_1 f5_2 f5_3 g5_0 g5_1 z5 y5
    clear hw6 p0 p1 p2 p3 pf q0 q1 q2 q3 qf r0 r1 R0' R1' R2' b45 b56 y0 y9 y9' y10 K5 HA5 HB5 hAd hcd hwx hcap lx h3 h4 z4a z4b
    have f6_0 := K6.out.box.c0
    have f6_1 := K6.out.box.c1
    have f6_2 := K6.out.box.c2
    have f6_3 := K6.out.box.c3
    have g6_0 := K6.out.box2.c0
    have g6_1 := K6.out.box2.c1
    have z6 := K6.out.box.1
    have y6 := K6.out.box2.1
    have r0 := YB6.out.c0
    have r1 := YB6.out.c1
    have zy := YB6.out.1
    obtain ⟨c0, cF, cS, oF, o1, ova, ovb, lc0, lcF, lcS, loF, e0, m0, e1, m1, e2, m2, lo1⟩ := join_runs xc xi kc HE.out
    rw [← hxt] at e1 m1
    rw [← hxd] at e2 m2
    clear hxt hxd hld hlt hkl hkc
    have H_lcF := Lib.hid lcF
    have H_lcS := Lib.hid lcS
    have H_loF := Lib.hid loF
    have H_e0 := Lib.hid e0
    have H_m0 := Lib.hid m0
    have H_e1 := Lib.hid e1
    have H_m1 := Lib.hid m1
    have H_e2 := Lib.hid e2
    have H_m2 := Lib.hid m2
    clear lc0 lcF lcS loF e0 m0 e1 m1 e2 m2 lo1 c0
    have HFL : Hid ((fitC xc is.length).length = is.length) := Lib.hid (fitC_len _ _)
    go_wp2_with fail
    go_at_call 12
    refine (run_any A1 A2 A3 A4 FA FB ps is xs os (fitC xc is.length) (fitI ps xi ps.length) c1 c2 c3 c4 fa fb w6.heap.size _ (Nat.le_refl _) (K6.out.prog.p.more K6.out.le) (K6.out.prog.i.more K6.out.le) (K6.out.prog.x.more K6.out.le) (K6.out.prog.o.more K6.out.le) (HA6.out.more (by omega)) (HB6.out.more (by omega)) HFN.out _ _ H_m0.out H_e0.out).mono ?_
    rintro e w7 ⟨WA, wa, WB, wb, rfl, hWn, hWm, hWA, hWB, hb, _, _⟩
    rw [errV_0]
    have hbb := hb.trans ((Below.refl _ w7).alloc (Nat.le_refl _) (.cells #[.slice WA cF.length wa, .slice WB oF.length wb, .bool (ova || ovb)] 32) |>.mono hb.size)
    have K7 := Lib.hid (K6.out.next hbb)
    have HA7 := Lib.hid (HA6.out.below hbb (by omega))
    have HB7 := Lib.hid (HB6.out.below hbb (by omega))
    have YB7 := Lib.hid (YB6.out.below hbb zy)
    have Y97 := Lib.hid (Y9.out.below hbb (by omega))
    have Y107 := Lib.hid (Y10.out.below hbb (by omega))
    have XT7 := Lib.hid (HXT.out.below hbb K6.out.le)
    have XD7 := Lib.hid (HXD.out.below hbb K6.out.le)
    have S17 := Lib.hid (BoxAt.new_ w7 [.slice WA cF.length wa, .slice WB oF.length wb, .bool (ova || ovb)] 32)
    have WA7 := Lib.hid (hWA.below ((Below.refl _ w7).alloc (Nat.le_refl _) (.cells #[.slice WA cF.length wa, .slice WB oF.length wb, .bool (ova || ovb)] 32)) (Nat.le_refl _))
    have WB7 := Lib.hid (hWB.below ((Below.refl _ w7).alloc (Nat.le_refl _) (.cells #[.slice WA cF.length wa, .slice WB oF.length wb, .bool (ova || ovb)] 32)) (Nat.le_refl _))
    have hs67 := Lib.hid (show w4.heap.size + 1 + 1 < w7.heap.size by have := hb.size; omega)
    have hw7 := Lib.hid (show w.heap.size + 1 < w7.heap.size by have := hb.size; have := K6.out.lt; omega)
    clear f6_0 f6_1 f6_2 f6_3 g6_0 g6_1 z6 y6
    clear hbb hb hWA hWB r0 r1 zy hWn hWm hsz6 hlow
    have t0 := Y97.out.c0
    have t1 := Y97.out.c1
    have t2 := Y97.out.c2
    have t3 := Y97.out.c3
    have tz := Y97.out.1
    have r0 := YB7.out.c0
    have r1 := YB7.out.c1
    have rz := YB7.out.1
    go_wp2_with fail
    go_at_call 12
    refine (run_any A1 A2 A3 A4 FA FB ps is xt os (fitC xc is.length) (fitI ps xi ps.length) c1 c2 c3 c4 fa fb w7.heap.size _ (by simp) (K7.out.prog.p.more (by have := hw7.out; omega)) (K7.out.prog.i.more (by have := hw7.out; omega)) (XT7.out.more (by have := hw7.out; omega)) (K7.out.prog.o.more (by have := hw7.out; omega)) (HA7.out.more (by have := hs67.out; omega)) (HB7.out.more (by have := hs67.out; omega)) HFN.out _ _ H_m1.out H_e1.out).mono ?_
    rintro e w8 ⟨GA, ga, GB, gb, rfl, hGn, hGm, hGA, hGB, hb, _, _⟩
    rw [errV_0]
    have hbb := hb.trans ((Below.refl _ w8).alloc (Nat.le_refl _) (.cells #[.slice GA cS.length ga, .slice GB o1.length gb, .bool ova] 32) |>.mono hb.size)
    have hz7 : (w7.alloc (.cells #[.slice WA cF.length wa, .slice WB oF.length wb, .bool (ova || ovb)] 32)).heap.size = w7.heap.size + 1 := by simp
    have K8 := Lib.hid (K7.out.next hbb)
    have HB8 := Lib.hid (HB7.out.below hbb (by have := hs67.out; omega))
    have YB8 := Lib.hid (YB7.out.below hbb YB7.out.1)
    have Y108 := Lib.hid (Y107.out.below hbb Y107.out.1)
    have XD8 := Lib.hid (XD7.out.below hbb K7.out.le)
    have S18 := Lib.hid (S17.out.below hbb S17.out.1)
    have WA8 := Lib.hid (WA7.out.below hbb (by omega))
    have WB8 := Lib.hid (WB7.out.below hbb (by omega))
    have S28 := Lib.hid (BoxAt.new_ w8 [.slice GA cS.length ga, .slice GB o1.length gb, .bool ova] 32)
    have GA8 := Lib.hid (hGA.below ((Below.refl _ w8).alloc (Nat.le_refl _) (.cells #[.slice GA cS.length ga, .slice GB o1.length gb, .bool ova] 32)) (Nat.le_refl _))
    have HGN := Lib.hid hGn
    have hs78 := Lib.hid (show w7.heap.size < w8.heap.size by have := hb.size; omega)
    clear hbb hb hGA hGB hGn hGm hz7 t0 t1 t2 t3 tz r0 r1 rz
    have t0 := Y108.out.c0
    have t1 := Y108.out.c1
    have t2 := Y108.out.c2
    have t3 := Y108.out.c3
    have tz := Y108.out.1
    have r0 := YB8.out.c0
    have r1 := YB8.out.c1
    have rz := YB8.out.1
    have s0 := S28.out.c0
    have s0z := S28.out.1
    go_wp2_with fail
    go_at_call 12
    refine (run_any A1 A2 Ad A4 GA FB ps is xd os cS (fitI ps xi ps.length) c1 c2 cd c4 ga fb w8.heap.size _ (by simp) (K8.out.prog.p.more (by have := hw7.out; have := hs78.out; omega)) (K8.out.prog.i.more (by have := hw7.out; have := hs78.out; omega)) (XD8.out.more (by have := hw7.out; have := hs78.out; omega)) (K8.out.prog.o.more (by have := hw7.out; have := hs78.out; omega)) GA8.out (HB8.out.more (by have := hs67.out; have := hs78.out; omega)) HGN.out _ _ H_m2.out H_e2.out).mono ?_
    rintro e w9 ⟨QA, qa, QB, qb, rfl, hQn, hQm, hQA, hQB, hb, _, _⟩
    rw [errV_0]
    have hbb := hb.trans ((Below.refl _ w9).alloc (Nat.le_refl _) (.cells #[.slice QA cF.length qa, .slice QB oF.length qb, .bool ovb] 32) |>.mono hb.size)
    have hz8 : (w8.alloc (.cells #[.slice GA cS.length ga, .slice GB o1.length gb, .bool ova] 32)).heap.size = w8.heap.size + 1 := by simp
    have K9 := Lib.hid (K8.out.next hbb)
    have S19 := Lib.hid (S18.out.below hbb S18.out.1)
    have S29 := Lib.hid (S28.out.below hbb S28.out.1)
    have WA9 := Lib.hid (WA8.out.below hbb (by have := hs78.out; omega))
    have WB9 := Lib.hid (WB8.out.below hbb (by have := hs78.out; omega))
    have S39 := Lib.hid (BoxAt.new_ w9 [.slice QA cF.length qa, .slice QB oF.length qb, .bool ovb] 32)
    have QA9 := Lib.hid (hQA.below ((Below.refl _ w9).alloc (Nat.le_refl _) (.cells #[.slice QA cF.length qa, .slice QB oF.length qb, .bool ovb] 32)) (Nat.le_refl _))
    have QB9 := Lib.hid (hQB.below ((Below.refl _ w9).alloc (Nat.le_refl _) (.cells #[.slice QA cF.length qa, .slice QB oF.length qb, .bool ovb] 32)) (Nat.le_refl _))
    have hs89 := Lib.hid (show w8.heap.size < w9.heap.size by have := hb.size; omega)
    clear hbb hb hQA hQB hQn hQm hz8 t0 t1 t2 t3 tz r0 r1 rz s0 s0z
    have u0 := S19.out.c0
    have u1 := S19.out.c1
    have u2 := S19.out.c2
    have uz := S19.out.1
    have s2 := S29.out.c2
    have sz := S29.out.1
    have x0 := S39.out.c0
    have x1 := S39.out.c1
    have x2 := S39.out.c2
    have xz := S39.out.1
    have i1 : intsB cF cF = true := by simp [intsB]
    have i2 : intsB oF oF = true := by simp [intsB]
    go_wp2_with fail
    go_at_call 18
    refine (ints_any WA QA cF cF wa qa w9.heap.size _ (WA9.out.more (by have := hs78.out; have := hs89.out; omega)) QA9.out (by have := HL4.out; have := H_lcF.out; omega) (by have := HL4.out; have := H_lcF.out; omega)).mono ?_
    rintro e w10 ⟨rfl, hb⟩
    rw [i1]
    have K10 := Lib.hid (K9.out.next hb)
    have WB10 := Lib.hid (WB9.out.below hb (by have := hs78.out; have := hs89.out; simp; omega))
    have QB10 := Lib.hid (QB9.out.below hb (by simp))
    have S110 := Lib.hid (S19.out.below hb S19.out.1)
    have S210 := Lib.hid (S29.out.below hb S29.out.1)
    have S310 := Lib.hid (S39.out.below hb S39.out.1)
    have hs910 := Lib.hid (show w9.heap.size ≤ w10.heap.size by have := hb.size; simp at this; omega)
    clear hb u0 u1 u2 uz s2 sz x0 x1 x2 xz
    have u1 := S110.out.c1
    have u2 := S110.out.c2
    have uz := S110.out.1
    have s2 := S210.out.c2
    have sz := S210.out.1
    have x1 := S310.out.c1
    have x2 := S310.out.c2
    have xz := S310.out.1
    go_wp2_with fail
    go_at_call 18
    refine (ints_any WB QB oF oF wb qb w9.heap.size _ (WB10.out.more (by have := hs78.out; have := hs89.out; omega)) QB10.out (by have := HL4.out; have := H_loF.out; omega) (by have := HL4.out; have := H_loF.out; omega)).mono ?_
    rintro e w11 ⟨rfl, hb⟩
    rw [i2]
    have K11 := Lib.hid (K10.out.next hb)
    have S111 := S110.out.below hb S110.out.1
    have S211 := S210.out.below hb S210.out.1
    have S311 := S310.out.below hb S310.out.1
    clear hb u1 u2 uz s2 sz x1 x2 xz
    have u2 := S111.c2
    have uz := S111.1
    have s2 := S211.c2
    have sz := S211.1
    have x2 := S311.c2
    have xz := S311.1
    clear S111 S211 S311
    cases ova <;> cases ovb
    all_goals
      go_wp2_with fail
      go_ret
      exact ⟨rfl, K11.out.bel⟩
  · rw [← hw5]
    clear hw5
    clear f4_0 f4_1 f4_2 f4_3 g4_0 g4_1 z4 y4
    have f5_0 := K5.out.box.c0
    have f5_1 := K5.out.box.c1
    have f5_2 := K5.out.box.c2
    have f5_3 := K5.out.box.c3
    have g5_0 := K5.out.box2.c0
    have g5_1 := K5.out.box2.c1
    have z5 := K5.out.box.1
    have y5 := K5.out.box2.1
    have HA5 := Lib.hid (HFA.out.below b45 (Nat.le_refl _))
    have HB5 := Lib.hid (HFB.out.below b45 (Nat.le_refl _))
    have pf : ∀ j, w5.frozen? ⟨w4.heap.size + 1, j, none⟩ = false := fun j => R1'.free j
    have p0 := R1'.cell 0
    have p1 := R1'.cell 1
    have p2 := R1'.cell 2
    have p3 := R1'.cell 3
    simp only [List.getElem?_cons_zero, List.getElem?_cons_succ] at p0 p1 p2 p3
    have qf : ∀ j, w5.frozen? ⟨w4.heap.size + 1 + 1, j, none⟩ = false := fun j => R2'.free j
    have q0 := R2'.cell 0
    have q1 := R2'.cell 1
    have q2 := R2'.cell 2
    have q3 := R2'.cell 3
    simp only [List.getElem?_cons_zero, List.getElem?_cons_succ] at q0 q1 q2 q3
    have r0 := R0'.cell 0
    have r1 := R0'.cell 1
    simp only [List.getElem?_cons_zero, List.getElem?_cons_succ] at r0 r1
    go_wp2_with fail
    go_region
    obtain ⟨w6, hw6⟩ : ∃ w6, w6 = ((w5.setCell ⟨w4.heap.size + 1 + 1, 2, none⟩ (.slice A3 kc c3)).setCell ⟨w4.heap.size + 1, 2, none⟩ (.slice (if c3 = kc then A3 else Option.map (fun x => x.add (kc * 7)) A3) (xs.length - kc) (c3 - kc))).drew := ⟨_, rfl⟩
    have hlow : w.heap.size + 1 < w4.heap.size := K4.out.lt
    have K6 := Lib.hid (((K5.out.low (wj := w5.setCell ⟨w4.heap.size + 1 + 1, 2, none⟩ (.slice A3 kc c3)) (B := w4.heap.size) hlow ((Below.refl _ w5).setCell (p := ⟨w4.heap.size + 1 + 1, 2, none⟩) (by simp; try omega) _)).low (wj := (w5.setCell ⟨w4.heap.size + 1 + 1, 2, none⟩ (.slice A3 kc c3)).setCell ⟨w4.heap.size + 1, 2, none⟩ (.slice (if c3 = kc then A3 else Option.map (fun x => x.add (kc * 7)) A3) (xs.length - kc) (c3 - kc))) (B := w4.heap.size) hlow ((Below.refl _ _).setCell (p := ⟨w4.heap.size + 1, 2, none⟩) (by simp; try omega) _)).drew)
    have b56 : Below w4.heap.size w5 w6 := by rw [hw6]; exact (((Below.refl w4.heap.size w5).setCell (p := ⟨w4.heap.size + 1 + 1, 2, none⟩) (by simp; try omega) _).setCell (p := ⟨w4.heap.size + 1, 2, none⟩) (by simp; try omega) _).drew
    have y0 : Blk w6 w4.heap.size [.slice FA (fitC xc is.length).length fa, .slice FB (fitI ps xi ps.length).length fb] 28 := by rw [hw6]; exact ((R0'.set_other (b' := w4.heap.size + 1 + 1) (j := 2) (by omega) (.slice A3 kc c3)).set_other (b' := w4.heap.size + 1) (j := 2) (by omega) (.slice (if c3 = kc then A3 else Option.map (fun x => x.add (kc * 7)) A3) (xs.length - kc) (c3 - kc)))
    have y9 : Blk w6 (w4.heap.size + 1 + 1) [.slice A1 ps.length c1, .slice A2 is.length c2, .slice A3 kc c3, .slice A4 os.length c4] 26 := by rw [hw6]; exact ((R2'.set_ 2 (.slice A3 kc c3)).set_other (b' := w4.heap.size + 1) (j := 2) (by omega) (.slice (if c3 = kc then A3 else Option.map (fun x => x.add (kc * 7)) A3) (xs.length - kc) (c3 - kc)))
    have y10 : Blk w6 (w4.heap.size + 1) [.slice A1 ps.length c1, .slice A2 is.length c2, .slice (if c3 = kc then A3 else Option.map (fun x => x.add (kc * 7)) A3) (xs.length - kc) (c3 - kc), .slice A4 os.length c4] 26 := by rw [hw6]; exact ((R1'.set_other (b' := w4.heap.size + 1 + 1) (j := 2) (by omega) (.slice A3 kc c3)).set_ 2 (.slice (if c3 = kc then A3 else Option.map (fun x => x.add (kc * 7)) A3) (xs.length - kc) (c3 - kc)))
    rw [← hw6] at K6 ⊢
    obtain ⟨Ad, hAd⟩ : ∃ Ad, Ad = (if c3 = kc then A3 else Option.map (fun x => x.add (kc * 7)) A3) := ⟨_, rfl⟩
    obtain ⟨xt, hxt⟩ : ∃ xt, xt = xs.take kc := ⟨_, rfl⟩
    obtain ⟨xd, hxd⟩ : ∃ xd, xd = xs.drop kc := ⟨_, rfl⟩
    have hlt : kc = xt.length := by rw [hxt, List.length_take]; omega
    have hld : xs.length - kc = xd.length := by rw [hxd, List.length_drop]
    have HXT := Lib.hid (K6.out.prog.x.take_ kc)
    have HXD := Lib.hid (K6.out.prog.x.drop_ (s := 7) (fun _ => rfl) kc hkl hcap)
    rw [← hAd, ← hxd] at HXD
    rw [← hxt] at HXT
    rw [← hAd, hld] at y10 ⊢
    obtain ⟨cd, hcd⟩ : ∃ cd, cd = c3 - kc := ⟨_, rfl⟩
    rw [← hcd] at y10 ⊢
    have y9' := y9
    rw [hlt] at y9'
    rw [hlt]
    have hsz6 : w4.heap.size + 1 + 1 < w6.heap.size := y9.lt
    have HA6 := Lib.hid (HA5.out.below b56 (Nat.le_refl _))
    have HB6 := Lib.hid (HB5.out.below b56 (Nat.le_refl _))
    have YB6 := Lib.hid y0.box
    have Y9 := Lib.hid y9'.box
    have Y10 := Lib.hid y10.box
    clear f5_0 f5_1 f5_2 f5_3 g5_0 g5_1 z5 y5
    clear hw6 p0 p1 p2 p3 pf q0 q1 q2 q3 qf r0 r1 R0' R1' R2' b45 b56 y0 y9 y9' y10 K5 HA5 HB5 hAd hcd hwx hcap lx h3 h4 z4a z4b
    have f6_0 := K6.out.box.c0
    have f6_1 := K6.out.box.c1
    have f6_2 := K6.out.box.c2
    have f6_3 := K6.out.box.c3
    have g6_0 := K6.out.box2.c0
    have g6_1 := K6.out.box2.c1
    have z6 := K6.out.box.1
    have y6 := K6.out.box2.1
    have r0 := YB6.out.c0
    have r1 := YB6.out.c1
    have zy := YB6.out.1
    obtain ⟨c0, cF, cS, oF, o1, ova, ovb, lc0, lcF, lcS, loF, e0, m0, e1, m1, e2, m2, lo1⟩ := join_runs xc xi kc HE.out
    rw [← hxt] at e1 m1
    rw [← hxd] at e2 m2
    clear hxt hxd hld hlt hkl hkc
    have H_lcF := Lib.hid lcF
    have H_lcS := Lib.hid lcS
    have H_loF := Lib.hid loF
    have H_e0 := Lib.hid e0
    have H_m0 := Lib.hid m0
    have H_e1 := Lib.hid e1
    have H_m1 := Lib.hid m1
    have H_e2 := Lib.hid e2
    have H_m2 := Lib.hid m2
    clear lc0 lcF lcS loF e0 m0 e1 m1 e2 m2 lo1 c0
    have HFL : Hid ((fitC xc is.length).length = is.length) := Lib.hid (fitC_len _ _)
    go_wp2_with fail
    go_at_call 12
    refine (run_any A1 A2 A3 A4 FA FB ps is xs os (fitC xc is.length) (fitI ps xi ps.length) c1 c2 c3 c4 fa fb w6.heap.size _ (Nat.le_refl _) (K6.out.prog.p.more K6.out.le) (K6.out.prog.i.more K6.out.le) (K6.out.prog.x.more K6.out.le) (K6.out.prog.o.more K6.out.le) (HA6.out.more (by omega)) (HB6.out.more (by omega)) HFN.out _ _ H_m0.out H_e0.out).mono ?_
    rintro e w7 ⟨WA, wa, WB, wb, rfl, hWn, hWm, hWA, hWB, hb, _, _⟩
    rw [errV_0]
    have hbb := hb.trans ((Below.refl _ w7).alloc (Nat.le_refl _) (.cells #[.slice WA cF.length wa, .slice WB oF.length wb, .bool (ova || ovb)] 32) |>.mono hb.size)
    have K7 := Lib.hid (K6.out.next hbb)
    have HA7 := Lib.hid (HA6.out.below hbb (by omega))
    have HB7 := Lib.hid (HB6.out.below hbb (by omega))
    have YB7 := Lib.hid (YB6.out.below hbb zy)
    have Y97 := Lib.hid (Y9.out.below hbb (by omega))
    have Y107 := Lib.hid (Y10.out.below hbb (by omega))
    have XT7 := Lib.hid (HXT.out.below hbb K6.out.le)
    have XD7 := Lib.hid (HXD.out.below hbb K6.out.le)
    have S17 := Lib.hid (BoxAt.new_ w7 [.slice WA cF.length wa, .slice WB oF.length wb, .bool (ova || ovb)] 32)
    have WA7 := Lib.hid (hWA.below ((Below.refl _ w7).alloc (Nat.le_refl _) (.cells #[.slice WA cF.length wa, .slice WB oF.length wb, .bool (ova || ovb)] 32)) (Nat.le_refl _))
    have WB7 := Lib.hid (hWB.below ((Below.refl _ w7).alloc (Nat.le_refl _) (.cells #[.slice WA cF.length wa, .slice WB oF.length wb, .bool (ova || ovb)] 32)) (Nat.le_refl _))
    have hs67 := Lib.hid (show w4.heap.size + 1 + 1 < w7.heap.size by have := hb.size; omega)
    have hw7 := Lib.hid (show w.heap.size + 1 < w7.heap.size by have := hb.size; have := K6.out.lt; omega)
    clear f6_0 f6_1 f6_2 f6_3 g6_0 g6_1 z6 y6
    clear hbb hb hWA hWB r0 r1 zy hWn hWm hsz6 hlow
    have t0 := Y97.out.c0
    have t1 := Y97.out.c1
    have t2 := Y97.out.c2
    have t3 := Y97.out.c3
    have tz := Y97.out.1
    have r0 := YB7.out.c0
    have r1 := YB7.out.c1
    have rz := YB7.out.1
    go_wp2_with fail
    go_at_call 12
    refine (run_any A1 A2 A3 A4 FA FB ps is xt os (fitC xc is.length) (fitI ps xi ps.length) c1 c2 c3 c4 fa fb w7.heap.size _ (by simp) (K7.out.prog.p.more (by have := hw7.out; omega)) (K7.out.prog.i.more (by have := hw7.out; omega)) (XT7.out.more (by have := hw7.out; omega)) (K7.out.prog.o.more (by have := hw7.out; omega)) (HA7.out.more (by have := hs67.out; omega)) (HB7.out.more (by have := hs67.out; omega)) HFN.out _ _ H_m1.out H_e1.out).mono ?_
    rintro e w8 ⟨GA, ga, GB, gb, rfl, hGn, hGm, hGA, hGB, hb, _, _⟩
    rw [errV_0]
    have hbb := hb.trans ((Below.refl _ w8).alloc (Nat.le_refl _) (.cells #[.slice GA cS.length ga, .slice GB o1.length gb, .bool ova] 32) |>.mono hb.size)
    have hz7 : (w7.alloc (.cells #[.slice WA cF.length wa, .slice WB oF.length wb, .bool (ova || ovb)] 32)).heap.size = w7.heap.size + 1 := by simp
    have K8 := Lib.hid (K7.out.next hbb)
    have HB8 := Lib.hid (HB7.out.below hbb (by have := hs67.out; omega))
    have YB8 := Lib.hid (YB7.out.below hbb YB7.out.1)
    have Y108 := Lib.hid (Y107.out.below hbb Y107.out.1)
    have XD8 := Lib.hid (XD7.out.below hbb K7.out.le)
    have S18 := Lib.hid (S17.out.below hbb S17.out.1)
    have WA8 := Lib.hid (WA7.out.below hbb (by omega))
    have WB8 := Lib.hid (WB7.out.below hbb (by omega))
    have S28 := Lib.hid (BoxAt.new_ w8 [.slice GA cS.length ga, .slice GB o1.length gb, .bool ova] 32)
    have GA8 := Lib.hid (hGA.below ((Below.refl _ w8).alloc (Nat.le_refl _) (.cells #[.slice GA cS.length ga, .slice GB o1.length gb, .bool ova] 32)) (Nat.le_refl _))
    have HGN := Lib.hid hGn
    have hs78 := Lib.hid (show w7.heap.size < w8.heap.size by have := hb.size; omega)
    clear hbb hb hGA hGB hGn hGm hz7 t0 t1 t2 t3 tz r0 r1 rz
    have t0 := Y108.out.c0
    have t1 := Y108.out.c1
    have t2 := Y108.out.c2
    have t3 := Y108.out.c3
    have tz := Y108.out.1
    have r0 := YB8.out.c0
    have r1 := YB8.out.c1
    have rz := YB8.out.1
    have s0 := S28.out.c0
    have s0z := S28.out.1
    go_wp2_with fail
    go_at_call 12
    refine (run_any A1 A2 Ad A4 GA FB ps is xd os cS (fitI ps xi ps.length) c1 c2 cd c4 ga fb w8.heap.size _ (by simp) (K8.out.prog.p.more (by have := hw7.out; have := hs78.out; omega)) (K8.out.prog.i.more (by have := hw7.out; have := hs78.out; omega)) (XD8.out.more (by have := hw7.out; have := hs78.out; omega)) (K8.out.prog.o.more (by have := hw7.out; have := hs78.out; omega)) GA8.out (HB8.out.more (by have := hs67.out; have := hs78.out; omega)) HGN.out _ _ H_m2.out H_e2.out).mono ?_
    rintro e w9 ⟨QA, qa, QB, qb, rfl, hQn, hQm, hQA, hQB, hb, _, _⟩
    rw [errV_0]
    have hbb := hb.trans ((Below.refl _ w9).alloc (Nat.le_refl _) (.cells #[.slice QA cF.length qa, .slice QB oF.length qb, .bool ovb] 32) |>.mono hb.size)
    have hz8 : (w8.alloc (.cells #[.slice GA cS.length ga, .slice GB o1.length gb, .bool ova] 32)).heap.size = w8.heap.size + 1 := by simp
    have K9 := Lib.hid (K8.out.next hbb)
    have S19 := Lib.hid (S18.out.below hbb S18.out.1)
    have S29 := Lib.hid (S28.out.below hbb S28.out.1)
    have WA9 := Lib.hid (WA8.out.below hbb (by have := hs78.out; omega))
    have WB9 := Lib.hid (WB8.out.below hbb (by have := hs78.out; omega))
    have S39 := Lib.hid (BoxAt.new_ w9 [.slice QA cF.length qa, .slice QB oF.length qb, .bool ovb] 32)
    have QA9 := Lib.hid (hQA.below ((Below.refl _ w9).alloc (Nat.le_refl _) (.cells #[.slice QA cF.length qa, .slice QB oF.length qb, .bool ovb] 32)) (Nat.le_refl _))
    have QB9 := Lib.hid (hQB.below ((Below.refl _ w9).alloc (Nat.le_refl _) (.cells #[.slice QA cF.length qa, .slice QB oF.length qb, .bool ovb] 32)) (Nat.le_refl _))
    have hs89 := Lib.hid (show w8.heap.size < w9.heap.size by have := hb.size; omega)
    clear hbb hb hQA hQB hQn hQm hz8 t0 t1 t2 t3 tz r0 r1 rz s0 s0z
    have u0 := S19.out.c0
    have u1 := S19.out.c1
    have u2 := S19.out.c2
    have uz := S19.out.1
    have s2 := S29.out.c2
    have sz := S29.out.1
    have x0 := S39.out.c0
    have x1 := S39.out.c1
    have x2 := S39.out.c2
    have xz := S39.out.1
    have i1 : intsB cF cF = true := by simp [intsB]
    have i2 : intsB oF oF = true := by simp [intsB]
    go_wp2_with fail
    go_at_call 18
    refine (ints_any WA QA cF cF wa qa w9.heap.size _ (WA9.out.more (by have := hs78.out; have := hs89.out; omega)) QA9.out (by have := HL4.out; have := H_lcF.out; omega) (by have := HL4.out; have := H_lcF.out; omega)).mono ?_
    rintro e w10 ⟨rfl, hb⟩
    rw [i1]
    have K10 := Lib.hid (K9.out.next hb)
    have WB10 := Lib.hid (WB9.out.below hb (by have := hs78.out; have := hs89.out; simp; omega))
    have QB10 := Lib.hid (QB9.out.below hb (by simp))
    have S110 := Lib.hid (S19.out.below hb S19.out.1)
    have S210 := Lib.hid (S29.out.below hb S29.out.1)
    have S310 := Lib.hid (S39.out.below hb S39.out.1)
    have hs910 := Lib.hid (show w9.heap.size ≤ w10.heap.size by have := hb.size; simp at this; omega)
    clear hb u0 u1 u2 uz s2 sz x0 x1 x2 xz
    have u1 := S110.out.c1
    have u2 := S110.out.c2
    have uz := S110.out.1
    have s2 := S210.out.c2
    have sz := S210.out.1
    have x1 := S310.out.c1
    have x2 := S310.out.c2
    have xz := S310.out.1
    go_wp2_with fail
    go_at_call 18
    refine (ints_any WB QB oF oF wb qb w9.heap.size _ (WB10.out.more (by have := hs78.out; have := hs89.out; omega)) QB10.out (by have := HL4.out; have := H_loF.out; omega) (by have := HL4.out; have := H_loF.out; omega)).mono ?_
    rintro e w11 ⟨rfl, hb⟩
    rw [i2]
    have K11 := Lib.hid (K10.out.next hb)
    have S111 := S110.out.below hb S110.out.1
    have S211 := S210.out.below hb S210.out.1
    have S311 := S310.out.below hb S310.out.1
    clear hb u1 u2 uz s2 sz x1 x2 xz
    have u2 := S111.c2
    have uz := S111.1
    have s2 := S211.c2
    have sz := S211.1
    have x2 := S311.c2
    have xz := S311.1
    clear S111 S211 S311
    cases ova <;> cases ovb
    all_goals
      go_wp2_with fail
      go_ret
      exact ⟨rfl, K11.out.bel⟩
theorem codeJoins_walk (A1 A2 A3 A4 X1 X2 : Option Addr) (ps : List Prt) (is : List Int) (xs : List Ins) (os xc xi : List Int) (c1 c2 c3 c4 d1 d2 : Nat) (w : World) (hp : PAt w w.heap.size A1 A2 A3 A4 ps is xs os) (hx1 : CellsAt w w.heap.size X1 (ints xc)) (hx2 : CellsAt w w.heap.size X2 (ints xi)) (cut : Int) (h3 : 0 ≤ cut) (h4 : cut ≤ 255) (hcap : xs.length ≤ c3) : Calls Try.prog 4 #[.agg #[.slice A1 ps.length c1, .slice A2 is.length c2, .slice A3 xs.length c3, .slice A4 os.length c4], .agg #[.slice X1 xc.length d1, .slice X2 xi.length d2], .int .u8 cut] w fun e w' => e = .returned (.bool true) ∧ Below w.heap.size w w' := by
  cases hl : lightB ps is xs os with
  | false => exact joins_heavy A1 A2 A3 A4 X1 X2 ps is xs os xc xi c1 c2 c3 c4 d1 d2 w hp hx1 hx2 cut hl
  | true =>
    by_cases h1 : xc.length ≤ 300
    · by_cases h2 : xi.length ≤ 60
      · by_cases he : progErr ps is xs os = 0
        · exact joins_good A1 A2 A3 A4 X1 X2 ps is xs os xc xi c1 c2 c3 c4 d1 d2 w hp hx1 hx2 cut hl h1 h2 he h3 h4 hcap
        · exact joins_bad A1 A2 A3 A4 X1 X2 ps is xs os xc xi c1 c2 c3 c4 d1 d2 w hp hx1 hx2 cut hl h1 h2 he
      · exact joins_ins A1 A2 A3 A4 X1 X2 ps is xs os xc xi c1 c2 c3 c4 d1 d2 w hp hx1 hx2 cut hl h1 (by omega)
    · exact joins_cells A1 A2 A3 A4 X1 X2 ps is xs os xc xi c1 c2 c3 c4 d1 d2 w hp hx1 hx2 cut hl (by omega)

set_option maxRecDepth 100000 in
theorem codeJoins_lifted (os : Os) (started : os.Started) (H : Type) (enc : TypeId × Value → H) :
    ReturnsInHanded {} Try.checked os 4 .any (Rows.codeJoinsSpec.pre6 enc Try.prog Try.f4 Rows.codeJoinsRow.domain false) (Rows.codeJoinsSpec.post enc Try.prog Try.f4 false true false false) := by
  refine law_lift (C := Try.checked) (T := 4) own started (by kernel_rfl) Try.func4
    (ChangeSpec.witness6 (enc := enc) (C := Try.checked) false ⟨#[], #[.agg #[.slice none 0 0, .slice none 0 0, .slice none 0 0, .slice none 0 0], .agg #[.slice none 0 0, .slice none 0 0], .int .u8 0], []⟩ 8 (by kernel_rfl) (by kernel_rfl) (by kernel_rfl) (by kernel_rfl))
    laidOut (by kernel_rfl) rfl Try.underlying4 (by kernel_rfl) ?_ ?_
  · intro ds h
    match ds, h with
    | [d1, d2, d3], _ => exact ⟨rfl, rfl, rfl⟩
  · intro W base args ds p hval0 hA0 _ hsz0
    have hval : ∀ (j : Nat) t v, Try.f4.params[j]? = some t → args[j]? = some v → Value.okWide Try.prog W .any base t v := hval0
    have hA : DataW.TrodAll enc Try.prog W 0 (fun _ => true) true Try.f4.params.toList args.toList ds p := hA0
    clear hsz0
    rw [Try.params4] at hA hval
    obtain ⟨v0, vs0, d0, ds0, p0, q0, hargs, rfl, rfl, h0, r0⟩ := trodAll_cons hA
    obtain ⟨v1, vs1, d1, ds1, p1, q1, rfl, rfl, rfl, h1, r1⟩ := trodAll_cons r0
    obtain ⟨v2, vs2, d2, ds2, p2, q2, rfl, rfl, rfl, h2, r2⟩ := trodAll_cons r1
    obtain ⟨rfl, rfl, rfl⟩ := trodAll_nil r2
    obtain rfl : args = #[v0, v1, v2] := by cases args; simp_all
    obtain ⟨A1, A2, A3, A4, ps, is, xs, os, c1, c2, c3, c4, rfl, hn, hp, _, _, _, _, hcap, _⟩ := open_prog (hval 0 26 v0 rfl rfl) h0
    obtain ⟨X1, X2, xc, xi, e1, e2, rfl, _, hx1, hx2, _⟩ := open_load (hval 1 28 v1 rfl rfl) h1
    obtain ⟨cut, rfl, cw⟩ := int_of_kind Try.underlying5 (hval 2 5 v2 rfl rfl) h2
    obtain ⟨g1, g2⟩ := bounds_u8 cw
    exact codeJoins_walk A1 A2 A3 A4 X1 X2 ps is xs os xc xi c1 c2 c3 c4 e1 e2 W hp hx1 hx2 cut g1 g2 hcap

theorem codeJoins_over : Rows.codeJoinsRow.holds Try.pinned (OpenSpec.ofChange Rows.codeJoinsSpec) :=
  OpenClaim.holds_of_wide 4 Try.f4 rfl rfl rfl rfl rfl rfl rfl ⟨rfl, rfl, rfl, rfl, rfl⟩ rfl rfl rfl rfl rfl (by kernel_rfl) Try.func4 (by kernel_rfl)
    (of_decide_eq_true (by kernel_rfl)) (by unfold Func.isWrapper; first | (rw [if_pos (by decide +kernel)]; kernel_rfl) | (rw [if_neg (by decide +kernel)]; exact ⟨rfl, rfl⟩))
    (fun os started H enc _ => codeJoins_lifted os started H enc)

theorem codeJoins_holds : Rows.CodeJoinsSaid := codeJoins_over
#print axioms codeJoins_holds

end Go.Proofs.Ytdhlmbnmgioeeaa
