/- CodeKeeps: for every program, cells and inputs the law returns true: cells that are not written keep their values, all cells are 32-bit numbers, the outputs are cells. No conditions. -/
import Derived.Test.YtdhlmbnmgioeeaaCdX
namespace Go.Proofs.Ytdhlmbnmgioeeaa
set_option linter.unusedVariables false
set_option linter.unusedSimpArgs false
set_option linter.unusedSectionVars false
open Go.ChangeShapes Go.WideShapes Go.ChangeAt Go.RowKit Go.Joins

def kp1 (P : World → Prop) (m g n : Nat) (ws : List Int) (i : Value) (wr : World) : Prop := ∃ k : Nat, k ≤ ws.length ∧ i = .int .i64 k ∧ wr.ownsRow m 4 1 (.slice (some ⟨g, 0, none⟩) n n) n (marksI (ws.take k) n) ∧ P wr
def kp2 (w8 : World) (n : Nat) (i : Value) (wr : World) : Prop := ∃ k : Nat, k ≤ n ∧ i = .int .i64 k ∧ w8 = wr
def kp3 (w8 : World) (n : Nat) (i : Value) (wr : World) : Prop := ∃ k nq : Nat, k ≤ n ∧ i = .int .i64 k ∧ w8.drewN nq = wr

set_option maxRecDepth 100000 in
set_option maxHeartbeats 4000000 in
theorem keeps_heavy (A1 A2 A3 A4 X1 X2 : Option Addr) (ps : List Prt) (is : List Int) (xs : List Ins) (os xc xi : List Int) (c1 c2 c3 c4 d1 d2 : Nat) (w : World) (hp : PAt w w.heap.size A1 A2 A3 A4 ps is xs os) (hx1 : CellsAt w w.heap.size X1 (ints xc)) (hx2 : CellsAt w w.heap.size X2 (ints xi))  (hl : lightB ps is xs os = false) : Calls Try.prog 8 #[.agg #[.slice A1 ps.length c1, .slice A2 is.length c2, .slice A3 xs.length c3, .slice A4 os.length c4], .agg #[.slice X1 xc.length d1, .slice X2 xi.length d2]] w fun e w' => e = .returned (.bool true) ∧ Below w.heap.size w w' := by
  have HP := Lib.hid hp
  have H5 := Lib.hid hx1
  have H6 := Lib.hid hx2
  clear hp hx1 hx2
  have HL := Lib.hid hl
  clear hl
  have K0 := Lib.hid (Cy.start HP.out H5.out H6.out [.slice A1 ps.length c1, .slice A2 is.length c2, .slice A3 xs.length c3, .slice A4 os.length c4] [.slice X1 xc.length d1, .slice X2 xi.length d2] 26 28)
  clear HP H5 H6
  have f0_0 := K0.out.box.c0
  have f0_1 := K0.out.box.c1
  have f0_2 := K0.out.box.c2
  have f0_3 := K0.out.box.c3
  have g0_0 := K0.out.box2.c0
  have g0_1 := K0.out.box2.c1
  have z0 := K0.out.box.1
  have y0 := K0.out.box2.1
  go_enter Try.func8, Try.ntmps8
  go_wp2_with fail
  go_at_call 10
  refine (awake_any _).mono ?_
  rintro e w1 ⟨rfl, hb⟩
  have K1 := Lib.hid ((K0.out).next hb)
  clear hb
  clear f0_0 f0_1 f0_2 f0_3 g0_0 g0_1 z0 y0
  have f1_0 := K1.out.box.c0
  have f1_1 := K1.out.box.c1
  have f1_2 := K1.out.box.c2
  have f1_3 := K1.out.box.c3
  have g1_0 := K1.out.box2.c0
  have g1_1 := K1.out.box2.c1
  have z1 := K1.out.box.1
  have y1 := K1.out.box2.1
  go_wp2_with fail
  go_at_call 11
  refine (light_any A1 A2 A3 A4 ps is xs os c1 c2 c3 c4 _).mono ?_
  rintro e w2 ⟨rfl, hb⟩
  have K2 := Lib.hid ((K1.out).next hb)
  rw [HL.out]
  clear hb
  clear f1_0 f1_1 f1_2 f1_3 g1_0 g1_1 z1 y1
  have f2_0 := K2.out.box.c0
  have f2_1 := K2.out.box.c1
  have f2_2 := K2.out.box.c2
  have f2_3 := K2.out.box.c3
  have g2_0 := K2.out.box2.c0
  have g2_1 := K2.out.box2.c1
  have z2 := K2.out.box.1
  have y2 := K2.out.box2.1
  go_wp2_with fail
  go_at_call 10
  refine (awake_any _).mono ?_
  rintro e w3 ⟨rfl, hb⟩
  have K3 := Lib.hid ((K2.out).next hb)
  clear hb
  clear f2_0 f2_1 f2_2 f2_3 g2_0 g2_1 z2 y2
  have f3_0 := K3.out.box.c0
  have f3_1 := K3.out.box.c1
  have f3_2 := K3.out.box.c2
  have f3_3 := K3.out.box.c3
  have g3_0 := K3.out.box2.c0
  have g3_1 := K3.out.box2.c1
  have z3 := K3.out.box.1
  have y3 := K3.out.box2.1
  go_wp2_with fail
  go_ret
  exact ⟨rfl, K3.out.bel⟩
set_option maxRecDepth 100000 in
set_option maxHeartbeats 4000000 in
theorem keeps_cells (A1 A2 A3 A4 X1 X2 : Option Addr) (ps : List Prt) (is : List Int) (xs : List Ins) (os xc xi : List Int) (c1 c2 c3 c4 d1 d2 : Nat) (w : World) (hp : PAt w w.heap.size A1 A2 A3 A4 ps is xs os) (hx1 : CellsAt w w.heap.size X1 (ints xc)) (hx2 : CellsAt w w.heap.size X2 (ints xi))  (hl : lightB ps is xs os = true) (h : 300 < xc.length) : Calls Try.prog 8 #[.agg #[.slice A1 ps.length c1, .slice A2 is.length c2, .slice A3 xs.length c3, .slice A4 os.length c4], .agg #[.slice X1 xc.length d1, .slice X2 xi.length d2]] w fun e w' => e = .returned (.bool true) ∧ Below w.heap.size w w' := by
  have HP := Lib.hid hp
  have H5 := Lib.hid hx1
  have H6 := Lib.hid hx2
  clear hp hx1 hx2
  have HL := Lib.hid hl
  have h' : (300 : Int) < (xc.length : Int) := by omega
  have h'' : decide ((300 : Int) < (xc.length : Int)) = true := by simp; omega
  clear hl h
  have K0 := Lib.hid (Cy.start HP.out H5.out H6.out [.slice A1 ps.length c1, .slice A2 is.length c2, .slice A3 xs.length c3, .slice A4 os.length c4] [.slice X1 xc.length d1, .slice X2 xi.length d2] 26 28)
  clear HP H5 H6
  have f0_0 := K0.out.box.c0
  have f0_1 := K0.out.box.c1
  have f0_2 := K0.out.box.c2
  have f0_3 := K0.out.box.c3
  have g0_0 := K0.out.box2.c0
  have g0_1 := K0.out.box2.c1
  have z0 := K0.out.box.1
  have y0 := K0.out.box2.1
  go_enter Try.func8, Try.ntmps8
  go_wp2_with fail
  go_at_call 10
  refine (awake_any _).mono ?_
  rintro e w1 ⟨rfl, hb⟩
  have K1 := Lib.hid ((K0.out).next hb)
  clear hb
  clear f0_0 f0_1 f0_2 f0_3 g0_0 g0_1 z0 y0
  have f1_0 := K1.out.box.c0
  have f1_1 := K1.out.box.c1
  have f1_2 := K1.out.box.c2
  have f1_3 := K1.out.box.c3
  have g1_0 := K1.out.box2.c0
  have g1_1 := K1.out.box2.c1
  have z1 := K1.out.box.1
  have y1 := K1.out.box2.1
  go_wp2_with fail
  go_at_call 11
  refine (light_any A1 A2 A3 A4 ps is xs os c1 c2 c3 c4 _).mono ?_
  rintro e w2 ⟨rfl, hb⟩
  have K2 := Lib.hid ((K1.out).next hb)
  rw [HL.out]
  clear hb
  clear f1_0 f1_1 f1_2 f1_3 g1_0 g1_1 z1 y1
  have f2_0 := K2.out.box.c0
  have f2_1 := K2.out.box.c1
  have f2_2 := K2.out.box.c2
  have f2_3 := K2.out.box.c3
  have g2_0 := K2.out.box2.c0
  have g2_1 := K2.out.box2.c1
  have z2 := K2.out.box.1
  have y2 := K2.out.box2.1
  go_wp2_with fail
  go_at_call 10
  refine (awake_any _).mono ?_
  rintro e w3 ⟨rfl, hb⟩
  have K3 := Lib.hid ((K2.out).next hb)
  clear hb
  clear f2_0 f2_1 f2_2 f2_3 g2_0 g2_1 z2 y2
  have f3_0 := K3.out.box.c0
  have f3_1 := K3.out.box.c1
  have f3_2 := K3.out.box.c2
  have f3_3 := K3.out.box.c3
  have g3_0 := K3.out.box2.c0
  have g3_1 := K3.out.box2.c1
  have z3 := K3.out.box.1
  have y3 := K3.out.box2.1
  go_wp2_with fail
  go_ret
  exact ⟨rfl, K3.out.bel⟩
set_option maxRecDepth 100000 in
set_option maxHeartbeats 4000000 in
theorem keeps_ins (A1 A2 A3 A4 X1 X2 : Option Addr) (ps : List Prt) (is : List Int) (xs : List Ins) (os xc xi : List Int) (c1 c2 c3 c4 d1 d2 : Nat) (w : World) (hp : PAt w w.heap.size A1 A2 A3 A4 ps is xs os) (hx1 : CellsAt w w.heap.size X1 (ints xc)) (hx2 : CellsAt w w.heap.size X2 (ints xi))  (hl : lightB ps is xs os = true) (h1 : xc.length ≤ 300) (h : 60 < xi.length) : Calls Try.prog 8 #[.agg #[.slice A1 ps.length c1, .slice A2 is.length c2, .slice A3 xs.length c3, .slice A4 os.length c4], .agg #[.slice X1 xc.length d1, .slice X2 xi.length d2]] w fun e w' => e = .returned (.bool true) ∧ Below w.heap.size w w' := by
  have HP := Lib.hid hp
  have H5 := Lib.hid hx1
  have H6 := Lib.hid hx2
  clear hp hx1 hx2
  have HL := Lib.hid hl
  have h' : (60 : Int) < (xi.length : Int) := by omega
  have h'' : decide ((60 : Int) < (xi.length : Int)) = true := by simp; omega
  have h1' : decide ((300 : Int) < (xc.length : Int)) = false := by simp; omega
  have h1n : ¬ (300 : Int) < (xc.length : Int) := by omega
  clear hl h h1
  have K0 := Lib.hid (Cy.start HP.out H5.out H6.out [.slice A1 ps.length c1, .slice A2 is.length c2, .slice A3 xs.length c3, .slice A4 os.length c4] [.slice X1 xc.length d1, .slice X2 xi.length d2] 26 28)
  clear HP H5 H6
  have f0_0 := K0.out.box.c0
  have f0_1 := K0.out.box.c1
  have f0_2 := K0.out.box.c2
  have f0_3 := K0.out.box.c3
  have g0_0 := K0.out.box2.c0
  have g0_1 := K0.out.box2.c1
  have z0 := K0.out.box.1
  have y0 := K0.out.box2.1
  go_enter Try.func8, Try.ntmps8
  go_wp2_with fail
  go_at_call 10
  refine (awake_any _).mono ?_
  rintro e w1 ⟨rfl, hb⟩
  have K1 := Lib.hid ((K0.out).next hb)
  clear hb
  clear f0_0 f0_1 f0_2 f0_3 g0_0 g0_1 z0 y0
  have f1_0 := K1.out.box.c0
  have f1_1 := K1.out.box.c1
  have f1_2 := K1.out.box.c2
  have f1_3 := K1.out.box.c3
  have g1_0 := K1.out.box2.c0
  have g1_1 := K1.out.box2.c1
  have z1 := K1.out.box.1
  have y1 := K1.out.box2.1
  go_wp2_with fail
  go_at_call 11
  refine (light_any A1 A2 A3 A4 ps is xs os c1 c2 c3 c4 _).mono ?_
  rintro e w2 ⟨rfl, hb⟩
  have K2 := Lib.hid ((K1.out).next hb)
  rw [HL.out]
  clear hb
  clear f1_0 f1_1 f1_2 f1_3 g1_0 g1_1 z1 y1
  have f2_0 := K2.out.box.c0
  have f2_1 := K2.out.box.c1
  have f2_2 := K2.out.box.c2
  have f2_3 := K2.out.box.c3
  have g2_0 := K2.out.box2.c0
  have g2_1 := K2.out.box2.c1
  have z2 := K2.out.box.1
  have y2 := K2.out.box2.1
  go_wp2_with fail
  go_at_call 10
  refine (awake_any _).mono ?_
  rintro e w3 ⟨rfl, hb⟩
  have K3 := Lib.hid ((K2.out).next hb)
  clear hb
  clear f2_0 f2_1 f2_2 f2_3 g2_0 g2_1 z2 y2
  have f3_0 := K3.out.box.c0
  have f3_1 := K3.out.box.c1
  have f3_2 := K3.out.box.c2
  have f3_3 := K3.out.box.c3
  have g3_0 := K3.out.box2.c0
  have g3_1 := K3.out.box2.c1
  have z3 := K3.out.box.1
  have y3 := K3.out.box2.1
  go_wp2_with fail
  go_ret
  exact ⟨rfl, K3.out.bel⟩
set_option maxRecDepth 100000 in
set_option maxHeartbeats 4000000 in
theorem keeps_bad (A1 A2 A3 A4 X1 X2 : Option Addr) (ps : List Prt) (is : List Int) (xs : List Ins) (os xc xi : List Int) (c1 c2 c3 c4 d1 d2 : Nat) (w : World) (hp : PAt w w.heap.size A1 A2 A3 A4 ps is xs os) (hx1 : CellsAt w w.heap.size X1 (ints xc)) (hx2 : CellsAt w w.heap.size X2 (ints xi))  (hl : lightB ps is xs os = true) (h1 : xc.length ≤ 300) (h2 : xi.length ≤ 60) (he : progErr ps is xs os ≠ 0) : Calls Try.prog 8 #[.agg #[.slice A1 ps.length c1, .slice A2 is.length c2, .slice A3 xs.length c3, .slice A4 os.length c4], .agg #[.slice X1 xc.length d1, .slice X2 xi.length d2]] w fun e w' => e = .returned (.bool true) ∧ Below w.heap.size w w' := by
  have HP := Lib.hid hp
  have H5 := Lib.hid hx1
  have H6 := Lib.hid hx2
  clear hp hx1 hx2
  have HL := Lib.hid hl
  have h1' : decide ((300 : Int) < (xc.length : Int)) = false := by simp; omega
  have h1n : ¬ (300 : Int) < (xc.length : Int) := by omega
  have h2' : decide ((60 : Int) < (xi.length : Int)) = false := by simp; omega
  have h2n : ¬ (60 : Int) < (xi.length : Int) := by omega
  obtain ⟨n, hnE⟩ : ∃ n, n = progErr ps is xs os := ⟨_, rfl⟩
  have HNE := Lib.hid hnE
  have e1 : (n != 0) = true := by rw [← hnE] at he; simpa using he
  clear hl h1 h2 hnE he
  have K0 := Lib.hid (Cy.start HP.out H5.out H6.out [.slice A1 ps.length c1, .slice A2 is.length c2, .slice A3 xs.length c3, .slice A4 os.length c4] [.slice X1 xc.length d1, .slice X2 xi.length d2] 26 28)
  clear HP H5 H6
  have f0_0 := K0.out.box.c0
  have f0_1 := K0.out.box.c1
  have f0_2 := K0.out.box.c2
  have f0_3 := K0.out.box.c3
  have g0_0 := K0.out.box2.c0
  have g0_1 := K0.out.box2.c1
  have z0 := K0.out.box.1
  have y0 := K0.out.box2.1
  go_enter Try.func8, Try.ntmps8
  go_wp2_with fail
  go_at_call 10
  refine (awake_any _).mono ?_
  rintro e w1 ⟨rfl, hb⟩
  have K1 := Lib.hid ((K0.out).next hb)
  clear hb
  clear f0_0 f0_1 f0_2 f0_3 g0_0 g0_1 z0 y0
  have f1_0 := K1.out.box.c0
  have f1_1 := K1.out.box.c1
  have f1_2 := K1.out.box.c2
  have f1_3 := K1.out.box.c3
  have g1_0 := K1.out.box2.c0
  have g1_1 := K1.out.box2.c1
  have z1 := K1.out.box.1
  have y1 := K1.out.box2.1
  go_wp2_with fail
  go_at_call 11
  refine (light_any A1 A2 A3 A4 ps is xs os c1 c2 c3 c4 _).mono ?_
  rintro e w2 ⟨rfl, hb⟩
  have K2 := Lib.hid ((K1.out).next hb)
  rw [HL.out]
  clear hb
  clear f1_0 f1_1 f1_2 f1_3 g1_0 g1_1 z1 y1
  have f2_0 := K2.out.box.c0
  have f2_1 := K2.out.box.c1
  have f2_2 := K2.out.box.c2
  have f2_3 := K2.out.box.c3
  have g2_0 := K2.out.box2.c0
  have g2_1 := K2.out.box2.c1
  have z2 := K2.out.box.1
  have y2 := K2.out.box2.1
  go_wp2_with fail
  go_at_call 13
  refine (rCheck_any A1 A2 A3 A4 ps is xs os c1 c2 c3 c4 w.heap.size _ K2.out.le K2.out.prog.p K2.out.prog.i K2.out.prog.x K2.out.prog.o).mono ?_
  rintro e w3 ⟨rfl, hb⟩
  have K3 := Lib.hid ((K2.out).next hb)
  rw [← HNE.out]
  clear hb
  clear f2_0 f2_1 f2_2 f2_3 g2_0 g2_1 z2 y2
  have f3_0 := K3.out.box.c0
  have f3_1 := K3.out.box.c1
  have f3_2 := K3.out.box.c2
  have f3_3 := K3.out.box.c3
  have g3_0 := K3.out.box2.c0
  have g3_1 := K3.out.box2.c1
  have z3 := K3.out.box.1
  have y3 := K3.out.box2.1
  go_wp2_with fail
  go_at_call 10
  refine (awake_any _).mono ?_
  rintro e w4 ⟨rfl, hb⟩
  have K4 := Lib.hid ((K3.out).next hb)
  clear hb
  clear f3_0 f3_1 f3_2 f3_3 g3_0 g3_1 z3 y3
  have f4_0 := K4.out.box.c0
  have f4_1 := K4.out.box.c1
  have f4_2 := K4.out.box.c2
  have f4_3 := K4.out.box.c3
  have g4_0 := K4.out.box2.c0
  have g4_1 := K4.out.box2.c1
  have z4 := K4.out.box.1
  have y4 := K4.out.box2.1
  go_wp2_with fail
  go_ret
  exact ⟨rfl, K4.out.bel⟩
set_option maxRecDepth 100000 in
set_option maxHeartbeats 4000000 in
theorem keeps_good (A1 A2 A3 A4 X1 X2 : Option Addr) (ps : List Prt) (is : List Int) (xs : List Ins) (os xc xi : List Int) (c1 c2 c3 c4 d1 d2 : Nat) (w : World) (hp : PAt w w.heap.size A1 A2 A3 A4 ps is xs os) (hx1 : CellsAt w w.heap.size X1 (ints xc)) (hx2 : CellsAt w w.heap.size X2 (ints xi))  (hl : lightB ps is xs os = true) (h1 : xc.length ≤ 300) (h2 : xi.length ≤ 60) (he : progErr ps is xs os = 0)  : Calls Try.prog 8 #[.agg #[.slice A1 ps.length c1, .slice A2 is.length c2, .slice A3 xs.length c3, .slice A4 os.length c4], .agg #[.slice X1 xc.length d1, .slice X2 xi.length d2]] w fun e w' => e = .returned (.bool true) ∧ Below w.heap.size w w' := by
  have HP := Lib.hid hp
  have H5 := Lib.hid hx1
  have H6 := Lib.hid hx2
  clear hp hx1 hx2
  have HL := Lib.hid hl
  have HE := Lib.hid he
  have h1' : decide ((300 : Int) < (xc.length : Int)) = false := by simp; omega
  have h1n : ¬ (300 : Int) < (xc.length : Int) := by omega
  have h2' : decide ((60 : Int) < (xi.length : Int)) = false := by simp; omega
  have h2n : ¬ (60 : Int) < (xi.length : Int) := by omega
  have hl4 := hl
  simp only [lightB, decide_eq_true_eq] at hl4
  have HL4 := Lib.hid hl4
  clear hl hl4 h1 h2 he
  have K0 := Lib.hid (Cy.start HP.out H5.out H6.out [.slice A1 ps.length c1, .slice A2 is.length c2, .slice A3 xs.length c3, .slice A4 os.length c4] [.slice X1 xc.length d1, .slice X2 xi.length d2] 26 28)
  clear HP H5 H6
  have f0_0 := K0.out.box.c0
  have f0_1 := K0.out.box.c1
  have f0_2 := K0.out.box.c2
  have f0_3 := K0.out.box.c3
  have g0_0 := K0.out.box2.c0
  have g0_1 := K0.out.box2.c1
  have z0 := K0.out.box.1
  have y0 := K0.out.box2.1
  go_enter Try.func8, Try.ntmps8
  go_wp2_with fail
  go_at_call 10
  refine (awake_any _).mono ?_
  rintro e w1 ⟨rfl, hb⟩
  have K1 := Lib.hid ((K0.out).next hb)
  clear hb
  clear f0_0 f0_1 f0_2 f0_3 g0_0 g0_1 z0 y0
  have f1_0 := K1.out.box.c0
  have f1_1 := K1.out.box.c1
  have f1_2 := K1.out.box.c2
  have f1_3 := K1.out.box.c3
  have g1_0 := K1.out.box2.c0
  have g1_1 := K1.out.box2.c1
  have z1 := K1.out.box.1
  have y1 := K1.out.box2.1
  go_wp2_with fail
  go_at_call 11
  refine (light_any A1 A2 A3 A4 ps is xs os c1 c2 c3 c4 _).mono ?_
  rintro e w2 ⟨rfl, hb⟩
  have K2 := Lib.hid ((K1.out).next hb)
  rw [HL.out]
  clear hb
  clear f1_0 f1_1 f1_2 f1_3 g1_0 g1_1 z1 y1
  have f2_0 := K2.out.box.c0
  have f2_1 := K2.out.box.c1
  have f2_2 := K2.out.box.c2
  have f2_3 := K2.out.box.c3
  have g2_0 := K2.out.box2.c0
  have g2_1 := K2.out.box2.c1
  have z2 := K2.out.box.1
  have y2 := K2.out.box2.1
  go_wp2_with fail
  go_at_call 13
  refine (rCheck_any A1 A2 A3 A4 ps is xs os c1 c2 c3 c4 w.heap.size _ K2.out.le K2.out.prog.p K2.out.prog.i K2.out.prog.x K2.out.prog.o).mono ?_
  rintro e w3 ⟨rfl, hb⟩
  have K3 := Lib.hid ((K2.out).next hb)
  rw [HE.out]
  clear hb
  clear f2_0 f2_1 f2_2 f2_3 g2_0 g2_1 z2 y2
  have f3_0 := K3.out.box.c0
  have f3_1 := K3.out.box.c1
  have f3_2 := K3.out.box.c2
  have f3_3 := K3.out.box.c3
  have g3_0 := K3.out.box2.c0
  have g3_1 := K3.out.box2.c1
  have z3 := K3.out.box.1
  have y3 := K3.out.box2.1
  go_wp2_with fail
  go_at_call 17
  refine (fit_any A1 A2 A3 A4 X1 X2 ps is xs os xc xi c1 c2 c3 c4 d1 d2 w.heap.size _ K3.out.le K3.out.prog.p K3.out.x1 K3.out.x2 (by have := HL4.out; omega) (by have := HL4.out; omega)).mono ?_
  rintro e w4 ⟨FA, fa, FB, fb, rfl, hFA, hFB, hcA, hcB, hb⟩
  have K4 := Lib.hid ((K3.out).next hb)
  have HFA := Lib.hid hcA
  have HFB := Lib.hid hcB
  have HFN := Lib.hid hFA
  clear hcA hcB hFA hFB
  clear hb
  clear f3_0 f3_1 f3_2 f3_3 g3_0 g3_1 z3 y3
  have f4_0 := K4.out.box.c0
  have f4_1 := K4.out.box.c1
  have f4_2 := K4.out.box.c2
  have f4_3 := K4.out.box.c3
  have g4_0 := K4.out.box2.c0
  have g4_1 := K4.out.box2.c1
  have z4 := K4.out.box.1
  have y4 := K4.out.box2.1
  obtain ⟨cF, oF, ov, lcF, loF, e0, m0, pS, pK, pO⟩ := keep_run xc xi HE.out
  have H_lcF := Lib.hid lcF
  have H_loF := Lib.hid loF
  have H_e0 := Lib.hid e0
  have H_m0 := Lib.hid m0
  have H_pS := Lib.hid pS
  have H_pK := Lib.hid pK
  have H_pO := Lib.hid pO
  clear lcF loF e0 m0 pS pK pO
  have ha := (Below.refl w4.heap.size w4).alloc (Nat.le_refl _) (.cells #[.slice FA (fitC xc is.length).length fa, .slice FB (fitI ps xi ps.length).length fb] 28)
  have FA4 := Lib.hid (HFA.out.below ha (Nat.le_refl _))
  have FB4 := Lib.hid (HFB.out.below ha (Nat.le_refl _))
  have Y4 := Lib.hid (BoxAt.new_ w4 [.slice FA (fitC xc is.length).length fa, .slice FB (fitI ps xi ps.length).length fb] 28)
  have K4' := Lib.hid (K4.out.alloc (.cells #[.slice FA (fitC xc is.length).length fa, .slice FB (fitI ps xi ps.length).length fb] 28))
  go_wp2_with fail
  go_at_call 12
  refine (run_any A1 A2 A3 A4 FA FB ps is xs os (fitC xc is.length) (fitI ps xi ps.length) c1 c2 c3 c4 fa fb w4.heap.size _ (by simp) (K4'.out.prog.p.more K4.out.le) (K4'.out.prog.i.more K4.out.le) (K4'.out.prog.x.more K4.out.le) (K4'.out.prog.o.more K4.out.le) FA4.out FB4.out HFN.out _ _ H_m0.out H_e0.out).mono ?_
  rintro e w5 ⟨WA, wa, WB, wb, rfl, hWn, hWm, hWA, hWB, hb, _, _⟩
  rw [errV_0]
  have hbb := hb.trans ((Below.refl _ w5).alloc (Nat.le_refl _) (.cells #[.slice WA cF.length wa, .slice WB oF.length wb, .bool ov] 32) |>.mono hb.size)
  have hal := (Below.refl w5.heap.size w5).alloc (Nat.le_refl _) (.cells #[.slice WA cF.length wa, .slice WB oF.length wb, .bool ov] 32)
  have K5 := Lib.hid (K4'.out.next hbb)
  have FA5 := Lib.hid (FA4.out.below hbb (by simp))
  have Y5 := Lib.hid (Y4.out.below hbb Y4.out.1)
  have WA5 := Lib.hid (hWA.below hal (Nat.le_refl _))
  have WB5 := Lib.hid (hWB.below hal (Nat.le_refl _))
  have S5 := Lib.hid (BoxAt.new_ w5 [.slice WA cF.length wa, .slice WB oF.length wb, .bool ov] 32)
  have hs45 := Lib.hid (show w4.heap.size < w5.heap.size by have := hb.size; simp at this; omega)
  clear f4_0 f4_1 f4_2 f4_3 g4_0 g4_1 z4 y4
  clear hbb hal hb hWA hWB hWn hWm ha
  have f5_0 := K5.out.box.c0
  have f5_1 := K5.out.box.c1
  have f5_2 := K5.out.box.c2
  have f5_3 := K5.out.box.c3
  have g5_0 := K5.out.box2.c0
  have g5_1 := K5.out.box2.c1
  have z5 := K5.out.box.1
  have y5 := K5.out.box2.1
  go_wp2_with fail
  go_at_call 22
  refine (writes_any A1 A2 A3 A4 ps is xs os c1 c2 c3 c4 w.heap.size _ K5.out.le K5.out.prog.p K5.out.prog.i K5.out.prog.x K5.out.prog.o).mono ?_
  rintro e w6 ⟨T, tc, rfl, hTn, hT, hb⟩
  rw [show writesM ps is xs os = wrTo xs is.length from if_pos HE.out] at hT
  rw [show writesM ps is xs os = wrTo xs is.length from if_pos HE.out, HE.out, errV_0]
  have hsz : w5.heap.size + 1 ≤ w6.heap.size := by have := hb.size; simp at this; omega
  have K6 := Lib.hid (K5.out.next hb)
  have hm1 : w.heap.size + 1 < w6.heap.size := K6.out.lt
  have KX := Lib.hid (Kx.mk (m := w6.heap.size) (b1 := w4.heap.size) (b2 := w5.heap.size) (V1 := [.slice FA (fitC xc is.length).length fa, .slice FB (fitI ps xi ps.length).length fb]) (V2 := [.slice WA cF.length wa, .slice WB oF.length wb, .bool ov]) (T := T) (FA := FA) (WA := WA) (WB := WB) (ws := wrTo xs is.length) (c0 := fitC xc is.length) (cF := cF) (oF := oF) K6.out (Y5.out.below hb Y5.out.1) (S5.out.below hb S5.out.1) hT ((FA5.out.below hb (by have := hs45.out; simp; omega)).more (by have := hs45.out; omega)) ((WA5.out.below hb (by simp)).more (by omega)) ((WB5.out.below hb (by simp)).more (by omega)) hm1 (by have := hs45.out; omega) (by omega) (Nat.le_refl _))
  clear f5_0 f5_1 f5_2 f5_3 g5_0 g5_1 z5 y5
  clear hb hT hTn hsz hm1 K5 K4 FA4 FB4 Y4 FA5 Y5 WA5 WB5 S5 K4'
  have hL := HL4.out
  have hpo := Lib.hid (pOk HE.out)
  obtain ⟨i0, hi, hz0, hz1, hz2⟩ := info_parts info_bool
  have e1 : ((cF.length : Int) != (is.length : Int)) = false := by have := H_lcF.out; simp; omega
  have e2 : ((oF.length : Int) != (os.length : Int)) = false := by have := H_loF.out; simp; omega
  have l2 : (is.length : Int) ≤ 192 := by have := hpo.out.l2; omega
  have hwl : (wrTo xs is.length).length ≤ is.length := wrTo_len _ _
  have hwl' : ((wrTo xs is.length).length : Int) ≤ 192 := by omega
  have hcl : (cF.length : Int) ≤ 192 := by have := H_lcF.out; omega
  have hol : (os.length : Int) ≤ 40 := by omega
  have kf0 := KX.out.cy.box.c0
  have kf1 := KX.out.cy.box.c1
  have kf2 := KX.out.cy.box.c2
  have kf3 := KX.out.cy.box.c3
  have kfz := KX.out.cy.box.1
  have ky0 := KX.out.y.c0
  have kyz := KX.out.y.1
  have ks0 := KX.out.s.c0
  have ks1 := KX.out.s.c1
  have ksz := KX.out.s.1
  go_wp2_with (with_reducible refine wpList_make_full _ rfl (.tmp 85) (.tmp 85) 62 rfl w6.heap.size 4 i0 (.bool false) 1 under_bools hi hz0 hz1 .i64 .i64 is.length is.length is.length rfl rfl rfl rfl (by rw [hz2]; omega) (by unfold maxLen; omega) (Nat.le_refl _) ?_; intro w7 hown hg; have hst := (Below.refl w6.heap.size w6).grown hg (Nat.le_refl _) (fun k h => by simp at h))
  obtain ⟨m, hmE⟩ : ∃ m, m = w6.heap.size := ⟨_, rfl⟩
  have KX7 := Lib.hid (KX.out.low hst)
  obtain ⟨g, hg1⟩ : ∃ g, g = w6.heap.size := ⟨_, rfl⟩
  have hown' : w7.ownsRow m 4 1 (.slice (some ⟨g, 0, none⟩) is.length is.length) is.length (madeCells (Value.bool false).cells (is.length * 1)).toList := by rw [hmE, hg1]; exact hown
  rw [← hg1]
  rw [← hmE] at KX7
  clear kf0 kf1 kf2 kf3 kfz ky0 kyz ks0 ks1 ksz
  clear hg1 hg hst hown hmE KX K6
  go_loopw [89] (fun i wr => kp1 (fun wr => Kx w wr m w4.heap.size w5.heap.size [.slice FA (fitC xc is.length).length fa, .slice FB (fitI ps xi ps.length).length fb] [.slice WA cF.length wa, .slice WB oF.length wb, .bool ov] T FA WA WB (wrTo xs is.length) (fitC xc is.length) cF oF [.slice A1 ps.length c1, .slice A2 is.length c2, .slice A3 xs.length c3, .slice A4 os.length c4] [.slice X1 xc.length d1, .slice X2 xi.length d2] A1 A2 A3 A4 X1 X2 ps is xs os xc xi) m g is.length (wrTo xs is.length) i wr) (fun i _ => (wrTo xs is.length).length - (intOf i).toNat)
  case atStart => exact ⟨0, Nat.zero_le _, rfl, by rw [List.take_zero, marksI_nil, ← toList_madeCells_one]; simpa [Value.cells] using hown', KX7.out⟩
  case round =>
    clear hown' KX7
    obtain ⟨k, hk, rfl, hown, hkx⟩ := hrel
    have HO := Lib.hid hown
    have HK := Lib.hid hkx
    clear hown hkx
    have hgm : m ≤ g ∧ g < wr.heap.size := World.ownsRow.lt HO.out g rfl
    have hgs := hgm.2
    by_cases hlt : k < (wrTo xs is.length).length
    · as_aux_lemma =>
      obtain ⟨b, off, z, rfl, hbm, hbs, hx, hc⟩ := HK.out.t.int_ hlt
      obtain ⟨d, rfl, hd⟩ := wrTo_range (List.mem_of_getElem? hx)
      have HX := Lib.hid hx
      clear hx
      have hd' : (d : Int) < (is.length : Int) := by omega
      have hd0 : decide ((d : Int) < 0) = false := decide_eq_false (by omega)
      have hd1 : decide ((is.length : Int) ≤ (d : Int)) = false := decide_eq_false (by omega)
      have f1 : ∀ j, wr.frozen? ⟨g, j, none⟩ = false := fun j => World.ownsRow.frozenAt HO.out j
      have f2 : wr.cell? ⟨g, d, none⟩ = some (.bool (decide ((d : Int) ∈ (wrTo xs is.length).take k))) := by rw [World.ownsRow.cellAt HO.out d (by omega), marksI_get hd]
      go_wp2_with fail
      exact ⟨⟨k + 1, by omega, by go_num, by rw [← marksI_set HX.out]; exact (World.ownsRow.stored HO.out d (.bool true)).1, HK.out.low ((Below.refl m wr).setCell (p := ⟨g, d, none⟩) hgm.1 _)⟩, by simp [intOf]; omega⟩
    · as_aux_lemma =>
      have HM := HO.out
      rw [List.take_of_length_le (by omega)] at HM
      have HO := Lib.hid HM
      clear HM
      have kf0 := HK.out.cy.box.c0
      have kf1 := HK.out.cy.box.c1
      have kf2 := HK.out.cy.box.c2
      have kf3 := HK.out.cy.box.c3
      have kfz := HK.out.cy.box.1
      have ky0 := HK.out.y.c0
      have kyz := HK.out.y.1
      have ks0 := HK.out.s.c0
      have ks1 := HK.out.s.c1
      have ksz := HK.out.s.1
      go_wp2_with fail
      obtain ⟨w8, hw8⟩ : ∃ w8, w8 = wr := ⟨_, rfl⟩
      rw [← hw8]
      rw [← hw8] at HO HK hgs kf0 kf1 kf2 kf3 kfz ky0 kyz ks0 ks1 ksz
      clear hw8 hlt hk hgm
      go_loopw [108] (fun i wr => kp2 w8 cF.length i wr) (fun i _ => cF.length - (intOf i).toNat)
      case atStart => exact ⟨0, Nat.zero_le _, rfl, rfl⟩
      case round =>
        obtain ⟨k, hk, rfl, rfl⟩ := hrel
        by_cases hlt : k < cF.length
        · as_aux_lemma =>
          obtain ⟨b, off, z, rfl, hbm, hbs, hx, hc⟩ := HK.out.wa.int_ hlt
          have bz := shortB_t (H_pS.out z (List.mem_of_getElem? hx))
          have hkl : k < is.length := by have := H_lcF.out; omega
          have hkl' : (k : Int) < (is.length : Int) := by omega
          have hb0 : decide (z < -2147483648) = false := decide_eq_false (by omega)
          have hb1 : decide (2147483648 ≤ z) = false := decide_eq_false (by omega)
          have f2 := World.ownsRow.cellAt HO.out k (by omega)
          rw [marksI_get hkl] at f2
          by_cases hm : (k : Int) ∈ wrTo xs is.length
          · rw [decide_eq_true hm] at f2
            clear hm hx
            go_wp2_with fail
            exact ⟨⟨k + 1, by omega, by go_num, rfl⟩, by simp [intOf]; omega⟩
          · rw [decide_eq_false hm] at f2
            have hkc : k < (fitC xc is.length).length := by rw [fitC_len]; exact hkl
            have hkc' : (k : Int) < ((fitC xc is.length).length : Int) := by omega
            obtain ⟨b2, off2, z2, rfl, hbm2, hbs2, hx2, hc2⟩ := HK.out.fa.int_ hkc
            have hzz : z2 = z := by
              have := H_pK.out k hkl hm
              rw [hx, hx2] at this
              simpa using this.symm
            subst hzz
            have hne : (z2 != z2) = false := by simp
            clear hm hx hx2
            go_wp2_with fail
            exact ⟨⟨k + 1, by omega, by go_num, rfl⟩, by simp [intOf]; omega⟩
        · as_aux_lemma =>
          go_wp2_with fail
          clear hlt hk
          go_loopw [139] (fun i wr => kp3 w8 os.length i wr) (fun i _ => os.length - (intOf i).toNat)
          case atStart => exact ⟨0, 0, Nat.zero_le _, rfl, rfl⟩
          case round =>
            obtain ⟨k, nq, hk, rfl, rfl⟩ := hrel
            by_cases hlt : k < os.length
            · as_aux_lemma =>
              obtain ⟨b, off, z, rfl, hbm, hbs, hx, hc⟩ := HK.out.cy.prog.o.int_ hlt
              obtain ⟨q0, q1⟩ := hpo.out.out z (List.mem_of_getElem? hx)
              obtain ⟨o, ho⟩ := Int.eq_ofNat_of_zero_le q0
              have ho1 : o < cF.length := by have := H_lcF.out; omega
              have ho2 : (o : Int) < (cF.length : Int) := by omega
              have hO := H_pO.out k z hx
              rw [ho] at hO hc
              have hkl : k < oF.length := by have := H_loF.out; omega
              have hkl' : (k : Int) < (oF.length : Int) := by omega
              obtain ⟨b2, off2, z2, rfl, hbm2, hbs2, hx2, hc2⟩ := HK.out.wb.int_ hkl
              obtain ⟨b3, off3, z3, rfl, hbm3, hbs3, hx3, hc3⟩ := HK.out.wa.int_ ho1
              have hzz : z2 = z3 := by
                rw [hx2] at hO
                simp [hx3] at hO
                exact hO
              subst hzz
              have hne : (z2 != z2) = false := by simp
              clear q0 q1 ho hO hx hx2 hx3 ho1 hkl
              go_wp2_with fail
              go_quiet (fail)
              go_wp2_with fail
              exact ⟨⟨k + 1, _, by omega, by go_num, rfl⟩, by simp [intOf]; omega⟩
            · go_wp2_with fail
              go_ret
              exact ⟨rfl, below_drewN HK.out.cy.bel _⟩
theorem codeKeeps_walk (A1 A2 A3 A4 X1 X2 : Option Addr) (ps : List Prt) (is : List Int) (xs : List Ins) (os xc xi : List Int) (c1 c2 c3 c4 d1 d2 : Nat) (w : World) (hp : PAt w w.heap.size A1 A2 A3 A4 ps is xs os) (hx1 : CellsAt w w.heap.size X1 (ints xc)) (hx2 : CellsAt w w.heap.size X2 (ints xi))  : Calls Try.prog 8 #[.agg #[.slice A1 ps.length c1, .slice A2 is.length c2, .slice A3 xs.length c3, .slice A4 os.length c4], .agg #[.slice X1 xc.length d1, .slice X2 xi.length d2]] w fun e w' => e = .returned (.bool true) ∧ Below w.heap.size w w' := by
  cases hl : lightB ps is xs os with
  | false => exact keeps_heavy A1 A2 A3 A4 X1 X2 ps is xs os xc xi c1 c2 c3 c4 d1 d2 w hp hx1 hx2  hl
  | true =>
    by_cases h1 : xc.length ≤ 300
    · by_cases h2 : xi.length ≤ 60
      · by_cases he : progErr ps is xs os = 0
        · exact keeps_good A1 A2 A3 A4 X1 X2 ps is xs os xc xi c1 c2 c3 c4 d1 d2 w hp hx1 hx2  hl h1 h2 he
        · exact keeps_bad A1 A2 A3 A4 X1 X2 ps is xs os xc xi c1 c2 c3 c4 d1 d2 w hp hx1 hx2  hl h1 h2 he
      · exact keeps_ins A1 A2 A3 A4 X1 X2 ps is xs os xc xi c1 c2 c3 c4 d1 d2 w hp hx1 hx2  hl h1 (by omega)
    · exact keeps_cells A1 A2 A3 A4 X1 X2 ps is xs os xc xi c1 c2 c3 c4 d1 d2 w hp hx1 hx2  hl (by omega)

set_option maxRecDepth 100000 in
theorem codeKeeps_lifted (os : Os) (started : os.Started) (H : Type) (enc : TypeId × Value → H) :
    ReturnsInHanded {} Try.checked os 8 .any (Rows.codeKeepsSpec.pre6 enc Try.prog Try.f8 Rows.codeKeepsRow.domain false) (Rows.codeKeepsSpec.post enc Try.prog Try.f8 false true false false) := by
  refine law_lift (C := Try.checked) (T := 4) own started (by kernel_rfl) Try.func8
    (ChangeSpec.witness6 (enc := enc) (C := Try.checked) false ⟨#[], #[.agg #[.slice none 0 0, .slice none 0 0, .slice none 0 0, .slice none 0 0], .agg #[.slice none 0 0, .slice none 0 0]], []⟩ 8 (by kernel_rfl) (by kernel_rfl) (by kernel_rfl) (by kernel_rfl))
    laidOut (by kernel_rfl) rfl Try.underlying4 (by kernel_rfl) ?_ ?_
  · intro ds h
    match ds, h with
    | [d1, d2], _ => exact ⟨rfl, rfl, rfl⟩
  · intro W base args ds p hval0 hA0 _ hsz0
    have hval : ∀ (j : Nat) t v, Try.f8.params[j]? = some t → args[j]? = some v → Value.okWide Try.prog W .any base t v := hval0
    have hA : DataW.TrodAll enc Try.prog W 0 (fun _ => true) true Try.f8.params.toList args.toList ds p := hA0
    clear hsz0
    rw [Try.params8] at hA hval
    obtain ⟨v0, vs0, d0, ds0, p0, q0, hargs, rfl, rfl, h0, r0⟩ := trodAll_cons hA
    obtain ⟨v1, vs1, d1, ds1, p1, q1, rfl, rfl, rfl, h1, r1⟩ := trodAll_cons r0
    obtain ⟨rfl, rfl, rfl⟩ := trodAll_nil r1
    obtain rfl : args = #[v0, v1] := by cases args; simp_all
    obtain ⟨A1, A2, A3, A4, ps, is, xs, os, c1, c2, c3, c4, rfl, hn, hp, _⟩ := open_prog (hval 0 26 v0 rfl rfl) h0
    obtain ⟨X1, X2, xc, xi, e1, e2, rfl, _, hx1, hx2, _⟩ := open_load (hval 1 28 v1 rfl rfl) h1
    exact codeKeeps_walk A1 A2 A3 A4 X1 X2 ps is xs os xc xi c1 c2 c3 c4 e1 e2 W hp hx1 hx2

theorem codeKeeps_over : Rows.codeKeepsRow.holds Try.pinned (OpenSpec.ofChange Rows.codeKeepsSpec) :=
  OpenClaim.holds_of_wide 8 Try.f8 rfl rfl rfl rfl rfl rfl rfl ⟨rfl, rfl, rfl, rfl, rfl⟩ rfl rfl rfl rfl rfl (by kernel_rfl) Try.func8 (by kernel_rfl)
    (of_decide_eq_true (by kernel_rfl)) (by unfold Func.isWrapper; first | (rw [if_pos (by decide +kernel)]; kernel_rfl) | (rw [if_neg (by decide +kernel)]; exact ⟨rfl, rfl⟩))
    (fun os started H enc _ => codeKeeps_lifted os started H enc)

theorem codeKeeps_holds : Rows.CodeKeepsSaid := codeKeeps_over
#print axioms codeKeeps_holds

end Go.Proofs.Ytdhlmbnmgioeeaa
