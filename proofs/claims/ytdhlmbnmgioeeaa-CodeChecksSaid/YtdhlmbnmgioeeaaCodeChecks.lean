/- CodeChecks: for every program the law returns true: its first error, and that all functions return it; its first cells, the cells that it writes. No conditions. -/
import Derived.Test.YtdhlmbnmgioeeaaCdR
namespace Go.Proofs.Ytdhlmbnmgioeeaa
set_option linter.unusedVariables false
set_option linter.unusedSimpArgs false
set_option linter.unusedSectionVars false
open Go.ChangeShapes Go.WideShapes Go.ChangeAt Go.RowKit Go.Joins

set_option maxRecDepth 100000 in
set_option maxHeartbeats 4000000 in
theorem checks_heavy (A1 A2 A3 A4 : Option Addr) (ps : List Prt) (is : List Int) (xs : List Ins) (os : List Int) (c1 c2 c3 c4 : Nat) (w : World) (hn : A2 = none → c2 = 0) (hp : PAt w w.heap.size A1 A2 A3 A4 ps is xs os) (hl : lightB ps is xs os = false) : Calls Try.prog 9 #[.agg #[.slice A1 ps.length c1, .slice A2 is.length c2, .slice A3 xs.length c3, .slice A4 os.length c4]] w fun e w' => e = .returned (.bool true) ∧ Below w.heap.size w w' := by
  have HP := Lib.hid hp
  have HN := Lib.hid hn
  clear hp hn
  have HL := Lib.hid hl
  clear hl
  have X0 := Lib.hid (Cx.start HP.out [.slice A1 ps.length c1, .slice A2 is.length c2, .slice A3 xs.length c3, .slice A4 os.length c4] 26)
  have f0_0 := X0.out.box.c0
  have f0_1 := X0.out.box.c1
  have f0_2 := X0.out.box.c2
  have f0_3 := X0.out.box.c3
  have z0 := X0.out.box.1
  go_enter Try.func9, Try.ntmps9
  go_wp2_with fail
  go_at_call 10
  refine (awake_any _).mono ?_
  rintro e w1 ⟨rfl, hb⟩
  have X1 := Lib.hid ((X0.out).next hb)
  clear hb
  clear f0_0 f0_1 f0_2 f0_3 z0
  have f1_0 := X1.out.box.c0
  have f1_1 := X1.out.box.c1
  have f1_2 := X1.out.box.c2
  have f1_3 := X1.out.box.c3
  have z1 := X1.out.box.1
  go_wp2_with fail
  go_at_call 11
  refine (light_any A1 A2 A3 A4 ps is xs os c1 c2 c3 c4 _).mono ?_
  rintro e w2 ⟨rfl, hb⟩
  have X2 := Lib.hid ((X1.out).next hb)
  rw [HL.out]
  clear hb
  clear f1_0 f1_1 f1_2 f1_3 z1
  have f2_0 := X2.out.box.c0
  have f2_1 := X2.out.box.c1
  have f2_2 := X2.out.box.c2
  have f2_3 := X2.out.box.c3
  have z2 := X2.out.box.1
  go_wp2_with fail
  go_at_call 10
  refine (awake_any _).mono ?_
  rintro e w3 ⟨rfl, hb⟩
  have X3 := Lib.hid ((X2.out).next hb)
  clear hb
  clear f2_0 f2_1 f2_2 f2_3 z2
  have f3_0 := X3.out.box.c0
  have f3_1 := X3.out.box.c1
  have f3_2 := X3.out.box.c2
  have f3_3 := X3.out.box.c3
  have z3 := X3.out.box.1
  go_wp2_with fail
  go_ret
  exact ⟨rfl, X3.out.bel⟩
set_option maxRecDepth 100000 in
set_option maxHeartbeats 4000000 in
theorem checks_ok (A1 A2 A3 A4 : Option Addr) (ps : List Prt) (is : List Int) (xs : List Ins) (os : List Int) (c1 c2 c3 c4 : Nat) (w : World) (hn : A2 = none → c2 = 0) (hp : PAt w w.heap.size A1 A2 A3 A4 ps is xs os) (hl : lightB ps is xs os = true) (he : progErr ps is xs os = 0) : Calls Try.prog 9 #[.agg #[.slice A1 ps.length c1, .slice A2 is.length c2, .slice A3 xs.length c3, .slice A4 os.length c4]] w fun e w' => e = .returned (.bool true) ∧ Below w.heap.size w w' := by
  have HP := Lib.hid hp
  have HN := Lib.hid hn
  clear hp hn
  have HL := Lib.hid hl
  have HE := Lib.hid he
  have hl4 := hl
  simp only [lightB, decide_eq_true_eq] at hl4
  have HL4 := Lib.hid hl4
  clear hl he hl4
  have X0 := Lib.hid (Cx.start HP.out [.slice A1 ps.length c1, .slice A2 is.length c2, .slice A3 xs.length c3, .slice A4 os.length c4] 26)
  have f0_0 := X0.out.box.c0
  have f0_1 := X0.out.box.c1
  have f0_2 := X0.out.box.c2
  have f0_3 := X0.out.box.c3
  have z0 := X0.out.box.1
  go_enter Try.func9, Try.ntmps9
  go_wp2_with fail
  go_at_call 10
  refine (awake_any _).mono ?_
  rintro e w1 ⟨rfl, hb⟩
  have X1 := Lib.hid ((X0.out).next hb)
  clear hb
  clear f0_0 f0_1 f0_2 f0_3 z0
  have f1_0 := X1.out.box.c0
  have f1_1 := X1.out.box.c1
  have f1_2 := X1.out.box.c2
  have f1_3 := X1.out.box.c3
  have z1 := X1.out.box.1
  go_wp2_with fail
  go_at_call 11
  refine (light_any A1 A2 A3 A4 ps is xs os c1 c2 c3 c4 _).mono ?_
  rintro e w2 ⟨rfl, hb⟩
  have X2 := Lib.hid ((X1.out).next hb)
  rw [HL.out]
  clear hb
  clear f1_0 f1_1 f1_2 f1_3 z1
  have f2_0 := X2.out.box.c0
  have f2_1 := X2.out.box.c1
  have f2_2 := X2.out.box.c2
  have f2_3 := X2.out.box.c3
  have z2 := X2.out.box.1
  go_wp2_with fail
  go_at_call 13
  refine (rCheck_any A1 A2 A3 A4 ps is xs os c1 c2 c3 c4 w.heap.size _ X2.out.le X2.out.prog.p X2.out.prog.i X2.out.prog.x X2.out.prog.o).mono ?_
  rintro e w3 ⟨rfl, hb⟩
  have X3 := Lib.hid ((X2.out).next hb)
  rw [HE.out]
  clear hb
  clear f2_0 f2_1 f2_2 f2_3 z2
  have f3_0 := X3.out.box.c0
  have f3_1 := X3.out.box.c1
  have f3_2 := X3.out.box.c2
  have f3_3 := X3.out.box.c3
  have z3 := X3.out.box.1
  go_wp2_with fail
  go_at_call 19
  refine (start_any A1 A2 A3 A4 ps is xs os c1 c2 c3 c4 w.heap.size _ X3.out.le X3.out.prog.p X3.out.prog.i X3.out.prog.x X3.out.prog.o HN.out).mono ?_
  rintro e w4 ⟨S, sc, rfl, hSn, hS, hb⟩
  have X4 := Lib.hid ((X3.out).next hb)
  rw [(show startM ps is xs os = is from if_pos HE.out)] at hS
  have HS := Lib.hid hS
  clear hS
  rw [(show startM ps is xs os = is from if_pos HE.out)]
  rw [HE.out, errV_0]
  clear hb
  clear f3_0 f3_1 f3_2 f3_3 z3
  have f4_0 := X4.out.box.c0
  have f4_1 := X4.out.box.c1
  have f4_2 := X4.out.box.c2
  have f4_3 := X4.out.box.c3
  have z4 := X4.out.box.1
  go_wp2_with fail
  go_at_call 22
  refine (writes_any A1 A2 A3 A4 ps is xs os c1 c2 c3 c4 w.heap.size _ X4.out.le X4.out.prog.p X4.out.prog.i X4.out.prog.x X4.out.prog.o).mono ?_
  rintro e w5 ⟨T, tc, rfl, hTn, hT, hb⟩
  have HZ5 := Lib.hid hb.size
  have X5 := Lib.hid ((X4.out).next hb)
  rw [(show writesM ps is xs os = wrTo xs is.length from if_pos HE.out)] at hT
  have HT := Lib.hid hT
  clear hT
  have HS := Lib.hid (HS.out.below hb (Nat.le_refl _))
  rw [(show writesM ps is xs os = wrTo xs is.length from if_pos HE.out)]
  rw [HE.out, errV_0]
  clear hb
  clear f4_0 f4_1 f4_2 f4_3 z4
  have f5_0 := X5.out.box.c0
  have f5_1 := X5.out.box.c1
  have f5_2 := X5.out.box.c2
  have f5_3 := X5.out.box.c3
  have z5 := X5.out.box.1
  go_wp2_with fail
  go_at_call 12
  refine (run_any A1 A2 A3 A4 A2 none ps is xs os is [] c1 c2 c3 c4 c2 0 w.heap.size _ X5.out.le X5.out.prog.p X5.out.prog.i X5.out.prog.x X5.out.prog.o X5.out.prog.i CellsAt.nil_ HN.out _ _ rfl rfl).mono ?_
  rintro e w6 ⟨RA, ra, RB, rb, rfl, hRn, hRm, hRA, hRB, hb, _, _⟩
  have X6 := Lib.hid ((X5.out).next hb)
  have HS := Lib.hid (HS.out.below hb HZ5.out)
  have HT := Lib.hid (HT.out.below hb (Nat.le_refl _))
  have HRA := Lib.hid hRA
  have HRB := Lib.hid hRB
  clear hRA hRB
  have hbz := hb.size
  have HZ6 := Lib.hid (Nat.le_trans HZ5.out hbz)
  have HZ6' := Lib.hid hbz
  clear hbz
  clear hb
  clear f5_0 f5_1 f5_2 f5_3 z5
  have f6_0 := X6.out.box.c0
  have f6_1 := X6.out.box.c1
  have f6_2 := X6.out.box.c2
  have f6_3 := X6.out.box.c3
  have z6 := X6.out.box.1
  obtain ⟨EV, hEV⟩ : ∃ EV, EV = errV (runErr ps is xs os is []) := ⟨_, rfl⟩
  rw [← hEV]
  clear hEV
  obtain ⟨OV, hOV⟩ : ∃ OV, OV = (runM ps is xs os is []).over := ⟨_, rfl⟩
  rw [← hOV]
  clear hOV
  obtain ⟨la, hla⟩ : ∃ la, la = (runM ps is xs os is []).cells.length := ⟨_, rfl⟩
  rw [← hla]
  clear hla
  obtain ⟨lb, hlb⟩ : ∃ lb, lb = (runM ps is xs os is []).outs.length := ⟨_, rfl⟩
  rw [← hlb]
  clear hlb
  have bx := BoxAt.new_ w6 [.slice RA la ra, .slice RB lb rb, .bool OV] 32
  have HBX := Lib.hid bx
  clear bx
  go_wp2_with fail
  go_at_call 23
  refine (Check_any A1 A2 A3 A4 ps is xs os c1 c2 c3 c4 w.heap.size _ (X6.out.alloc (.cells #[.slice RA la ra, .slice RB lb rb, .bool OV] 32)).le (X6.out.alloc (.cells #[.slice RA la ra, .slice RB lb rb, .bool OV] 32)).prog.p (X6.out.alloc (.cells #[.slice RA la ra, .slice RB lb rb, .bool OV] 32)).prog.i (X6.out.alloc (.cells #[.slice RA la ra, .slice RB lb rb, .bool OV] 32)).prog.x (X6.out.alloc (.cells #[.slice RA la ra, .slice RB lb rb, .bool OV] 32)).prog.o).mono ?_
  rintro e w7 ⟨rfl, hb⟩
  have X7 := Lib.hid ((X6.out.alloc (.cells #[.slice RA la ra, .slice RB lb rb, .bool OV] 32)).next hb)
  rw [HE.out, errV_0]
  have HBX := Lib.hid (HBX.out.below hb HBX.out.1)
  have HB67 := Lib.hid (((Below.refl w6.heap.size w6).alloc (Nat.le_refl _) _).trans (hb.mono (by simp)))
  clear hb
  clear f6_0 f6_1 f6_2 f6_3 z6
  have f7_0 := X7.out.box.c0
  have f7_1 := X7.out.box.c1
  have f7_2 := X7.out.box.c2
  have f7_3 := X7.out.box.c3
  have z7 := X7.out.box.1
  go_wp2_with fail
  go_at_call 14
  refine (num_any 0 _).mono ?_
  rintro e w8 ⟨rfl, rfl⟩
  go_wp2_with fail
  go_at_call 14
  refine (num_any 0 _).mono ?_
  rintro e w8 ⟨rfl, rfl⟩
  go_wp2_with fail
  go_at_call 14
  refine (num_any 0 _).mono ?_
  rintro e w8 ⟨rfl, rfl⟩
  go_wp2_with fail
  go_at_call 18
  refine (ints_any S A2 is is sc c2 w7.heap.size _ ((HS.out.below HB67.out HZ6.out).more (Nat.le_trans HZ6.out HB67.out.size)) (X7.out.prog.i.more X7.out.le) (by have := HL4.out; omega) (by have := HL4.out; omega)).mono ?_
  rintro e w9 ⟨rfl, hb⟩
  have e5 : intsB is is = true := by simp [intsB]
  rw [e5]
  have X9 := Lib.hid (X7.out.next hb)
  have HT := Lib.hid ((HT.out.below HB67.out HZ6'.out).below hb (Nat.le_trans HZ6'.out HB67.out.size))
  have HZ9 := Lib.hid (Nat.le_trans HZ6'.out (Nat.le_trans HB67.out.size hb.size))
  clear hb
  clear f7_0 f7_1 f7_2 f7_3 z7
  have f9_0 := X9.out.box.c0
  have f9_1 := X9.out.box.c1
  have f9_2 := X9.out.box.c2
  have f9_3 := X9.out.box.c3
  have z9 := X9.out.box.1
  have hpo := pOk HE.out
  go_wp2_with fail
  go_at_call 24
  refine (rwrites_any A1 A2 A3 A4 ps is xs os c1 c2 c3 c4 w.heap.size _ X9.out.le X9.out.prog.x hpo.l2 hpo.l3).mono ?_
  rintro e w10 ⟨Y, yc, rfl, hYn, hY, hb⟩
  have X10 := Lib.hid (X9.out.next hb)
  have HT := Lib.hid (HT.out.below hb HZ9.out)
  have HZ10 := Lib.hid (Nat.le_trans HZ9.out hb.size)
  have HY := Lib.hid hY
  clear hY hb
  have hlw := wrTo_len xs is.length
  go_wp2_with fail
  go_at_call 18
  refine (ints_any T Y (wrTo xs is.length) (wrTo xs is.length) tc yc w10.heap.size _ (HT.out.more HZ10.out) HY.out (by have := hpo.l2; omega) (by have := hpo.l2; omega)).mono ?_
  rintro e w11 ⟨rfl, hb⟩
  have e6 : intsB (wrTo xs is.length) (wrTo xs is.length) = true := by simp [intsB]
  rw [e6]
  have X11 := Lib.hid (X10.out.next hb)
  go_wp2_with fail
  go_ret
  exact ⟨rfl, X11.out.bel⟩
set_option maxRecDepth 100000 in
set_option maxHeartbeats 4000000 in
theorem checks_bad (A1 A2 A3 A4 : Option Addr) (ps : List Prt) (is : List Int) (xs : List Ins) (os : List Int) (c1 c2 c3 c4 : Nat) (w : World) (hn : A2 = none → c2 = 0) (hp : PAt w w.heap.size A1 A2 A3 A4 ps is xs os) (hl : lightB ps is xs os = true) (he : progErr ps is xs os ≠ 0) : Calls Try.prog 9 #[.agg #[.slice A1 ps.length c1, .slice A2 is.length c2, .slice A3 xs.length c3, .slice A4 os.length c4]] w fun e w' => e = .returned (.bool true) ∧ Below w.heap.size w w' := by
  have HP := Lib.hid hp
  have HN := Lib.hid hn
  clear hp hn
  have HL := Lib.hid hl
  have HE := Lib.hid he
  have hl4 := hl
  simp only [lightB, decide_eq_true_eq] at hl4
  have HL4 := Lib.hid hl4
  clear hl he hl4
  obtain ⟨n, hnE⟩ : ∃ n, n = progErr ps is xs os := ⟨_, rfl⟩
  have HNE := Lib.hid hnE
  have e0 : (n != n) = false := by simp
  have e1 : (n != 0) = true := by have := HE.out; rw [← hnE] at this; simpa using this
  clear hnE
  have X0 := Lib.hid (Cx.start HP.out [.slice A1 ps.length c1, .slice A2 is.length c2, .slice A3 xs.length c3, .slice A4 os.length c4] 26)
  have f0_0 := X0.out.box.c0
  have f0_1 := X0.out.box.c1
  have f0_2 := X0.out.box.c2
  have f0_3 := X0.out.box.c3
  have z0 := X0.out.box.1
  go_enter Try.func9, Try.ntmps9
  go_wp2_with fail
  go_at_call 10
  refine (awake_any _).mono ?_
  rintro e w1 ⟨rfl, hb⟩
  have X1 := Lib.hid ((X0.out).next hb)
  clear hb
  clear f0_0 f0_1 f0_2 f0_3 z0
  have f1_0 := X1.out.box.c0
  have f1_1 := X1.out.box.c1
  have f1_2 := X1.out.box.c2
  have f1_3 := X1.out.box.c3
  have z1 := X1.out.box.1
  go_wp2_with fail
  go_at_call 11
  refine (light_any A1 A2 A3 A4 ps is xs os c1 c2 c3 c4 _).mono ?_
  rintro e w2 ⟨rfl, hb⟩
  have X2 := Lib.hid ((X1.out).next hb)
  rw [HL.out]
  clear hb
  clear f1_0 f1_1 f1_2 f1_3 z1
  have f2_0 := X2.out.box.c0
  have f2_1 := X2.out.box.c1
  have f2_2 := X2.out.box.c2
  have f2_3 := X2.out.box.c3
  have z2 := X2.out.box.1
  go_wp2_with fail
  go_at_call 13
  refine (rCheck_any A1 A2 A3 A4 ps is xs os c1 c2 c3 c4 w.heap.size _ X2.out.le X2.out.prog.p X2.out.prog.i X2.out.prog.x X2.out.prog.o).mono ?_
  rintro e w3 ⟨rfl, hb⟩
  have X3 := Lib.hid ((X2.out).next hb)
  rw [← HNE.out]
  clear hb
  clear f2_0 f2_1 f2_2 f2_3 z2
  have f3_0 := X3.out.box.c0
  have f3_1 := X3.out.box.c1
  have f3_2 := X3.out.box.c2
  have f3_3 := X3.out.box.c3
  have z3 := X3.out.box.1
  go_wp2_with fail
  go_at_call 19
  refine (start_any A1 A2 A3 A4 ps is xs os c1 c2 c3 c4 w.heap.size _ X3.out.le X3.out.prog.p X3.out.prog.i X3.out.prog.x X3.out.prog.o HN.out).mono ?_
  rintro e w4 ⟨S, sc, rfl, hSn, hS, hb⟩
  have X4 := Lib.hid ((X3.out).next hb)
  rw [(show startM ps is xs os = [] from if_neg HE.out)] at hS
  have HS := Lib.hid hS
  clear hS
  rw [(show startM ps is xs os = [] from if_neg HE.out)]
  rw [← HNE.out]
  clear hb
  clear f3_0 f3_1 f3_2 f3_3 z3
  have f4_0 := X4.out.box.c0
  have f4_1 := X4.out.box.c1
  have f4_2 := X4.out.box.c2
  have f4_3 := X4.out.box.c3
  have z4 := X4.out.box.1
  go_wp2_with fail
  go_at_call 22
  refine (writes_any A1 A2 A3 A4 ps is xs os c1 c2 c3 c4 w.heap.size _ X4.out.le X4.out.prog.p X4.out.prog.i X4.out.prog.x X4.out.prog.o).mono ?_
  rintro e w5 ⟨T, tc, rfl, hTn, hT, hb⟩
  have HZ5 := Lib.hid hb.size
  have X5 := Lib.hid ((X4.out).next hb)
  rw [(show writesM ps is xs os = [] from if_neg HE.out)] at hT
  have HT := Lib.hid hT
  clear hT
  have HS := Lib.hid (HS.out.below hb (Nat.le_refl _))
  rw [(show writesM ps is xs os = [] from if_neg HE.out)]
  rw [← HNE.out]
  clear hb
  clear f4_0 f4_1 f4_2 f4_3 z4
  have f5_0 := X5.out.box.c0
  have f5_1 := X5.out.box.c1
  have f5_2 := X5.out.box.c2
  have f5_3 := X5.out.box.c3
  have z5 := X5.out.box.1
  go_wp2_with fail
  go_at_call 12
  refine (run_any A1 A2 A3 A4 A2 none ps is xs os is [] c1 c2 c3 c4 c2 0 w.heap.size _ X5.out.le X5.out.prog.p X5.out.prog.i X5.out.prog.x X5.out.prog.o X5.out.prog.i CellsAt.nil_ HN.out .zero n (runM_err (e := n) ((runErr_prog HE.out).trans HNE.out.symm) (by rw [HNE.out]; exact HE.out)) ((runErr_prog HE.out).trans HNE.out.symm)).mono ?_
  rintro e w6 ⟨RA, ra, RB, rb, rfl, hRn, hRm, hRA, hRB, hb, _, _⟩
  have X6 := Lib.hid ((X5.out).next hb)
  have HS := Lib.hid (HS.out.below hb HZ5.out)
  have HT := Lib.hid (HT.out.below hb (Nat.le_refl _))
  have HRA := Lib.hid hRA
  have HRB := Lib.hid hRB
  clear hRA hRB
  have hbz := hb.size
  have HZ6 := Lib.hid (Nat.le_trans HZ5.out hbz)
  have HZ6' := Lib.hid hbz
  clear hbz
  clear hb
  clear f5_0 f5_1 f5_2 f5_3 z5
  have f6_0 := X6.out.box.c0
  have f6_1 := X6.out.box.c1
  have f6_2 := X6.out.box.c2
  have f6_3 := X6.out.box.c3
  have z6 := X6.out.box.1
  have bx := BoxAt.new_ w6 [.slice RA 0 ra, .slice RB 0 rb, .bool false] 32
  have HBX := Lib.hid bx
  clear bx
  go_wp2_with fail
  go_at_call 23
  refine (Check_any A1 A2 A3 A4 ps is xs os c1 c2 c3 c4 w.heap.size _ (X6.out.alloc (.cells #[.slice RA 0 ra, .slice RB 0 rb, .bool false] 32)).le (X6.out.alloc (.cells #[.slice RA 0 ra, .slice RB 0 rb, .bool false] 32)).prog.p (X6.out.alloc (.cells #[.slice RA 0 ra, .slice RB 0 rb, .bool false] 32)).prog.i (X6.out.alloc (.cells #[.slice RA 0 ra, .slice RB 0 rb, .bool false] 32)).prog.x (X6.out.alloc (.cells #[.slice RA 0 ra, .slice RB 0 rb, .bool false] 32)).prog.o).mono ?_
  rintro e w7 ⟨rfl, hb⟩
  have X7 := Lib.hid ((X6.out.alloc (.cells #[.slice RA 0 ra, .slice RB 0 rb, .bool false] 32)).next hb)
  rw [← HNE.out]
  have HBX := Lib.hid (HBX.out.below hb HBX.out.1)
  have HB67 := Lib.hid (((Below.refl w6.heap.size w6).alloc (Nat.le_refl _) _).trans (hb.mono (by simp)))
  clear hb
  clear f6_0 f6_1 f6_2 f6_3 z6
  have f7_0 := X7.out.box.c0
  have f7_1 := X7.out.box.c1
  have f7_2 := X7.out.box.c2
  have f7_3 := X7.out.box.c3
  have z7 := X7.out.box.1
  go_wp2_with fail
  go_at_call 14
  refine (num_any n _).mono ?_
  rintro e w8 ⟨rfl, rfl⟩
  go_wp2_with fail
  go_at_call 14
  refine (num_any n _).mono ?_
  rintro e w8 ⟨rfl, rfl⟩
  go_wp2_with fail
  go_at_call 14
  refine (num_any n _).mono ?_
  rintro e w8 ⟨rfl, rfl⟩
  go_wp2_with fail
  go_at_call 14
  refine (num_any n _).mono ?_
  rintro e w8 ⟨rfl, rfl⟩
  have r0 := HBX.out.c0
  have r1 := HBX.out.c1
  have r2 := HBX.out.c2
  have rz := HBX.out.1
  go_wp2_with fail
  go_at_call 15
  refine (same_any RA RB none none .zero .zero ra rb 0 0 w7.heap.size _ (by simp) (HRA.out.below HB67.out (Nat.le_refl _) |>.more HB67.out.size) (HRB.out.below HB67.out (Nat.le_refl _) |>.more HB67.out.size) CellsAt.nil_ CellsAt.nil_ (by decide) (by decide) (by decide) (by decide)).mono ?_
  rintro e w9 ⟨rfl, hb⟩
  have e5 : sameB .zero .zero = true := by decide
  rw [e5]
  have X9 := Lib.hid (X7.out.next hb)
  go_wp2_with fail
  go_ret
  exact ⟨rfl, X9.out.bel⟩
theorem codeChecks_walk (A1 A2 A3 A4 : Option Addr) (ps : List Prt) (is : List Int) (xs : List Ins) (os : List Int) (c1 c2 c3 c4 : Nat) (w : World) (hn : A2 = none → c2 = 0) (hp : PAt w w.heap.size A1 A2 A3 A4 ps is xs os) : Calls Try.prog 9 #[.agg #[.slice A1 ps.length c1, .slice A2 is.length c2, .slice A3 xs.length c3, .slice A4 os.length c4]] w fun e w' => e = .returned (.bool true) ∧ Below w.heap.size w w' := by
  cases hl : lightB ps is xs os with
  | false => exact checks_heavy A1 A2 A3 A4 ps is xs os c1 c2 c3 c4 w hn hp hl
  | true =>
    by_cases he : progErr ps is xs os = 0
    · exact checks_ok A1 A2 A3 A4 ps is xs os c1 c2 c3 c4 w hn hp hl he
    · exact checks_bad A1 A2 A3 A4 ps is xs os c1 c2 c3 c4 w hn hp hl he
set_option maxRecDepth 100000 in
theorem codeChecks_lifted (os : Os) (started : os.Started) (H : Type) (enc : TypeId × Value → H) :
    ReturnsInHanded {} Try.checked os 9 .any (Rows.codeChecksSpec.pre6 enc Try.prog Try.f9 Rows.codeChecksRow.domain false) (Rows.codeChecksSpec.post enc Try.prog Try.f9 false true false false) := by
  refine law_lift (C := Try.checked) (T := 4) own started (by kernel_rfl) Try.func9
    (ChangeSpec.witness6 (enc := enc) (C := Try.checked) false ⟨#[], #[.agg #[.slice none 0 0, .slice none 0 0, .slice none 0 0, .slice none 0 0]], []⟩ 8 (by kernel_rfl) (by kernel_rfl) (by kernel_rfl) (by kernel_rfl))
    laidOut (by kernel_rfl) rfl Try.underlying4 (by kernel_rfl) ?_ ?_
  · intro ds h
    match ds, h with
    | [d1], _ => exact ⟨rfl, rfl, rfl⟩
  · intro W base args ds p hval0 hA0 _ hsz0
    have hval : ∀ (j : Nat) t v, Try.f9.params[j]? = some t → args[j]? = some v → Value.okWide Try.prog W .any base t v := hval0
    have hA : DataW.TrodAll enc Try.prog W 0 (fun _ => true) true Try.f9.params.toList args.toList ds p := hA0
    clear hsz0
    rw [Try.params9] at hA hval
    obtain ⟨v0, vs0, d0, ds0, p0, q0, hargs, rfl, rfl, h0, r0⟩ := trodAll_cons hA
    obtain ⟨rfl, rfl, rfl⟩ := trodAll_nil r0
    obtain rfl : args = #[v0] := by cases args; simp_all
    obtain ⟨A1, A2, A3, A4, ps, is, xs, os, c1, c2, c3, c4, rfl, hn, hp, _⟩ := open_prog (hval 0 26 v0 rfl rfl) h0
    exact codeChecks_walk A1 A2 A3 A4 ps is xs os c1 c2 c3 c4 W hn hp

theorem codeChecks_over : Rows.codeChecksRow.holds Try.pinned (OpenSpec.ofChange Rows.codeChecksSpec) :=
  OpenClaim.holds_of_wide 9 Try.f9 rfl rfl rfl rfl rfl rfl rfl ⟨rfl, rfl, rfl, rfl, rfl⟩ rfl rfl rfl rfl rfl (by kernel_rfl) Try.func9 (by kernel_rfl)
    (of_decide_eq_true (by kernel_rfl)) (by unfold Func.isWrapper; first | (rw [if_pos (by decide +kernel)]; kernel_rfl) | (rw [if_neg (by decide +kernel)]; exact ⟨rfl, rfl⟩))
    (fun os started H enc _ => codeChecks_lifted os started H enc)

theorem codeChecks_holds : Rows.CodeChecksSaid := codeChecks_over
#print axioms codeChecks_holds

end Go.Proofs.Ytdhlmbnmgioeeaa
