/- DiagramOrders: for every diagram the law returns true: the order of its blocks, its delays, whether it is affine. No conditions. -/
import Derived.Test.YtaheedieingpiaaDoorDhE
namespace Go.Proofs.YtaheedieingpiaaDoor
set_option linter.unusedVariables false
set_option linter.unusedSimpArgs false
set_option linter.unusedSectionVars false
open Go.ChangeShapes Go.WideShapes Go.ChangeAt Go.RowKit Go.Joins

set_option maxRecDepth 100000 in
set_option maxHeartbeats 4000000 in
theorem ords_heavy (A1 : Option Addr) (ps : List Prt) (c1 : Nat) (A2 : Option Addr) (bs : List Bk) (c2 : Nat) (A3 : Option Addr) (os : List Int) (c3 : Nat)  (w : World) (hi : DgIn w ⟨A1, ps, c1, A2, bs, c2, A3, os, c3⟩) (ht : TabAt w) (hl : lightG ⟨A1, ps, c1, A2, bs, c2, A3, os, c3⟩ = false) : Calls Tryd.prog 9 #[.agg #[.slice A1 ps.length c1, .slice A2 bs.length c2, .slice A3 os.length c3]] w fun e w' => e = .returned (.bool true) ∧ Below w.heap.size w w' := by
  have HI := Lib.hid hi
  have HT := Lib.hid ht
  clear hi ht
  have HL := Lib.hid hl
  clear hl
  have X0 := Lib.hid (Lx.start w ⟨A1, ps, c1, A2, bs, c2, A3, os, c3⟩ HT.out)
  go_enter Tryd.func9, Tryd.ntmps9
  go_wp2_with fail
  go_at_call 11
  refine (awake_any _ X0.out.tab).mono ?_
  rintro e w1 ⟨rfl, hb⟩
  have X1 := Lib.hid (X0.out.next hb)
  clear hb
  have f0 : w1.cell? ⟨w.heap.size, 0, none⟩ = some (.slice A1 ps.length c1) := X1.out.c0
  have f1 : w1.cell? ⟨w.heap.size, 1, none⟩ = some (.slice A2 bs.length c2) := X1.out.c1
  have f2 : w1.cell? ⟨w.heap.size, 2, none⟩ = some (.slice A3 os.length c3) := X1.out.c2
  have z1 : w.heap.size < w1.heap.size := X1.out.lt
  go_wp2_with fail
  go_at_call 12
  refine (light_any ⟨A1, ps, c1, A2, bs, c2, A3, os, c3⟩ _ w X1.out.bel HI.out).mono ?_
  rintro e w2 ⟨rfl, hb⟩
  have X2 := Lib.hid (X1.out.next hb)
  rw [HL.out]
  clear hb
  clear f0 f1 f2
  have f0 : w2.cell? ⟨w.heap.size, 0, none⟩ = some (.slice A1 ps.length c1) := X2.out.c0
  have f1 : w2.cell? ⟨w.heap.size, 1, none⟩ = some (.slice A2 bs.length c2) := X2.out.c1
  have f2 : w2.cell? ⟨w.heap.size, 2, none⟩ = some (.slice A3 os.length c3) := X2.out.c2
  have z2 : w.heap.size < w2.heap.size := X2.out.lt
  go_wp2_with fail
  go_at_call 11
  refine (awake_any _ X2.out.tab).mono ?_
  rintro e w3 ⟨rfl, hb⟩
  have X3 := Lib.hid (X2.out.next hb)
  clear hb
  clear f0 f1 f2
  have f0 : w3.cell? ⟨w.heap.size, 0, none⟩ = some (.slice A1 ps.length c1) := X3.out.c0
  have f1 : w3.cell? ⟨w.heap.size, 1, none⟩ = some (.slice A2 bs.length c2) := X3.out.c1
  have f2 : w3.cell? ⟨w.heap.size, 2, none⟩ = some (.slice A3 os.length c3) := X3.out.c2
  have z3 : w.heap.size < w3.heap.size := X3.out.lt
  go_wp2_with fail
  go_ret
  exact ⟨rfl, X3.out.bel⟩
set_option maxRecDepth 100000 in
set_option maxHeartbeats 4000000 in
theorem ords_bad (A1 : Option Addr) (ps : List Prt) (c1 : Nat) (A2 : Option Addr) (bs : List Bk) (c2 : Nat) (A3 : Option Addr) (os : List Int) (c3 : Nat)  (w : World) (hi : DgIn w ⟨A1, ps, c1, A2, bs, c2, A3, os, c3⟩) (ht : TabAt w) (hl : lightG ⟨A1, ps, c1, A2, bs, c2, A3, os, c3⟩ = true) (he : ¬ dgErr ps bs os = 0) : Calls Tryd.prog 9 #[.agg #[.slice A1 ps.length c1, .slice A2 bs.length c2, .slice A3 os.length c3]] w fun e w' => e = .returned (.bool true) ∧ Below w.heap.size w w' := by
  have HI := Lib.hid hi
  have HT := Lib.hid ht
  clear hi ht
  have HL := Lib.hid hl
  have HD := Lib.hid (HI.out.light hl)
  have h10 := hl
  unfold lightG at h10
  simp only [Bool.and_eq_true, decide_eq_true_eq, List.all_eq_true] at h10
  obtain ⟨⟨l1, l2, l3⟩, h4⟩ := h10
  have HA := Lib.hid h4
  clear hl h4
  try dsimp only at l1 l2 l3
  obtain ⟨E, hE⟩ : ∃ E, dgErr ps bs os = E := ⟨_, rfl⟩
  rw [hE] at he
  have e1 : (E != 0) = true := by simpa using he
  have HE := Lib.hid hE
  clear hE he
  have X0 := Lib.hid (Lx.start w ⟨A1, ps, c1, A2, bs, c2, A3, os, c3⟩ HT.out)
  go_enter Tryd.func9, Tryd.ntmps9
  go_wp2_with fail
  go_at_call 11
  refine (awake_any _ X0.out.tab).mono ?_
  rintro e w1 ⟨rfl, hb⟩
  have X1 := Lib.hid (X0.out.next hb)
  clear hb
  have f0 : w1.cell? ⟨w.heap.size, 0, none⟩ = some (.slice A1 ps.length c1) := X1.out.c0
  have f1 : w1.cell? ⟨w.heap.size, 1, none⟩ = some (.slice A2 bs.length c2) := X1.out.c1
  have f2 : w1.cell? ⟨w.heap.size, 2, none⟩ = some (.slice A3 os.length c3) := X1.out.c2
  have z1 : w.heap.size < w1.heap.size := X1.out.lt
  go_wp2_with fail
  go_at_call 12
  refine (light_any ⟨A1, ps, c1, A2, bs, c2, A3, os, c3⟩ _ w X1.out.bel HI.out).mono ?_
  rintro e w2 ⟨rfl, hb⟩
  have X2 := Lib.hid (X1.out.next hb)
  rw [HL.out]
  clear hb
  clear f0 f1 f2
  have f0 : w2.cell? ⟨w.heap.size, 0, none⟩ = some (.slice A1 ps.length c1) := X2.out.c0
  have f1 : w2.cell? ⟨w.heap.size, 1, none⟩ = some (.slice A2 bs.length c2) := X2.out.c1
  have f2 : w2.cell? ⟨w.heap.size, 2, none⟩ = some (.slice A3 os.length c3) := X2.out.c2
  have z2 : w.heap.size < w2.heap.size := X2.out.lt
  go_wp2_with fail
  go_at_call 13
  refine (rCheck_any ⟨A1, ps, c1, A2, bs, c2, A3, os, c3⟩ w.heap.size _ X2.out.le (X2.out.dg HD.out)).mono ?_
  rintro e w3 ⟨rfl, hb⟩
  have X3 := Lib.hid (X2.out.next hb)
  dsimp only
  rw [HE.out]
  clear hb
  clear f0 f1 f2
  have f0 : w3.cell? ⟨w.heap.size, 0, none⟩ = some (.slice A1 ps.length c1) := X3.out.c0
  have f1 : w3.cell? ⟨w.heap.size, 1, none⟩ = some (.slice A2 bs.length c2) := X3.out.c1
  have f2 : w3.cell? ⟨w.heap.size, 2, none⟩ = some (.slice A3 os.length c3) := X3.out.c2
  have z3 : w.heap.size < w3.heap.size := X3.out.lt
  go_wp2_with fail
  go_at_call 11
  refine (awake_any _ X3.out.tab).mono ?_
  rintro e w4 ⟨rfl, hb⟩
  have X4 := Lib.hid (X3.out.next hb)
  clear hb
  clear f0 f1 f2
  have f0 : w4.cell? ⟨w.heap.size, 0, none⟩ = some (.slice A1 ps.length c1) := X4.out.c0
  have f1 : w4.cell? ⟨w.heap.size, 1, none⟩ = some (.slice A2 bs.length c2) := X4.out.c1
  have f2 : w4.cell? ⟨w.heap.size, 2, none⟩ = some (.slice A3 os.length c3) := X4.out.c2
  have z4 : w.heap.size < w4.heap.size := X4.out.lt
  go_wp2_with fail
  go_ret
  exact ⟨rfl, X4.out.bel⟩
set_option maxRecDepth 100000 in
set_option maxHeartbeats 4000000 in
theorem ords_good (A1 : Option Addr) (ps : List Prt) (c1 : Nat) (A2 : Option Addr) (bs : List Bk) (c2 : Nat) (A3 : Option Addr) (os : List Int) (c3 : Nat)  (w : World) (hi : DgIn w ⟨A1, ps, c1, A2, bs, c2, A3, os, c3⟩) (ht : TabAt w) (hl : lightG ⟨A1, ps, c1, A2, bs, c2, A3, os, c3⟩ = true) (he : dgErr ps bs os = 0) : Calls Tryd.prog 9 #[.agg #[.slice A1 ps.length c1, .slice A2 bs.length c2, .slice A3 os.length c3]] w fun e w' => e = .returned (.bool true) ∧ Below w.heap.size w w' := by
  have HI := Lib.hid hi
  have HT := Lib.hid ht
  clear hi ht
  have HL := Lib.hid hl
  have HD := Lib.hid (HI.out.light hl)
  have h10 := hl
  unfold lightG at h10
  simp only [Bool.and_eq_true, decide_eq_true_eq, List.all_eq_true] at h10
  obtain ⟨⟨l1, l2, l3⟩, h4⟩ := h10
  have HA := Lib.hid h4
  clear hl h4
  try dsimp only at l1 l2 l3
  have HE := Lib.hid he
  have HE1 := Lib.hid (show dgE ⟨A1, ps, c1, A2, bs, c2, A3, os, c3⟩ = 0 from he)
  have HO1 := Lib.hid (show ordO ⟨A1, ps, c1, A2, bs, c2, A3, os, c3⟩ = natI (ordM bs) from if_pos he)
  have HO2 := Lib.hid (show delO ⟨A1, ps, c1, A2, bs, c2, A3, os, c3⟩ = natI (delL bs) from if_pos he)
  have HO3 := Lib.hid (show affO ⟨A1, ps, c1, A2, bs, c2, A3, os, c3⟩ = affB bs from if_pos he)
  have hq1 := ord_le bs
  have hq2 := del_len bs
  have hq3 : (natI (ordM bs)).length ≤ 9223372036854775807 := by rw [natI_len]; omega
  have hq4 : (natI (delL bs)).length ≤ 9223372036854775807 := by rw [natI_len]; omega
  have HQ3 := Lib.hid hq3
  have HQ4 := Lib.hid hq4
  clear he hq1 hq2 hq3 hq4
  have X0 := Lib.hid (Lx.start w ⟨A1, ps, c1, A2, bs, c2, A3, os, c3⟩ HT.out)
  go_enter Tryd.func9, Tryd.ntmps9
  go_wp2_with fail
  go_at_call 11
  refine (awake_any _ X0.out.tab).mono ?_
  rintro e w1 ⟨rfl, hb⟩
  have X1 := Lib.hid (X0.out.next hb)
  clear hb
  have f0 : w1.cell? ⟨w.heap.size, 0, none⟩ = some (.slice A1 ps.length c1) := X1.out.c0
  have f1 : w1.cell? ⟨w.heap.size, 1, none⟩ = some (.slice A2 bs.length c2) := X1.out.c1
  have f2 : w1.cell? ⟨w.heap.size, 2, none⟩ = some (.slice A3 os.length c3) := X1.out.c2
  have z1 : w.heap.size < w1.heap.size := X1.out.lt
  go_wp2_with fail
  go_at_call 12
  refine (light_any ⟨A1, ps, c1, A2, bs, c2, A3, os, c3⟩ _ w X1.out.bel HI.out).mono ?_
  rintro e w2 ⟨rfl, hb⟩
  have X2 := Lib.hid (X1.out.next hb)
  rw [HL.out]
  clear hb
  clear f0 f1 f2
  have f0 : w2.cell? ⟨w.heap.size, 0, none⟩ = some (.slice A1 ps.length c1) := X2.out.c0
  have f1 : w2.cell? ⟨w.heap.size, 1, none⟩ = some (.slice A2 bs.length c2) := X2.out.c1
  have f2 : w2.cell? ⟨w.heap.size, 2, none⟩ = some (.slice A3 os.length c3) := X2.out.c2
  have z2 : w.heap.size < w2.heap.size := X2.out.lt
  go_wp2_with fail
  go_at_call 13
  refine (rCheck_any ⟨A1, ps, c1, A2, bs, c2, A3, os, c3⟩ w.heap.size _ X2.out.le (X2.out.dg HD.out)).mono ?_
  rintro e w3 ⟨rfl, hb⟩
  have X3 := Lib.hid (X2.out.next hb)
  dsimp only
  rw [HE.out]
  clear hb
  clear f0 f1 f2
  have f0 : w3.cell? ⟨w.heap.size, 0, none⟩ = some (.slice A1 ps.length c1) := X3.out.c0
  have f1 : w3.cell? ⟨w.heap.size, 1, none⟩ = some (.slice A2 bs.length c2) := X3.out.c1
  have f2 : w3.cell? ⟨w.heap.size, 2, none⟩ = some (.slice A3 os.length c3) := X3.out.c2
  have z3 : w.heap.size < w3.heap.size := X3.out.lt
  go_wp2_with fail
  go_at_call 19
  refine (Order_any ⟨A1, ps, c1, A2, bs, c2, A3, os, c3⟩ w.heap.size _ X3.out.le (X3.out.dg HD.out) X3.out.tab).mono ?_
  rintro e w4 ⟨v1, rfl, hown1, hb⟩
  have X4 := Lib.hid (X3.out.next hb)
  rw [HO1.out] at hown1
  rw [HE1.out, errV_0]
  have O1 := Lib.hid hown1
  obtain ⟨V1, vc1, rfl, _, _⟩ := hown1.view
  clear hown1
  clear hb
  clear f0 f1 f2
  have f0 : w4.cell? ⟨w.heap.size, 0, none⟩ = some (.slice A1 ps.length c1) := X4.out.c0
  have f1 : w4.cell? ⟨w.heap.size, 1, none⟩ = some (.slice A2 bs.length c2) := X4.out.c1
  have f2 : w4.cell? ⟨w.heap.size, 2, none⟩ = some (.slice A3 os.length c3) := X4.out.c2
  have z4 : w.heap.size < w4.heap.size := X4.out.lt
  go_wp2_with fail
  go_at_call 24
  refine (Delays_any ⟨A1, ps, c1, A2, bs, c2, A3, os, c3⟩ w.heap.size _ X4.out.le (X4.out.dg HD.out) X4.out.tab).mono ?_
  rintro e w5 ⟨v2, rfl, hown2, hb⟩
  have X5 := Lib.hid (X4.out.next hb)
  rw [HO2.out] at hown2
  rw [HE1.out, errV_0]
  have O1 := Lib.hid (O1.out.call hb)
  have O2 := Lib.hid hown2
  obtain ⟨V2, vc2, rfl, _, _⟩ := hown2.view
  clear hown2
  clear hb
  clear f0 f1 f2
  have f0 : w5.cell? ⟨w.heap.size, 0, none⟩ = some (.slice A1 ps.length c1) := X5.out.c0
  have f1 : w5.cell? ⟨w.heap.size, 1, none⟩ = some (.slice A2 bs.length c2) := X5.out.c1
  have f2 : w5.cell? ⟨w.heap.size, 2, none⟩ = some (.slice A3 os.length c3) := X5.out.c2
  have z5 : w.heap.size < w5.heap.size := X5.out.lt
  go_wp2_with fail
  go_at_call 25
  refine (Affine_any ⟨A1, ps, c1, A2, bs, c2, A3, os, c3⟩ w.heap.size _ X5.out.le (X5.out.dg HD.out) X5.out.tab).mono ?_
  rintro e w6 ⟨rfl, hb⟩
  have X6 := Lib.hid (X5.out.next hb)
  rw [HO3.out, HE1.out, errV_0]
  have O1 := Lib.hid (O1.out.call hb)
  have O2 := Lib.hid (O2.out.call hb)
  clear hb
  clear f0 f1 f2
  have f0 : w6.cell? ⟨w.heap.size, 0, none⟩ = some (.slice A1 ps.length c1) := X6.out.c0
  have f1 : w6.cell? ⟨w.heap.size, 1, none⟩ = some (.slice A2 bs.length c2) := X6.out.c1
  have f2 : w6.cell? ⟨w.heap.size, 2, none⟩ = some (.slice A3 os.length c3) := X6.out.c2
  have z6 : w.heap.size < w6.heap.size := X6.out.lt
  go_wp2_with fail
  go_at_call 26
  refine (rOrder_any ⟨A1, ps, c1, A2, bs, c2, A3, os, c3⟩ w.heap.size _ X6.out.le (X6.out.dg HD.out) (dg_succ HE.out)).mono ?_
  rintro e w7 ⟨v3, rfl, hown3, hb⟩
  have X7 := Lib.hid (X6.out.next hb)
  dsimp only at hown3
  have O1 := Lib.hid (O1.out.call hb)
  have O2 := Lib.hid (O2.out.call hb)
  have O3 := Lib.hid hown3
  obtain ⟨V3, vc3, rfl, _, _⟩ := hown3.view
  clear hown3
  clear hb
  clear f0 f1 f2
  have f0 : w7.cell? ⟨w.heap.size, 0, none⟩ = some (.slice A1 ps.length c1) := X7.out.c0
  have f1 : w7.cell? ⟨w.heap.size, 1, none⟩ = some (.slice A2 bs.length c2) := X7.out.c1
  have f2 : w7.cell? ⟨w.heap.size, 2, none⟩ = some (.slice A3 os.length c3) := X7.out.c2
  have z7 : w.heap.size < w7.heap.size := X7.out.lt
  go_wp2_with fail
  go_at_call 16
  refine (ints_any V1 V3 (natI (ordM bs)) (natI (ordM bs)) vc1 vc3 w7.heap.size _ O1.out.cells O3.out.cells HQ3.out HQ3.out).mono ?_
  rintro e w8 ⟨rfl, hb⟩
  have X8 := Lib.hid (X7.out.next hb)
  rw [intsB_refl]
  have O2 := Lib.hid (O2.out.call hb)
  clear hb
  clear f0 f1 f2
  have f0 : w8.cell? ⟨w.heap.size, 0, none⟩ = some (.slice A1 ps.length c1) := X8.out.c0
  have f1 : w8.cell? ⟨w.heap.size, 1, none⟩ = some (.slice A2 bs.length c2) := X8.out.c1
  have f2 : w8.cell? ⟨w.heap.size, 2, none⟩ = some (.slice A3 os.length c3) := X8.out.c2
  have z8 : w.heap.size < w8.heap.size := X8.out.lt
  go_wp2_with fail
  go_at_call 27
  refine (delays_any ⟨A1, ps, c1, A2, bs, c2, A3, os, c3⟩ w.heap.size _ X8.out.le (X8.out.dg HD.out)).mono ?_
  rintro e w9 ⟨v4, rfl, hown4, hb⟩
  have X9 := Lib.hid (X8.out.next hb)
  dsimp only at hown4
  have O2 := Lib.hid (O2.out.call hb)
  have O4 := Lib.hid hown4
  obtain ⟨V4, vc4, rfl, _, _⟩ := hown4.view
  clear hown4
  clear hb
  clear f0 f1 f2
  have f0 : w9.cell? ⟨w.heap.size, 0, none⟩ = some (.slice A1 ps.length c1) := X9.out.c0
  have f1 : w9.cell? ⟨w.heap.size, 1, none⟩ = some (.slice A2 bs.length c2) := X9.out.c1
  have f2 : w9.cell? ⟨w.heap.size, 2, none⟩ = some (.slice A3 os.length c3) := X9.out.c2
  have z9 : w.heap.size < w9.heap.size := X9.out.lt
  go_wp2_with fail
  go_at_call 16
  refine (ints_any V2 V4 (natI (delL bs)) (natI (delL bs)) vc2 vc4 w9.heap.size _ O2.out.cells O4.out.cells HQ4.out HQ4.out).mono ?_
  rintro e w10 ⟨rfl, hb⟩
  have X10 := Lib.hid (X9.out.next hb)
  rw [intsB_refl]
  clear hb
  clear f0 f1 f2
  have f0 : w10.cell? ⟨w.heap.size, 0, none⟩ = some (.slice A1 ps.length c1) := X10.out.c0
  have f1 : w10.cell? ⟨w.heap.size, 1, none⟩ = some (.slice A2 bs.length c2) := X10.out.c1
  have f2 : w10.cell? ⟨w.heap.size, 2, none⟩ = some (.slice A3 os.length c3) := X10.out.c2
  have z10 : w.heap.size < w10.heap.size := X10.out.lt
  go_wp2_with fail
  go_at_call 28
  refine (rAffine_any ⟨A1, ps, c1, A2, bs, c2, A3, os, c3⟩ w.heap.size _ X10.out.le (X10.out.dg HD.out) HE.out).mono ?_
  rintro e w11 ⟨rfl, hb⟩
  have X11 := Lib.hid (X10.out.next hb)
  dsimp only
  clear hb
  clear f0 f1 f2
  have f0 : w11.cell? ⟨w.heap.size, 0, none⟩ = some (.slice A1 ps.length c1) := X11.out.c0
  have f1 : w11.cell? ⟨w.heap.size, 1, none⟩ = some (.slice A2 bs.length c2) := X11.out.c1
  have f2 : w11.cell? ⟨w.heap.size, 2, none⟩ = some (.slice A3 os.length c3) := X11.out.c2
  have z11 : w.heap.size < w11.heap.size := X11.out.lt
  cases affB bs with
  | true =>
    go_wp2_with fail
    go_ret
    exact ⟨rfl, X11.out.bel⟩
  | false =>
    go_wp2_with fail
    go_ret
    exact ⟨rfl, X11.out.bel⟩
theorem diagramOrders_walk (A1 : Option Addr) (ps : List Prt) (c1 : Nat) (A2 : Option Addr) (bs : List Bk) (c2 : Nat) (A3 : Option Addr) (os : List Int) (c3 : Nat) (w : World) (hi : DgIn w ⟨A1, ps, c1, A2, bs, c2, A3, os, c3⟩) (ht : TabAt w) : Calls Tryd.prog 9 #[.agg #[.slice A1 ps.length c1, .slice A2 bs.length c2, .slice A3 os.length c3]] w fun e w' => e = .returned (.bool true) ∧ Below w.heap.size w w' := by
  cases hl : lightG ⟨A1, ps, c1, A2, bs, c2, A3, os, c3⟩ with
  | false => exact ords_heavy A1 ps c1 A2 bs c2 A3 os c3 w hi ht hl
  | true =>
    by_cases he : dgErr ps bs os = 0
    · exact ords_good A1 ps c1 A2 bs c2 A3 os c3 w hi ht hl he
    · exact ords_bad A1 ps c1 A2 bs c2 A3 os c3 w hi ht hl he

set_option maxRecDepth 100000 in
set_option maxHeartbeats 4000000 in
theorem diagramOrders_lifted (os : Os) (started : os.Started) (H : Type) (enc : TypeId × Value → H) :
    ReturnsInHanded {} Tryd.checked os 9 .any (fun w args => (Rows.diagramOrdersSpec.pre enc Tryd.prog Tryd.f9 [] false w args ∧ laidMetH Tryd.prog laidT w) ∧ sizedMet enc Tryd.prog Tryd.f9 (OpenSpec.ofChange Rows.diagramOrdersSpec) false w args)
      (Rows.diagramOrdersSpec.post enc Tryd.prog Tryd.f9 false true false false) := by
  refine law_lift_laid (C := Tryd.checked) (T := 4) own started (by kernel_rfl) Tryd.func9
    (ChangeSpec.witness_shaped (enc := enc) (C := Tryd.checked) (os := os) (X := fun w _ => laidMetH Tryd.prog laidT w) false (World.doorLaid Tryd.prog 400 os) #[.agg #[.slice none 0 0, .slice none 0 0, .slice none 0 0]] 8 rfl (door_shaped os _) (by kernel_rfl) (by kernel_rfl) (by kernel_rfl) (door_met os _))
    laidOut (by kernel_rfl) rfl Tryd.underlying4 (by kernel_rfl) ?_ ?_
  · intro ds h
    match ds, h with
    | [d1], _ => exact ⟨rfl, rfl, rfl⟩
  · intro W base args ds p hval0 hA0 _ hsz0 hL
    have ht := tab_of hL
    have hval : ∀ (j : Nat) t v, Tryd.f9.params[j]? = some t → args[j]? = some v → Value.okWide Tryd.prog W .any base t v := hval0
    have hA : DataW.TrodAll enc Tryd.prog W 0 (fun _ => true) true Tryd.f9.params.toList args.toList ds p := hA0
    clear hsz0 hL
    rw [Tryd.params9] at hA hval
    obtain ⟨v0, vs0, d0, ds0, p0, q0, hargs, rfl, rfl, h0, r0⟩ := trodAll_cons hA
    obtain ⟨rfl, rfl, rfl⟩ := trodAll_nil r0
    obtain rfl : args = #[v0] := by cases args; simp_all
    obtain ⟨⟨A1, ps, c1, A2, bs, c2, A3, os, c3⟩, rfl, hin⟩ := open_dg (hval 0 26 v0 rfl rfl) h0
    exact diagramOrders_walk A1 ps c1 A2 bs c2 A3 os c3 W hin ht
theorem diagramOrders_row : Rows.DiagramOrdersSaid :=
  OpenClaim.holds_of_wide 9 Tryd.f9 rfl rfl rfl rfl rfl rfl rfl ⟨rfl, rfl, rfl, rfl, rfl⟩ rfl rfl rfl rfl rfl (by kernel_rfl) Tryd.func9 (by kernel_rfl)
    (of_decide_eq_true (by kernel_rfl)) (by unfold Func.isWrapper; first | (rw [if_pos (by decide +kernel)]; kernel_rfl) | (rw [if_neg (by decide +kernel)]; exact ⟨rfl, rfl⟩))
    (fun os started H enc _ => diagramOrders_lifted os started H enc)
theorem diagramOrders_holds : Rows.DiagramOrdersCardSaid :=
  Claim7.holds_tied_plain_at .later [] [.data] true (true, "d4523cc579fb41ec178fce1dad4bb0eaaa70277df7fec9a2fbd66a268b8bd742") true
    diagramOrders_row (fun _ h => by cases h) (by kernel_rfl) (fun _ h => by cases h) diagramOrders_row_tie rfl ⟨rfl, rfl⟩ (by kernel_rfl) rfl
    (fun f fn hf hfn => by
      obtain rfl : f = 9 := Option.some.inj ((show Tryd.prog.funcNamed "commutator/commutatorlaw10.DiagramOrders" = some 9 by kernel_rfl).symm.trans hf) |>.symm
      obtain rfl : fn = Tryd.f9 := (Option.some.inj (Tryd.func9.symm.trans hfn)).symm
      exact ⟨by kernel_rfl, fun j t ht => by
        rw [Tryd.params9] at ht
        have hm : t ∈ [26] := by simpa using Array.mem_of_getElem? ht
        have hall : ([26].all fun u => !Tryd.prog.wantsStandIn u) = true := by kernel_rfl
        exact (show Tryd.prog.wantsStandIn t = false by simpa using List.all_eq_true.1 hall t hm)⟩)
    (by kernel_rfl)
#print axioms diagramOrders_holds

end Go.Proofs.YtaheedieingpiaaDoor
