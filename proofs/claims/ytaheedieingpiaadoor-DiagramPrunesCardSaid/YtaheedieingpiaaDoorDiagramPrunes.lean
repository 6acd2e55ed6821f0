/- DiagramPrunes: for every diagram the law returns true: the program's diagram without the blocks that no output needs is the document's, with the same old numbers. No conditions. -/
import Derived.Test.YtaheedieingpiaaDoorDhJ
import Derived.Test.YtaheedieingpiaaDoorDhI
namespace Go.Proofs.YtaheedieingpiaaDoor
set_option linter.unusedVariables false
set_option linter.unusedSimpArgs false
set_option linter.unusedSectionVars false
open Go.ChangeShapes Go.WideShapes Go.ChangeAt Go.RowKit Go.Joins

set_option maxRecDepth 100000 in
set_option maxHeartbeats 4000000 in
theorem prunes_heavy (A1 : Option Addr) (ps : List Prt) (c1 : Nat) (A2 : Option Addr) (bs : List Bk) (c2 : Nat) (A3 : Option Addr) (os : List Int) (c3 : Nat)  (w : World) (hi : DgIn w ⟨A1, ps, c1, A2, bs, c2, A3, os, c3⟩) (ht : TabAt w) (hl : lightG ⟨A1, ps, c1, A2, bs, c2, A3, os, c3⟩ = false) : Calls Tryd.prog 7 #[.agg #[.slice A1 ps.length c1, .slice A2 bs.length c2, .slice A3 os.length c3]] w fun e w' => e = .returned (.bool true) ∧ Below w.heap.size w w' := by
  have HI := Lib.hid hi
  have HT := Lib.hid ht
  clear hi ht
  have HL := Lib.hid hl
  clear hl
  have X0 := Lib.hid (Lx.start w ⟨A1, ps, c1, A2, bs, c2, A3, os, c3⟩ HT.out)
  go_enter Tryd.func7, Tryd.ntmps7
  go_wp2_with fail
  go_at_call 11
  refine (awake_any _ X0.out.tab).mono ?_
  rintro e w1 ⟨rfl, hb⟩
  have X1 := Lib.hid (X0.out.next hb)
  clear hb
  have f0 : w1.cell? ⟨w.heap.size, 0, none⟩ = some (.slice A1 ps.length c1) := X1.out.c0
  have f1 : w1.cell? ⟨w.heap.size, 1, none⟩ = some (.slice A2 bs.length c2) := X1.out.c1
  have f2 : w1.cell? ⟨w.heap.size, 2, none⟩ = some (.slice A3 os.length c3) := X1.out.c2
  have z1 : w.heap.size < w1.heap.size := X1.out.lt
  go_wp2_with fail
  go_at_call 12
  refine (light_any ⟨A1, ps, c1, A2, bs, c2, A3, os, c3⟩ _ w X1.out.bel HI.out).mono ?_
  rintro e w2 ⟨rfl, hb⟩
  have X2 := Lib.hid (X1.out.next hb)
  rw [HL.out]
  clear hb
  clear f0 f1 f2
  have f0 : w2.cell? ⟨w.heap.size, 0, none⟩ = some (.slice A1 ps.length c1) := X2.out.c0
  have f1 : w2.cell? ⟨w.heap.size, 1, none⟩ = some (.slice A2 bs.length c2) := X2.out.c1
  have f2 : w2.cell? ⟨w.heap.size, 2, none⟩ = some (.slice A3 os.length c3) := X2.out.c2
  have z2 : w.heap.size < w2.heap.size := X2.out.lt
  go_wp2_with fail
  go_at_call 11
  refine (awake_any _ X2.out.tab).mono ?_
  rintro e w3 ⟨rfl, hb⟩
  have X3 := Lib.hid (X2.out.next hb)
  clear hb
  clear f0 f1 f2
  have f0 : w3.cell? ⟨w.heap.size, 0, none⟩ = some (.slice A1 ps.length c1) := X3.out.c0
  have f1 : w3.cell? ⟨w.heap.size, 1, none⟩ = some (.slice A2 bs.length c2) := X3.out.c1
  have f2 : w3.cell? ⟨w.heap.size, 2, none⟩ = some (.slice A3 os.length c3) := X3.out.c2
  have z3 : w.heap.size < w3.heap.size := X3.out.lt
  go_wp2_with fail
  go_ret
  exact ⟨rfl, X3.out.bel⟩
set_option maxRecDepth 100000 in
set_option maxHeartbeats 4000000 in
theorem prunes_bad (A1 : Option Addr) (ps : List Prt) (c1 : Nat) (A2 : Option Addr) (bs : List Bk) (c2 : Nat) (A3 : Option Addr) (os : List Int) (c3 : Nat)  (w : World) (hi : DgIn w ⟨A1, ps, c1, A2, bs, c2, A3, os, c3⟩) (ht : TabAt w) (hl : lightG ⟨A1, ps, c1, A2, bs, c2, A3, os, c3⟩ = true) (he : ¬ dgErr ps bs os = 0) : Calls Tryd.prog 7 #[.agg #[.slice A1 ps.length c1, .slice A2 bs.length c2, .slice A3 os.length c3]] w fun e w' => e = .returned (.bool true) ∧ Below w.heap.size w w' := by
  have HI := Lib.hid hi
  have HT := Lib.hid ht
  clear hi ht
  have HL := Lib.hid hl
  have HD := Lib.hid (HI.out.light hl)
  have h10 := hl
  unfold lightG at h10
  simp only [Bool.and_eq_true, decide_eq_true_eq, List.all_eq_true] at h10
  obtain ⟨⟨l1, l2, l3⟩, h4⟩ := h10
  have HA := Lib.hid h4
  clear hl h4
  try dsimp only at l1 l2 l3
  obtain ⟨E, hE⟩ : ∃ E, dgErr ps bs os = E := ⟨_, rfl⟩
  rw [hE] at he
  have e1 : (E != 0) = true := by simpa using he
  have HE := Lib.hid hE
  clear hE he
  have X0 := Lib.hid (Lx.start w ⟨A1, ps, c1, A2, bs, c2, A3, os, c3⟩ HT.out)
  go_enter Tryd.func7, Tryd.ntmps7
  go_wp2_with fail
  go_at_call 11
  refine (awake_any _ X0.out.tab).mono ?_
  rintro e w1 ⟨rfl, hb⟩
  have X1 := Lib.hid (X0.out.next hb)
  clear hb
  have f0 : w1.cell? ⟨w.heap.size, 0, none⟩ = some (.slice A1 ps.length c1) := X1.out.c0
  have f1 : w1.cell? ⟨w.heap.size, 1, none⟩ = some (.slice A2 bs.length c2) := X1.out.c1
  have f2 : w1.cell? ⟨w.heap.size, 2, none⟩ = some (.slice A3 os.length c3) := X1.out.c2
  have z1 : w.heap.size < w1.heap.size := X1.out.lt
  go_wp2_with fail
  go_at_call 12
  refine (light_any ⟨A1, ps, c1, A2, bs, c2, A3, os, c3⟩ _ w X1.out.bel HI.out).mono ?_
  rintro e w2 ⟨rfl, hb⟩
  have X2 := Lib.hid (X1.out.next hb)
  rw [HL.out]
  clear hb
  clear f0 f1 f2
  have f0 : w2.cell? ⟨w.heap.size, 0, none⟩ = some (.slice A1 ps.length c1) := X2.out.c0
  have f1 : w2.cell? ⟨w.heap.size, 1, none⟩ = some (.slice A2 bs.length c2) := X2.out.c1
  have f2 : w2.cell? ⟨w.heap.size, 2, none⟩ = some (.slice A3 os.length c3) := X2.out.c2
  have z2 : w.heap.size < w2.heap.size := X2.out.lt
  go_wp2_with fail
  go_at_call 13
  refine (rCheck_any ⟨A1, ps, c1, A2, bs, c2, A3, os, c3⟩ w.heap.size _ X2.out.le (X2.out.dg HD.out)).mono ?_
  rintro e w3 ⟨rfl, hb⟩
  have X3 := Lib.hid (X2.out.next hb)
  dsimp only
  rw [HE.out]
  clear hb
  clear f0 f1 f2
  have f0 : w3.cell? ⟨w.heap.size, 0, none⟩ = some (.slice A1 ps.length c1) := X3.out.c0
  have f1 : w3.cell? ⟨w.heap.size, 1, none⟩ = some (.slice A2 bs.length c2) := X3.out.c1
  have f2 : w3.cell? ⟨w.heap.size, 2, none⟩ = some (.slice A3 os.length c3) := X3.out.c2
  have z3 : w.heap.size < w3.heap.size := X3.out.lt
  go_wp2_with fail
  go_at_call 11
  refine (awake_any _ X3.out.tab).mono ?_
  rintro e w4 ⟨rfl, hb⟩
  have X4 := Lib.hid (X3.out.next hb)
  clear hb
  clear f0 f1 f2
  have f0 : w4.cell? ⟨w.heap.size, 0, none⟩ = some (.slice A1 ps.length c1) := X4.out.c0
  have f1 : w4.cell? ⟨w.heap.size, 1, none⟩ = some (.slice A2 bs.length c2) := X4.out.c1
  have f2 : w4.cell? ⟨w.heap.size, 2, none⟩ = some (.slice A3 os.length c3) := X4.out.c2
  have z4 : w.heap.size < w4.heap.size := X4.out.lt
  go_wp2_with fail
  go_ret
  exact ⟨rfl, X4.out.bel⟩
set_option maxRecDepth 100000 in
set_option maxHeartbeats 4000000 in
theorem prunes_good (A1 : Option Addr) (ps : List Prt) (c1 : Nat) (A2 : Option Addr) (bs : List Bk) (c2 : Nat) (A3 : Option Addr) (os : List Int) (c3 : Nat)  (w : World) (hi : DgIn w ⟨A1, ps, c1, A2, bs, c2, A3, os, c3⟩) (ht : TabAt w) (hl : lightG ⟨A1, ps, c1, A2, bs, c2, A3, os, c3⟩ = true) (he : dgErr ps bs os = 0) : Calls Tryd.prog 7 #[.agg #[.slice A1 ps.length c1, .slice A2 bs.length c2, .slice A3 os.length c3]] w fun e w' => e = .returned (.bool true) ∧ Below w.heap.size w w' := by
  have HI := Lib.hid hi
  have HT := Lib.hid ht
  clear hi ht
  have HL := Lib.hid hl
  have HD := Lib.hid (HI.out.light hl)
  have h10 := hl
  unfold lightG at h10
  simp only [Bool.and_eq_true, decide_eq_true_eq, List.all_eq_true] at h10
  obtain ⟨⟨l1, l2, l3⟩, h4⟩ := h10
  have HA := Lib.hid h4
  clear hl h4
  try dsimp only at l1 l2 l3
  have HE := Lib.hid he
  have NZ := Lib.hid (show Nz ⟨A1, ps, c1, A2, bs, c2, A3, os, c3⟩ from ⟨HI.out.n1, HI.out.n4⟩)
  have hq := keptL_len bs os
  have HQ := Lib.hid (show (natI (keptL bs os)).length ≤ 9223372036854775807 by rw [natI_len]; omega)
  clear he hq
  have X0 := Lib.hid (Lx.start w ⟨A1, ps, c1, A2, bs, c2, A3, os, c3⟩ HT.out)
  go_enter Tryd.func7, Tryd.ntmps7
  go_wp2_with fail
  go_at_call 11
  refine (awake_any _ X0.out.tab).mono ?_
  rintro e w1 ⟨rfl, hb⟩
  have X1 := Lib.hid (X0.out.next hb)
  clear hb
  have f0 : w1.cell? ⟨w.heap.size, 0, none⟩ = some (.slice A1 ps.length c1) := X1.out.c0
  have f1 : w1.cell? ⟨w.heap.size, 1, none⟩ = some (.slice A2 bs.length c2) := X1.out.c1
  have f2 : w1.cell? ⟨w.heap.size, 2, none⟩ = some (.slice A3 os.length c3) := X1.out.c2
  have z1 : w.heap.size < w1.heap.size := X1.out.lt
  go_wp2_with fail
  go_at_call 12
  refine (light_any ⟨A1, ps, c1, A2, bs, c2, A3, os, c3⟩ _ w X1.out.bel HI.out).mono ?_
  rintro e w2 ⟨rfl, hb⟩
  have X2 := Lib.hid (X1.out.next hb)
  rw [HL.out]
  clear hb
  clear f0 f1 f2
  have f0 : w2.cell? ⟨w.heap.size, 0, none⟩ = some (.slice A1 ps.length c1) := X2.out.c0
  have f1 : w2.cell? ⟨w.heap.size, 1, none⟩ = some (.slice A2 bs.length c2) := X2.out.c1
  have f2 : w2.cell? ⟨w.heap.size, 2, none⟩ = some (.slice A3 os.length c3) := X2.out.c2
  have z2 : w.heap.size < w2.heap.size := X2.out.lt
  go_wp2_with fail
  go_at_call 13
  refine (rCheck_any ⟨A1, ps, c1, A2, bs, c2, A3, os, c3⟩ w.heap.size _ X2.out.le (X2.out.dg HD.out)).mono ?_
  rintro e w3 ⟨rfl, hb⟩
  have X3 := Lib.hid (X2.out.next hb)
  dsimp only
  rw [HE.out]
  clear hb
  clear f0 f1 f2
  have f0 : w3.cell? ⟨w.heap.size, 0, none⟩ = some (.slice A1 ps.length c1) := X3.out.c0
  have f1 : w3.cell? ⟨w.heap.size, 1, none⟩ = some (.slice A2 bs.length c2) := X3.out.c1
  have f2 : w3.cell? ⟨w.heap.size, 2, none⟩ = some (.slice A3 os.length c3) := X3.out.c2
  have z3 : w.heap.size < w3.heap.size := X3.out.lt
  go_wp2_with fail
  go_at_call 21
  refine (prune_ok ⟨A1, ps, c1, A2, bs, c2, A3, os, c3⟩ w.heap.size _ X3.out.le (X3.out.dg HD.out) X3.out.tab NZ.out HE.out).mono ?_
  rintro e w4 ⟨⟨P1, p1, q1, P2, p2, q2, P3, p3, q3⟩, v1, rfl, hd1, hn1, hp1, hc1, ho1, hown1, hb⟩
  have X4 := Lib.hid (X3.out.next hb)
  dsimp only [Dg.val] at hp1 hc1 ho1 ⊢
  obtain rfl : ps = p1 := hp1.symm
  rw [errV_0]
  have D1 := Lib.hid hd1
  have C1 := Lib.hid hc1
  have U1 := Lib.hid ho1
  have O1 := Lib.hid hown1
  obtain ⟨V1, vc1, rfl, _, _⟩ := hown1.view
  clear hd1 hn1 hc1 ho1 hown1
  clear hb
  clear f0 f1 f2
  have f0 : w4.cell? ⟨w.heap.size, 0, none⟩ = some (.slice A1 ps.length c1) := X4.out.c0
  have f1 : w4.cell? ⟨w.heap.size, 1, none⟩ = some (.slice A2 bs.length c2) := X4.out.c1
  have f2 : w4.cell? ⟨w.heap.size, 2, none⟩ = some (.slice A3 os.length c3) := X4.out.c2
  have z4 : w.heap.size < w4.heap.size := X4.out.lt
  have B1 := Lib.hid (RowD.new_ w4 [.slice P1 ps.length q1, .slice P2 p2.length q2, .slice P3 p3.length q3] 26)
  have D1' := Lib.hid (D1.out.below (al_ w4 (.cells #[.slice P1 ps.length q1, .slice P2 p2.length q2, .slice P3 p3.length q3] 26)) (Nat.le_refl _))
  have O1' := Lib.hid (O1.out.alloc (.cells #[.slice P1 ps.length q1, .slice P2 p2.length q2, .slice P3 p3.length q3] 26))
  clear D1 O1
  go_wp2_with fail
  go_at_call 22
  have XA := X4.out.al (.cells #[.slice P1 ps.length q1, .slice P2 p2.length q2, .slice P3 p3.length q3] 26)
  refine (rprune_ok ⟨A1, ps, c1, A2, bs, c2, A3, os, c3⟩ w.heap.size _ XA.le (XA.dg HD.out) NZ.out HE.out).mono ?_
  rintro e w5 ⟨⟨Q1, r1, s1, Q2, r2, s2, Q3, r3, s3⟩, v2, rfl, hd2, hn2, hp2, hc2, ho2, hown2, hb⟩
  have X5 := Lib.hid (XA.next hb)
  clear XA
  dsimp only [Dg.val] at hp2 hc2 ho2 ⊢
  obtain rfl : ps = r1 := hp2.symm
  have D2 := Lib.hid hd2
  have C2 := Lib.hid hc2
  have U2 := Lib.hid ho2
  have O2 := Lib.hid hown2
  obtain ⟨V2, vc2, rfl, _, _⟩ := hown2.view
  have D1 := Lib.hid (D1'.out.below hb (by simp))
  have B1' := Lib.hid (B1.out.call hb)
  have O1 := Lib.hid (O1'.out.call hb)
  clear hd2 hn2 hc2 ho2 hown2 D1' B1 O1'
  clear hb
  clear f0 f1 f2
  have f0 : w5.cell? ⟨w.heap.size, 0, none⟩ = some (.slice A1 ps.length c1) := X5.out.c0
  have f1 : w5.cell? ⟨w.heap.size, 1, none⟩ = some (.slice A2 bs.length c2) := X5.out.c1
  have f2 : w5.cell? ⟨w.heap.size, 2, none⟩ = some (.slice A3 os.length c3) := X5.out.c2
  have z5 : w.heap.size < w5.heap.size := X5.out.lt
  have g0 : w5.cell? ⟨w4.heap.size, 0, none⟩ = some (.slice P1 ps.length q1) := B1'.out.cell 0
  have g1 : w5.cell? ⟨w4.heap.size, 1, none⟩ = some (.slice P2 p2.length q2) := B1'.out.cell 1
  have g2 : w5.cell? ⟨w4.heap.size, 2, none⟩ = some (.slice P3 p3.length q3) := B1'.out.cell 2
  have zg : w4.heap.size < w5.heap.size := B1'.out.lt
  have D1' := Lib.hid ((D1.out.below (al_ w5 (.cells #[.slice Q1 ps.length s1, .slice Q2 r2.length s2, .slice Q3 r3.length s3] 26)) (Nat.le_of_lt zg)).more (m' := w5.heap.size + 1) (by omega))
  have D2' := Lib.hid ((D2.out.below (al_ w5 (.cells #[.slice Q1 ps.length s1, .slice Q2 r2.length s2, .slice Q3 r3.length s3] 26)) (Nat.le_refl _)).more (m' := w5.heap.size + 1) (by omega))
  have O1' := Lib.hid (O1.out.alloc (.cells #[.slice Q1 ps.length s1, .slice Q2 r2.length s2, .slice Q3 r3.length s3] 26))
  have O2' := Lib.hid (O2.out.alloc (.cells #[.slice Q1 ps.length s1, .slice Q2 r2.length s2, .slice Q3 r3.length s3] 26))
  clear D1 D2 O1 O2
  go_wp2_with fail
  go_at_call 23
  have XA := X5.out.al (.cells #[.slice Q1 ps.length s1, .slice Q2 r2.length s2, .slice Q3 r3.length s3] 26)
  refine (same_true ⟨P1, ps, q1, P2, p2, q2, P3, p3, q3⟩ ⟨Q1, ps, s1, Q2, r2, s2, Q3, r3, s3⟩ (w5.heap.size + 1) _ (by simp) D1'.out D2'.out rfl (C2.out.trans C1.out.symm) (U2.out.trans U1.out.symm)).mono ?_
  rintro e w6 ⟨rfl, hb⟩
  have X6 := Lib.hid (XA.next hb)
  clear XA
  have O1 := Lib.hid (O1'.out.call hb)
  have O2 := Lib.hid (O2'.out.call hb)
  clear O1' O2' g0 g1 g2
  clear hb
  clear f0 f1 f2
  have f0 : w6.cell? ⟨w.heap.size, 0, none⟩ = some (.slice A1 ps.length c1) := X6.out.c0
  have f1 : w6.cell? ⟨w.heap.size, 1, none⟩ = some (.slice A2 bs.length c2) := X6.out.c1
  have f2 : w6.cell? ⟨w.heap.size, 2, none⟩ = some (.slice A3 os.length c3) := X6.out.c2
  have z6 : w.heap.size < w6.heap.size := X6.out.lt
  go_wp2_with fail
  go_at_call 16
  refine (ints_any V1 V2 (natI (keptL bs os)) (natI (keptL bs os)) vc1 vc2 w6.heap.size _ O1.out.cells O2.out.cells HQ.out HQ.out).mono ?_
  rintro e w7 ⟨rfl, hb⟩
  have X7 := Lib.hid (X6.out.next hb)
  rw [intsB_refl]
  clear hb
  clear f0 f1 f2
  have f0 : w7.cell? ⟨w.heap.size, 0, none⟩ = some (.slice A1 ps.length c1) := X7.out.c0
  have f1 : w7.cell? ⟨w.heap.size, 1, none⟩ = some (.slice A2 bs.length c2) := X7.out.c1
  have f2 : w7.cell? ⟨w.heap.size, 2, none⟩ = some (.slice A3 os.length c3) := X7.out.c2
  have z7 : w.heap.size < w7.heap.size := X7.out.lt
  go_wp2_with fail
  go_ret
  exact ⟨rfl, X7.out.bel⟩
theorem diagramPrunes_walk (A1 : Option Addr) (ps : List Prt) (c1 : Nat) (A2 : Option Addr) (bs : List Bk) (c2 : Nat) (A3 : Option Addr) (os : List Int) (c3 : Nat) (w : World) (hi : DgIn w ⟨A1, ps, c1, A2, bs, c2, A3, os, c3⟩) (ht : TabAt w) : Calls Tryd.prog 7 #[.agg #[.slice A1 ps.length c1, .slice A2 bs.length c2, .slice A3 os.length c3]] w fun e w' => e = .returned (.bool true) ∧ Below w.heap.size w w' := by
  cases hl : lightG ⟨A1, ps, c1, A2, bs, c2, A3, os, c3⟩ with
  | false => exact prunes_heavy A1 ps c1 A2 bs c2 A3 os c3 w hi ht hl
  | true =>
    by_cases he : dgErr ps bs os = 0
    · exact prunes_good A1 ps c1 A2 bs c2 A3 os c3 w hi ht hl he
    · exact prunes_bad A1 ps c1 A2 bs c2 A3 os c3 w hi ht hl he

set_option maxRecDepth 100000 in
set_option maxHeartbeats 4000000 in
theorem diagramPrunes_lifted (os : Os) (started : os.Started) (H : Type) (enc : TypeId × Value → H) :
    ReturnsInHanded {} Tryd.checked os 7 .any (fun w args => (Rows.diagramPrunesSpec.pre enc Tryd.prog Tryd.f7 [] false w args ∧ laidMetH Tryd.prog laidT w) ∧ sizedMet enc Tryd.prog Tryd.f7 (OpenSpec.ofChange Rows.diagramPrunesSpec) false w args)
      (Rows.diagramPrunesSpec.post enc Tryd.prog Tryd.f7 false true false false) := by
  refine law_lift_laid (C := Tryd.checked) (T := 4) own started (by kernel_rfl) Tryd.func7
    (ChangeSpec.witness_shaped (enc := enc) (C := Tryd.checked) (os := os) (X := fun w _ => laidMetH Tryd.prog laidT w) false (World.doorLaid Tryd.prog 400 os) #[.agg #[.slice none 0 0, .slice none 0 0, .slice none 0 0]] 8 rfl (door_shaped os _) (by kernel_rfl) (by kernel_rfl) (by kernel_rfl) (door_met os _))
    laidOut (by kernel_rfl) rfl Tryd.underlying4 (by kernel_rfl) ?_ ?_
  · intro ds h
    match ds, h with
    | [d1], _ => exact ⟨rfl, rfl, rfl⟩
  · intro W base args ds p hval0 hA0 _ hsz0 hL
    have ht := tab_of hL
    have hval : ∀ (j : Nat) t v, Tryd.f7.params[j]? = some t → args[j]? = some v → Value.okWide Tryd.prog W .any base t v := hval0
    have hA : DataW.TrodAll enc Tryd.prog W 0 (fun _ => true) true Tryd.f7.params.toList args.toList ds p := hA0
    clear hsz0 hL
    rw [Tryd.params7] at hA hval
    obtain ⟨v0, vs0, d0, ds0, p0, q0, hargs, rfl, rfl, h0, r0⟩ := trodAll_cons hA
    obtain ⟨rfl, rfl, rfl⟩ := trodAll_nil r0
    obtain rfl : args = #[v0] := by cases args; simp_all
    obtain ⟨⟨A1, ps, c1, A2, bs, c2, A3, os, c3⟩, rfl, hin⟩ := open_dg (hval 0 26 v0 rfl rfl) h0
    exact diagramPrunes_walk A1 ps c1 A2 bs c2 A3 os c3 W hin ht
theorem diagramPrunes_row : Rows.DiagramPrunesSaid :=
  OpenClaim.holds_of_wide 7 Tryd.f7 rfl rfl rfl rfl rfl rfl rfl ⟨rfl, rfl, rfl, rfl, rfl⟩ rfl rfl rfl rfl rfl (by kernel_rfl) Tryd.func7 (by kernel_rfl)
    (of_decide_eq_true (by kernel_rfl)) (by unfold Func.isWrapper; first | (rw [if_pos (by decide +kernel)]; kernel_rfl) | (rw [if_neg (by decide +kernel)]; exact ⟨rfl, rfl⟩))
    (fun os started H enc _ => diagramPrunes_lifted os started H enc)
theorem diagramPrunes_holds : Rows.DiagramPrunesCardSaid :=
  Claim7.holds_tied_plain_at .later [] [.data] true (true, "d4523cc579fb41ec178fce1dad4bb0eaaa70277df7fec9a2fbd66a268b8bd742") true
    diagramPrunes_row (fun _ h => by cases h) (by kernel_rfl) (fun _ h => by cases h) diagramPrunes_row_tie rfl ⟨rfl, rfl⟩ (by kernel_rfl) rfl
    (fun f fn hf hfn => by
      obtain rfl : f = 7 := Option.some.inj ((show Tryd.prog.funcNamed "commutator/commutatorlaw10.DiagramPrunes" = some 7 by kernel_rfl).symm.trans hf) |>.symm
      obtain rfl : fn = Tryd.f7 := (Option.some.inj (Tryd.func7.symm.trans hfn)).symm
      exact ⟨by kernel_rfl, fun j t ht => by
        rw [Tryd.params7] at ht
        have hm : t ∈ [26] := by simpa using Array.mem_of_getElem? ht
        have hall : ([26].all fun u => !Tryd.prog.wantsStandIn u) = true := by kernel_rfl
        exact (show Tryd.prog.wantsStandIn t = false by simpa using List.all_eq_true.1 hall t hm)⟩)
    (by kernel_rfl)
#print axioms diagramPrunes_holds

end Go.Proofs.YtaheedieingpiaaDoor
