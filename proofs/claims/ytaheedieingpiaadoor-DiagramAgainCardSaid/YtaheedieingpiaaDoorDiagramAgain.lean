/- DiagramAgain: for every diagram the law returns true: a pruned diagram is accepted, pruned again it is the same with all its blocks, and it has the same outputs in the old numbers. No conditions. -/
import Derived.Test.YtaheedieingpiaaDoorDhL
import Derived.Test.YtaheedieingpiaaDoorDhI
import Derived.Test.YtaheedieingpiaaDoorDhJ
namespace Go.Proofs.YtaheedieingpiaaDoor
set_option linter.unusedVariables false
set_option linter.unusedSimpArgs false
set_option linter.unusedSectionVars false
open Go.ChangeShapes Go.WideShapes Go.ChangeAt Go.RowKit Go.Joins

set_option maxRecDepth 100000 in
set_option maxHeartbeats 4000000 in
theorem agn_heavy (A1 : Option Addr) (ps : List Prt) (c1 : Nat) (A2 : Option Addr) (bs : List Bk) (c2 : Nat) (A3 : Option Addr) (os : List Int) (c3 : Nat)  (w : World) (hi : DgIn w ⟨A1, ps, c1, A2, bs, c2, A3, os, c3⟩) (ht : TabAt w) (hl : lightG ⟨A1, ps, c1, A2, bs, c2, A3, os, c3⟩ = false) : Calls Tryd.prog 8 #[.agg #[.slice A1 ps.length c1, .slice A2 bs.length c2, .slice A3 os.length c3]] w fun e w' => e = .returned (.bool true) ∧ Below w.heap.size w w' := by
  have HI := Lib.hid hi
  have HT := Lib.hid ht
  clear hi ht
  have HL := Lib.hid hl
  clear hl
  have X0 := Lib.hid (Lx.start w ⟨A1, ps, c1, A2, bs, c2, A3, os, c3⟩ HT.out)
  go_enter Tryd.func8, Tryd.ntmps8
  go_wp2_with fail
  go_at_call 11
  refine (awake_any _ X0.out.tab).mono ?_
  rintro e w1 ⟨rfl, hb⟩
  have X1 := Lib.hid (X0.out.next hb)
  clear hb
  have f0 : w1.cell? ⟨w.heap.size, 0, none⟩ = some (.slice A1 ps.length c1) := X1.out.c0
  have f1 : w1.cell? ⟨w.heap.size, 1, none⟩ = some (.slice A2 bs.length c2) := X1.out.c1
  have f2 : w1.cell? ⟨w.heap.size, 2, none⟩ = some (.slice A3 os.length c3) := X1.out.c2
  have z1 : w.heap.size < w1.heap.size := X1.out.lt
  go_wp2_with fail
  go_at_call 12
  refine (light_any ⟨A1, ps, c1, A2, bs, c2, A3, os, c3⟩ _ w X1.out.bel HI.out).mono ?_
  rintro e w2 ⟨rfl, hb⟩
  have X2 := Lib.hid (X1.out.next hb)
  rw [HL.out]
  clear hb
  clear f0 f1 f2
  have f0 : w2.cell? ⟨w.heap.size, 0, none⟩ = some (.slice A1 ps.length c1) := X2.out.c0
  have f1 : w2.cell? ⟨w.heap.size, 1, none⟩ = some (.slice A2 bs.length c2) := X2.out.c1
  have f2 : w2.cell? ⟨w.heap.size, 2, none⟩ = some (.slice A3 os.length c3) := X2.out.c2
  have z2 : w.heap.size < w2.heap.size := X2.out.lt
  go_wp2_with fail
  go_at_call 11
  refine (awake_any _ X2.out.tab).mono ?_
  rintro e w3 ⟨rfl, hb⟩
  have X3 := Lib.hid (X2.out.next hb)
  clear hb
  clear f0 f1 f2
  have f0 : w3.cell? ⟨w.heap.size, 0, none⟩ = some (.slice A1 ps.length c1) := X3.out.c0
  have f1 : w3.cell? ⟨w.heap.size, 1, none⟩ = some (.slice A2 bs.length c2) := X3.out.c1
  have f2 : w3.cell? ⟨w.heap.size, 2, none⟩ = some (.slice A3 os.length c3) := X3.out.c2
  have z3 : w.heap.size < w3.heap.size := X3.out.lt
  go_wp2_with fail
  go_ret
  exact ⟨rfl, X3.out.bel⟩
set_option maxRecDepth 100000 in
set_option maxHeartbeats 4000000 in
theorem agn_bad (A1 : Option Addr) (ps : List Prt) (c1 : Nat) (A2 : Option Addr) (bs : List Bk) (c2 : Nat) (A3 : Option Addr) (os : List Int) (c3 : Nat)  (w : World) (hi : DgIn w ⟨A1, ps, c1, A2, bs, c2, A3, os, c3⟩) (ht : TabAt w) (hl : lightG ⟨A1, ps, c1, A2, bs, c2, A3, os, c3⟩ = true) (he : ¬ dgErr ps bs os = 0) : Calls Tryd.prog 8 #[.agg #[.slice A1 ps.length c1, .slice A2 bs.length c2, .slice A3 os.length c3]] w fun e w' => e = .returned (.bool true) ∧ Below w.heap.size w w' := by
  have HI := Lib.hid hi
  have HT := Lib.hid ht
  clear hi ht
  have HL := Lib.hid hl
  have HD := Lib.hid (HI.out.light hl)
  have h10 := hl
  unfold lightG at h10
  simp only [Bool.and_eq_true, decide_eq_true_eq, List.all_eq_true] at h10
  obtain ⟨⟨l1, l2, l3⟩, h4⟩ := h10
  have HA := Lib.hid h4
  clear hl h4
  try dsimp only at l1 l2 l3
  obtain ⟨E, hE⟩ : ∃ E, dgErr ps bs os = E := ⟨_, rfl⟩
  rw [hE] at he
  have HE := Lib.hid hE
  have HEN := Lib.hid (errV_n he)
  clear hE he
  have X0 := Lib.hid (Lx.start w ⟨A1, ps, c1, A2, bs, c2, A3, os, c3⟩ HT.out)
  go_enter Tryd.func8, Tryd.ntmps8
  go_wp2_with fail
  go_at_call 11
  refine (awake_any _ X0.out.tab).mono ?_
  rintro e w1 ⟨rfl, hb⟩
  have X1 := Lib.hid (X0.out.next hb)
  clear hb
  have f0 : w1.cell? ⟨w.heap.size, 0, none⟩ = some (.slice A1 ps.length c1) := X1.out.c0
  have f1 : w1.cell? ⟨w.heap.size, 1, none⟩ = some (.slice A2 bs.length c2) := X1.out.c1
  have f2 : w1.cell? ⟨w.heap.size, 2, none⟩ = some (.slice A3 os.length c3) := X1.out.c2
  have z1 : w.heap.size < w1.heap.size := X1.out.lt
  go_wp2_with fail
  go_at_call 12
  refine (light_any ⟨A1, ps, c1, A2, bs, c2, A3, os, c3⟩ _ w X1.out.bel HI.out).mono ?_
  rintro e w2 ⟨rfl, hb⟩
  have X2 := Lib.hid (X1.out.next hb)
  rw [HL.out]
  clear hb
  clear f0 f1 f2
  have f0 : w2.cell? ⟨w.heap.size, 0, none⟩ = some (.slice A1 ps.length c1) := X2.out.c0
  have f1 : w2.cell? ⟨w.heap.size, 1, none⟩ = some (.slice A2 bs.length c2) := X2.out.c1
  have f2 : w2.cell? ⟨w.heap.size, 2, none⟩ = some (.slice A3 os.length c3) := X2.out.c2
  have z2 : w.heap.size < w2.heap.size := X2.out.lt
  go_wp2_with fail
  go_at_call 18
  refine (Check_any ⟨A1, ps, c1, A2, bs, c2, A3, os, c3⟩ w.heap.size _ X2.out.le (X2.out.dg HD.out) X2.out.tab).mono ?_
  rintro e w3 ⟨rfl, hb⟩
  have X3 := Lib.hid (X2.out.next hb)
  dsimp only
  rw [HE.out, HEN.out]
  clear hb
  clear f0 f1 f2
  have f0 : w3.cell? ⟨w.heap.size, 0, none⟩ = some (.slice A1 ps.length c1) := X3.out.c0
  have f1 : w3.cell? ⟨w.heap.size, 1, none⟩ = some (.slice A2 bs.length c2) := X3.out.c1
  have f2 : w3.cell? ⟨w.heap.size, 2, none⟩ = some (.slice A3 os.length c3) := X3.out.c2
  have z3 : w.heap.size < w3.heap.size := X3.out.lt
  go_wp2_with fail
  go_at_call 11
  refine (awake_any _ X3.out.tab).mono ?_
  rintro e w4 ⟨rfl, hb⟩
  have X4 := Lib.hid (X3.out.next hb)
  clear hb
  clear f0 f1 f2
  have f0 : w4.cell? ⟨w.heap.size, 0, none⟩ = some (.slice A1 ps.length c1) := X4.out.c0
  have f1 : w4.cell? ⟨w.heap.size, 1, none⟩ = some (.slice A2 bs.length c2) := X4.out.c1
  have f2 : w4.cell? ⟨w.heap.size, 2, none⟩ = some (.slice A3 os.length c3) := X4.out.c2
  have z4 : w.heap.size < w4.heap.size := X4.out.lt
  go_wp2_with fail
  go_ret
  exact ⟨rfl, X4.out.bel⟩
def agR (w5 : World) (n : Nat) (v : Value) (wr : World) : Prop := ∃ k : Nat, k ≤ n ∧ v = .int .i64 (k : Int) ∧ Below w5.heap.size w5 wr

set_option maxRecDepth 100000 in
set_option maxHeartbeats 4000000 in
theorem agn_good (A1 : Option Addr) (ps : List Prt) (c1 : Nat) (A2 : Option Addr) (bs : List Bk) (c2 : Nat) (A3 : Option Addr) (os : List Int) (c3 : Nat)  (w : World) (hi : DgIn w ⟨A1, ps, c1, A2, bs, c2, A3, os, c3⟩) (ht : TabAt w) (hl : lightG ⟨A1, ps, c1, A2, bs, c2, A3, os, c3⟩ = true) (he : dgErr ps bs os = 0) : Calls Tryd.prog 8 #[.agg #[.slice A1 ps.length c1, .slice A2 bs.length c2, .slice A3 os.length c3]] w fun e w' => e = .returned (.bool true) ∧ Below w.heap.size w w' := by
  have HI := Lib.hid hi
  have HT := Lib.hid ht
  clear hi ht
  have HL := Lib.hid hl
  have HD := Lib.hid (HI.out.light hl)
  have h10 := hl
  unfold lightG at h10
  simp only [Bool.and_eq_true, decide_eq_true_eq, List.all_eq_true] at h10
  obtain ⟨⟨l1, l2, l3⟩, h4⟩ := h10
  have HA := Lib.hid h4
  clear hl h4
  try dsimp only at l1 l2 l3
  have HE := Lib.hid he
  have NZ := Lib.hid (show Nz ⟨A1, ps, c1, A2, bs, c2, A3, os, c3⟩ from ⟨HI.out.n1, HI.out.n4⟩)
  obtain ⟨L, hL⟩ : ∃ L, L = keptL bs os := ⟨_, rfl⟩
  have HKL := Lib.hid hL
  have hLn : L.length ≤ bs.length := by rw [hL]; exact keptL_len bs os
  have HLT := Lib.hid (show ∀ j ∈ L, j < bs.length from by rw [hL]; exact fun j hj => keptL_lt hj)
  have HOO := Lib.hid (dg_outs he)
  have HKO := Lib.hid (show ∀ o ∈ os, o.toNat ∈ L from by rw [hL]; exact fun o ho => kept_out he ho)
  clear he hL
  have X0 := Lib.hid (Lx.start w ⟨A1, ps, c1, A2, bs, c2, A3, os, c3⟩ HT.out)
  go_enter Tryd.func8, Tryd.ntmps8
  go_wp2_with fail
  go_at_call 11
  refine (awake_any _ X0.out.tab).mono ?_
  rintro e w1 ⟨rfl, hb⟩
  have X1 := Lib.hid (X0.out.next hb)
  clear hb
  have f0 : w1.cell? ⟨w.heap.size, 0, none⟩ = some (.slice A1 ps.length c1) := X1.out.c0
  have f1 : w1.cell? ⟨w.heap.size, 1, none⟩ = some (.slice A2 bs.length c2) := X1.out.c1
  have f2 : w1.cell? ⟨w.heap.size, 2, none⟩ = some (.slice A3 os.length c3) := X1.out.c2
  have z1 : w.heap.size < w1.heap.size := X1.out.lt
  go_wp2_with fail
  go_at_call 12
  refine (light_any ⟨A1, ps, c1, A2, bs, c2, A3, os, c3⟩ _ w X1.out.bel HI.out).mono ?_
  rintro e w2 ⟨rfl, hb⟩
  have X2 := Lib.hid (X1.out.next hb)
  rw [HL.out]
  clear hb
  clear f0 f1 f2
  have f0 : w2.cell? ⟨w.heap.size, 0, none⟩ = some (.slice A1 ps.length c1) := X2.out.c0
  have f1 : w2.cell? ⟨w.heap.size, 1, none⟩ = some (.slice A2 bs.length c2) := X2.out.c1
  have f2 : w2.cell? ⟨w.heap.size, 2, none⟩ = some (.slice A3 os.length c3) := X2.out.c2
  have z2 : w.heap.size < w2.heap.size := X2.out.lt
  go_wp2_with fail
  go_at_call 18
  refine (Check_any ⟨A1, ps, c1, A2, bs, c2, A3, os, c3⟩ w.heap.size _ X2.out.le (X2.out.dg HD.out) X2.out.tab).mono ?_
  rintro e w3 ⟨rfl, hb⟩
  have X3 := Lib.hid (X2.out.next hb)
  dsimp only
  rw [HE.out, errV_0]
  clear hb
  clear f0 f1 f2
  have f0 : w3.cell? ⟨w.heap.size, 0, none⟩ = some (.slice A1 ps.length c1) := X3.out.c0
  have f1 : w3.cell? ⟨w.heap.size, 1, none⟩ = some (.slice A2 bs.length c2) := X3.out.c1
  have f2 : w3.cell? ⟨w.heap.size, 2, none⟩ = some (.slice A3 os.length c3) := X3.out.c2
  have z3 : w.heap.size < w3.heap.size := X3.out.lt
  go_wp2_with fail
  go_at_call 21
  refine (prune_ok ⟨A1, ps, c1, A2, bs, c2, A3, os, c3⟩ w.heap.size _ X3.out.le (X3.out.dg HD.out) X3.out.tab NZ.out HE.out).mono ?_
  rintro e w4 ⟨⟨P1, p1, q1, P2, p2, q2, P3, p3, q3⟩, v1, rfl, hd1, hn1, hp1, hc1, ho1, hown1, hb⟩
  have X4 := Lib.hid (X3.out.next hb)
  dsimp only [Dg.val] at hp1 hc1 ho1 hown1 ⊢
  obtain rfl : ps = p1 := hp1.symm
  rw [errV_0]
  have hl2 : p2.length = L.length := by rw [HKL.out]; exact ag_len hc1
  have hl3 : p3.length = os.length := by rw [ho1]; simp [prOs]
  rw [← HKL.out] at hown1
  have D1 := Lib.hid hd1
  have N1 := Lib.hid hn1
  have C1 := Lib.hid hc1
  have U1 := Lib.hid ho1
  have HL2 := Lib.hid hl2
  have HL3 := Lib.hid hl3
  have O1 := Lib.hid hown1
  obtain ⟨V1, vc1, rfl, _, _⟩ := hown1.view
  rw [natI_len]
  rw [natI_len] at O1
  rw [hl2, hl3]
  clear hd1 hn1 hc1 ho1 hown1 hl2 hl3
  clear hb
  clear f0 f1 f2
  have f0 : w4.cell? ⟨w.heap.size, 0, none⟩ = some (.slice A1 ps.length c1) := X4.out.c0
  have f1 : w4.cell? ⟨w.heap.size, 1, none⟩ = some (.slice A2 bs.length c2) := X4.out.c1
  have f2 : w4.cell? ⟨w.heap.size, 2, none⟩ = some (.slice A3 os.length c3) := X4.out.c2
  have z4 : w.heap.size < w4.heap.size := X4.out.lt
  have B1 := Lib.hid (RowD.new_ w4 [.slice P1 ps.length q1, .slice P2 L.length q2, .slice P3 os.length q3] 26)
  have D1' := Lib.hid ((D1.out.below (al_ w4 (.cells #[.slice P1 ps.length q1, .slice P2 L.length q2, .slice P3 os.length q3] 26)) (Nat.le_refl _)).more (m' := w4.heap.size + 1) (by omega))
  have O1' := Lib.hid (O1.out.alloc (.cells #[.slice P1 ps.length q1, .slice P2 L.length q2, .slice P3 os.length q3] 26))
  have XB := Lib.hid (X4.out.al (.cells #[.slice P1 ps.length q1, .slice P2 L.length q2, .slice P3 os.length q3] 26))
  clear D1 O1
  go_wp2_with fail
  go_at_call 18
  have HCK := Check_any ⟨P1, ps, q1, P2, p2, q2, P3, p3, q3⟩ (w4.heap.size + 1) (w4.alloc (.cells #[.slice P1 ps.length q1, .slice P2 L.length q2, .slice P3 os.length q3] 26)) (by simp) D1'.out XB.out.tab
  simp only [Dg.val] at HCK
  rw [HL2.out, HL3.out, show dgErr ps p2 p3 = 0 from by rw [U1.out]; exact ag_err HE.out C1.out, errV_0] at HCK
  refine HCK.mono ?_
  rintro e w5 ⟨rfl, hb⟩
  have X5 := Lib.hid (XB.out.next hb)
  have D1 := Lib.hid (D1'.out.below hb (by simp))
  have B1' := Lib.hid (B1.out.call hb)
  have O1 := Lib.hid (O1'.out.call hb)
  clear hb HCK B1 D1' O1' XB f0 f1 f2
  have f0 : w5.cell? ⟨w.heap.size, 0, none⟩ = some (.slice A1 ps.length c1) := X5.out.c0
  have f1 : w5.cell? ⟨w.heap.size, 1, none⟩ = some (.slice A2 bs.length c2) := X5.out.c1
  have f2 : w5.cell? ⟨w.heap.size, 2, none⟩ = some (.slice A3 os.length c3) := X5.out.c2
  have z5 : w.heap.size < w5.heap.size := X5.out.lt
  have g0 : w5.cell? ⟨w4.heap.size, 0, none⟩ = some (.slice P1 ps.length q1) := B1'.out.cell 0
  have g1 : w5.cell? ⟨w4.heap.size, 1, none⟩ = some (.slice P2 L.length q2) := B1'.out.cell 1
  have g2 : w5.cell? ⟨w4.heap.size, 2, none⟩ = some (.slice P3 os.length q3) := B1'.out.cell 2
  have zg : w4.heap.size < w5.heap.size := B1'.out.lt
  go_wp2_with fail
  go_at_call 21
  have HP2 := prune_ok ⟨P1, ps, q1, P2, p2, q2, P3, p3, q3⟩ (w4.heap.size + 1) w5 (by omega) D1.out X5.out.tab N1.out (by show dgErr ps p2 p3 = 0; rw [U1.out]; exact ag_err HE.out C1.out)
  simp only [Dg.val] at HP2
  rw [HL2.out, HL3.out] at HP2
  refine HP2.mono ?_
  rintro e w6 ⟨⟨Q1, r1, s1, Q2, r2, s2, Q3, r3, s3⟩, v2, rfl, hd2, hn2, hp2, hc2, ho2, hown2, hb⟩
  dsimp only [Dg.val] at hp2 hc2 ho2 hown2 ⊢
  obtain rfl : ps = r1 := hp2.symm
  have hc3 : r2.map core = p2.map core := by rw [hc2, U1.out]; exact ag_bs HE.out C1.out
  have ho3 : r3 = p3 := by rw [ho2, U1.out]; exact ag_os HE.out C1.out
  have hk3 : natI (keptL p2 p3) = natI (List.range L.length) := by rw [U1.out, ag_kept HE.out C1.out, HKL.out]
  rw [hk3] at hown2
  have hl4 : r2.length = L.length := by rw [← HL2.out]; exact core_len hc3
  have hl5 : r3.length = os.length := by rw [ho3]; exact HL3.out
  rw [errV_0]
  have D2 := Lib.hid hd2
  have C3 := Lib.hid hc3
  have U3 := Lib.hid ho3
  have O2 := Lib.hid hown2
  have HL4 := Lib.hid hl4
  have HL5 := Lib.hid hl5
  obtain ⟨V2, vc2, rfl, _, _⟩ := hown2.view
  have hrl : (natI (List.range L.length)).length = L.length := by rw [natI_len, List.length_range]
  rw [hrl]
  rw [hrl] at O2
  rw [hl4, hl5]
  have X6 := Lib.hid (X5.out.next hb)
  have D1' := Lib.hid (D1.out.below hb (by omega))
  have B1 := Lib.hid (B1'.out.call hb)
  have O1' := Lib.hid (O1.out.call hb)
  clear hb HP2 B1' D1 O1 f0 f1 f2 g0 g1 g2 hd2 hn2 hp2 hc2 hc3 ho2 ho3 hk3 hown2 hl4 hl5 hrl
  have f0 : w6.cell? ⟨w.heap.size, 0, none⟩ = some (.slice A1 ps.length c1) := X6.out.c0
  have f1 : w6.cell? ⟨w.heap.size, 1, none⟩ = some (.slice A2 bs.length c2) := X6.out.c1
  have f2 : w6.cell? ⟨w.heap.size, 2, none⟩ = some (.slice A3 os.length c3) := X6.out.c2
  have z6 : w.heap.size < w6.heap.size := X6.out.lt
  have g0 : w6.cell? ⟨w4.heap.size, 0, none⟩ = some (.slice P1 ps.length q1) := B1.out.cell 0
  have g1 : w6.cell? ⟨w4.heap.size, 1, none⟩ = some (.slice P2 L.length q2) := B1.out.cell 1
  have g2 : w6.cell? ⟨w4.heap.size, 2, none⟩ = some (.slice P3 os.length q3) := B1.out.cell 2
  have zg2 : w4.heap.size < w6.heap.size := B1.out.lt
  have D1 := Lib.hid ((D1'.out.below (al_ w6 (.cells #[.slice Q1 ps.length s1, .slice Q2 L.length s2, .slice Q3 os.length s3] 26)) (by omega)).more (m' := w6.heap.size + 1) (by omega))
  have D2' := Lib.hid ((D2.out.below (al_ w6 (.cells #[.slice Q1 ps.length s1, .slice Q2 L.length s2, .slice Q3 os.length s3] 26)) (Nat.le_refl _)).more (m' := w6.heap.size + 1) (by omega))
  have O1 := Lib.hid (O1'.out.alloc (.cells #[.slice Q1 ps.length s1, .slice Q2 L.length s2, .slice Q3 os.length s3] 26))
  have O2' := Lib.hid (O2.out.alloc (.cells #[.slice Q1 ps.length s1, .slice Q2 L.length s2, .slice Q3 os.length s3] 26))
  have XB := Lib.hid (X6.out.al (.cells #[.slice Q1 ps.length s1, .slice Q2 L.length s2, .slice Q3 os.length s3] 26))
  have B1' := Lib.hid (B1.out.call (al_ w6 (.cells #[.slice Q1 ps.length s1, .slice Q2 L.length s2, .slice Q3 os.length s3] 26)))
  clear D1' D2 O1' O2 B1
  go_wp2_with fail
  go_at_call 23
  have HSM := same_true ⟨P1, ps, q1, P2, p2, q2, P3, p3, q3⟩ ⟨Q1, ps, s1, Q2, r2, s2, Q3, r3, s3⟩ (w6.heap.size + 1) (w6.alloc (.cells #[.slice Q1 ps.length s1, .slice Q2 L.length s2, .slice Q3 os.length s3] 26)) (by simp) D1.out D2'.out rfl C3.out U3.out
  simp only [Dg.val] at HSM
  rw [HL2.out, HL3.out, HL4.out, HL5.out] at HSM
  refine HSM.mono ?_
  rintro e w7 ⟨rfl, hb⟩
  have X7 := Lib.hid (XB.out.next hb)
  have D1' := Lib.hid (D1.out.below hb (by simp))
  have B1 := Lib.hid (B1'.out.call hb)
  have O1' := Lib.hid (O1.out.call hb)
  have O2 := Lib.hid (O2'.out.call hb)
  have hszS : w6.heap.size + 1 ≤ w7.heap.size := by have := hb.size; simpa using this
  clear hb HSM B1' D1 O1 D2' O2' XB f0 f1 f2 g0 g1 g2 zg zg2
  have f0 : w7.cell? ⟨w.heap.size, 0, none⟩ = some (.slice A1 ps.length c1) := X7.out.c0
  have f1 : w7.cell? ⟨w.heap.size, 1, none⟩ = some (.slice A2 bs.length c2) := X7.out.c1
  have f2 : w7.cell? ⟨w.heap.size, 2, none⟩ = some (.slice A3 os.length c3) := X7.out.c2
  have z7 : w.heap.size < w7.heap.size := X7.out.lt
  have g1 : w7.cell? ⟨w4.heap.size, 1, none⟩ = some (.slice P2 L.length q2) := B1.out.cell 1
  have g2 : w7.cell? ⟨w4.heap.size, 2, none⟩ = some (.slice P3 os.length q3) := B1.out.cell 2
  have zg : w4.heap.size < w7.heap.size := B1.out.lt
  go_wp2_with fail
  clear f0 f1 f2 g1 g2 zg
  go_loopw [72] (fun v wr => agR w7 L.length v wr) (fun v _ => L.length - (intOf v).toNat)
  case atStart => exact ⟨0, Nat.zero_le _, rfl, Below.refl _ _⟩
  case round =>
    obtain ⟨t, ht, rfl, hb⟩ := hrel
    have XR := Lib.hid (X7.out.next hb)
    have f0 : wr.cell? ⟨w.heap.size, 0, none⟩ = some (.slice A1 ps.length c1) := XR.out.c0
    have f1 : wr.cell? ⟨w.heap.size, 1, none⟩ = some (.slice A2 bs.length c2) := XR.out.c1
    have f2 : wr.cell? ⟨w.heap.size, 2, none⟩ = some (.slice A3 os.length c3) := XR.out.c2
    have zr : w.heap.size < wr.heap.size := XR.out.lt
    have BR := Lib.hid (B1.out.call hb)
    have g1 : wr.cell? ⟨w4.heap.size, 1, none⟩ = some (.slice P2 L.length q2) := BR.out.cell 1
    have g2 : wr.cell? ⟨w4.heap.size, 2, none⟩ = some (.slice P3 os.length q3) := BR.out.cell 2
    have zg : w4.heap.size < wr.heap.size := BR.out.lt
    have OR := Lib.hid (O1'.out.call hb)
    by_cases hlt : t < L.length
    · have hti : (t : Int) < (L.length : Int) := by omega
      have hLt := List.getElem?_eq_getElem hlt
      obtain ⟨i, hi⟩ : ∃ i, i = L[t] := ⟨_, rfl⟩
      rw [← hi] at hLt
      have hin : i < bs.length := HLT.out i (List.mem_of_getElem? hLt)
      have hii : (i : Int) < (bs.length : Int) := by omega
      have HLT2 := Lib.hid hLt
      obtain ⟨vb, vo, y, hV1, hvb, hvb2, hy, gy⟩ := OR.out.cells.int_ (k := t) (by rw [natI_len]; exact hlt)
      rw [natI_get, hLt] at hy
      simp only [Option.map_some, Option.some.injEq] at hy
      subst hy hV1
      obtain ⟨xb, xo, z, hV2, hxb, hxb2, hz, gz⟩ := ((O2.out.call hb).cells).int_ (k := t) (by rw [natI_len, List.length_range]; exact hlt)
      rw [natI_get, List.getElem?_range hlt] at hz
      simp only [Option.map_some, Option.some.injEq] at hz
      subst hz hV2
      obtain ⟨b, off, kind, B, args, cap, vn, ve, un, ue, hA2, hbm, hbs, hx, h0, _, _, _, _, _, _, _⟩ := (XR.out.dg HD.out).blk hin
      obtain ⟨b', off', kind', B', args', cap', vn', ve', un', ue', hP2, hbm', hbs', hx', h0', _, _, _, _, _, _, _⟩ := (D1'.out.below hb (by omega)).blk (k := t) (by show t < p2.length; rw [HL2.out]; exact hlt)
      dsimp only at hA2 hx hP2 hx'
      subst hA2 hP2
      have hkk : kind' = kind := by
        have h1 := ag_kind HE.out C1.out (k := t) (i := i) (by rw [← HKL.out]; exact HLT2.out)
        rw [kind_of hx, kind_of hx'] at h1
        exact h1
      obtain rfl : kind = kind' := hkk.symm
      clear hi hLt hx hx'
      by_cases h00 : t = 0
      · subst h00
        as_aux_lemma =>
        simp only [Nat.zero_mul, Nat.add_zero] at gy gz h0'
        have d0 : decide ((i : Int) < 0) = false := by simp
        have d1 : decide (bs.length ≤ i) = false := by simp; omega
        go_wp2_with fail
        refine wp_region_qext wr.heap.size (Nat.le_refl _) (by kernel_rfl) (by kernel_rfl) ?_
        intro _
        try dsimp only [List.append]
        repeat (go_big_quiet_step ((fail)))
        refine wpQuiet_nil ?_
        intro w9 hw'
        obtain ⟨⟨_, hb9, hz9⟩, rfl⟩ := hw'
        go_wp2_with fail
        all_goals try (exfalso; omega)
        exact ⟨⟨0 + 1, by omega, by go_num, hb.trans (hb9.mono (by have := hb.size; omega))⟩, by simp [intOf]; omega⟩
      · have htp : (0 : Int) < (t : Int) := by omega
        have hpt : t - 1 < L.length := by omega
        obtain ⟨i2, hi2⟩ : ∃ i2, i2 = L[t - 1] := ⟨_, rfl⟩
        have hLp : L[t - 1]? = some i2 := by rw [hi2]; exact List.getElem?_eq_getElem hpt
        have hlt2 : i2 < i := kept_sorted (bs := bs) (os := os) (k := t - 1) (by rw [← HKL.out]; exact hLp) (by rw [← HKL.out, show t - 1 + 1 = t by omega]; exact HLT2.out)
        obtain ⟨vb2, vo2, y2, hV12, _, _, hy2, gy2⟩ := OR.out.cells.int_ (k := t - 1) (by rw [natI_len]; exact hpt)
        cases hV12
        rw [natI_get, hLp] at hy2
        simp only [Option.map_some, Option.some.injEq] at hy2
        subst hy2
        have hle2 : ¬ (i : Int) ≤ (i2 : Int) := by omega
        have ht1 : ((t : Int) - 1).toNat = t - 1 := by omega
        clear hi2 hLp h00
        as_aux_lemma =>
        have d0 : decide ((i : Int) < 0) = false := by simp
        have d1 : decide (bs.length ≤ i) = false := by simp; omega
        have d2 : decide (0 < t) = true := by simp; omega
        have d2' : 0 < t := by omega
        have d3 : decide (i ≤ i2) = false := by simp; omega
        have d4 : (0 : Int) ≤ (t : Int) - 1 := by omega
        have d5 : (t : Int) - 1 < (L.length : Int) := by omega
        go_wp2_with fail
        have d6 : IntKind.i64.wrap ((t : Int) - 1) = (t : Int) - 1 := IntWalk.i64_in _ (by omega)
        refine wp_region_qext wr.heap.size (Nat.le_refl _) (by kernel_rfl) (by kernel_rfl) ?_
        intro _
        try dsimp only [List.append]
        repeat (go_big_quiet_step ((fail)))
        refine wpQuiet_nil ?_
        intro w9 hw'
        obtain ⟨⟨_, hb9, hz9⟩, rfl⟩ := hw'
        go_wp2_with fail
        all_goals try (exfalso; omega)
        exact ⟨⟨t + 1, by omega, by go_num, hb.trans (hb9.mono (by have := hb.size; omega))⟩, by simp [intOf]; omega⟩
    · have hle : ¬ (t : Int) < (L.length : Int) := by omega
      go_wp2_with fail
      clear f0 f1 f2 g1 g2 zg zr XR BR OR
      go_loopw [135] (fun v wr => agR w7 os.length v wr) (fun v _ => os.length - (intOf v).toNat)
      case atStart => exact ⟨0, Nat.zero_le _, rfl, hb⟩
      case round =>
        clear hb
        obtain ⟨t, ht, rfl, hb⟩ := hrel
        have XR := Lib.hid (X7.out.next hb)
        have f0 : wr.cell? ⟨w.heap.size, 0, none⟩ = some (.slice A1 ps.length c1) := XR.out.c0
        have f1 : wr.cell? ⟨w.heap.size, 1, none⟩ = some (.slice A2 bs.length c2) := XR.out.c1
        have f2 : wr.cell? ⟨w.heap.size, 2, none⟩ = some (.slice A3 os.length c3) := XR.out.c2
        have zr : w.heap.size < wr.heap.size := XR.out.lt
        have BR := Lib.hid (B1.out.call hb)
        have g1 : wr.cell? ⟨w4.heap.size, 1, none⟩ = some (.slice P2 L.length q2) := BR.out.cell 1
        have g2 : wr.cell? ⟨w4.heap.size, 2, none⟩ = some (.slice P3 os.length q3) := BR.out.cell 2
        have zg : w4.heap.size < wr.heap.size := BR.out.lt
        have OR := Lib.hid (O1'.out.call hb)
        by_cases hlt : t < os.length
        · have hti : (t : Int) < (os.length : Int) := by omega
          obtain ⟨ob, oo, o, hA3, hob, hob2, ho, go⟩ := (XR.out.dg HD.out).os.int_ hlt
          dsimp only at hA3 ho
          have hor := HOO.out o (List.mem_of_getElem? ho)
          obtain ⟨r0, r1, r2'⟩ := ren_in (HKO.out o (List.mem_of_getElem? ho))
          obtain ⟨pb, po, y, hP3, hpb, hpb2, hy, gy⟩ := ((D1'.out.below hb (by omega)).os).int_ (k := t) (by show t < p3.length; rw [HL3.out]; exact hlt)
          dsimp only at hP3 hy
          rw [U1.out, prOs_get ho, ← HKL.out] at hy
          simp only [Option.some.injEq] at hy
          subst hy hA3 hP3
          obtain ⟨q, hq⟩ := Int.eq_ofNat_of_zero_le r0
          rw [hq] at r1 r2' gy
          rw [Int.toNat_natCast] at r2'
          have hqn : q < L.length := by omega
          obtain ⟨o, rfl⟩ := Int.eq_ofNat_of_zero_le hor.1
          rw [Int.toNat_natCast] at r2'
          obtain ⟨vb, vo, y, hV1, hvb, hvb2, hy, gv⟩ := OR.out.cells.int_ (k := q) (by rw [natI_len]; exact hqn)
          rw [natI_get, r2'] at hy
          simp only [Option.map_some, Option.some.injEq] at hy
          subst hy hV1
          clear hq r0 r2' ho hor
          as_aux_lemma =>
          have d0 : decide ((q : Int) < 0) = false := by simp
          have d1 : decide (L.length ≤ q) = false := by simp; omega
          go_wp2_with fail
          refine wp_region_qext wr.heap.size (Nat.le_refl _) (by kernel_rfl) (by kernel_rfl) ?_
          intro _
          try dsimp only [List.append]
          repeat (go_big_quiet_step ((fail)))
          refine wpQuiet_nil ?_
          intro w9 hw'
          obtain ⟨⟨_, hb9, hz9⟩, rfl⟩ := hw'
          go_wp2_with fail
          all_goals try (exfalso; omega)
          exact ⟨⟨t + 1, by omega, by go_num, hb.trans (hb9.mono (by have := hb.size; omega))⟩, by simp [intOf]; omega⟩
        · have hle : ¬ (t : Int) < (os.length : Int) := by omega
          go_wp2_with fail
          go_ret
          exact ⟨rfl, XR.out.bel⟩
theorem diagramAgain_walk (A1 : Option Addr) (ps : List Prt) (c1 : Nat) (A2 : Option Addr) (bs : List Bk) (c2 : Nat) (A3 : Option Addr) (os : List Int) (c3 : Nat) (w : World) (hi : DgIn w ⟨A1, ps, c1, A2, bs, c2, A3, os, c3⟩) (ht : TabAt w) : Calls Tryd.prog 8 #[.agg #[.slice A1 ps.length c1, .slice A2 bs.length c2, .slice A3 os.length c3]] w fun e w' => e = .returned (.bool true) ∧ Below w.heap.size w w' := by
  cases hl : lightG ⟨A1, ps, c1, A2, bs, c2, A3, os, c3⟩ with
  | false => exact agn_heavy A1 ps c1 A2 bs c2 A3 os c3 w hi ht hl
  | true =>
    by_cases he : dgErr ps bs os = 0
    · exact agn_good A1 ps c1 A2 bs c2 A3 os c3 w hi ht hl he
    · exact agn_bad A1 ps c1 A2 bs c2 A3 os c3 w hi ht hl he

set_option maxRecDepth 100000 in
set_option maxHeartbeats 4000000 in
theorem diagramAgain_lifted (os : Os) (started : os.Started) (H : Type) (enc : TypeId × Value → H) :
    ReturnsInHanded {} Tryd.checked os 8 .any (fun w args => (Rows.diagramAgainSpec.pre enc Tryd.prog Tryd.f8 [] false w args ∧ laidMetH Tryd.prog laidT w) ∧ sizedMet enc Tryd.prog Tryd.f8 (OpenSpec.ofChange Rows.diagramAgainSpec) false w args)
      (Rows.diagramAgainSpec.post enc Tryd.prog Tryd.f8 false true false false) := by
  refine law_lift_laid (C := Tryd.checked) (T := 4) own started (by kernel_rfl) Tryd.func8
    (ChangeSpec.witness_shaped (enc := enc) (C := Tryd.checked) (os := os) (X := fun w _ => laidMetH Tryd.prog laidT w) false (World.doorLaid Tryd.prog 400 os) #[.agg #[.slice none 0 0, .slice none 0 0, .slice none 0 0]] 8 rfl (door_shaped os _) (by kernel_rfl) (by kernel_rfl) (by kernel_rfl) (door_met os _))
    laidOut (by kernel_rfl) rfl Tryd.underlying4 (by kernel_rfl) ?_ ?_
  · intro ds h
    match ds, h with
    | [d1], _ => exact ⟨rfl, rfl, rfl⟩
  · intro W base args ds p hval0 hA0 _ hsz0 hL
    have ht := tab_of hL
    have hval : ∀ (j : Nat) t v, Tryd.f8.params[j]? = some t → args[j]? = some v → Value.okWide Tryd.prog W .any base t v := hval0
    have hA : DataW.TrodAll enc Tryd.prog W 0 (fun _ => true) true Tryd.f8.params.toList args.toList ds p := hA0
    clear hsz0 hL
    rw [Tryd.params8] at hA hval
    obtain ⟨v0, vs0, d0, ds0, p0, q0, hargs, rfl, rfl, h0, r0⟩ := trodAll_cons hA
    obtain ⟨rfl, rfl, rfl⟩ := trodAll_nil r0
    obtain rfl : args = #[v0] := by cases args; simp_all
    obtain ⟨⟨A1, ps, c1, A2, bs, c2, A3, os, c3⟩, rfl, hin⟩ := open_dg (hval 0 26 v0 rfl rfl) h0
    exact diagramAgain_walk A1 ps c1 A2 bs c2 A3 os c3 W hin ht
theorem diagramAgain_row : Rows.DiagramAgainSaid :=
  OpenClaim.holds_of_wide 8 Tryd.f8 rfl rfl rfl rfl rfl rfl rfl ⟨rfl, rfl, rfl, rfl, rfl⟩ rfl rfl rfl rfl rfl (by kernel_rfl) Tryd.func8 (by kernel_rfl)
    (of_decide_eq_true (by kernel_rfl)) (by unfold Func.isWrapper; first | (rw [if_pos (by decide +kernel)]; kernel_rfl) | (rw [if_neg (by decide +kernel)]; exact ⟨rfl, rfl⟩))
    (fun os started H enc _ => diagramAgain_lifted os started H enc)
theorem diagramAgain_holds : Rows.DiagramAgainCardSaid :=
  Claim7.holds_tied_plain_at .later [] [.data] true (true, "d4523cc579fb41ec178fce1dad4bb0eaaa70277df7fec9a2fbd66a268b8bd742") true
    diagramAgain_row (fun _ h => by cases h) (by kernel_rfl) (fun _ h => by cases h) diagramAgain_row_tie rfl ⟨rfl, rfl⟩ (by kernel_rfl) rfl
    (fun f fn hf hfn => by
      obtain rfl : f = 8 := Option.some.inj ((show Tryd.prog.funcNamed "commutator/commutatorlaw10.DiagramAgain" = some 8 by kernel_rfl).symm.trans hf) |>.symm
      obtain rfl : fn = Tryd.f8 := (Option.some.inj (Tryd.func8.symm.trans hfn)).symm
      exact ⟨by kernel_rfl, fun j t ht => by
        rw [Tryd.params8] at ht
        have hm : t ∈ [26] := by simpa using Array.mem_of_getElem? ht
        have hall : ([26].all fun u => !Tryd.prog.wantsStandIn u) = true := by kernel_rfl
        exact (show Tryd.prog.wantsStandIn t = false by simpa using List.all_eq_true.1 hall t hm)⟩)
    (by kernel_rfl)
#print axioms diagramAgain_holds

end Go.Proofs.YtaheedieingpiaaDoor
