/- DiagramChecks: for every diagram and every number the law returns true: what is wrong with a diagram first; all functions return it. No conditions. -/
import Derived.Test.YtaheedieingpiaaDoorDhI
import Derived.Test.YtaheedieingpiaaDoorDhJ
namespace Go.Proofs.YtaheedieingpiaaDoor
set_option linter.unusedVariables false
set_option linter.unusedSimpArgs false
set_option linter.unusedSectionVars false
open Go.ChangeShapes Go.WideShapes Go.ChangeAt Go.RowKit Go.Joins

set_option maxRecDepth 100000 in
set_option maxHeartbeats 4000000 in
theorem chk_heavy (A1 : Option Addr) (ps : List Prt) (c1 : Nat) (A2 : Option Addr) (bs : List Bk) (c2 : Nat) (A3 : Option Addr) (os : List Int) (c3 : Nat) (i : Int) (w : World) (hi : DgIn w ⟨A1, ps, c1, A2, bs, c2, A3, os, c3⟩) (ht : TabAt w) (hl : lightG ⟨A1, ps, c1, A2, bs, c2, A3, os, c3⟩ = false) : Calls Tryd.prog 10 #[.agg #[.slice A1 ps.length c1, .slice A2 bs.length c2, .slice A3 os.length c3], .int .i64 i] w fun e w' => e = .returned (.bool true) ∧ Below w.heap.size w w' := by
  have HI := Lib.hid hi
  have HT := Lib.hid ht
  clear hi ht
  have HL := Lib.hid hl
  clear hl
  have X0 := Lib.hid (Lx.start w ⟨A1, ps, c1, A2, bs, c2, A3, os, c3⟩ HT.out)
  go_enter Tryd.func10, Tryd.ntmps10
  go_wp2_with fail
  go_at_call 11
  refine (awake_any _ X0.out.tab).mono ?_
  rintro e w1 ⟨rfl, hb⟩
  have X1 := Lib.hid (X0.out.next hb)
  clear hb
  have f0 : w1.cell? ⟨w.heap.size, 0, none⟩ = some (.slice A1 ps.length c1) := X1.out.c0
  have f1 : w1.cell? ⟨w.heap.size, 1, none⟩ = some (.slice A2 bs.length c2) := X1.out.c1
  have f2 : w1.cell? ⟨w.heap.size, 2, none⟩ = some (.slice A3 os.length c3) := X1.out.c2
  have z1 : w.heap.size < w1.heap.size := X1.out.lt
  go_wp2_with fail
  go_at_call 12
  refine (light_any ⟨A1, ps, c1, A2, bs, c2, A3, os, c3⟩ _ w X1.out.bel HI.out).mono ?_
  rintro e w2 ⟨rfl, hb⟩
  have X2 := Lib.hid (X1.out.next hb)
  rw [HL.out]
  clear hb
  clear f0 f1 f2
  have f0 : w2.cell? ⟨w.heap.size, 0, none⟩ = some (.slice A1 ps.length c1) := X2.out.c0
  have f1 : w2.cell? ⟨w.heap.size, 1, none⟩ = some (.slice A2 bs.length c2) := X2.out.c1
  have f2 : w2.cell? ⟨w.heap.size, 2, none⟩ = some (.slice A3 os.length c3) := X2.out.c2
  have z2 : w.heap.size < w2.heap.size := X2.out.lt
  go_wp2_with fail
  go_at_call 11
  refine (awake_any _ X2.out.tab).mono ?_
  rintro e w3 ⟨rfl, hb⟩
  have X3 := Lib.hid (X2.out.next hb)
  clear hb
  clear f0 f1 f2
  have f0 : w3.cell? ⟨w.heap.size, 0, none⟩ = some (.slice A1 ps.length c1) := X3.out.c0
  have f1 : w3.cell? ⟨w.heap.size, 1, none⟩ = some (.slice A2 bs.length c2) := X3.out.c1
  have f2 : w3.cell? ⟨w.heap.size, 2, none⟩ = some (.slice A3 os.length c3) := X3.out.c2
  have z3 : w.heap.size < w3.heap.size := X3.out.lt
  go_wp2_with fail
  go_ret
  exact ⟨rfl, X3.out.bel⟩
set_option maxRecDepth 100000 in
set_option maxHeartbeats 4000000 in
theorem chk_good (A1 : Option Addr) (ps : List Prt) (c1 : Nat) (A2 : Option Addr) (bs : List Bk) (c2 : Nat) (A3 : Option Addr) (os : List Int) (c3 : Nat) (i : Int) (w : World) (hi : DgIn w ⟨A1, ps, c1, A2, bs, c2, A3, os, c3⟩) (ht : TabAt w) (hl : lightG ⟨A1, ps, c1, A2, bs, c2, A3, os, c3⟩ = true) (he : dgErr ps bs os = 0) : Calls Tryd.prog 10 #[.agg #[.slice A1 ps.length c1, .slice A2 bs.length c2, .slice A3 os.length c3], .int .i64 i] w fun e w' => e = .returned (.bool true) ∧ Below w.heap.size w w' := by
  have HI := Lib.hid hi
  have HT := Lib.hid ht
  clear hi ht
  have HL := Lib.hid hl
  have HD := Lib.hid (HI.out.light hl)
  have h10 := hl
  unfold lightG at h10
  simp only [Bool.and_eq_true, decide_eq_true_eq, List.all_eq_true] at h10
  obtain ⟨⟨l1, l2, l3⟩, h4⟩ := h10
  have HA := Lib.hid h4
  clear hl h4
  try dsimp only at l1 l2 l3
  have HE := Lib.hid he
  clear he
  have X0 := Lib.hid (Lx.start w ⟨A1, ps, c1, A2, bs, c2, A3, os, c3⟩ HT.out)
  go_enter Tryd.func10, Tryd.ntmps10
  go_wp2_with fail
  go_at_call 11
  refine (awake_any _ X0.out.tab).mono ?_
  rintro e w1 ⟨rfl, hb⟩
  have X1 := Lib.hid (X0.out.next hb)
  clear hb
  have f0 : w1.cell? ⟨w.heap.size, 0, none⟩ = some (.slice A1 ps.length c1) := X1.out.c0
  have f1 : w1.cell? ⟨w.heap.size, 1, none⟩ = some (.slice A2 bs.length c2) := X1.out.c1
  have f2 : w1.cell? ⟨w.heap.size, 2, none⟩ = some (.slice A3 os.length c3) := X1.out.c2
  have z1 : w.heap.size < w1.heap.size := X1.out.lt
  go_wp2_with fail
  go_at_call 12
  refine (light_any ⟨A1, ps, c1, A2, bs, c2, A3, os, c3⟩ _ w X1.out.bel HI.out).mono ?_
  rintro e w2 ⟨rfl, hb⟩
  have X2 := Lib.hid (X1.out.next hb)
  rw [HL.out]
  clear hb
  clear f0 f1 f2
  have f0 : w2.cell? ⟨w.heap.size, 0, none⟩ = some (.slice A1 ps.length c1) := X2.out.c0
  have f1 : w2.cell? ⟨w.heap.size, 1, none⟩ = some (.slice A2 bs.length c2) := X2.out.c1
  have f2 : w2.cell? ⟨w.heap.size, 2, none⟩ = some (.slice A3 os.length c3) := X2.out.c2
  have z2 : w.heap.size < w2.heap.size := X2.out.lt
  go_wp2_with fail
  go_at_call 13
  refine (rCheck_any ⟨A1, ps, c1, A2, bs, c2, A3, os, c3⟩ w.heap.size _ X2.out.le (X2.out.dg HD.out)).mono ?_
  rintro e w3 ⟨rfl, hb⟩
  have X3 := Lib.hid (X2.out.next hb)
  dsimp only
  rw [HE.out]
  clear hb
  clear f0 f1 f2
  have f0 : w3.cell? ⟨w.heap.size, 0, none⟩ = some (.slice A1 ps.length c1) := X3.out.c0
  have f1 : w3.cell? ⟨w.heap.size, 1, none⟩ = some (.slice A2 bs.length c2) := X3.out.c1
  have f2 : w3.cell? ⟨w.heap.size, 2, none⟩ = some (.slice A3 os.length c3) := X3.out.c2
  have z3 : w.heap.size < w3.heap.size := X3.out.lt
  go_wp2_with fail
  go_at_call 18
  refine (Check_any ⟨A1, ps, c1, A2, bs, c2, A3, os, c3⟩ w.heap.size _ X3.out.le (X3.out.dg HD.out) X3.out.tab).mono ?_
  rintro e w4 ⟨rfl, hb⟩
  have X4 := Lib.hid (X3.out.next hb)
  dsimp only
  rw [HE.out]
  clear hb
  clear f0 f1 f2
  have f0 : w4.cell? ⟨w.heap.size, 0, none⟩ = some (.slice A1 ps.length c1) := X4.out.c0
  have f1 : w4.cell? ⟨w.heap.size, 1, none⟩ = some (.slice A2 bs.length c2) := X4.out.c1
  have f2 : w4.cell? ⟨w.heap.size, 2, none⟩ = some (.slice A3 os.length c3) := X4.out.c2
  have z4 : w.heap.size < w4.heap.size := X4.out.lt
  go_wp2_with fail
  go_at_call 29
  refine (num_any 0 _).mono ?_
  rintro e wq ⟨rfl, rfl⟩
  go_wp2_with fail
  go_ret
  exact ⟨rfl, X4.out.bel⟩
set_option maxRecDepth 100000 in
set_option maxHeartbeats 4000000 in
theorem chk_bad (A1 : Option Addr) (ps : List Prt) (c1 : Nat) (A2 : Option Addr) (bs : List Bk) (c2 : Nat) (A3 : Option Addr) (os : List Int) (c3 : Nat) (i : Int) (w : World) (hi : DgIn w ⟨A1, ps, c1, A2, bs, c2, A3, os, c3⟩) (ht : TabAt w) (hl : lightG ⟨A1, ps, c1, A2, bs, c2, A3, os, c3⟩ = true) (he : ¬ dgErr ps bs os = 0) : Calls Tryd.prog 10 #[.agg #[.slice A1 ps.length c1, .slice A2 bs.length c2, .slice A3 os.length c3], .int .i64 i] w fun e w' => e = .returned (.bool true) ∧ Below w.heap.size w w' := by
  have HI := Lib.hid hi
  have HT := Lib.hid ht
  clear hi ht
  have HL := Lib.hid hl
  have HD := Lib.hid (HI.out.light hl)
  have h10 := hl
  unfold lightG at h10
  simp only [Bool.and_eq_true, decide_eq_true_eq, List.all_eq_true] at h10
  obtain ⟨⟨l1, l2, l3⟩, h4⟩ := h10
  have HA := Lib.hid h4
  clear hl h4
  try dsimp only at l1 l2 l3
  obtain ⟨E, hE⟩ : ∃ E, dgErr ps bs os = E := ⟨_, rfl⟩
  obtain ⟨hu1, hu2⟩ := usesO_err (i := i) he
  rw [hE] at he hu1
  have HO1 := Lib.hid (show ordO ⟨A1, ps, c1, A2, bs, c2, A3, os, c3⟩ = [] from if_neg (by show ¬ dgErr ps bs os = 0; rw [hE]; exact he))
  have HO2 := Lib.hid (show delO ⟨A1, ps, c1, A2, bs, c2, A3, os, c3⟩ = [] from if_neg (by show ¬ dgErr ps bs os = 0; rw [hE]; exact he))
  have HO3 := Lib.hid (show affO ⟨A1, ps, c1, A2, bs, c2, A3, os, c3⟩ = false from if_neg (by show ¬ dgErr ps bs os = 0; rw [hE]; exact he))
  have HDE := Lib.hid (show dgE ⟨A1, ps, c1, A2, bs, c2, A3, os, c3⟩ = E from hE)
  have HU1 := Lib.hid hu1
  have HU2 := Lib.hid hu2
  have e1 : (E != 0) = true := by simpa using he
  have e2 : (E == 0) = false := by simpa using he
  have HE := Lib.hid hE
  have HNE := Lib.hid he
  have NZ := Lib.hid (show Nz ⟨A1, ps, c1, A2, bs, c2, A3, os, c3⟩ from ⟨HI.out.n1, HI.out.n4⟩)
  obtain ⟨V, hV⟩ : ∃ V, V = errV E := ⟨_, rfl⟩
  have HV := Lib.hid hV
  have HNUM := Lib.hid (show ∀ w : World, Calls Tryd.prog 29 #[V] w fun e w' => e = .returned (.int .i64 E) ∧ w = w' from fun w => by rw [hV]; exact num_any E w)
  clear hE he hu1 hu2 hV
  have X0 := Lib.hid (Lx.start w ⟨A1, ps, c1, A2, bs, c2, A3, os, c3⟩ HT.out)
  go_enter Tryd.func10, Tryd.ntmps10
  go_wp2_with fail
  go_at_call 11
  refine (awake_any _ X0.out.tab).mono ?_
  rintro e w1 ⟨rfl, hb⟩
  have X1 := Lib.hid (X0.out.next hb)
  clear hb
  have f0 : w1.cell? ⟨w.heap.size, 0, none⟩ = some (.slice A1 ps.length c1) := X1.out.c0
  have f1 : w1.cell? ⟨w.heap.size, 1, none⟩ = some (.slice A2 bs.length c2) := X1.out.c1
  have f2 : w1.cell? ⟨w.heap.size, 2, none⟩ = some (.slice A3 os.length c3) := X1.out.c2
  have z1 : w.heap.size < w1.heap.size := X1.out.lt
  go_wp2_with fail
  go_at_call 12
  refine (light_any ⟨A1, ps, c1, A2, bs, c2, A3, os, c3⟩ _ w X1.out.bel HI.out).mono ?_
  rintro e w2 ⟨rfl, hb⟩
  have X2 := Lib.hid (X1.out.next hb)
  rw [HL.out]
  clear hb
  clear f0 f1 f2
  have f0 : w2.cell? ⟨w.heap.size, 0, none⟩ = some (.slice A1 ps.length c1) := X2.out.c0
  have f1 : w2.cell? ⟨w.heap.size, 1, none⟩ = some (.slice A2 bs.length c2) := X2.out.c1
  have f2 : w2.cell? ⟨w.heap.size, 2, none⟩ = some (.slice A3 os.length c3) := X2.out.c2
  have z2 : w.heap.size < w2.heap.size := X2.out.lt
  go_wp2_with fail
  go_at_call 13
  refine (rCheck_any ⟨A1, ps, c1, A2, bs, c2, A3, os, c3⟩ w.heap.size _ X2.out.le (X2.out.dg HD.out)).mono ?_
  rintro e w3 ⟨rfl, hb⟩
  have X3 := Lib.hid (X2.out.next hb)
  dsimp only
  rw [HE.out]
  clear hb
  clear f0 f1 f2
  have f0 : w3.cell? ⟨w.heap.size, 0, none⟩ = some (.slice A1 ps.length c1) := X3.out.c0
  have f1 : w3.cell? ⟨w.heap.size, 1, none⟩ = some (.slice A2 bs.length c2) := X3.out.c1
  have f2 : w3.cell? ⟨w.heap.size, 2, none⟩ = some (.slice A3 os.length c3) := X3.out.c2
  have z3 : w.heap.size < w3.heap.size := X3.out.lt
  go_wp2_with fail
  go_at_call 18
  refine (Check_any ⟨A1, ps, c1, A2, bs, c2, A3, os, c3⟩ w.heap.size _ X3.out.le (X3.out.dg HD.out) X3.out.tab).mono ?_
  rintro e w4 ⟨rfl, hb⟩
  have X4 := Lib.hid (X3.out.next hb)
  dsimp only
  rw [HE.out, ← HV.out]
  clear hb
  clear f0 f1 f2
  have f0 : w4.cell? ⟨w.heap.size, 0, none⟩ = some (.slice A1 ps.length c1) := X4.out.c0
  have f1 : w4.cell? ⟨w.heap.size, 1, none⟩ = some (.slice A2 bs.length c2) := X4.out.c1
  have f2 : w4.cell? ⟨w.heap.size, 2, none⟩ = some (.slice A3 os.length c3) := X4.out.c2
  have z4 : w.heap.size < w4.heap.size := X4.out.lt
  go_wp2_with fail
  go_at_call 29
  refine (HNUM.out _).mono ?_
  rintro e wq ⟨rfl, rfl⟩
  go_wp2_with fail
  go_at_call 19
  refine (Order_any ⟨A1, ps, c1, A2, bs, c2, A3, os, c3⟩ w.heap.size _ X4.out.le (X4.out.dg HD.out) X4.out.tab).mono ?_
  rintro e w5 ⟨v1, rfl, hown1, hb⟩
  have X5 := Lib.hid (X4.out.next hb)
  rw [HO1.out] at hown1
  rw [HDE.out, ← HV.out]
  obtain ⟨V1, vc1, rfl, _, _⟩ := hown1.view
  clear hown1
  clear hb
  clear f0 f1 f2
  have f0 : w5.cell? ⟨w.heap.size, 0, none⟩ = some (.slice A1 ps.length c1) := X5.out.c0
  have f1 : w5.cell? ⟨w.heap.size, 1, none⟩ = some (.slice A2 bs.length c2) := X5.out.c1
  have f2 : w5.cell? ⟨w.heap.size, 2, none⟩ = some (.slice A3 os.length c3) := X5.out.c2
  have z5 : w.heap.size < w5.heap.size := X5.out.lt
  go_wp2_with fail
  go_at_call 24
  refine (Delays_any ⟨A1, ps, c1, A2, bs, c2, A3, os, c3⟩ w.heap.size _ X5.out.le (X5.out.dg HD.out) X5.out.tab).mono ?_
  rintro e w6 ⟨v2, rfl, hown2, hb⟩
  have X6 := Lib.hid (X5.out.next hb)
  rw [HO2.out] at hown2
  rw [HDE.out, ← HV.out]
  obtain ⟨V2, vc2, rfl, _, _⟩ := hown2.view
  clear hown2
  clear hb
  clear f0 f1 f2
  have f0 : w6.cell? ⟨w.heap.size, 0, none⟩ = some (.slice A1 ps.length c1) := X6.out.c0
  have f1 : w6.cell? ⟨w.heap.size, 1, none⟩ = some (.slice A2 bs.length c2) := X6.out.c1
  have f2 : w6.cell? ⟨w.heap.size, 2, none⟩ = some (.slice A3 os.length c3) := X6.out.c2
  have z6 : w.heap.size < w6.heap.size := X6.out.lt
  go_wp2_with fail
  go_at_call 14
  refine (uses_any ⟨A1, ps, c1, A2, bs, c2, A3, os, c3⟩ i w.heap.size _ X6.out.le (X6.out.dg HD.out) X6.out.tab).mono ?_
  rintro e w7 ⟨v3, rfl, hown3, hb⟩
  have X7 := Lib.hid (X6.out.next hb)
  dsimp only at hown3 ⊢
  rw [HU2.out] at hown3
  rw [HU1.out, ← HV.out]
  obtain ⟨V3, vc3, rfl, _, _⟩ := hown3.view
  clear hown3
  clear hb
  clear f0 f1 f2
  have f0 : w7.cell? ⟨w.heap.size, 0, none⟩ = some (.slice A1 ps.length c1) := X7.out.c0
  have f1 : w7.cell? ⟨w.heap.size, 1, none⟩ = some (.slice A2 bs.length c2) := X7.out.c1
  have f2 : w7.cell? ⟨w.heap.size, 2, none⟩ = some (.slice A3 os.length c3) := X7.out.c2
  have z7 : w.heap.size < w7.heap.size := X7.out.lt
  go_wp2_with fail
  go_at_call 25
  refine (Affine_any ⟨A1, ps, c1, A2, bs, c2, A3, os, c3⟩ w.heap.size _ X7.out.le (X7.out.dg HD.out) X7.out.tab).mono ?_
  rintro e w8 ⟨rfl, hb⟩
  have X8 := Lib.hid (X7.out.next hb)
  rw [HO3.out, HDE.out, ← HV.out]
  clear hb
  clear f0 f1 f2
  have f0 : w8.cell? ⟨w.heap.size, 0, none⟩ = some (.slice A1 ps.length c1) := X8.out.c0
  have f1 : w8.cell? ⟨w.heap.size, 1, none⟩ = some (.slice A2 bs.length c2) := X8.out.c1
  have f2 : w8.cell? ⟨w.heap.size, 2, none⟩ = some (.slice A3 os.length c3) := X8.out.c2
  have z8 : w.heap.size < w8.heap.size := X8.out.lt
  go_wp2_with fail
  go_at_call 21
  refine (prune_bad ⟨A1, ps, c1, A2, bs, c2, A3, os, c3⟩ w.heap.size _ X8.out.le (X8.out.dg HD.out) X8.out.tab (by show ¬ dgErr ps bs os = 0; rw [HE.out]; exact HNE.out)).mono ?_
  rintro e w9 ⟨⟨P1, p1, q1, P2, p2, q2, P3, p3, q3⟩, v4, rfl, hd1, hn1, hp1, hc1, ho1, hown4, hb⟩
  have X9 := Lib.hid (X8.out.next hb)
  dsimp only [Dg.val] at hp1 hc1 ho1 hown4 ⊢
  obtain rfl : p1 = [] := hp1
  obtain rfl : p3 = [] := ho1
  obtain rfl : p2 = [] := List.map_eq_nil_iff.1 hc1
  rw [HE.out, ← HV.out]
  obtain ⟨V4, vc4, rfl, _, _⟩ := hown4.view
  have D1 := Lib.hid hd1
  clear hd1 hn1 hown4 hc1
  clear hb
  clear f0 f1 f2
  have f0 : w9.cell? ⟨w.heap.size, 0, none⟩ = some (.slice A1 ps.length c1) := X9.out.c0
  have f1 : w9.cell? ⟨w.heap.size, 1, none⟩ = some (.slice A2 bs.length c2) := X9.out.c1
  have f2 : w9.cell? ⟨w.heap.size, 2, none⟩ = some (.slice A3 os.length c3) := X9.out.c2
  have z9 : w.heap.size < w9.heap.size := X9.out.lt
  go_wp2_with fail
  go_at_call 29
  refine (HNUM.out _).mono ?_
  rintro e wq ⟨rfl, rfl⟩
  go_wp2_with fail
  go_at_call 29
  refine (HNUM.out _).mono ?_
  rintro e wq ⟨rfl, rfl⟩
  go_wp2_with fail
  go_at_call 29
  refine (HNUM.out _).mono ?_
  rintro e wq ⟨rfl, rfl⟩
  go_wp2_with fail
  go_at_call 29
  refine (HNUM.out _).mono ?_
  rintro e wq ⟨rfl, rfl⟩
  go_wp2_with fail
  go_at_call 29
  refine (HNUM.out _).mono ?_
  rintro e wq ⟨rfl, rfl⟩
  go_wp2_with fail
  go_at_call 23
  have HS := same_true ⟨P1, [], q1, P2, [], q2, P3, [], q3⟩ ⟨none, [], 0, none, [], 0, none, [], 0⟩ (w9.heap.size) (w9.alloc (.cells #[.slice P1 ([] : List Prt).length q1, .slice P2 ([] : List Bk).length q2, .slice P3 ([] : List Int).length q3] 26)) (by simp) (D1.out.below (al_ w9 _) (Nat.le_refl _)) ⟨CellsAt.nil_, CellsAt.nil_, CellsAt.nil_, by simp, by simp, by simp, by simp⟩ rfl rfl rfl
  refine HS.mono ?_
  rintro e w20 ⟨rfl, hb20⟩
  have B20 := Lib.hid ((X9.out.al (.cells #[.slice P1 ([] : List Prt).length q1, .slice P2 ([] : List Bk).length q2, .slice P3 ([] : List Int).length q3] 26)).next hb20)
  clear hb20 f0 f1 f2
  go_wp2_with fail
  go_ret
  exact ⟨rfl, B20.out.bel⟩
theorem diagramChecks_walk (A1 : Option Addr) (ps : List Prt) (c1 : Nat) (A2 : Option Addr) (bs : List Bk) (c2 : Nat) (A3 : Option Addr) (os : List Int) (c3 : Nat) (i : Int) (w : World) (hi : DgIn w ⟨A1, ps, c1, A2, bs, c2, A3, os, c3⟩) (ht : TabAt w) : Calls Tryd.prog 10 #[.agg #[.slice A1 ps.length c1, .slice A2 bs.length c2, .slice A3 os.length c3], .int .i64 i] w fun e w' => e = .returned (.bool true) ∧ Below w.heap.size w w' := by
  cases hl : lightG ⟨A1, ps, c1, A2, bs, c2, A3, os, c3⟩ with
  | false => exact chk_heavy A1 ps c1 A2 bs c2 A3 os c3 i w hi ht hl
  | true =>
    by_cases he : dgErr ps bs os = 0
    · exact chk_good A1 ps c1 A2 bs c2 A3 os c3 i w hi ht hl he
    · exact chk_bad A1 ps c1 A2 bs c2 A3 os c3 i w hi ht hl he

set_option maxRecDepth 100000 in
set_option maxHeartbeats 4000000 in
theorem diagramChecks_lifted (os : Os) (started : os.Started) (H : Type) (enc : TypeId × Value → H) :
    ReturnsInHanded {} Tryd.checked os 10 .any (fun w args => (Rows.diagramChecksSpec.pre enc Tryd.prog Tryd.f10 [] false w args ∧ laidMetH Tryd.prog laidT w) ∧ sizedMet enc Tryd.prog Tryd.f10 (OpenSpec.ofChange Rows.diagramChecksSpec) false w args)
      (Rows.diagramChecksSpec.post enc Tryd.prog Tryd.f10 false true false false) := by
  refine law_lift_laid (C := Tryd.checked) (T := 4) own started (by kernel_rfl) Tryd.func10
    (ChangeSpec.witness_shaped (enc := enc) (C := Tryd.checked) (os := os) (X := fun w _ => laidMetH Tryd.prog laidT w) false (World.doorLaid Tryd.prog 400 os) #[.agg #[.slice none 0 0, .slice none 0 0, .slice none 0 0], .int .i64 0] 8 rfl (door_shaped os _) (by kernel_rfl) (by kernel_rfl) (by kernel_rfl) (door_met os _))
    laidOut (by kernel_rfl) rfl Tryd.underlying4 (by kernel_rfl) ?_ ?_
  · intro ds h
    match ds, h with
    | [d1, d2], _ => exact ⟨rfl, rfl, rfl⟩
  · intro W base args ds p hval0 hA0 _ hsz0 hL
    have ht := tab_of hL
    have hval : ∀ (j : Nat) t v, Tryd.f10.params[j]? = some t → args[j]? = some v → Value.okWide Tryd.prog W .any base t v := hval0
    have hA : DataW.TrodAll enc Tryd.prog W 0 (fun _ => true) true Tryd.f10.params.toList args.toList ds p := hA0
    clear hsz0 hL
    rw [Tryd.params10] at hA hval
    obtain ⟨v0, vs0, d0, ds0, p0, q0, hargs, rfl, rfl, h0, r0⟩ := trodAll_cons hA
    obtain ⟨v1, vs1, d1, ds1, p1, q1, rfl, rfl, rfl, h1, r1⟩ := trodAll_cons r0
    obtain ⟨rfl, rfl, rfl⟩ := trodAll_nil r1
    obtain rfl : args = #[v0, v1] := by cases args; simp_all
    obtain ⟨⟨A1, ps, c1, A2, bs, c2, A3, os, c3⟩, rfl, hin⟩ := open_dg (hval 0 26 v0 rfl rfl) h0
    obtain ⟨i, rfl, rfl, rfl, hib⟩ := open_int Tryd.underlying3 (hval 1 3 v1 rfl rfl) h1
    exact diagramChecks_walk A1 ps c1 A2 bs c2 A3 os c3 i W hin ht
theorem diagramChecks_row : Rows.DiagramChecksSaid :=
  OpenClaim.holds_of_wide 10 Tryd.f10 rfl rfl rfl rfl rfl rfl rfl ⟨rfl, rfl, rfl, rfl, rfl⟩ rfl rfl rfl rfl rfl (by kernel_rfl) Tryd.func10 (by kernel_rfl)
    (of_decide_eq_true (by kernel_rfl)) (by unfold Func.isWrapper; first | (rw [if_pos (by decide +kernel)]; kernel_rfl) | (rw [if_neg (by decide +kernel)]; exact ⟨rfl, rfl⟩))
    (fun os started H enc _ => diagramChecks_lifted os started H enc)
theorem diagramChecks_holds : Rows.DiagramChecksCardSaid :=
  Claim7.holds_tied_plain_at .later [] [.data] true (true, "d4523cc579fb41ec178fce1dad4bb0eaaa70277df7fec9a2fbd66a268b8bd742") true
    diagramChecks_row (fun _ h => by cases h) (by kernel_rfl) (fun _ h => by cases h) diagramChecks_row_tie rfl ⟨rfl, rfl⟩ (by kernel_rfl) rfl
    (fun f fn hf hfn => by
      obtain rfl : f = 10 := Option.some.inj ((show Tryd.prog.funcNamed "commutator/commutatorlaw10.DiagramChecks" = some 10 by kernel_rfl).symm.trans hf) |>.symm
      obtain rfl : fn = Tryd.f10 := (Option.some.inj (Tryd.func10.symm.trans hfn)).symm
      exact ⟨by kernel_rfl, fun j t ht => by
        rw [Tryd.params10] at ht
        have hm : t ∈ [26, 3] := by simpa using Array.mem_of_getElem? ht
        have hall : ([26, 3].all fun u => !Tryd.prog.wantsStandIn u) = true := by kernel_rfl
        exact (show Tryd.prog.wantsStandIn t = false by simpa using List.all_eq_true.1 hall t hm)⟩)
    (by kernel_rfl)
#print axioms diagramChecks_holds

end Go.Proofs.YtaheedieingpiaaDoor
