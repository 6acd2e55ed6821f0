/- ScalesFit: for every diagram, all ranges and scales the law returns true: whether they fit and how many shifts they need, or the first error, is what the document says. No conditions. -/
import Derived.Test.YtejnnljjmafjaaaDoorScM
namespace Go.Proofs.YtejnnljjmafjaaaDoor
set_option linter.unusedVariables false
set_option linter.unusedSimpArgs false
set_option linter.unusedSectionVars false
open Go.ChangeShapes Go.WideShapes Go.ChangeAt Go.RowKit Go.Joins

set_option maxRecDepth 100000 in
set_option maxHeartbeats 4000000 in
theorem scft_heavy (A1 : Option Addr) (ps : List Prt) (c1 : Nat) (A2 : Option Addr) (bs : List Bk) (c2 : Nat) (A3 : Option Addr) (os : List Int) (c3 : Nat) (AR : Option Addr) (R : List Iv) (cR : Nat) (AF : Option Addr) (F : List Int) (cF : Nat) (w : World) (hi : DgIn w ⟨A1, ps, c1, A2, bs, c2, A3, os, c3⟩) (hj : RgIn w ⟨AR, R, cR, AF, F, cF⟩) (ht : TabAt w) (hl : lightR ⟨A1, ps, c1, A2, bs, c2, A3, os, c3⟩ ⟨AR, R, cR, AF, F, cF⟩ = false) : Calls Tryd.prog 6 #[.agg #[.slice A1 ps.length c1, .slice A2 bs.length c2, .slice A3 os.length c3], .agg #[.slice AR R.length cR, .slice AF F.length cF]] w fun e w' => e = .returned (.bool true) ∧ Below w.heap.size w w' := by
  have HI := Lib.hid hi
  have HJ := Lib.hid hj
  have HT := Lib.hid ht
  clear hi hj ht
  have HL := Lib.hid hl
  clear hl
  have X0 := Lib.hid (Ly.start w ⟨A1, ps, c1, A2, bs, c2, A3, os, c3⟩ ⟨AR, R, cR, AF, F, cF⟩ HT.out)
  go_enter Tryd.func6, Tryd.ntmps6
  go_wp2_with fail
  go_at_call 9
  refine (awake13_any _ X0.out.tab).mono ?_
  rintro e w1 ⟨rfl, hb⟩
  have X1 := Lib.hid (X0.out.next hb)
  clear hb
  have f0 : w1.cell? ⟨w.heap.size, 0, none⟩ = some (.slice A1 ps.length c1) := X1.out.c0
  have f1 : w1.cell? ⟨w.heap.size, 1, none⟩ = some (.slice A2 bs.length c2) := X1.out.c1
  have f2 : w1.cell? ⟨w.heap.size, 2, none⟩ = some (.slice A3 os.length c3) := X1.out.c2
  have h0 : w1.cell? ⟨w.heap.size + 1, 0, none⟩ = some (.slice AR R.length cR) := X1.out.e0
  have h1 : w1.cell? ⟨w.heap.size + 1, 1, none⟩ = some (.slice AF F.length cF) := X1.out.e1
  have z1 : w.heap.size + 1 < w1.heap.size := X1.out.lt
  go_wp2_with fail
  go_at_call 10
  refine (light13_any ⟨A1, ps, c1, A2, bs, c2, A3, os, c3⟩ ⟨AR, R, cR, AF, F, cF⟩ _ w X1.out.bel HI.out HJ.out).mono ?_
  rintro e w2 ⟨rfl, hb⟩
  have X2 := Lib.hid (X1.out.next hb)
  rw [HL.out]
  clear hb
  clear f0 f1 f2 h0 h1
  have f0 : w2.cell? ⟨w.heap.size, 0, none⟩ = some (.slice A1 ps.length c1) := X2.out.c0
  have f1 : w2.cell? ⟨w.heap.size, 1, none⟩ = some (.slice A2 bs.length c2) := X2.out.c1
  have f2 : w2.cell? ⟨w.heap.size, 2, none⟩ = some (.slice A3 os.length c3) := X2.out.c2
  have h0 : w2.cell? ⟨w.heap.size + 1, 0, none⟩ = some (.slice AR R.length cR) := X2.out.e0
  have h1 : w2.cell? ⟨w.heap.size + 1, 1, none⟩ = some (.slice AF F.length cF) := X2.out.e1
  have z2 : w.heap.size + 1 < w2.heap.size := X2.out.lt
  go_wp2_with fail
  go_at_call 9
  refine (awake13_any _ X2.out.tab).mono ?_
  rintro e w3 ⟨rfl, hb⟩
  have X3 := Lib.hid (X2.out.next hb)
  clear hb
  clear f0 f1 f2 h0 h1
  have f0 : w3.cell? ⟨w.heap.size, 0, none⟩ = some (.slice A1 ps.length c1) := X3.out.c0
  have f1 : w3.cell? ⟨w.heap.size, 1, none⟩ = some (.slice A2 bs.length c2) := X3.out.c1
  have f2 : w3.cell? ⟨w.heap.size, 2, none⟩ = some (.slice A3 os.length c3) := X3.out.c2
  have h0 : w3.cell? ⟨w.heap.size + 1, 0, none⟩ = some (.slice AR R.length cR) := X3.out.e0
  have h1 : w3.cell? ⟨w.heap.size + 1, 1, none⟩ = some (.slice AF F.length cF) := X3.out.e1
  have z3 : w.heap.size + 1 < w3.heap.size := X3.out.lt
  go_wp2_with fail
  go_ret
  exact ⟨rfl, X3.out.bel⟩
set_option maxRecDepth 100000 in
set_option maxHeartbeats 4000000 in
theorem scft_bad (A1 : Option Addr) (ps : List Prt) (c1 : Nat) (A2 : Option Addr) (bs : List Bk) (c2 : Nat) (A3 : Option Addr) (os : List Int) (c3 : Nat) (AR : Option Addr) (R : List Iv) (cR : Nat) (AF : Option Addr) (F : List Int) (cF : Nat) (w : World) (hi : DgIn w ⟨A1, ps, c1, A2, bs, c2, A3, os, c3⟩) (hj : RgIn w ⟨AR, R, cR, AF, F, cF⟩) (ht : TabAt w) (hl : lightR ⟨A1, ps, c1, A2, bs, c2, A3, os, c3⟩ ⟨AR, R, cR, AF, F, cF⟩ = true) (he : ¬ dgErr ps bs os = 0) : Calls Tryd.prog 6 #[.agg #[.slice A1 ps.length c1, .slice A2 bs.length c2, .slice A3 os.length c3], .agg #[.slice AR R.length cR, .slice AF F.length cF]] w fun e w' => e = .returned (.bool true) ∧ Below w.heap.size w w' := by
  have HI := Lib.hid hi
  have HJ := Lib.hid hj
  have HT := Lib.hid ht
  clear hi hj ht
  have HL := Lib.hid hl
  obtain ⟨l1, l2, l3, l4, l5⟩ := lightR_parts hl
  dsimp only at l2 l3 l4 l5
  have HD := Lib.hid (HI.out.light13 l1)
  have HR := Lib.hid (HJ.out.ivs l2)
  have HF := Lib.hid HJ.out.fs
  clear hl l1 l2
  obtain ⟨E, hE⟩ : ∃ E, dgErr ps bs os = E := ⟨_, rfl⟩
  rw [hE] at he
  have HE := Lib.hid hE
  have HG := Lib.hid (gv_e0 (d := ⟨A1, ps, c1, A2, bs, c2, A3, os, c3⟩) (R := R) hE he)
  have HEN := Lib.hid (errV_n he)
  have hfe : fiE E bs.length F = E := if_neg he
  have HC := Lib.hid (show fiE E bs.length F = E ∧ fiB E bs.length R F = false ∧ shV E ⟨A1, ps, c1, A2, bs, c2, A3, os, c3⟩ F = 0 from ⟨hfe, fi_b0 (by rw [hfe]; exact he), if_neg (by show ¬ fiE E bs.length F = 0; rw [hfe]; exact he)⟩)
  have hEb : (E == E) = true := by simp
  have hEn : (E != 0) = true := by simpa using he
  have HNUM := Lib.hid (show ∀ u : World, Calls Tryd.prog 19 #[.iface 44 (.int .i64 E)] u fun e w' => e = .returned (.int .i64 E) ∧ u = w' from fun u => by have := num_any E u; rw [HEN.out] at this; exact this)
  clear he hE hfe
  have X0 := Lib.hid (Ly.start w ⟨A1, ps, c1, A2, bs, c2, A3, os, c3⟩ ⟨AR, R, cR, AF, F, cF⟩ HT.out)
  go_enter Tryd.func6, Tryd.ntmps6
  go_wp2_with fail
  go_at_call 9
  refine (awake13_any _ X0.out.tab).mono ?_
  rintro e w1 ⟨rfl, hb⟩
  have X1 := Lib.hid (X0.out.next hb)
  clear hb
  have f0 : w1.cell? ⟨w.heap.size, 0, none⟩ = some (.slice A1 ps.length c1) := X1.out.c0
  have f1 : w1.cell? ⟨w.heap.size, 1, none⟩ = some (.slice A2 bs.length c2) := X1.out.c1
  have f2 : w1.cell? ⟨w.heap.size, 2, none⟩ = some (.slice A3 os.length c3) := X1.out.c2
  have h0 : w1.cell? ⟨w.heap.size + 1, 0, none⟩ = some (.slice AR R.length cR) := X1.out.e0
  have h1 : w1.cell? ⟨w.heap.size + 1, 1, none⟩ = some (.slice AF F.length cF) := X1.out.e1
  have z1 : w.heap.size + 1 < w1.heap.size := X1.out.lt
  go_wp2_with fail
  go_at_call 10
  refine (light13_any ⟨A1, ps, c1, A2, bs, c2, A3, os, c3⟩ ⟨AR, R, cR, AF, F, cF⟩ _ w X1.out.bel HI.out HJ.out).mono ?_
  rintro e w2 ⟨rfl, hb⟩
  have X2 := Lib.hid (X1.out.next hb)
  rw [HL.out]
  clear hb
  clear f0 f1 f2 h0 h1
  have f0 : w2.cell? ⟨w.heap.size, 0, none⟩ = some (.slice A1 ps.length c1) := X2.out.c0
  have f1 : w2.cell? ⟨w.heap.size, 1, none⟩ = some (.slice A2 bs.length c2) := X2.out.c1
  have f2 : w2.cell? ⟨w.heap.size, 2, none⟩ = some (.slice A3 os.length c3) := X2.out.c2
  have h0 : w2.cell? ⟨w.heap.size + 1, 0, none⟩ = some (.slice AR R.length cR) := X2.out.e0
  have h1 : w2.cell? ⟨w.heap.size + 1, 1, none⟩ = some (.slice AF F.length cF) := X2.out.e1
  have z2 : w.heap.size + 1 < w2.heap.size := X2.out.lt
  go_wp2_with fail
  go_at_call 23
  refine (pfits_any ⟨A1, ps, c1, A2, bs, c2, A3, os, c3⟩ AR R cR AF F cF w.heap.size _ X2.out.le (X2.out.dg HD.out) (X2.out.iv HR.out) (X2.out.fs HF.out) (by omega) (by omega) X2.out.tab).mono ?_
  rintro e w3 ⟨rfl, hb⟩
  have X3 := Lib.hid (X2.out.next hb)
  dsimp only
  rw [HG.out, HC.out.1, HC.out.2.1, HEN.out]
  clear hb
  clear f0 f1 f2 h0 h1
  have f0 : w3.cell? ⟨w.heap.size, 0, none⟩ = some (.slice A1 ps.length c1) := X3.out.c0
  have f1 : w3.cell? ⟨w.heap.size, 1, none⟩ = some (.slice A2 bs.length c2) := X3.out.c1
  have f2 : w3.cell? ⟨w.heap.size, 2, none⟩ = some (.slice A3 os.length c3) := X3.out.c2
  have h0 : w3.cell? ⟨w.heap.size + 1, 0, none⟩ = some (.slice AR R.length cR) := X3.out.e0
  have h1 : w3.cell? ⟨w.heap.size + 1, 1, none⟩ = some (.slice AF F.length cF) := X3.out.e1
  have z3 : w.heap.size + 1 < w3.heap.size := X3.out.lt
  go_wp2_with fail
  go_at_call 17
  refine (pshifts_any ⟨A1, ps, c1, A2, bs, c2, A3, os, c3⟩ AF F cF w.heap.size _ X3.out.le (X3.out.dg HD.out) (X3.out.fs HF.out) (by omega) X3.out.tab).mono ?_
  rintro e w4 ⟨rfl, hb⟩
  have X4 := Lib.hid (X3.out.next hb)
  dsimp only
  rw [HE.out, HC.out.1, HC.out.2.2, HEN.out]
  clear hb
  clear f0 f1 f2 h0 h1
  have f0 : w4.cell? ⟨w.heap.size, 0, none⟩ = some (.slice A1 ps.length c1) := X4.out.c0
  have f1 : w4.cell? ⟨w.heap.size, 1, none⟩ = some (.slice A2 bs.length c2) := X4.out.c1
  have f2 : w4.cell? ⟨w.heap.size, 2, none⟩ = some (.slice A3 os.length c3) := X4.out.c2
  have h0 : w4.cell? ⟨w.heap.size + 1, 0, none⟩ = some (.slice AR R.length cR) := X4.out.e0
  have h1 : w4.cell? ⟨w.heap.size + 1, 1, none⟩ = some (.slice AF F.length cF) := X4.out.e1
  have z4 : w.heap.size + 1 < w4.heap.size := X4.out.lt
  go_wp2_with fail
  go_at_call 16
  refine (rCheck_any ⟨A1, ps, c1, A2, bs, c2, A3, os, c3⟩ w.heap.size _ X4.out.le (X4.out.dg HD.out)).mono ?_
  rintro e w5 ⟨rfl, hb⟩
  have X5 := Lib.hid (X4.out.next hb)
  dsimp only
  rw [HE.out]
  clear hb
  clear f0 f1 f2 h0 h1
  have f0 : w5.cell? ⟨w.heap.size, 0, none⟩ = some (.slice A1 ps.length c1) := X5.out.c0
  have f1 : w5.cell? ⟨w.heap.size, 1, none⟩ = some (.slice A2 bs.length c2) := X5.out.c1
  have f2 : w5.cell? ⟨w.heap.size, 2, none⟩ = some (.slice A3 os.length c3) := X5.out.c2
  have h0 : w5.cell? ⟨w.heap.size + 1, 0, none⟩ = some (.slice AR R.length cR) := X5.out.e0
  have h1 : w5.cell? ⟨w.heap.size + 1, 1, none⟩ = some (.slice AF F.length cF) := X5.out.e1
  have z5 : w.heap.size + 1 < w5.heap.size := X5.out.lt
  go_wp2_with fail
  go_at_call 19
  refine (HNUM.out _).mono ?_
  rintro e wq ⟨rfl, rfl⟩
  go_wp2_with fail
  go_at_call 19
  refine (HNUM.out _).mono ?_
  rintro e wq ⟨rfl, rfl⟩
  go_wp2_with fail
  go_ret
  exact ⟨rfl, X5.out.bel⟩
set_option maxRecDepth 100000 in
set_option maxHeartbeats 4000000 in
theorem scft_good (A1 : Option Addr) (ps : List Prt) (c1 : Nat) (A2 : Option Addr) (bs : List Bk) (c2 : Nat) (A3 : Option Addr) (os : List Int) (c3 : Nat) (AR : Option Addr) (R : List Iv) (cR : Nat) (AF : Option Addr) (F : List Int) (cF : Nat) (w : World) (hi : DgIn w ⟨A1, ps, c1, A2, bs, c2, A3, os, c3⟩) (hj : RgIn w ⟨AR, R, cR, AF, F, cF⟩) (ht : TabAt w) (hl : lightR ⟨A1, ps, c1, A2, bs, c2, A3, os, c3⟩ ⟨AR, R, cR, AF, F, cF⟩ = true) (he : dgErr ps bs os = 0) : Calls Tryd.prog 6 #[.agg #[.slice A1 ps.length c1, .slice A2 bs.length c2, .slice A3 os.length c3], .agg #[.slice AR R.length cR, .slice AF F.length cF]] w fun e w' => e = .returned (.bool true) ∧ Below w.heap.size w w' := by
  have HI := Lib.hid hi
  have HJ := Lib.hid hj
  have HT := Lib.hid ht
  clear hi hj ht
  have HL := Lib.hid hl
  obtain ⟨l1, l2, l3, l4, l5⟩ := lightR_parts hl
  dsimp only at l2 l3 l4 l5
  have HD := Lib.hid (HI.out.light13 l1)
  have HR := Lib.hid (HJ.out.ivs l2)
  have HF := Lib.hid HJ.out.fs
  clear hl l1 l2
  have HE0 := Lib.hid he
  have HG := Lib.hid (gv_e1 (d := ⟨A1, ps, c1, A2, bs, c2, A3, os, c3⟩) (R := R) he)
  clear he
  dsimp only at HG
  obtain ⟨G, hG⟩ : ∃ G, gvErr bs.length R = G := ⟨_, rfl⟩
  rw [hG] at HG
  have HGG := Lib.hid hG
  clear hG
  obtain ⟨C, hC⟩ : ∃ C, fiE G bs.length F = C := ⟨_, rfl⟩
  have HC := Lib.hid hC
  obtain ⟨C2, hC2⟩ : ∃ C, fiE 0 bs.length F = C := ⟨_, rfl⟩
  have HC2 := Lib.hid hC2
  obtain ⟨B, hB⟩ : ∃ B, fiB G bs.length R F = B := ⟨_, rfl⟩
  have HB := Lib.hid hB
  obtain ⟨V, hV⟩ : ∃ V, shV 0 ⟨A1, ps, c1, A2, bs, c2, A3, os, c3⟩ F = V := ⟨_, rfl⟩
  have HV := Lib.hid hV
  clear hC hC2 hB hV
  have X0 := Lib.hid (Ly.start w ⟨A1, ps, c1, A2, bs, c2, A3, os, c3⟩ ⟨AR, R, cR, AF, F, cF⟩ HT.out)
  go_enter Tryd.func6, Tryd.ntmps6
  go_wp2_with fail
  go_at_call 9
  refine (awake13_any _ X0.out.tab).mono ?_
  rintro e w1 ⟨rfl, hb⟩
  have X1 := Lib.hid (X0.out.next hb)
  clear hb
  have f0 : w1.cell? ⟨w.heap.size, 0, none⟩ = some (.slice A1 ps.length c1) := X1.out.c0
  have f1 : w1.cell? ⟨w.heap.size, 1, none⟩ = some (.slice A2 bs.length c2) := X1.out.c1
  have f2 : w1.cell? ⟨w.heap.size, 2, none⟩ = some (.slice A3 os.length c3) := X1.out.c2
  have h0 : w1.cell? ⟨w.heap.size + 1, 0, none⟩ = some (.slice AR R.length cR) := X1.out.e0
  have h1 : w1.cell? ⟨w.heap.size + 1, 1, none⟩ = some (.slice AF F.length cF) := X1.out.e1
  have z1 : w.heap.size + 1 < w1.heap.size := X1.out.lt
  go_wp2_with fail
  go_at_call 10
  refine (light13_any ⟨A1, ps, c1, A2, bs, c2, A3, os, c3⟩ ⟨AR, R, cR, AF, F, cF⟩ _ w X1.out.bel HI.out HJ.out).mono ?_
  rintro e w2 ⟨rfl, hb⟩
  have X2 := Lib.hid (X1.out.next hb)
  rw [HL.out]
  clear hb
  clear f0 f1 f2 h0 h1
  have f0 : w2.cell? ⟨w.heap.size, 0, none⟩ = some (.slice A1 ps.length c1) := X2.out.c0
  have f1 : w2.cell? ⟨w.heap.size, 1, none⟩ = some (.slice A2 bs.length c2) := X2.out.c1
  have f2 : w2.cell? ⟨w.heap.size, 2, none⟩ = some (.slice A3 os.length c3) := X2.out.c2
  have h0 : w2.cell? ⟨w.heap.size + 1, 0, none⟩ = some (.slice AR R.length cR) := X2.out.e0
  have h1 : w2.cell? ⟨w.heap.size + 1, 1, none⟩ = some (.slice AF F.length cF) := X2.out.e1
  have z2 : w.heap.size + 1 < w2.heap.size := X2.out.lt
  go_wp2_with fail
  go_at_call 23
  refine (pfits_any ⟨A1, ps, c1, A2, bs, c2, A3, os, c3⟩ AR R cR AF F cF w.heap.size _ X2.out.le (X2.out.dg HD.out) (X2.out.iv HR.out) (X2.out.fs HF.out) (by omega) (by omega) X2.out.tab).mono ?_
  rintro e w3 ⟨rfl, hb⟩
  have X3 := Lib.hid (X2.out.next hb)
  dsimp only
  rw [HG.out, HC.out, HB.out]
  clear hb
  clear f0 f1 f2 h0 h1
  have f0 : w3.cell? ⟨w.heap.size, 0, none⟩ = some (.slice A1 ps.length c1) := X3.out.c0
  have f1 : w3.cell? ⟨w.heap.size, 1, none⟩ = some (.slice A2 bs.length c2) := X3.out.c1
  have f2 : w3.cell? ⟨w.heap.size, 2, none⟩ = some (.slice A3 os.length c3) := X3.out.c2
  have h0 : w3.cell? ⟨w.heap.size + 1, 0, none⟩ = some (.slice AR R.length cR) := X3.out.e0
  have h1 : w3.cell? ⟨w.heap.size + 1, 1, none⟩ = some (.slice AF F.length cF) := X3.out.e1
  have z3 : w.heap.size + 1 < w3.heap.size := X3.out.lt
  go_wp2_with fail
  go_at_call 17
  refine (pshifts_any ⟨A1, ps, c1, A2, bs, c2, A3, os, c3⟩ AF F cF w.heap.size _ X3.out.le (X3.out.dg HD.out) (X3.out.fs HF.out) (by omega) X3.out.tab).mono ?_
  rintro e w4 ⟨rfl, hb⟩
  have X4 := Lib.hid (X3.out.next hb)
  dsimp only
  rw [HE0.out, HC2.out, HV.out]
  clear hb
  clear f0 f1 f2 h0 h1
  have f0 : w4.cell? ⟨w.heap.size, 0, none⟩ = some (.slice A1 ps.length c1) := X4.out.c0
  have f1 : w4.cell? ⟨w.heap.size, 1, none⟩ = some (.slice A2 bs.length c2) := X4.out.c1
  have f2 : w4.cell? ⟨w.heap.size, 2, none⟩ = some (.slice A3 os.length c3) := X4.out.c2
  have h0 : w4.cell? ⟨w.heap.size + 1, 0, none⟩ = some (.slice AR R.length cR) := X4.out.e0
  have h1 : w4.cell? ⟨w.heap.size + 1, 1, none⟩ = some (.slice AF F.length cF) := X4.out.e1
  have z4 : w.heap.size + 1 < w4.heap.size := X4.out.lt
  go_wp2_with fail
  go_at_call 16
  refine (rCheck_any ⟨A1, ps, c1, A2, bs, c2, A3, os, c3⟩ w.heap.size _ X4.out.le (X4.out.dg HD.out)).mono ?_
  rintro e w5 ⟨rfl, hb⟩
  have X5 := Lib.hid (X4.out.next hb)
  dsimp only
  rw [HE0.out]
  clear hb
  clear f0 f1 f2 h0 h1
  have f0 : w5.cell? ⟨w.heap.size, 0, none⟩ = some (.slice A1 ps.length c1) := X5.out.c0
  have f1 : w5.cell? ⟨w.heap.size, 1, none⟩ = some (.slice A2 bs.length c2) := X5.out.c1
  have f2 : w5.cell? ⟨w.heap.size, 2, none⟩ = some (.slice A3 os.length c3) := X5.out.c2
  have h0 : w5.cell? ⟨w.heap.size + 1, 0, none⟩ = some (.slice AR R.length cR) := X5.out.e0
  have h1 : w5.cell? ⟨w.heap.size + 1, 1, none⟩ = some (.slice AF F.length cF) := X5.out.e1
  have z5 : w.heap.size + 1 < w5.heap.size := X5.out.lt
  go_wp2_with fail
  go_at_call 24
  refine (rfits_any ⟨A1, ps, c1, A2, bs, c2, A3, os, c3⟩ AR R cR AF F cF w.heap.size _ X5.out.le (X5.out.dg HD.out) (X5.out.iv HR.out) (X5.out.fs HF.out) (by omega) (by omega)).mono ?_
  rintro e w6 ⟨rfl, hb⟩
  have X6 := Lib.hid (X5.out.next hb)
  dsimp only
  rw [HGG.out, HC.out, HB.out]
  clear hb
  clear f0 f1 f2 h0 h1
  have f0 : w6.cell? ⟨w.heap.size, 0, none⟩ = some (.slice A1 ps.length c1) := X6.out.c0
  have f1 : w6.cell? ⟨w.heap.size, 1, none⟩ = some (.slice A2 bs.length c2) := X6.out.c1
  have f2 : w6.cell? ⟨w.heap.size, 2, none⟩ = some (.slice A3 os.length c3) := X6.out.c2
  have h0 : w6.cell? ⟨w.heap.size + 1, 0, none⟩ = some (.slice AR R.length cR) := X6.out.e0
  have h1 : w6.cell? ⟨w.heap.size + 1, 1, none⟩ = some (.slice AF F.length cF) := X6.out.e1
  have z6 : w.heap.size + 1 < w6.heap.size := X6.out.lt
  go_wp2_with fail
  go_at_call 25
  refine (rshifts_any ⟨A1, ps, c1, A2, bs, c2, A3, os, c3⟩ AF F cF w.heap.size _ X6.out.le (X6.out.dg HD.out) (X6.out.fs HF.out) (by omega) HE0.out).mono ?_
  rintro e w7 ⟨rfl, hb⟩
  have X7 := Lib.hid (X6.out.next hb)
  dsimp only
  rw [HC2.out, HV.out]
  clear hb
  clear f0 f1 f2 h0 h1
  have f0 : w7.cell? ⟨w.heap.size, 0, none⟩ = some (.slice A1 ps.length c1) := X7.out.c0
  have f1 : w7.cell? ⟨w.heap.size, 1, none⟩ = some (.slice A2 bs.length c2) := X7.out.c1
  have f2 : w7.cell? ⟨w.heap.size, 2, none⟩ = some (.slice A3 os.length c3) := X7.out.c2
  have h0 : w7.cell? ⟨w.heap.size + 1, 0, none⟩ = some (.slice AR R.length cR) := X7.out.e0
  have h1 : w7.cell? ⟨w.heap.size + 1, 1, none⟩ = some (.slice AF F.length cF) := X7.out.e1
  have z7 : w.heap.size + 1 < w7.heap.size := X7.out.lt
  have hCb : (C == C) = true := by simp
  have hC2b : (C2 == C2) = true := by simp
  have hVb : (V == V) = true := by simp
  have hBb : (B == B) = true := by simp
  go_wp2_with fail
  go_at_call 19
  refine (num_any C _).mono ?_
  rintro e wq ⟨rfl, rfl⟩
  go_wp2_with fail
  go_at_call 19
  refine (num_any C2 _).mono ?_
  rintro e wq ⟨rfl, rfl⟩
  go_wp2_with fail
  go_ret
  exact ⟨rfl, X7.out.bel⟩
theorem scalesFit_walk (A1 : Option Addr) (ps : List Prt) (c1 : Nat) (A2 : Option Addr) (bs : List Bk) (c2 : Nat) (A3 : Option Addr) (os : List Int) (c3 : Nat) (AR : Option Addr) (R : List Iv) (cR : Nat) (AF : Option Addr) (F : List Int) (cF : Nat) (w : World) (hi : DgIn w ⟨A1, ps, c1, A2, bs, c2, A3, os, c3⟩) (hj : RgIn w ⟨AR, R, cR, AF, F, cF⟩) (ht : TabAt w) : Calls Tryd.prog 6 #[.agg #[.slice A1 ps.length c1, .slice A2 bs.length c2, .slice A3 os.length c3], .agg #[.slice AR R.length cR, .slice AF F.length cF]] w fun e w' => e = .returned (.bool true) ∧ Below w.heap.size w w' := by
  cases hl : lightR ⟨A1, ps, c1, A2, bs, c2, A3, os, c3⟩ ⟨AR, R, cR, AF, F, cF⟩ with
  | false => exact scft_heavy A1 ps c1 A2 bs c2 A3 os c3 AR R cR AF F cF w hi hj ht hl
  | true =>
    by_cases he : dgErr ps bs os = 0
    · exact scft_good A1 ps c1 A2 bs c2 A3 os c3 AR R cR AF F cF w hi hj ht hl he
    · exact scft_bad A1 ps c1 A2 bs c2 A3 os c3 AR R cR AF F cF w hi hj ht hl he

set_option maxRecDepth 100000 in
set_option maxHeartbeats 4000000 in
theorem scalesFit_lifted (os : Os) (started : os.Started) (H : Type) (enc : TypeId × Value → H) :
    ReturnsInHanded {} Tryd.checked os 6 .any (fun w args => (Rows.scalesFitSpec.pre enc Tryd.prog Tryd.f6 [] false w args ∧ laidMetH Tryd.prog laidT w) ∧ sizedMet enc Tryd.prog Tryd.f6 (OpenSpec.ofChange Rows.scalesFitSpec) false w args)
      (Rows.scalesFitSpec.post enc Tryd.prog Tryd.f6 false true false false) := by
  refine law_lift_laid (C := Tryd.checked) (T := 4) own started (by kernel_rfl) Tryd.func6
    (ChangeSpec.witness_shaped (enc := enc) (C := Tryd.checked) (os := os) (X := fun w _ => laidMetH Tryd.prog laidT w) false (World.doorLaid Tryd.prog 400 os) #[.agg #[.slice none 0 0, .slice none 0 0, .slice none 0 0], .agg #[.slice none 0 0, .slice none 0 0]] 8 rfl (door_shaped os _) (by kernel_rfl) (by kernel_rfl) (by kernel_rfl) (door_met os _))
    laidOut (by kernel_rfl) rfl Tryd.underlying4 (by kernel_rfl) ?_ ?_
  · intro ds h
    match ds, h with
    | [d1, d2], _ => exact ⟨rfl, rfl, rfl⟩
  · intro W base args ds p hval0 hA0 _ hsz0 hL
    have ht := tab_of hL
    have hval : ∀ (j : Nat) t v, Tryd.f6.params[j]? = some t → args[j]? = some v → Value.okWide Tryd.prog W .any base t v := hval0
    have hA : DataW.TrodAll enc Tryd.prog W 0 (fun _ => true) true Tryd.f6.params.toList args.toList ds p := hA0
    clear hsz0 hL
    rw [Tryd.params6] at hA hval
    obtain ⟨v0, vs0, d0, ds0, p0, q0, hargs, rfl, rfl, h0, r0⟩ := trodAll_cons hA
    obtain ⟨v1, vs1, d1, ds1, p1, q1, rfl, rfl, rfl, h1, r1⟩ := trodAll_cons r0
    obtain ⟨rfl, rfl, rfl⟩ := trodAll_nil r1
    obtain rfl : args = #[v0, v1] := by cases args; simp_all
    obtain ⟨⟨A1, ps, c1, A2, bs, c2, A3, os, c3⟩, rfl, hin⟩ := open_dg (hval 0 26 v0 rfl rfl) h0
    obtain ⟨⟨AR, R, cR, AF, F, cF⟩, rfl, hrg⟩ := open_rg (hval 1 29 v1 rfl rfl) h1
    exact scalesFit_walk A1 ps c1 A2 bs c2 A3 os c3 AR R cR AF F cF W hin hrg ht
theorem scalesFit_row : Rows.ScalesFitSaid :=
  OpenClaim.holds_of_wide 6 Tryd.f6 rfl rfl rfl rfl rfl rfl rfl ⟨rfl, rfl, rfl, rfl, rfl⟩ rfl rfl rfl rfl rfl (by kernel_rfl) Tryd.func6 (by kernel_rfl)
    (of_decide_eq_true (by kernel_rfl)) (by unfold Func.isWrapper; first | (rw [if_pos (by decide +kernel)]; kernel_rfl) | (rw [if_neg (by decide +kernel)]; exact ⟨rfl, rfl⟩))
    (fun os started H enc _ => scalesFit_lifted os started H enc)
theorem scalesFit_holds : Rows.ScalesFitCardSaid :=
  Claim7.holds_tied_plain_at .later [] [.data] true (true, "ceb97b6710135aa47b784ff3ccc4d43c36e529616a739c760362e989b81859fe") true
    scalesFit_row (fun _ h => by cases h) (by kernel_rfl) (fun _ h => by cases h) scalesFit_row_tie rfl ⟨rfl, rfl⟩ (by kernel_rfl) rfl
    (fun f fn hf hfn => by
      obtain rfl : f = 6 := Option.some.inj ((show Tryd.prog.funcNamed "commutator/commutatorlaw13.ScalesFit" = some 6 by kernel_rfl).symm.trans hf) |>.symm
      obtain rfl : fn = Tryd.f6 := (Option.some.inj (Tryd.func6.symm.trans hfn)).symm
      exact ⟨by kernel_rfl, fun j t ht => by
        rw [Tryd.params6] at ht
        have hm : t ∈ [26, 29] := by simpa using Array.mem_of_getElem? ht
        have hall : ([26, 29].all fun u => !Tryd.prog.wantsStandIn u) = true := by kernel_rfl
        exact (show Tryd.prog.wantsStandIn t = false by simpa using List.all_eq_true.1 hall t hm)⟩)
    (by kernel_rfl)
#print axioms scalesFit_holds

end Go.Proofs.YtejnnljjmafjaaaDoor
