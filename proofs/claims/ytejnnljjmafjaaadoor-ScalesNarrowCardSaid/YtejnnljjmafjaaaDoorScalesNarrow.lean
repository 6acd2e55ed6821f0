/- ScalesNarrow: for every diagram and all ranges the law returns true: ranges that are twice as wide get one bit less, or are refused. No conditions. -/
import Derived.Test.YtejnnljjmafjaaaDoorScR
import Derived.IntWalk
namespace Go.Proofs.YtejnnljjmafjaaaDoor
set_option linter.unusedVariables false
set_option linter.unusedSimpArgs false
set_option linter.unusedSectionVars false
open Go.ChangeShapes Go.WideShapes Go.ChangeAt Go.RowKit Go.Joins

set_option maxRecDepth 100000 in
set_option maxHeartbeats 4000000 in
theorem scna_heavy (A1 : Option Addr) (ps : List Prt) (c1 : Nat) (A2 : Option Addr) (bs : List Bk) (c2 : Nat) (A3 : Option Addr) (os : List Int) (c3 : Nat) (AR : Option Addr) (R : List Iv) (cR : Nat) (AF : Option Addr) (F : List Int) (cF : Nat) (w : World) (hi : DgIn w ⟨A1, ps, c1, A2, bs, c2, A3, os, c3⟩) (hj : RgIn w ⟨AR, R, cR, AF, F, cF⟩) (ht : TabAt w) (hl : lightR ⟨A1, ps, c1, A2, bs, c2, A3, os, c3⟩ ⟨AR, R, cR, AF, F, cF⟩ = false) : Calls Tryd.prog 3 #[.agg #[.slice A1 ps.length c1, .slice A2 bs.length c2, .slice A3 os.length c3], .agg #[.slice AR R.length cR, .slice AF F.length cF]] w fun e w' => e = .returned (.bool true) ∧ Below w.heap.size w w' := by
  have HI := Lib.hid hi
  have HJ := Lib.hid hj
  have HT := Lib.hid ht
  clear hi hj ht
  have HL := Lib.hid hl
  clear hl
  have X0 := Lib.hid (Ly.start w ⟨A1, ps, c1, A2, bs, c2, A3, os, c3⟩ ⟨AR, R, cR, AF, F, cF⟩ HT.out)
  go_enter Tryd.func3, Tryd.ntmps3
  go_wp2_with fail
  go_at_call 9
  refine (awake13_any _ X0.out.tab).mono ?_
  rintro e w1 ⟨rfl, hb⟩
  have X1 := Lib.hid (X0.out.next hb)
  clear hb
  have f0 : w1.cell? ⟨w.heap.size, 0, none⟩ = some (.slice A1 ps.length c1) := X1.out.c0
  have f1 : w1.cell? ⟨w.heap.size, 1, none⟩ = some (.slice A2 bs.length c2) := X1.out.c1
  have f2 : w1.cell? ⟨w.heap.size, 2, none⟩ = some (.slice A3 os.length c3) := X1.out.c2
  have h0 : w1.cell? ⟨w.heap.size + 1, 0, none⟩ = some (.slice AR R.length cR) := X1.out.e0
  have h1 : w1.cell? ⟨w.heap.size + 1, 1, none⟩ = some (.slice AF F.length cF) := X1.out.e1
  have z1 : w.heap.size + 1 < w1.heap.size := X1.out.lt
  go_wp2_with fail
  go_at_call 10
  refine (light13_any ⟨A1, ps, c1, A2, bs, c2, A3, os, c3⟩ ⟨AR, R, cR, AF, F, cF⟩ _ w X1.out.bel HI.out HJ.out).mono ?_
  rintro e w2 ⟨rfl, hb⟩
  have X2 := Lib.hid (X1.out.next hb)
  rw [HL.out]
  clear hb
  clear f0 f1 f2 h0 h1
  have f0 : w2.cell? ⟨w.heap.size, 0, none⟩ = some (.slice A1 ps.length c1) := X2.out.c0
  have f1 : w2.cell? ⟨w.heap.size, 1, none⟩ = some (.slice A2 bs.length c2) := X2.out.c1
  have f2 : w2.cell? ⟨w.heap.size, 2, none⟩ = some (.slice A3 os.length c3) := X2.out.c2
  have h0 : w2.cell? ⟨w.heap.size + 1, 0, none⟩ = some (.slice AR R.length cR) := X2.out.e0
  have h1 : w2.cell? ⟨w.heap.size + 1, 1, none⟩ = some (.slice AF F.length cF) := X2.out.e1
  have z2 : w.heap.size + 1 < w2.heap.size := X2.out.lt
  go_wp2_with fail
  go_at_call 9
  refine (awake13_any _ X2.out.tab).mono ?_
  rintro e w3 ⟨rfl, hb⟩
  have X3 := Lib.hid (X2.out.next hb)
  clear hb
  clear f0 f1 f2 h0 h1
  have f0 : w3.cell? ⟨w.heap.size, 0, none⟩ = some (.slice A1 ps.length c1) := X3.out.c0
  have f1 : w3.cell? ⟨w.heap.size, 1, none⟩ = some (.slice A2 bs.length c2) := X3.out.c1
  have f2 : w3.cell? ⟨w.heap.size, 2, none⟩ = some (.slice A3 os.length c3) := X3.out.c2
  have h0 : w3.cell? ⟨w.heap.size + 1, 0, none⟩ = some (.slice AR R.length cR) := X3.out.e0
  have h1 : w3.cell? ⟨w.heap.size + 1, 1, none⟩ = some (.slice AF F.length cF) := X3.out.e1
  have z3 : w.heap.size + 1 < w3.heap.size := X3.out.lt
  go_wp2_with fail
  go_ret
  exact ⟨rfl, X3.out.bel⟩
set_option maxRecDepth 100000 in
set_option maxHeartbeats 4000000 in
theorem scna_bad (A1 : Option Addr) (ps : List Prt) (c1 : Nat) (A2 : Option Addr) (bs : List Bk) (c2 : Nat) (A3 : Option Addr) (os : List Int) (c3 : Nat) (AR : Option Addr) (R : List Iv) (cR : Nat) (AF : Option Addr) (F : List Int) (cF : Nat) (w : World) (hi : DgIn w ⟨A1, ps, c1, A2, bs, c2, A3, os, c3⟩) (hj : RgIn w ⟨AR, R, cR, AF, F, cF⟩) (ht : TabAt w) (hl : lightR ⟨A1, ps, c1, A2, bs, c2, A3, os, c3⟩ ⟨AR, R, cR, AF, F, cF⟩ = true) (he : ¬ dgErr ps bs os = 0) : Calls Tryd.prog 3 #[.agg #[.slice A1 ps.length c1, .slice A2 bs.length c2, .slice A3 os.length c3], .agg #[.slice AR R.length cR, .slice AF F.length cF]] w fun e w' => e = .returned (.bool true) ∧ Below w.heap.size w w' := by
  have HI := Lib.hid hi
  have HJ := Lib.hid hj
  have HT := Lib.hid ht
  clear hi hj ht
  have HL := Lib.hid hl
  obtain ⟨l1, l2, l3, l4, l5⟩ := lightR_parts hl
  dsimp only at l2 l3 l4 l5
  have HD := Lib.hid (HI.out.light13 l1)
  have HR := Lib.hid (HJ.out.ivs l2)
  have HF := Lib.hid HJ.out.fs
  clear hl l1 l2
  obtain ⟨E, hE⟩ : ∃ E, dgErr ps bs os = E := ⟨_, rfl⟩
  rw [hE] at he
  have HE := Lib.hid hE
  have HEN := Lib.hid (errV_n he)
  clear he hE
  have X0 := Lib.hid (Ly.start w ⟨A1, ps, c1, A2, bs, c2, A3, os, c3⟩ ⟨AR, R, cR, AF, F, cF⟩ HT.out)
  go_enter Tryd.func3, Tryd.ntmps3
  go_wp2_with fail
  go_at_call 9
  refine (awake13_any _ X0.out.tab).mono ?_
  rintro e w1 ⟨rfl, hb⟩
  have X1 := Lib.hid (X0.out.next hb)
  clear hb
  have f0 : w1.cell? ⟨w.heap.size, 0, none⟩ = some (.slice A1 ps.length c1) := X1.out.c0
  have f1 : w1.cell? ⟨w.heap.size, 1, none⟩ = some (.slice A2 bs.length c2) := X1.out.c1
  have f2 : w1.cell? ⟨w.heap.size, 2, none⟩ = some (.slice A3 os.length c3) := X1.out.c2
  have h0 : w1.cell? ⟨w.heap.size + 1, 0, none⟩ = some (.slice AR R.length cR) := X1.out.e0
  have h1 : w1.cell? ⟨w.heap.size + 1, 1, none⟩ = some (.slice AF F.length cF) := X1.out.e1
  have z1 : w.heap.size + 1 < w1.heap.size := X1.out.lt
  go_wp2_with fail
  go_at_call 10
  refine (light13_any ⟨A1, ps, c1, A2, bs, c2, A3, os, c3⟩ ⟨AR, R, cR, AF, F, cF⟩ _ w X1.out.bel HI.out HJ.out).mono ?_
  rintro e w2 ⟨rfl, hb⟩
  have X2 := Lib.hid (X1.out.next hb)
  rw [HL.out]
  clear hb
  clear f0 f1 f2 h0 h1
  have f0 : w2.cell? ⟨w.heap.size, 0, none⟩ = some (.slice A1 ps.length c1) := X2.out.c0
  have f1 : w2.cell? ⟨w.heap.size, 1, none⟩ = some (.slice A2 bs.length c2) := X2.out.c1
  have f2 : w2.cell? ⟨w.heap.size, 2, none⟩ = some (.slice A3 os.length c3) := X2.out.c2
  have h0 : w2.cell? ⟨w.heap.size + 1, 0, none⟩ = some (.slice AR R.length cR) := X2.out.e0
  have h1 : w2.cell? ⟨w.heap.size + 1, 1, none⟩ = some (.slice AF F.length cF) := X2.out.e1
  have z2 : w.heap.size + 1 < w2.heap.size := X2.out.lt
  go_wp2_with fail
  go_at_call 11
  refine (Check_any ⟨A1, ps, c1, A2, bs, c2, A3, os, c3⟩ w.heap.size _ X2.out.le (X2.out.dg HD.out) X2.out.tab).mono ?_
  rintro e w3 ⟨rfl, hb⟩
  have X3 := Lib.hid (X2.out.next hb)
  dsimp only
  rw [HE.out, HEN.out]
  clear hb
  clear f0 f1 f2 h0 h1
  have f0 : w3.cell? ⟨w.heap.size, 0, none⟩ = some (.slice A1 ps.length c1) := X3.out.c0
  have f1 : w3.cell? ⟨w.heap.size, 1, none⟩ = some (.slice A2 bs.length c2) := X3.out.c1
  have f2 : w3.cell? ⟨w.heap.size, 2, none⟩ = some (.slice A3 os.length c3) := X3.out.c2
  have h0 : w3.cell? ⟨w.heap.size + 1, 0, none⟩ = some (.slice AR R.length cR) := X3.out.e0
  have h1 : w3.cell? ⟨w.heap.size + 1, 1, none⟩ = some (.slice AF F.length cF) := X3.out.e1
  have z3 : w.heap.size + 1 < w3.heap.size := X3.out.lt
  go_wp2_with fail
  go_at_call 9
  refine (awake13_any _ X3.out.tab).mono ?_
  rintro e w4 ⟨rfl, hb⟩
  have X4 := Lib.hid (X3.out.next hb)
  clear hb
  clear f0 f1 f2 h0 h1
  have f0 : w4.cell? ⟨w.heap.size, 0, none⟩ = some (.slice A1 ps.length c1) := X4.out.c0
  have f1 : w4.cell? ⟨w.heap.size, 1, none⟩ = some (.slice A2 bs.length c2) := X4.out.c1
  have f2 : w4.cell? ⟨w.heap.size, 2, none⟩ = some (.slice A3 os.length c3) := X4.out.c2
  have h0 : w4.cell? ⟨w.heap.size + 1, 0, none⟩ = some (.slice AR R.length cR) := X4.out.e0
  have h1 : w4.cell? ⟨w.heap.size + 1, 1, none⟩ = some (.slice AF F.length cF) := X4.out.e1
  have z4 : w.heap.size + 1 < w4.heap.size := X4.out.lt
  go_wp2_with fail
  go_ret
  exact ⟨rfl, X4.out.bel⟩
set_option maxRecDepth 100000 in
set_option maxHeartbeats 4000000 in
theorem scna_err (A1 : Option Addr) (ps : List Prt) (c1 : Nat) (A2 : Option Addr) (bs : List Bk) (c2 : Nat) (A3 : Option Addr) (os : List Int) (c3 : Nat) (AR : Option Addr) (R : List Iv) (cR : Nat) (AF : Option Addr) (F : List Int) (cF : Nat) (w : World) (hi : DgIn w ⟨A1, ps, c1, A2, bs, c2, A3, os, c3⟩) (hj : RgIn w ⟨AR, R, cR, AF, F, cF⟩) (ht : TabAt w) (hl : lightR ⟨A1, ps, c1, A2, bs, c2, A3, os, c3⟩ ⟨AR, R, cR, AF, F, cF⟩ = true) (he : dgErr ps bs os = 0) (hc : ¬ chErr (gvErr bs.length R) R = 0) : Calls Tryd.prog 3 #[.agg #[.slice A1 ps.length c1, .slice A2 bs.length c2, .slice A3 os.length c3], .agg #[.slice AR R.length cR, .slice AF F.length cF]] w fun e w' => e = .returned (.bool true) ∧ Below w.heap.size w w' := by
  have HI := Lib.hid hi
  have HJ := Lib.hid hj
  have HT := Lib.hid ht
  clear hi hj ht
  have HL := Lib.hid hl
  obtain ⟨l1, l2, l3, l4, l5⟩ := lightR_parts hl
  dsimp only at l2 l3 l4 l5
  have HD := Lib.hid (HI.out.light13 l1)
  have HR := Lib.hid (HJ.out.ivs l2)
  have HF := Lib.hid HJ.out.fs
  clear hl l1 l2
  have HE0 := Lib.hid he
  have HG := Lib.hid (gv_e1 (d := ⟨A1, ps, c1, A2, bs, c2, A3, os, c3⟩) (R := R) he)
  clear he
  dsimp only at HG
  obtain ⟨G, hG⟩ : ∃ G, gvErr bs.length R = G := ⟨_, rfl⟩
  rw [hG] at HG hc
  have HGG := Lib.hid hG
  clear hG
  have X0 := Lib.hid (Ly.start w ⟨A1, ps, c1, A2, bs, c2, A3, os, c3⟩ ⟨AR, R, cR, AF, F, cF⟩ HT.out)
  go_enter Tryd.func3, Tryd.ntmps3
  go_wp2_with fail
  go_at_call 9
  refine (awake13_any _ X0.out.tab).mono ?_
  rintro e w1 ⟨rfl, hb⟩
  have X1 := Lib.hid (X0.out.next hb)
  clear hb
  have f0 : w1.cell? ⟨w.heap.size, 0, none⟩ = some (.slice A1 ps.length c1) := X1.out.c0
  have f1 : w1.cell? ⟨w.heap.size, 1, none⟩ = some (.slice A2 bs.length c2) := X1.out.c1
  have f2 : w1.cell? ⟨w.heap.size, 2, none⟩ = some (.slice A3 os.length c3) := X1.out.c2
  have h0 : w1.cell? ⟨w.heap.size + 1, 0, none⟩ = some (.slice AR R.length cR) := X1.out.e0
  have h1 : w1.cell? ⟨w.heap.size + 1, 1, none⟩ = some (.slice AF F.length cF) := X1.out.e1
  have z1 : w.heap.size + 1 < w1.heap.size := X1.out.lt
  go_wp2_with fail
  go_at_call 10
  refine (light13_any ⟨A1, ps, c1, A2, bs, c2, A3, os, c3⟩ ⟨AR, R, cR, AF, F, cF⟩ _ w X1.out.bel HI.out HJ.out).mono ?_
  rintro e w2 ⟨rfl, hb⟩
  have X2 := Lib.hid (X1.out.next hb)
  rw [HL.out]
  clear hb
  clear f0 f1 f2 h0 h1
  have f0 : w2.cell? ⟨w.heap.size, 0, none⟩ = some (.slice A1 ps.length c1) := X2.out.c0
  have f1 : w2.cell? ⟨w.heap.size, 1, none⟩ = some (.slice A2 bs.length c2) := X2.out.c1
  have f2 : w2.cell? ⟨w.heap.size, 2, none⟩ = some (.slice A3 os.length c3) := X2.out.c2
  have h0 : w2.cell? ⟨w.heap.size + 1, 0, none⟩ = some (.slice AR R.length cR) := X2.out.e0
  have h1 : w2.cell? ⟨w.heap.size + 1, 1, none⟩ = some (.slice AF F.length cF) := X2.out.e1
  have z2 : w.heap.size + 1 < w2.heap.size := X2.out.lt
  go_wp2_with fail
  go_at_call 11
  refine (Check_any ⟨A1, ps, c1, A2, bs, c2, A3, os, c3⟩ w.heap.size _ X2.out.le (X2.out.dg HD.out) X2.out.tab).mono ?_
  rintro e w3 ⟨rfl, hb⟩
  have X3 := Lib.hid (X2.out.next hb)
  dsimp only
  rw [HE0.out, errV_0]
  clear hb
  clear f0 f1 f2 h0 h1
  have f0 : w3.cell? ⟨w.heap.size, 0, none⟩ = some (.slice A1 ps.length c1) := X3.out.c0
  have f1 : w3.cell? ⟨w.heap.size, 1, none⟩ = some (.slice A2 bs.length c2) := X3.out.c1
  have f2 : w3.cell? ⟨w.heap.size, 2, none⟩ = some (.slice A3 os.length c3) := X3.out.c2
  have h0 : w3.cell? ⟨w.heap.size + 1, 0, none⟩ = some (.slice AR R.length cR) := X3.out.e0
  have h1 : w3.cell? ⟨w.heap.size + 1, 1, none⟩ = some (.slice AF F.length cF) := X3.out.e1
  have z3 : w.heap.size + 1 < w3.heap.size := X3.out.lt
  obtain ⟨C, hC⟩ : ∃ C, chErr G R = C := ⟨_, rfl⟩
  have HC := Lib.hid hC
  have hch : chO G R = [] := ch_oe hc
  have HCH := Lib.hid hch
  rw [hC] at hc
  have HEN := Lib.hid (errV_n hc)
  clear hch hC hc
  go_wp2_with fail
  go_at_call 12
  refine (pchoose_any ⟨A1, ps, c1, A2, bs, c2, A3, os, c3⟩ AR R cR w.heap.size _ X3.out.le (X3.out.dg HD.out) (X3.out.iv HR.out) (by omega) X3.out.tab).mono ?_
  rintro e w4 ⟨v, rfl, hown, hb⟩
  have X4 := Lib.hid (X3.out.next hb)
  rw [HG.out, HCH.out] at hown
  rw [HG.out, HC.out, HEN.out]
  have O1 := Lib.hid hown
  obtain ⟨AV1, cV1, rfl, _, _⟩ := hown.view
  clear hown
  clear hb
  clear f0 f1 f2 h0 h1
  have f0 : w4.cell? ⟨w.heap.size, 0, none⟩ = some (.slice A1 ps.length c1) := X4.out.c0
  have f1 : w4.cell? ⟨w.heap.size, 1, none⟩ = some (.slice A2 bs.length c2) := X4.out.c1
  have f2 : w4.cell? ⟨w.heap.size, 2, none⟩ = some (.slice A3 os.length c3) := X4.out.c2
  have h0 : w4.cell? ⟨w.heap.size + 1, 0, none⟩ = some (.slice AR R.length cR) := X4.out.e0
  have h1 : w4.cell? ⟨w.heap.size + 1, 1, none⟩ = some (.slice AF F.length cF) := X4.out.e1
  have z4 : w.heap.size + 1 < w4.heap.size := X4.out.lt
  go_wp2_with fail
  go_ret
  exact ⟨rfl, X4.out.bel⟩
set_option maxRecDepth 100000 in
set_option maxHeartbeats 4000000 in
theorem scna_good (A1 : Option Addr) (ps : List Prt) (c1 : Nat) (A2 : Option Addr) (bs : List Bk) (c2 : Nat) (A3 : Option Addr) (os : List Int) (c3 : Nat) (AR : Option Addr) (R : List Iv) (cR : Nat) (AF : Option Addr) (F : List Int) (cF : Nat) (w : World) (hi : DgIn w ⟨A1, ps, c1, A2, bs, c2, A3, os, c3⟩) (hj : RgIn w ⟨AR, R, cR, AF, F, cF⟩) (ht : TabAt w) (hl : lightR ⟨A1, ps, c1, A2, bs, c2, A3, os, c3⟩ ⟨AR, R, cR, AF, F, cF⟩ = true) (he : dgErr ps bs os = 0) (hc : chErr (gvErr bs.length R) R = 0) : Calls Tryd.prog 3 #[.agg #[.slice A1 ps.length c1, .slice A2 bs.length c2, .slice A3 os.length c3], .agg #[.slice AR R.length cR, .slice AF F.length cF]] w fun e w' => e = .returned (.bool true) ∧ Below w.heap.size w w' := by
  have HI := Lib.hid hi
  have HJ := Lib.hid hj
  have HT := Lib.hid ht
  clear hi hj ht
  have HP := Lib.hid (ch_parts hc)
  have HCO := Lib.hid (show chO (gvErr bs.length R) R = R.map chS from if_pos hc)
  have HL := Lib.hid hl
  obtain ⟨l1, l2, l3, l4, l5⟩ := lightR_parts hl
  dsimp only at l2 l3 l4 l5
  have HD := Lib.hid (HI.out.light13 l1)
  have HR := Lib.hid (HJ.out.ivs l2)
  have HF := Lib.hid HJ.out.fs
  clear hl l1 l2
  have HE0 := Lib.hid he
  have HG := Lib.hid (gv_e1 (d := ⟨A1, ps, c1, A2, bs, c2, A3, os, c3⟩) (R := R) he)
  clear he
  dsimp only at HG
  obtain ⟨G, hG⟩ : ∃ G, gvErr bs.length R = G := ⟨_, rfl⟩
  rw [hG] at HG hc HCO
  have HGG := Lib.hid hG
  clear hG
  have X0 := Lib.hid (Ly.start w ⟨A1, ps, c1, A2, bs, c2, A3, os, c3⟩ ⟨AR, R, cR, AF, F, cF⟩ HT.out)
  go_enter Tryd.func3, Tryd.ntmps3
  go_wp2_with fail
  go_at_call 9
  refine (awake13_any _ X0.out.tab).mono ?_
  rintro e w1 ⟨rfl, hb⟩
  have X1 := Lib.hid (X0.out.next hb)
  clear hb
  have f0 : w1.cell? ⟨w.heap.size, 0, none⟩ = some (.slice A1 ps.length c1) := X1.out.c0
  have f1 : w1.cell? ⟨w.heap.size, 1, none⟩ = some (.slice A2 bs.length c2) := X1.out.c1
  have f2 : w1.cell? ⟨w.heap.size, 2, none⟩ = some (.slice A3 os.length c3) := X1.out.c2
  have h0 : w1.cell? ⟨w.heap.size + 1, 0, none⟩ = some (.slice AR R.length cR) := X1.out.e0
  have h1 : w1.cell? ⟨w.heap.size + 1, 1, none⟩ = some (.slice AF F.length cF) := X1.out.e1
  have z1 : w.heap.size + 1 < w1.heap.size := X1.out.lt
  go_wp2_with fail
  go_at_call 10
  refine (light13_any ⟨A1, ps, c1, A2, bs, c2, A3, os, c3⟩ ⟨AR, R, cR, AF, F, cF⟩ _ w X1.out.bel HI.out HJ.out).mono ?_
  rintro e w2 ⟨rfl, hb⟩
  have X2 := Lib.hid (X1.out.next hb)
  rw [HL.out]
  clear hb
  clear f0 f1 f2 h0 h1
  have f0 : w2.cell? ⟨w.heap.size, 0, none⟩ = some (.slice A1 ps.length c1) := X2.out.c0
  have f1 : w2.cell? ⟨w.heap.size, 1, none⟩ = some (.slice A2 bs.length c2) := X2.out.c1
  have f2 : w2.cell? ⟨w.heap.size, 2, none⟩ = some (.slice A3 os.length c3) := X2.out.c2
  have h0 : w2.cell? ⟨w.heap.size + 1, 0, none⟩ = some (.slice AR R.length cR) := X2.out.e0
  have h1 : w2.cell? ⟨w.heap.size + 1, 1, none⟩ = some (.slice AF F.length cF) := X2.out.e1
  have z2 : w.heap.size + 1 < w2.heap.size := X2.out.lt
  go_wp2_with fail
  go_at_call 11
  refine (Check_any ⟨A1, ps, c1, A2, bs, c2, A3, os, c3⟩ w.heap.size _ X2.out.le (X2.out.dg HD.out) X2.out.tab).mono ?_
  rintro e w3 ⟨rfl, hb⟩
  have X3 := Lib.hid (X2.out.next hb)
  dsimp only
  rw [HE0.out, errV_0]
  clear hb
  clear f0 f1 f2 h0 h1
  have f0 : w3.cell? ⟨w.heap.size, 0, none⟩ = some (.slice A1 ps.length c1) := X3.out.c0
  have f1 : w3.cell? ⟨w.heap.size, 1, none⟩ = some (.slice A2 bs.length c2) := X3.out.c1
  have f2 : w3.cell? ⟨w.heap.size, 2, none⟩ = some (.slice A3 os.length c3) := X3.out.c2
  have h0 : w3.cell? ⟨w.heap.size + 1, 0, none⟩ = some (.slice AR R.length cR) := X3.out.e0
  have h1 : w3.cell? ⟨w.heap.size + 1, 1, none⟩ = some (.slice AF F.length cF) := X3.out.e1
  have z3 : w.heap.size + 1 < w3.heap.size := X3.out.lt
  obtain ⟨xs, hxs⟩ : ∃ xs, xs = R.map chS := ⟨_, rfl⟩
  rw [← hxs] at HCO
  have hml : xs.length = R.length := by rw [hxs]; simp
  have HXS := Lib.hid hxs
  have HCC := Lib.hid hc
  clear hxs hc
  go_wp2_with fail
  go_at_call 12
  refine (pchoose_any ⟨A1, ps, c1, A2, bs, c2, A3, os, c3⟩ AR R cR w.heap.size _ X3.out.le (X3.out.dg HD.out) (X3.out.iv HR.out) (by omega) X3.out.tab).mono ?_
  rintro e w4 ⟨v, rfl, hown, hb⟩
  have X4 := Lib.hid (X3.out.next hb)
  rw [HG.out, HCO.out] at hown
  rw [HG.out, HCC.out, errV_0]
  have O1 := Lib.hid hown
  obtain ⟨AV1, cV1, rfl, _, _⟩ := hown.view
  rw [hml]
  clear hown
  clear hb
  clear f0 f1 f2 h0 h1
  have f0 : w4.cell? ⟨w.heap.size, 0, none⟩ = some (.slice A1 ps.length c1) := X4.out.c0
  have f1 : w4.cell? ⟨w.heap.size, 1, none⟩ = some (.slice A2 bs.length c2) := X4.out.c1
  have f2 : w4.cell? ⟨w.heap.size, 2, none⟩ = some (.slice A3 os.length c3) := X4.out.c2
  have h0 : w4.cell? ⟨w.heap.size + 1, 0, none⟩ = some (.slice AR R.length cR) := X4.out.e0
  have h1 : w4.cell? ⟨w.heap.size + 1, 1, none⟩ = some (.slice AF F.length cF) := X4.out.e1
  have z4 : w.heap.size + 1 < w4.heap.size := X4.out.lt
  have HLI := Lib.hid (lean_words HL.out)
  go_wp2_with fail
  clear f0 f1 f2 h0 h1
  go_loopw [7, 42] (fun v i wr => nwR w4 R v i wr) (fun _ i _ => R.length - (intOf i).toNat)
  case atStart => exact ⟨0, Nat.zero_le _, rfl, [], WideTo.nil_ _ _⟩
  case round =>
    obtain ⟨k, hk, rfl, l, hwt⟩ := hrel
    have XR := Lib.hid (X4.out.next hwt.bel)
    have O1R := Lib.hid (O1.out.call hwt.bel)
    obtain ⟨V, vc, rfl, _, _⟩ := hwt.own.view
    have hll := hwt.len
    rw [hll] at hwt
    try rw [hll]
    have HWT := Lib.hid hwt
    clear hwt
    by_cases hlt : k < R.length
    · obtain ⟨b, off, y, hA, hbm, hbs, hy, hyc⟩ := (XR.out.iv HR.out).cells.row (s := 6) (fun _ => rfl) (by omega) hlt
      subst hA
      have g0 : wr.cell? ⟨b, off + k * 6, none⟩ = some (.bool y.lo.nb) := hyc 0 _ rfl
      have g1 : wr.cell? ⟨b, off + k * 6 + 1, none⟩ = some (.slice y.lo.A y.lo.ws.length y.lo.cap) := hyc 1 _ rfl
      have g2 : wr.cell? ⟨b, off + k * 6 + 2, none⟩ = some (.int .i64 y.lo.den) := hyc 2 _ rfl
      have g3 : wr.cell? ⟨b, off + k * 6 + 3, none⟩ = some (.bool y.hi.nb) := hyc 3 _ rfl
      have g4 : wr.cell? ⟨b, off + k * 6 + 4, none⟩ = some (.slice y.hi.A y.hi.ws.length y.hi.cap) := hyc 4 _ rfl
      have g5 : wr.cell? ⟨b, off + k * 6 + 5, none⟩ = some (.int .i64 y.hi.den) := hyc 5 _ rfl
      have HY := Lib.hid hy
      have HYE := Lib.hid (HR.out.each y (List.mem_of_getElem? hy))
      have hvy : ivP y := of_decide_eq_true (HP.out.2.2 y (List.mem_of_getElem? hy)).1
      have HVY := Lib.hid hvy
      have hki : (k : Int) < (R.length : Int) := by omega
      clear hyc hy hvy
      go_wp2_with fail
      refine wp_region_part 9 (by kernel_rfl) (by kernel_rfl) ?_
      dsimp only [List.take, List.drop]
      obtain ⟨WB, hWB⟩ : ∃ WB, WB = wr.alloc (.cells #[.bool y.lo.nb, .slice y.lo.A y.lo.ws.length y.lo.cap, .int .i64 y.lo.den, .bool y.hi.nb, .slice y.hi.A y.hi.ws.length y.hi.cap, .int .i64 y.hi.den] 41) := ⟨_, rfl⟩
      obtain ⟨q, hq⟩ : ∃ q, q = wr.heap.size := ⟨_, rfl⟩
      have bB : Below wr.heap.size wr WB := by rw [hWB]; exact al_ _ _
      have rq : RowD WB q [.bool y.lo.nb, .slice y.lo.A y.lo.ws.length y.lo.cap, .int .i64 y.lo.den, .bool y.hi.nb, .slice y.hi.A y.hi.ws.length y.hi.cap, .int .i64 y.hi.den] 41 := by rw [hWB, hq]; exact RowD.new_ _ _ _
      rw [← hWB, ← hq]
      have y0 : WB.cell? ⟨q, 0, none⟩ = some (.bool y.lo.nb) := rq.cell 0
      have y1 : WB.cell? ⟨q, 1, none⟩ = some (.slice y.lo.A y.lo.ws.length y.lo.cap) := rq.cell 1
      have y2 : WB.cell? ⟨q, 2, none⟩ = some (.int .i64 y.lo.den) := rq.cell 2
      have y3 : WB.cell? ⟨q, 3, none⟩ = some (.bool y.hi.nb) := rq.cell 3
      have y4 : WB.cell? ⟨q, 4, none⟩ = some (.slice y.hi.A y.hi.ws.length y.hi.cap) := rq.cell 4
      have y5 : WB.cell? ⟨q, 5, none⟩ = some (.int .i64 y.hi.den) := rq.cell 5
      have hqB : q < WB.heap.size := rq.lt
      have hS : Below WB.heap.size WB WB.drew := (Below.refl _ _).drew
      have HWB := Lib.hid (HWT.out.call bB)
      have XB := Lib.hid (XR.out.next bB)
      have HTB := Lib.hid XB.out.tab
      have DLO := Lib.hid (((HYE.out.1.lo.dy HVY.out.1).below XB.out.bel (Nat.le_refl _)).more XB.out.le)
      have DHI := Lib.hid (((HYE.out.1.hi.dy HVY.out.2.1).below XB.out.bel (Nat.le_refl _)).more XB.out.le)
      have hl1 : (canon y.lo.x.natAbs).length ≤ 140 := by rw [rw_len HYE.out.1.lo HVY.out.1]; exact (HLI.out y (List.mem_of_getElem? HY.out)).1
      have hl2 : (canon y.hi.x.natAbs).length ≤ 140 := by rw [rw_len HYE.out.1.hi HVY.out.2.1]; exact (HLI.out y (List.mem_of_getElem? HY.out)).2
      have hd1 := DLO.out.bound.1
      have hd2 := DHI.out.bound.1
      have HOL := Lib.hid (show ∀ g, (Value.slice V k vc).ownBlock = some g → g < WB.heap.size from fun g hg => (HWB.out.own.own_lt hg).2)
      clear hWB hq bB rq g0 g1 g2 g3 g4 g5
      refine wpAny_of_held (S := fun w' => Below WB.heap.size WB w') _ _ _ _ ?_
      refine takeL 0 ?v0 rfl (by kernel_rfl) (by intro _ _ _ h; exact h) (by rfl) hS ?h0 ?r0
      case h0 =>
        intro w2 hSw
        go_simp
        try rfl
      case' r0 => try simp only [Act.put, List.setIfInBounds_toArray, List.set_cons_zero, List.set_cons_succ]
      refine takeL 1 ?v1 rfl (by kernel_rfl) (by intro _ _ _ h; exact h) (by rfl) hS ?h1 ?r1
      case h1 =>
        intro w2 hSw
        go_simp
        try rfl
      case' r1 => try simp only [Act.put, List.setIfInBounds_toArray, List.set_cons_zero, List.set_cons_succ]
      refine takeL 2 ?v2 rfl (by kernel_rfl) (by intro _ _ _ h; exact h) (by rfl) hS ?h2 ?r2
      case h2 =>
        intro w2 hSw
        have e0 : w2.cell? ⟨q, 0, none⟩ = some (.bool y.lo.nb) := (hSw.cell (p := ⟨q, 0, none⟩) hqB).trans y0
        have e1 : w2.cell? ⟨q, 1, none⟩ = some (.slice y.lo.A y.lo.ws.length y.lo.cap) := (hSw.cell (p := ⟨q, 1, none⟩) hqB).trans y1
        have e2 : w2.cell? ⟨q, 2, none⟩ = some (.int .i64 y.lo.den) := (hSw.cell (p := ⟨q, 2, none⟩) hqB).trans y2
        go_simp
        try rfl
      case' r2 => try simp only [Act.put, List.setIfInBounds_toArray, List.set_cons_zero, List.set_cons_succ]
      refine takeL 4 ?v4 rfl (by kernel_rfl) (by intro _ _ _ h; exact h) (by rfl) hS ?h4 ?r4
      case h4 =>
        intro w2 hSw
        go_simp
        try rfl
      case' r4 => try simp only [Act.put, List.setIfInBounds_toArray, List.set_cons_zero, List.set_cons_succ]
      refine takeL 5 ?v5 rfl (by kernel_rfl) (by intro _ _ _ h; exact h) (by rfl) hS ?h5 ?r5
      case h5 =>
        intro w2 hSw
        have e3 : w2.cell? ⟨q, 3, none⟩ = some (.bool y.hi.nb) := (hSw.cell (p := ⟨q, 3, none⟩) hqB).trans y3
        have e4 : w2.cell? ⟨q, 4, none⟩ = some (.slice y.hi.A y.hi.ws.length y.hi.cap) := (hSw.cell (p := ⟨q, 4, none⟩) hqB).trans y4
        have e5 : w2.cell? ⟨q, 5, none⟩ = some (.int .i64 y.hi.den) := (hSw.cell (p := ⟨q, 5, none⟩) hqB).trans y5
        go_simp
        try rfl
      case' r5 => try simp only [Act.put, List.setIfInBounds_toArray, List.set_cons_zero, List.set_cons_succ]
      refine stepL 3 rfl (by kernel_rfl) (by rfl) ?_
      intro K hK
      go_simp
      have hz : WB.heap.size ≤ WB.drew.heap.size := by simp
      refine (pshift_any (n := 1) (DLO.out.below hS (Nat.le_refl _)) hz (by omega) (by omega) (HTB.out.below hS HTB.out.1)).mono ?_
      rintro e w5 ⟨v5, rfl, D5, hb5⟩
      have hS5 : Below WB.heap.size WB w5 := hS.trans (hb5.mono hz)
      obtain ⟨r5, rfl, F5, vd5, x5, d5, ws5⟩ := D5.far (q := (Value.slice V k vc).ownBlock) (fun g hg => Nat.lt_of_lt_of_le (HOL.out g hg) hz)
      have HF5 := Lib.hid F5
      have HV5 := Lib.hid vd5
      have HX5 := Lib.hid (show (r5.x, r5.d) = dyShift y.lo.x y.lo.d 1 by rw [x5, d5])
      have HL5 := Lib.hid (show r5.ws.length ≤ 141 by rw [ws5]; exact len_wide hl1)
      refine hK.out _ _ hS5 ?_
      clear hK K hS hb5 D5 hz F5 vd5 x5 d5 ws5
      have hS := hS5
      clear hS5
      try simp only [Act.put, List.setIfInBounds_toArray, List.set_cons_zero, List.set_cons_succ]
      try dsimp only [Rw.val]
      refine stepL 6 rfl (by kernel_rfl) (by rfl) ?_
      intro K hK
      go_simp
      have hz : WB.heap.size ≤ w5.heap.size := hS.size
      refine (pshift_any (n := 1) (DHI.out.below hS (Nat.le_refl _)) hz (by omega) (by omega) (HTB.out.below hS HTB.out.1)).mono ?_
      rintro e w6 ⟨v6, rfl, D6, hb6⟩
      have hS6 : Below WB.heap.size WB w6 := hS.trans (hb6.mono hz)
      obtain ⟨r6, rfl, F6, vd6, x6, d6, ws6⟩ := D6.far (q := (Value.slice V k vc).ownBlock) (fun g hg => Nat.lt_of_lt_of_le (HOL.out g hg) hz)
      have HF6 := Lib.hid F6
      have HF5' := Lib.hid (HF5.out.call hb6)
      have HV6 := Lib.hid vd6
      have HX6 := Lib.hid (show (r6.x, r6.d) = dyShift y.hi.x y.hi.d 1 by rw [x6, d6])
      have HL6 := Lib.hid (show r6.ws.length ≤ 141 by rw [ws6]; exact len_wide hl2)
      refine hK.out _ _ hS6 ?_
      clear hK K hS hb6 D6 hz F6 vd6 x6 d6 ws6 HF5
      have hS := hS6
      clear hS6
      try simp only [Act.put, List.setIfInBounds_toArray, List.set_cons_zero, List.set_cons_succ]
      try dsimp only [Rw.val]
      refine takeL 7 ?v7 rfl (by kernel_rfl) (by intro _ _ _ h; exact h) (by rfl) hS ?h7 ?r7
      case h7 =>
        intro w2 hSw
        go_simp
        try rfl
      case' r7 => try simp only [Act.put, List.setIfInBounds_toArray, List.set_cons_zero, List.set_cons_succ]
      refine stepL 8 rfl (by kernel_rfl) (by rfl) ?_
      intro K hK
      go_simp
      refine hK.out _ _ (hS.alloc hS.size _) ?_
      clear hK K
      try simp only [Act.put, List.setIfInBounds_toArray, List.set_cons_zero, List.set_cons_succ]
      obtain ⟨w7, hw7⟩ : ∃ q, q = w6.alloc (.cells #[.bool r5.nb, .slice r5.A r5.ws.length r5.cap, .int .i64 r5.den, .bool r6.nb, .slice r6.A r6.ws.length r6.cap, .int .i64 r6.den] 41) := ⟨_, rfl⟩
      obtain ⟨s, hs⟩ : ∃ q, q = w6.heap.size := ⟨_, rfl⟩
      have rs : RowD w7 s [.bool r5.nb, .slice r5.A r5.ws.length r5.cap, .int .i64 r5.den, .bool r6.nb, .slice r6.A r6.ws.length r6.cap, .int .i64 r6.den] 41 := by rw [hw7, hs]; exact RowD.new_ _ _ _
      have hb : Below w6.heap.size w6 w7 := by rw [hw7]; exact al_ _ _
      rw [← hw7, ← hs]
      have hS7 : Below WB.heap.size WB w7 := hS.trans (hb.mono hS.size)
      have HW7 := Lib.hid (HWB.out.call hS7)
      have HFI := Lib.hid (show FarI w7 (Value.slice V k vc).ownBlock ⟨r5, r6⟩ from ⟨HF5'.out.call hb, HF6.out.call hb, by have := HL5.out; show r5.ws.length ≤ 10000; omega, by have := HL6.out; show r6.ws.length ≤ 10000; omega⟩)
      have HWI := Lib.hid (show Wide y ⟨r5, r6⟩ from ⟨HX5.out, HX6.out, HV5.out, HV6.out⟩)
      have HRS := Lib.hid rs
      have hsz : w4.heap.size ≤ w7.heap.size := HW7.out.bel.size
      clear hw7 hs rs hb hS hS7 HWB HF5' HF6 HV5 HV6 HX5 HX6 HL5 HL6 DLO DHI HOL
      refine endL (by kernel_rfl) ?_
      dsimp only [PartQ]
      refine push_iv rfl (.tmp 46) (.tmp 54) rfl w4.heap.size (.slice V k vc) l ⟨r5, r6⟩ s rfl HW7.out.own rfl (fun j u hu => by rw [HRS.out.cell]; exact hu) (by omega) hsz ?_
      intro v' w9 hown9 hg9 hb9 hq9
      have HNEW := Lib.hid (HW7.out.push HY.out HWI.out HFI.out hown9 hg9 hb9 hq9)
      clear hown9 hg9 hb9 hq9
      try simp only [Act.put, List.setIfInBounds_toArray, List.set_cons_zero, List.set_cons_succ]
      go_wp2_with fail
      exact ⟨⟨k + 1, by omega, by go_num, _, HNEW.out⟩, by simp [intOf]; omega⟩
    · obtain rfl : k = R.length := by omega
      clear hk hlt
      have HGL := Lib.hid (show gvE ⟨A1, ps, c1, A2, bs, c2, A3, os, c3⟩ l = 0 from (gv_e1 HE0.out).trans (gv_3 (hll.trans HP.out.2.1) (HWT.out.all_ok HP.out.2.2)))
      have f0 : wr.cell? ⟨w.heap.size, 0, none⟩ = some (.slice A1 ps.length c1) := XR.out.c0
      have f1 : wr.cell? ⟨w.heap.size, 1, none⟩ = some (.slice A2 bs.length c2) := XR.out.c1
      have f2 : wr.cell? ⟨w.heap.size, 2, none⟩ = some (.slice A3 os.length c3) := XR.out.c2
      have h0 : wr.cell? ⟨w.heap.size + 1, 0, none⟩ = some (.slice AR R.length cR) := XR.out.e0
      have h1 : wr.cell? ⟨w.heap.size + 1, 1, none⟩ = some (.slice AF F.length cF) := XR.out.e1
      go_wp2_with fail
      go_at_call 12
      have hpc := pchoose_any ⟨A1, ps, c1, A2, bs, c2, A3, os, c3⟩ V l vc wr.heap.size _ (Nat.le_refl _) ((XR.out.dg HD.out).more XR.out.le) HWT.out.ivs (by omega) XR.out.tab
      rw [hll, HGL.out] at hpc
      refine hpc.mono ?_
      rintro e wn ⟨v, rfl, hown, hb⟩
      have XN := Lib.hid (XR.out.next hb)
      have O1N := Lib.hid (O1R.out.call hb)
      clear hb hpc f0 f1 f2 h0 h1 XR O1R
      by_cases hc2 : chErr 0 l = 0
      · have hco : chO 0 l = l.map chS := if_pos hc2
        rw [hco] at hown
        rw [hc2, errV_0]
        obtain ⟨ys, hys⟩ : ∃ ys, ys = l.map chS := ⟨_, rfl⟩
        rw [← hys] at hown
        have hml2 : ys.length = R.length := by rw [hys]; simpa using hll
        have HYS := Lib.hid hys
        have HC2 := Lib.hid hc2
        have O2 := Lib.hid hown
        obtain ⟨AV2, cV2, rfl, _, _⟩ := hown.view
        rw [hml2]
        clear hco hys hc2 hown
        have h0 : wn.cell? ⟨w.heap.size + 1, 0, none⟩ = some (.slice AR R.length cR) := XN.out.e0
        have hlb : ((R.length : Int) != (R.length : Int)) = false := by simp
        go_wp2_with fail
        clear h0
        go_loopw [97] (fun i w9 => nw3 wn R.length i w9) (fun i _ => R.length - (intOf i).toNat)
        case atStart => exact ⟨0, Nat.zero_le _, rfl, Below.refl _ _⟩
        case round =>
          obtain ⟨k, hk, rfl, hb⟩ := hrel
          rename World => wq
          have XQ := Lib.hid (XN.out.next hb)
          have O1Q := Lib.hid (O1N.out.call hb)
          have O2Q := Lib.hid (O2.out.call hb)
          have HB := Lib.hid hb
          clear hb
          by_cases hlt : k < R.length
          · obtain ⟨bf, of, a, rfl, hfm, hfs, ha, ga⟩ := O1Q.out.cells.int_ (k := k) (by omega)
            obtain ⟨bg, og, c, rfl, hgm, hgs, hc, gc⟩ := O2Q.out.cells.int_ (k := k) (by omega)
            obtain ⟨q1, q2, q3, q4, q5⟩ := HWT.out.bits HP.out.2.2 HC2.out (HXS.out ▸ ha) (HYS.out ▸ hc)
            have hki : (k : Int) < (R.length : Int) := by omega
            have hw1 : IntKind.i64.wrap (a - 1) = a - 1 := IntWalk.i64_in _ (by omega)
            have hg1 : decide (a < c) = false := decide_eq_false (by omega)
            have hg2 : decide (c < a - 1) = false := decide_eq_false (by omega)
            clear ha hc
            by_cases h30 : a < 30
            · have hg3 : decide (a < 30) = true := decide_eq_true h30
              have hg4 : (c != a - 1) = false := by rw [q3 h30]; simp
              clear q3 h30
              go_wp2_with fail
              go_quiet (fail)
              go_wp2_with fail
              exact ⟨⟨k + 1, by omega, by go_num, by repeat (first | exact HB.out | refine ext_drew ?_ | refine ext_drewN ?_ _)⟩, by simp [intOf]; omega⟩
            · have hg3 : decide (a < 30) = false := decide_eq_false h30
              clear q3 h30
              go_wp2_with fail
              go_quiet (fail)
              go_wp2_with fail
              exact ⟨⟨k + 1, by omega, by go_num, by repeat (first | exact HB.out | refine ext_drew ?_ | refine ext_drewN ?_ _)⟩, by simp [intOf]; omega⟩
          · go_wp2_with fail
            go_ret
            exact ⟨rfl, XQ.out.bel⟩
      · have HNO := Lib.hid (HWT.out.none_ HP.out.2.2 hc2)
        rw [(ch_no hc2).1, errV_n (n := 4) (by decide)]
        obtain ⟨AV2, cV2, rfl, _, _⟩ := hown.view
        clear hc2 hown
        go_wp2_with fail
        go_loopw [12, 67] (fun n i w9 => nw2 wn R.length xs n i w9) (fun _ i _ => R.length - (intOf i).toNat)
        case atStart => exact ⟨0, Nat.zero_le _, rfl, by simp, rfl⟩
        case round =>
          obtain ⟨k, hk, rfl, rfl, rfl⟩ := hrel
          obtain ⟨sv, hsv⟩ : ∃ q, q = (xs.take k).any (fun x => x == 0) := ⟨_, rfl⟩
          rw [← hsv]
          have HSV := Lib.hid hsv
          clear hsv
          by_cases hlt : k < R.length
          · obtain ⟨bf, of, a, rfl, hfm, hfs, ha, ga⟩ := O1N.out.cells.int_ (k := k) (by omega)
            have HAK := Lib.hid ha
            have hki : (k : Int) < (R.length : Int) := by omega
            clear ha
            cases sv with
            | true =>
              go_wp2_with fail
              exact ⟨⟨k + 1, by omega, by go_num, by rw [any0_succ HAK.out, ← HSV.out]; rfl, rfl⟩, by simp [intOf]; omega⟩
            | false =>
              go_wp2_with fail
              exact ⟨⟨k + 1, by omega, by go_num, by rw [any0_succ HAK.out, ← HSV.out]; rfl, rfl⟩, by simp [intOf]; omega⟩
          · have hst : sv = true := by
              rw [HSV.out, List.take_of_length_le (by omega), HXS.out]
              exact HNO.out
            subst hst
            go_wp2_with fail
            go_at_call 14
            refine (is_any 4 4 _).mono ?_
            rintro e wq ⟨rfl, rfl⟩
            rw [show isB 4 4 = true from rfl]
            go_wp2_with fail
            go_ret
            exact ⟨rfl, XN.out.bel⟩
theorem scalesNarrow_walk (A1 : Option Addr) (ps : List Prt) (c1 : Nat) (A2 : Option Addr) (bs : List Bk) (c2 : Nat) (A3 : Option Addr) (os : List Int) (c3 : Nat) (AR : Option Addr) (R : List Iv) (cR : Nat) (AF : Option Addr) (F : List Int) (cF : Nat) (w : World) (hi : DgIn w ⟨A1, ps, c1, A2, bs, c2, A3, os, c3⟩) (hj : RgIn w ⟨AR, R, cR, AF, F, cF⟩) (ht : TabAt w) : Calls Tryd.prog 3 #[.agg #[.slice A1 ps.length c1, .slice A2 bs.length c2, .slice A3 os.length c3], .agg #[.slice AR R.length cR, .slice AF F.length cF]] w fun e w' => e = .returned (.bool true) ∧ Below w.heap.size w w' := by
  cases hl : lightR ⟨A1, ps, c1, A2, bs, c2, A3, os, c3⟩ ⟨AR, R, cR, AF, F, cF⟩ with
  | false => exact scna_heavy A1 ps c1 A2 bs c2 A3 os c3 AR R cR AF F cF w hi hj ht hl
  | true =>
    by_cases he : dgErr ps bs os = 0
    · by_cases hc : chErr (gvErr bs.length R) R = 0
      · exact scna_good A1 ps c1 A2 bs c2 A3 os c3 AR R cR AF F cF w hi hj ht hl he hc
      · exact scna_err A1 ps c1 A2 bs c2 A3 os c3 AR R cR AF F cF w hi hj ht hl he hc
    · exact scna_bad A1 ps c1 A2 bs c2 A3 os c3 AR R cR AF F cF w hi hj ht hl he

set_option maxRecDepth 100000 in
set_option maxHeartbeats 4000000 in
theorem scalesNarrow_lifted (os : Os) (started : os.Started) (H : Type) (enc : TypeId × Value → H) :
    ReturnsInHanded {} Tryd.checked os 3 .any (fun w args => (Rows.scalesNarrowSpec.pre enc Tryd.prog Tryd.f3 [] false w args ∧ laidMetH Tryd.prog laidT w) ∧ sizedMet enc Tryd.prog Tryd.f3 (OpenSpec.ofChange Rows.scalesNarrowSpec) false w args)
      (Rows.scalesNarrowSpec.post enc Tryd.prog Tryd.f3 false true false false) := by
  refine law_lift_laid (C := Tryd.checked) (T := 4) own started (by kernel_rfl) Tryd.func3
    (ChangeSpec.witness_shaped (enc := enc) (C := Tryd.checked) (os := os) (X := fun w _ => laidMetH Tryd.prog laidT w) false (World.doorLaid Tryd.prog 400 os) #[.agg #[.slice none 0 0, .slice none 0 0, .slice none 0 0], .agg #[.slice none 0 0, .slice none 0 0]] 8 rfl (door_shaped os _) (by kernel_rfl) (by kernel_rfl) (by kernel_rfl) (door_met os _))
    laidOut (by kernel_rfl) rfl Tryd.underlying4 (by kernel_rfl) ?_ ?_
  · intro ds h
    match ds, h with
    | [d1, d2], _ => exact ⟨rfl, rfl, rfl⟩
  · intro W base args ds p hval0 hA0 _ hsz0 hL
    have ht := tab_of hL
    have hval : ∀ (j : Nat) t v, Tryd.f3.params[j]? = some t → args[j]? = some v → Value.okWide Tryd.prog W .any base t v := hval0
    have hA : DataW.TrodAll enc Tryd.prog W 0 (fun _ => true) true Tryd.f3.params.toList args.toList ds p := hA0
    clear hsz0 hL
    rw [Tryd.params3] at hA hval
    obtain ⟨v0, vs0, d0, ds0, p0, q0, hargs, rfl, rfl, h0, r0⟩ := trodAll_cons hA
    obtain ⟨v1, vs1, d1, ds1, p1, q1, rfl, rfl, rfl, h1, r1⟩ := trodAll_cons r0
    obtain ⟨rfl, rfl, rfl⟩ := trodAll_nil r1
    obtain rfl : args = #[v0, v1] := by cases args; simp_all
    obtain ⟨⟨A1, ps, c1, A2, bs, c2, A3, os, c3⟩, rfl, hin⟩ := open_dg (hval 0 26 v0 rfl rfl) h0
    obtain ⟨⟨AR, R, cR, AF, F, cF⟩, rfl, hrg⟩ := open_rg (hval 1 29 v1 rfl rfl) h1
    exact scalesNarrow_walk A1 ps c1 A2 bs c2 A3 os c3 AR R cR AF F cF W hin hrg ht
theorem scalesNarrow_row : Rows.ScalesNarrowSaid :=
  OpenClaim.holds_of_wide 3 Tryd.f3 rfl rfl rfl rfl rfl rfl rfl ⟨rfl, rfl, rfl, rfl, rfl⟩ rfl rfl rfl rfl rfl (by kernel_rfl) Tryd.func3 (by kernel_rfl)
    (of_decide_eq_true (by kernel_rfl)) (by unfold Func.isWrapper; first | (rw [if_pos (by decide +kernel)]; kernel_rfl) | (rw [if_neg (by decide +kernel)]; exact ⟨rfl, rfl⟩))
    (fun os started H enc _ => scalesNarrow_lifted os started H enc)
theorem scalesNarrow_holds : Rows.ScalesNarrowCardSaid :=
  Claim7.holds_tied_plain_at .later [] [.data] true (true, "ceb97b6710135aa47b784ff3ccc4d43c36e529616a739c760362e989b81859fe") true
    scalesNarrow_row (fun _ h => by cases h) (by kernel_rfl) (fun _ h => by cases h) scalesNarrow_row_tie rfl ⟨rfl, rfl⟩ (by kernel_rfl) rfl
    (fun f fn hf hfn => by
      obtain rfl : f = 3 := Option.some.inj ((show Tryd.prog.funcNamed "commutator/commutatorlaw13.ScalesNarrow" = some 3 by kernel_rfl).symm.trans hf) |>.symm
      obtain rfl : fn = Tryd.f3 := (Option.some.inj (Tryd.func3.symm.trans hfn)).symm
      exact ⟨by kernel_rfl, fun j t ht => by
        rw [Tryd.params3] at ht
        have hm : t ∈ [26, 29] := by simpa using Array.mem_of_getElem? ht
        have hall : ([26, 29].all fun u => !Tryd.prog.wantsStandIn u) = true := by kernel_rfl
        exact (show Tryd.prog.wantsStandIn t = false by simpa using List.all_eq_true.1 hall t hm)⟩)
    (by kernel_rfl)
#print axioms scalesNarrow_holds

end Go.Proofs.YtejnnljjmafjaaaDoor
