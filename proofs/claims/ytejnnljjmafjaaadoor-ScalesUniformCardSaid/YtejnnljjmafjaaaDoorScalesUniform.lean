/- ScalesUniform: for every diagram and all ranges the law returns true: the uniform scales are the least of the chosen ones, they fit, and only inputs need shifts. No conditions. -/
import Derived.Test.YtejnnljjmafjaaaDoorScO
namespace Go.Proofs.YtejnnljjmafjaaaDoor
set_option linter.unusedVariables false
set_option linter.unusedSimpArgs false
set_option linter.unusedSectionVars false
open Go.ChangeShapes Go.WideShapes Go.ChangeAt Go.RowKit Go.Joins

def unR (W : World) (N : Nat) (xs : List Int) (L : Int) (bs : List Bk) (s n i : Value) (wr : World) : Prop :=
  ∃ k : Nat, k ≤ N ∧ i = .int .i64 (k : Int) ∧ s = .bool (((N : Int) == 0) || (xs.take k).any (fun x => x == L)) ∧ n = .int .i64 (cntI bs k : Int) ∧ Below W.heap.size W wr

set_option maxRecDepth 100000 in
set_option maxHeartbeats 4000000 in
theorem scun_heavy (A1 : Option Addr) (ps : List Prt) (c1 : Nat) (A2 : Option Addr) (bs : List Bk) (c2 : Nat) (A3 : Option Addr) (os : List Int) (c3 : Nat) (AR : Option Addr) (R : List Iv) (cR : Nat) (AF : Option Addr) (F : List Int) (cF : Nat) (w : World) (hi : DgIn w ⟨A1, ps, c1, A2, bs, c2, A3, os, c3⟩) (hj : RgIn w ⟨AR, R, cR, AF, F, cF⟩) (ht : TabAt w) (hl : lightR ⟨A1, ps, c1, A2, bs, c2, A3, os, c3⟩ ⟨AR, R, cR, AF, F, cF⟩ = false) : Calls Tryd.prog 8 #[.agg #[.slice A1 ps.length c1, .slice A2 bs.length c2, .slice A3 os.length c3], .agg #[.slice AR R.length cR, .slice AF F.length cF]] w fun e w' => e = .returned (.bool true) ∧ Below w.heap.size w w' := by
  have HI := Lib.hid hi
  have HJ := Lib.hid hj
  have HT := Lib.hid ht
  clear hi hj ht
  have HL := Lib.hid hl
  clear hl
  have X0 := Lib.hid (Ly.start w ⟨A1, ps, c1, A2, bs, c2, A3, os, c3⟩ ⟨AR, R, cR, AF, F, cF⟩ HT.out)
  go_enter Tryd.func8, Tryd.ntmps8
  go_wp2_with fail
  go_at_call 9
  refine (awake13_any _ X0.out.tab).mono ?_
  rintro e w1 ⟨rfl, hb⟩
  have X1 := Lib.hid (X0.out.next hb)
  clear hb
  have f0 : w1.cell? ⟨w.heap.size, 0, none⟩ = some (.slice A1 ps.length c1) := X1.out.c0
  have f1 : w1.cell? ⟨w.heap.size, 1, none⟩ = some (.slice A2 bs.length c2) := X1.out.c1
  have f2 : w1.cell? ⟨w.heap.size, 2, none⟩ = some (.slice A3 os.length c3) := X1.out.c2
  have h0 : w1.cell? ⟨w.heap.size + 1, 0, none⟩ = some (.slice AR R.length cR) := X1.out.e0
  have h1 : w1.cell? ⟨w.heap.size + 1, 1, none⟩ = some (.slice AF F.length cF) := X1.out.e1
  have z1 : w.heap.size + 1 < w1.heap.size := X1.out.lt
  go_wp2_with fail
  go_at_call 10
  refine (light13_any ⟨A1, ps, c1, A2, bs, c2, A3, os, c3⟩ ⟨AR, R, cR, AF, F, cF⟩ _ w X1.out.bel HI.out HJ.out).mono ?_
  rintro e w2 ⟨rfl, hb⟩
  have X2 := Lib.hid (X1.out.next hb)
  rw [HL.out]
  clear hb
  clear f0 f1 f2 h0 h1
  have f0 : w2.cell? ⟨w.heap.size, 0, none⟩ = some (.slice A1 ps.length c1) := X2.out.c0
  have f1 : w2.cell? ⟨w.heap.size, 1, none⟩ = some (.slice A2 bs.length c2) := X2.out.c1
  have f2 : w2.cell? ⟨w.heap.size, 2, none⟩ = some (.slice A3 os.length c3) := X2.out.c2
  have h0 : w2.cell? ⟨w.heap.size + 1, 0, none⟩ = some (.slice AR R.length cR) := X2.out.e0
  have h1 : w2.cell? ⟨w.heap.size + 1, 1, none⟩ = some (.slice AF F.length cF) := X2.out.e1
  have z2 : w.heap.size + 1 < w2.heap.size := X2.out.lt
  go_wp2_with fail
  go_at_call 9
  refine (awake13_any _ X2.out.tab).mono ?_
  rintro e w3 ⟨rfl, hb⟩
  have X3 := Lib.hid (X2.out.next hb)
  clear hb
  clear f0 f1 f2 h0 h1
  have f0 : w3.cell? ⟨w.heap.size, 0, none⟩ = some (.slice A1 ps.length c1) := X3.out.c0
  have f1 : w3.cell? ⟨w.heap.size, 1, none⟩ = some (.slice A2 bs.length c2) := X3.out.c1
  have f2 : w3.cell? ⟨w.heap.size, 2, none⟩ = some (.slice A3 os.length c3) := X3.out.c2
  have h0 : w3.cell? ⟨w.heap.size + 1, 0, none⟩ = some (.slice AR R.length cR) := X3.out.e0
  have h1 : w3.cell? ⟨w.heap.size + 1, 1, none⟩ = some (.slice AF F.length cF) := X3.out.e1
  have z3 : w.heap.size + 1 < w3.heap.size := X3.out.lt
  go_wp2_with fail
  go_ret
  exact ⟨rfl, X3.out.bel⟩
set_option maxRecDepth 100000 in
set_option maxHeartbeats 4000000 in
theorem scun_bad (A1 : Option Addr) (ps : List Prt) (c1 : Nat) (A2 : Option Addr) (bs : List Bk) (c2 : Nat) (A3 : Option Addr) (os : List Int) (c3 : Nat) (AR : Option Addr) (R : List Iv) (cR : Nat) (AF : Option Addr) (F : List Int) (cF : Nat) (w : World) (hi : DgIn w ⟨A1, ps, c1, A2, bs, c2, A3, os, c3⟩) (hj : RgIn w ⟨AR, R, cR, AF, F, cF⟩) (ht : TabAt w) (hl : lightR ⟨A1, ps, c1, A2, bs, c2, A3, os, c3⟩ ⟨AR, R, cR, AF, F, cF⟩ = true) (he : ¬ dgErr ps bs os = 0) : Calls Tryd.prog 8 #[.agg #[.slice A1 ps.length c1, .slice A2 bs.length c2, .slice A3 os.length c3], .agg #[.slice AR R.length cR, .slice AF F.length cF]] w fun e w' => e = .returned (.bool true) ∧ Below w.heap.size w w' := by
  have HI := Lib.hid hi
  have HJ := Lib.hid hj
  have HT := Lib.hid ht
  clear hi hj ht
  have HL := Lib.hid hl
  obtain ⟨l1, l2, l3, l4, l5⟩ := lightR_parts hl
  dsimp only at l2 l3 l4 l5
  have HD := Lib.hid (HI.out.light13 l1)
  have HR := Lib.hid (HJ.out.ivs l2)
  have HF := Lib.hid HJ.out.fs
  clear hl l1 l2
  obtain ⟨E, hE⟩ : ∃ E, dgErr ps bs os = E := ⟨_, rfl⟩
  rw [hE] at he
  have HE := Lib.hid hE
  have HEN := Lib.hid (errV_n he)
  clear he hE
  have X0 := Lib.hid (Ly.start w ⟨A1, ps, c1, A2, bs, c2, A3, os, c3⟩ ⟨AR, R, cR, AF, F, cF⟩ HT.out)
  go_enter Tryd.func8, Tryd.ntmps8
  go_wp2_with fail
  go_at_call 9
  refine (awake13_any _ X0.out.tab).mono ?_
  rintro e w1 ⟨rfl, hb⟩
  have X1 := Lib.hid (X0.out.next hb)
  clear hb
  have f0 : w1.cell? ⟨w.heap.size, 0, none⟩ = some (.slice A1 ps.length c1) := X1.out.c0
  have f1 : w1.cell? ⟨w.heap.size, 1, none⟩ = some (.slice A2 bs.length c2) := X1.out.c1
  have f2 : w1.cell? ⟨w.heap.size, 2, none⟩ = some (.slice A3 os.length c3) := X1.out.c2
  have h0 : w1.cell? ⟨w.heap.size + 1, 0, none⟩ = some (.slice AR R.length cR) := X1.out.e0
  have h1 : w1.cell? ⟨w.heap.size + 1, 1, none⟩ = some (.slice AF F.length cF) := X1.out.e1
  have z1 : w.heap.size + 1 < w1.heap.size := X1.out.lt
  go_wp2_with fail
  go_at_call 10
  refine (light13_any ⟨A1, ps, c1, A2, bs, c2, A3, os, c3⟩ ⟨AR, R, cR, AF, F, cF⟩ _ w X1.out.bel HI.out HJ.out).mono ?_
  rintro e w2 ⟨rfl, hb⟩
  have X2 := Lib.hid (X1.out.next hb)
  rw [HL.out]
  clear hb
  clear f0 f1 f2 h0 h1
  have f0 : w2.cell? ⟨w.heap.size, 0, none⟩ = some (.slice A1 ps.length c1) := X2.out.c0
  have f1 : w2.cell? ⟨w.heap.size, 1, none⟩ = some (.slice A2 bs.length c2) := X2.out.c1
  have f2 : w2.cell? ⟨w.heap.size, 2, none⟩ = some (.slice A3 os.length c3) := X2.out.c2
  have h0 : w2.cell? ⟨w.heap.size + 1, 0, none⟩ = some (.slice AR R.length cR) := X2.out.e0
  have h1 : w2.cell? ⟨w.heap.size + 1, 1, none⟩ = some (.slice AF F.length cF) := X2.out.e1
  have z2 : w.heap.size + 1 < w2.heap.size := X2.out.lt
  go_wp2_with fail
  go_at_call 11
  refine (Check_any ⟨A1, ps, c1, A2, bs, c2, A3, os, c3⟩ w.heap.size _ X2.out.le (X2.out.dg HD.out) X2.out.tab).mono ?_
  rintro e w3 ⟨rfl, hb⟩
  have X3 := Lib.hid (X2.out.next hb)
  dsimp only
  rw [HE.out, HEN.out]
  clear hb
  clear f0 f1 f2 h0 h1
  have f0 : w3.cell? ⟨w.heap.size, 0, none⟩ = some (.slice A1 ps.length c1) := X3.out.c0
  have f1 : w3.cell? ⟨w.heap.size, 1, none⟩ = some (.slice A2 bs.length c2) := X3.out.c1
  have f2 : w3.cell? ⟨w.heap.size, 2, none⟩ = some (.slice A3 os.length c3) := X3.out.c2
  have h0 : w3.cell? ⟨w.heap.size + 1, 0, none⟩ = some (.slice AR R.length cR) := X3.out.e0
  have h1 : w3.cell? ⟨w.heap.size + 1, 1, none⟩ = some (.slice AF F.length cF) := X3.out.e1
  have z3 : w.heap.size + 1 < w3.heap.size := X3.out.lt
  go_wp2_with fail
  go_at_call 9
  refine (awake13_any _ X3.out.tab).mono ?_
  rintro e w4 ⟨rfl, hb⟩
  have X4 := Lib.hid (X3.out.next hb)
  clear hb
  clear f0 f1 f2 h0 h1
  have f0 : w4.cell? ⟨w.heap.size, 0, none⟩ = some (.slice A1 ps.length c1) := X4.out.c0
  have f1 : w4.cell? ⟨w.heap.size, 1, none⟩ = some (.slice A2 bs.length c2) := X4.out.c1
  have f2 : w4.cell? ⟨w.heap.size, 2, none⟩ = some (.slice A3 os.length c3) := X4.out.c2
  have h0 : w4.cell? ⟨w.heap.size + 1, 0, none⟩ = some (.slice AR R.length cR) := X4.out.e0
  have h1 : w4.cell? ⟨w.heap.size + 1, 1, none⟩ = some (.slice AF F.length cF) := X4.out.e1
  have z4 : w.heap.size + 1 < w4.heap.size := X4.out.lt
  go_wp2_with fail
  go_ret
  exact ⟨rfl, X4.out.bel⟩
set_option maxRecDepth 100000 in
set_option maxHeartbeats 4000000 in
theorem scun_err (A1 : Option Addr) (ps : List Prt) (c1 : Nat) (A2 : Option Addr) (bs : List Bk) (c2 : Nat) (A3 : Option Addr) (os : List Int) (c3 : Nat) (AR : Option Addr) (R : List Iv) (cR : Nat) (AF : Option Addr) (F : List Int) (cF : Nat) (w : World) (hi : DgIn w ⟨A1, ps, c1, A2, bs, c2, A3, os, c3⟩) (hj : RgIn w ⟨AR, R, cR, AF, F, cF⟩) (ht : TabAt w) (hl : lightR ⟨A1, ps, c1, A2, bs, c2, A3, os, c3⟩ ⟨AR, R, cR, AF, F, cF⟩ = true) (he : dgErr ps bs os = 0) (hc : ¬ chErr (gvErr bs.length R) R = 0) : Calls Tryd.prog 8 #[.agg #[.slice A1 ps.length c1, .slice A2 bs.length c2, .slice A3 os.length c3], .agg #[.slice AR R.length cR, .slice AF F.length cF]] w fun e w' => e = .returned (.bool true) ∧ Below w.heap.size w w' := by
  have HI := Lib.hid hi
  have HJ := Lib.hid hj
  have HT := Lib.hid ht
  clear hi hj ht
  have HL := Lib.hid hl
  obtain ⟨l1, l2, l3, l4, l5⟩ := lightR_parts hl
  dsimp only at l2 l3 l4 l5
  have HD := Lib.hid (HI.out.light13 l1)
  have HR := Lib.hid (HJ.out.ivs l2)
  have HF := Lib.hid HJ.out.fs
  clear hl l1 l2
  have HE0 := Lib.hid he
  have HG := Lib.hid (gv_e1 (d := ⟨A1, ps, c1, A2, bs, c2, A3, os, c3⟩) (R := R) he)
  clear he
  dsimp only at HG
  obtain ⟨G, hG⟩ : ∃ G, gvErr bs.length R = G := ⟨_, rfl⟩
  rw [hG] at HG hc
  have HGG := Lib.hid hG
  clear hG
  have X0 := Lib.hid (Ly.start w ⟨A1, ps, c1, A2, bs, c2, A3, os, c3⟩ ⟨AR, R, cR, AF, F, cF⟩ HT.out)
  go_enter Tryd.func8, Tryd.ntmps8
  go_wp2_with fail
  go_at_call 9
  refine (awake13_any _ X0.out.tab).mono ?_
  rintro e w1 ⟨rfl, hb⟩
  have X1 := Lib.hid (X0.out.next hb)
  clear hb
  have f0 : w1.cell? ⟨w.heap.size, 0, none⟩ = some (.slice A1 ps.length c1) := X1.out.c0
  have f1 : w1.cell? ⟨w.heap.size, 1, none⟩ = some (.slice A2 bs.length c2) := X1.out.c1
  have f2 : w1.cell? ⟨w.heap.size, 2, none⟩ = some (.slice A3 os.length c3) := X1.out.c2
  have h0 : w1.cell? ⟨w.heap.size + 1, 0, none⟩ = some (.slice AR R.length cR) := X1.out.e0
  have h1 : w1.cell? ⟨w.heap.size + 1, 1, none⟩ = some (.slice AF F.length cF) := X1.out.e1
  have z1 : w.heap.size + 1 < w1.heap.size := X1.out.lt
  go_wp2_with fail
  go_at_call 10
  refine (light13_any ⟨A1, ps, c1, A2, bs, c2, A3, os, c3⟩ ⟨AR, R, cR, AF, F, cF⟩ _ w X1.out.bel HI.out HJ.out).mono ?_
  rintro e w2 ⟨rfl, hb⟩
  have X2 := Lib.hid (X1.out.next hb)
  rw [HL.out]
  clear hb
  clear f0 f1 f2 h0 h1
  have f0 : w2.cell? ⟨w.heap.size, 0, none⟩ = some (.slice A1 ps.length c1) := X2.out.c0
  have f1 : w2.cell? ⟨w.heap.size, 1, none⟩ = some (.slice A2 bs.length c2) := X2.out.c1
  have f2 : w2.cell? ⟨w.heap.size, 2, none⟩ = some (.slice A3 os.length c3) := X2.out.c2
  have h0 : w2.cell? ⟨w.heap.size + 1, 0, none⟩ = some (.slice AR R.length cR) := X2.out.e0
  have h1 : w2.cell? ⟨w.heap.size + 1, 1, none⟩ = some (.slice AF F.length cF) := X2.out.e1
  have z2 : w.heap.size + 1 < w2.heap.size := X2.out.lt
  go_wp2_with fail
  go_at_call 11
  refine (Check_any ⟨A1, ps, c1, A2, bs, c2, A3, os, c3⟩ w.heap.size _ X2.out.le (X2.out.dg HD.out) X2.out.tab).mono ?_
  rintro e w3 ⟨rfl, hb⟩
  have X3 := Lib.hid (X2.out.next hb)
  dsimp only
  rw [HE0.out, errV_0]
  clear hb
  clear f0 f1 f2 h0 h1
  have f0 : w3.cell? ⟨w.heap.size, 0, none⟩ = some (.slice A1 ps.length c1) := X3.out.c0
  have f1 : w3.cell? ⟨w.heap.size, 1, none⟩ = some (.slice A2 bs.length c2) := X3.out.c1
  have f2 : w3.cell? ⟨w.heap.size, 2, none⟩ = some (.slice A3 os.length c3) := X3.out.c2
  have h0 : w3.cell? ⟨w.heap.size + 1, 0, none⟩ = some (.slice AR R.length cR) := X3.out.e0
  have h1 : w3.cell? ⟨w.heap.size + 1, 1, none⟩ = some (.slice AF F.length cF) := X3.out.e1
  have z3 : w.heap.size + 1 < w3.heap.size := X3.out.lt
  obtain ⟨C, hC⟩ : ∃ C, chErr G R = C := ⟨_, rfl⟩
  have HC := Lib.hid hC
  have hu : unO G R = [] := if_neg hc
  have hch : chO G R = [] := ch_oe hc
  have HU := Lib.hid hu
  have HCH := Lib.hid hch
  rw [hC] at hc
  have hCn : (C != 0) = true := by simpa using hc
  have HEN := Lib.hid (errV_n hc)
  have hCb : (C == C) = true := by simp
  have HNUM := Lib.hid (show ∀ u : World, Calls Tryd.prog 19 #[.iface 44 (.int .i64 C)] u fun e w' => e = .returned (.int .i64 C) ∧ u = w' from fun u => by have := num_any C u; rw [HEN.out] at this; exact this)
  clear hu hch hC hc
  go_wp2_with fail
  go_at_call 12
  refine (pchoose_any ⟨A1, ps, c1, A2, bs, c2, A3, os, c3⟩ AR R cR w.heap.size _ X3.out.le (X3.out.dg HD.out) (X3.out.iv HR.out) (by omega) X3.out.tab).mono ?_
  rintro e w4 ⟨v, rfl, hown, hb⟩
  have X4 := Lib.hid (X3.out.next hb)
  rw [HG.out, HCH.out] at hown
  rw [HG.out, HC.out, HEN.out]
  have O1 := Lib.hid hown
  obtain ⟨AV1, cV1, rfl, _, _⟩ := hown.view
  clear hown
  clear hb
  clear f0 f1 f2 h0 h1
  have f0 : w4.cell? ⟨w.heap.size, 0, none⟩ = some (.slice A1 ps.length c1) := X4.out.c0
  have f1 : w4.cell? ⟨w.heap.size, 1, none⟩ = some (.slice A2 bs.length c2) := X4.out.c1
  have f2 : w4.cell? ⟨w.heap.size, 2, none⟩ = some (.slice A3 os.length c3) := X4.out.c2
  have h0 : w4.cell? ⟨w.heap.size + 1, 0, none⟩ = some (.slice AR R.length cR) := X4.out.e0
  have h1 : w4.cell? ⟨w.heap.size + 1, 1, none⟩ = some (.slice AF F.length cF) := X4.out.e1
  have z4 : w.heap.size + 1 < w4.heap.size := X4.out.lt
  go_wp2_with fail
  go_at_call 18
  refine (puniform_any ⟨A1, ps, c1, A2, bs, c2, A3, os, c3⟩ AR R cR w.heap.size _ X4.out.le (X4.out.dg HD.out) (X4.out.iv HR.out) (by omega) X4.out.tab).mono ?_
  rintro e w5 ⟨v, rfl, hown, hb⟩
  have X5 := Lib.hid (X4.out.next hb)
  have O1' := Lib.hid (O1.out.call hb)
  clear O1
  have O1 := O1'
  clear O1'
  rw [HG.out, HU.out] at hown
  rw [HG.out, HC.out, HEN.out]
  have O2 := Lib.hid hown
  obtain ⟨AV2, cV2, rfl, _, _⟩ := hown.view
  clear hown
  clear hb
  clear f0 f1 f2 h0 h1
  have f0 : w5.cell? ⟨w.heap.size, 0, none⟩ = some (.slice A1 ps.length c1) := X5.out.c0
  have f1 : w5.cell? ⟨w.heap.size, 1, none⟩ = some (.slice A2 bs.length c2) := X5.out.c1
  have f2 : w5.cell? ⟨w.heap.size, 2, none⟩ = some (.slice A3 os.length c3) := X5.out.c2
  have h0 : w5.cell? ⟨w.heap.size + 1, 0, none⟩ = some (.slice AR R.length cR) := X5.out.e0
  have h1 : w5.cell? ⟨w.heap.size + 1, 1, none⟩ = some (.slice AF F.length cF) := X5.out.e1
  have z5 : w.heap.size + 1 < w5.heap.size := X5.out.lt
  go_wp2_with fail
  go_at_call 19
  refine (HNUM.out _).mono ?_
  rintro e wq ⟨rfl, rfl⟩
  go_wp2_with fail
  go_at_call 19
  refine (HNUM.out _).mono ?_
  rintro e wq ⟨rfl, rfl⟩
  go_wp2_with fail
  go_ret
  exact ⟨rfl, X5.out.bel⟩
set_option maxRecDepth 100000 in
set_option maxHeartbeats 4000000 in
theorem scun_good (A1 : Option Addr) (ps : List Prt) (c1 : Nat) (A2 : Option Addr) (bs : List Bk) (c2 : Nat) (A3 : Option Addr) (os : List Int) (c3 : Nat) (AR : Option Addr) (R : List Iv) (cR : Nat) (AF : Option Addr) (F : List Int) (cF : Nat) (w : World) (hi : DgIn w ⟨A1, ps, c1, A2, bs, c2, A3, os, c3⟩) (hj : RgIn w ⟨AR, R, cR, AF, F, cF⟩) (ht : TabAt w) (hl : lightR ⟨A1, ps, c1, A2, bs, c2, A3, os, c3⟩ ⟨AR, R, cR, AF, F, cF⟩ = true) (he : dgErr ps bs os = 0) (hc : chErr (gvErr bs.length R) R = 0) : Calls Tryd.prog 8 #[.agg #[.slice A1 ps.length c1, .slice A2 bs.length c2, .slice A3 os.length c3], .agg #[.slice AR R.length cR, .slice AF F.length cF]] w fun e w' => e = .returned (.bool true) ∧ Below w.heap.size w w' := by
  have HI := Lib.hid hi
  have HJ := Lib.hid hj
  have HT := Lib.hid ht
  clear hi hj ht
  have HP := Lib.hid (ch_parts hc)
  have HCO := Lib.hid (show chO (gvErr bs.length R) R = R.map chS from if_pos hc)
  have HUN := Lib.hid (show unO (gvErr bs.length R) R = List.replicate R.length (leastI (R.map chS)) from if_pos hc)
  have HL := Lib.hid hl
  obtain ⟨l1, l2, l3, l4, l5⟩ := lightR_parts hl
  dsimp only at l2 l3 l4 l5
  have HD := Lib.hid (HI.out.light13 l1)
  have HR := Lib.hid (HJ.out.ivs l2)
  have HF := Lib.hid HJ.out.fs
  clear hl l1 l2
  have HE0 := Lib.hid he
  have HG := Lib.hid (gv_e1 (d := ⟨A1, ps, c1, A2, bs, c2, A3, os, c3⟩) (R := R) he)
  clear he
  dsimp only at HG
  obtain ⟨G, hG⟩ : ∃ G, gvErr bs.length R = G := ⟨_, rfl⟩
  rw [hG] at HG hc HCO HUN
  have HGG := Lib.hid hG
  clear hG
  have X0 := Lib.hid (Ly.start w ⟨A1, ps, c1, A2, bs, c2, A3, os, c3⟩ ⟨AR, R, cR, AF, F, cF⟩ HT.out)
  go_enter Tryd.func8, Tryd.ntmps8
  go_wp2_with fail
  go_at_call 9
  refine (awake13_any _ X0.out.tab).mono ?_
  rintro e w1 ⟨rfl, hb⟩
  have X1 := Lib.hid (X0.out.next hb)
  clear hb
  have f0 : w1.cell? ⟨w.heap.size, 0, none⟩ = some (.slice A1 ps.length c1) := X1.out.c0
  have f1 : w1.cell? ⟨w.heap.size, 1, none⟩ = some (.slice A2 bs.length c2) := X1.out.c1
  have f2 : w1.cell? ⟨w.heap.size, 2, none⟩ = some (.slice A3 os.length c3) := X1.out.c2
  have h0 : w1.cell? ⟨w.heap.size + 1, 0, none⟩ = some (.slice AR R.length cR) := X1.out.e0
  have h1 : w1.cell? ⟨w.heap.size + 1, 1, none⟩ = some (.slice AF F.length cF) := X1.out.e1
  have z1 : w.heap.size + 1 < w1.heap.size := X1.out.lt
  go_wp2_with fail
  go_at_call 10
  refine (light13_any ⟨A1, ps, c1, A2, bs, c2, A3, os, c3⟩ ⟨AR, R, cR, AF, F, cF⟩ _ w X1.out.bel HI.out HJ.out).mono ?_
  rintro e w2 ⟨rfl, hb⟩
  have X2 := Lib.hid (X1.out.next hb)
  rw [HL.out]
  clear hb
  clear f0 f1 f2 h0 h1
  have f0 : w2.cell? ⟨w.heap.size, 0, none⟩ = some (.slice A1 ps.length c1) := X2.out.c0
  have f1 : w2.cell? ⟨w.heap.size, 1, none⟩ = some (.slice A2 bs.length c2) := X2.out.c1
  have f2 : w2.cell? ⟨w.heap.size, 2, none⟩ = some (.slice A3 os.length c3) := X2.out.c2
  have h0 : w2.cell? ⟨w.heap.size + 1, 0, none⟩ = some (.slice AR R.length cR) := X2.out.e0
  have h1 : w2.cell? ⟨w.heap.size + 1, 1, none⟩ = some (.slice AF F.length cF) := X2.out.e1
  have z2 : w.heap.size + 1 < w2.heap.size := X2.out.lt
  go_wp2_with fail
  go_at_call 11
  refine (Check_any ⟨A1, ps, c1, A2, bs, c2, A3, os, c3⟩ w.heap.size _ X2.out.le (X2.out.dg HD.out) X2.out.tab).mono ?_
  rintro e w3 ⟨rfl, hb⟩
  have X3 := Lib.hid (X2.out.next hb)
  dsimp only
  rw [HE0.out, errV_0]
  clear hb
  clear f0 f1 f2 h0 h1
  have f0 : w3.cell? ⟨w.heap.size, 0, none⟩ = some (.slice A1 ps.length c1) := X3.out.c0
  have f1 : w3.cell? ⟨w.heap.size, 1, none⟩ = some (.slice A2 bs.length c2) := X3.out.c1
  have f2 : w3.cell? ⟨w.heap.size, 2, none⟩ = some (.slice A3 os.length c3) := X3.out.c2
  have h0 : w3.cell? ⟨w.heap.size + 1, 0, none⟩ = some (.slice AR R.length cR) := X3.out.e0
  have h1 : w3.cell? ⟨w.heap.size + 1, 1, none⟩ = some (.slice AF F.length cF) := X3.out.e1
  have z3 : w.heap.size + 1 < w3.heap.size := X3.out.lt
  obtain ⟨xs, hxs⟩ : ∃ xs, xs = R.map chS := ⟨_, rfl⟩
  rw [← hxs] at HCO HUN
  obtain ⟨L, hL⟩ : ∃ L, L = leastI xs := ⟨_, rfl⟩
  rw [← hL] at HUN
  obtain ⟨ys, hys⟩ : ∃ ys, ys = List.replicate R.length L := ⟨_, rfl⟩
  rw [← hys] at HUN
  have hml : xs.length = R.length := by rw [hxs]; simp
  have hml2 : ys.length = R.length := by rw [hys]; simp
  have HML := Lib.hid hml
  have HML2 := Lib.hid hml2
  have HXS := Lib.hid hxs
  have HLL := Lib.hid hL
  have HYS := Lib.hid hys
  have HCC := Lib.hid hc
  clear hxs hL hys hc
  go_wp2_with fail
  go_at_call 12
  refine (pchoose_any ⟨A1, ps, c1, A2, bs, c2, A3, os, c3⟩ AR R cR w.heap.size _ X3.out.le (X3.out.dg HD.out) (X3.out.iv HR.out) (by omega) X3.out.tab).mono ?_
  rintro e w4 ⟨v, rfl, hown, hb⟩
  have X4 := Lib.hid (X3.out.next hb)
  rw [HG.out, HCO.out] at hown
  rw [HG.out, HCC.out, errV_0]
  have O1 := Lib.hid hown
  obtain ⟨AV1, cV1, rfl, _, _⟩ := hown.view
  rw [hml]
  clear hown
  clear hb
  clear f0 f1 f2 h0 h1
  have f0 : w4.cell? ⟨w.heap.size, 0, none⟩ = some (.slice A1 ps.length c1) := X4.out.c0
  have f1 : w4.cell? ⟨w.heap.size, 1, none⟩ = some (.slice A2 bs.length c2) := X4.out.c1
  have f2 : w4.cell? ⟨w.heap.size, 2, none⟩ = some (.slice A3 os.length c3) := X4.out.c2
  have h0 : w4.cell? ⟨w.heap.size + 1, 0, none⟩ = some (.slice AR R.length cR) := X4.out.e0
  have h1 : w4.cell? ⟨w.heap.size + 1, 1, none⟩ = some (.slice AF F.length cF) := X4.out.e1
  have z4 : w.heap.size + 1 < w4.heap.size := X4.out.lt
  go_wp2_with fail
  go_at_call 18
  refine (puniform_any ⟨A1, ps, c1, A2, bs, c2, A3, os, c3⟩ AR R cR w.heap.size _ X4.out.le (X4.out.dg HD.out) (X4.out.iv HR.out) (by omega) X4.out.tab).mono ?_
  rintro e w5 ⟨v, rfl, hown, hb⟩
  have X5 := Lib.hid (X4.out.next hb)
  have O1' := Lib.hid (O1.out.call hb)
  clear O1
  have O1 := O1'
  clear O1'
  rw [HG.out, HUN.out] at hown
  rw [HG.out, HCC.out, errV_0]
  have O2 := Lib.hid hown
  obtain ⟨AV2, cV2, rfl, _, _⟩ := hown.view
  rw [hml2]
  clear hown
  clear hb
  clear f0 f1 f2 h0 h1
  have f0 : w5.cell? ⟨w.heap.size, 0, none⟩ = some (.slice A1 ps.length c1) := X5.out.c0
  have f1 : w5.cell? ⟨w.heap.size, 1, none⟩ = some (.slice A2 bs.length c2) := X5.out.c1
  have f2 : w5.cell? ⟨w.heap.size, 2, none⟩ = some (.slice A3 os.length c3) := X5.out.c2
  have h0 : w5.cell? ⟨w.heap.size + 1, 0, none⟩ = some (.slice AR R.length cR) := X5.out.e0
  have h1 : w5.cell? ⟨w.heap.size + 1, 1, none⟩ = some (.slice AF F.length cF) := X5.out.e1
  have z5 : w.heap.size + 1 < w5.heap.size := X5.out.lt
  have hpf := pfits_any ⟨A1, ps, c1, A2, bs, c2, A3, os, c3⟩ AR R cR AV2 ys cV2 w5.heap.size _ (Nat.le_refl _) ((X5.out.dg HD.out).more X5.out.le) ((X5.out.iv HR.out).more X5.out.le) O2.out.cells (by omega) (by omega) X5.out.tab
  rw [hml2] at hpf
  go_wp2_with fail
  go_at_call 23
  refine (hpf).mono ?_
  rintro e w6 ⟨rfl, hb⟩
  have X6 := Lib.hid (X5.out.next hb)
  have O1' := Lib.hid (O1.out.call hb)
  clear O1
  have O1 := O1'
  clear O1'
  have O2' := Lib.hid (O2.out.call hb)
  clear O2
  have O2 := O2'
  clear O2'
  clear hpf
  have hz := HGG.out.symm.trans HP.out.1
  have hfe : fiE G bs.length ys = 0 := by rw [hz]; exact (if_pos rfl).trans (if_pos (by rw [HML2.out]; exact HP.out.2.1))
  have hfb : fiB G bs.length R ys = true := by rw [hz] at hfe ⊢; exact fi_by hfe (by rw [HYS.out, HLL.out, HXS.out]; exact fit_un HP.out.2.2)
  dsimp only
  rw [HG.out, hfe, hfb, errV_0]
  clear hfe hfb hz
  clear hb
  clear f0 f1 f2 h0 h1
  have f0 : w6.cell? ⟨w.heap.size, 0, none⟩ = some (.slice A1 ps.length c1) := X6.out.c0
  have f1 : w6.cell? ⟨w.heap.size, 1, none⟩ = some (.slice A2 bs.length c2) := X6.out.c1
  have f2 : w6.cell? ⟨w.heap.size, 2, none⟩ = some (.slice A3 os.length c3) := X6.out.c2
  have h0 : w6.cell? ⟨w.heap.size + 1, 0, none⟩ = some (.slice AR R.length cR) := X6.out.e0
  have h1 : w6.cell? ⟨w.heap.size + 1, 1, none⟩ = some (.slice AF F.length cF) := X6.out.e1
  have z6 : w.heap.size + 1 < w6.heap.size := X6.out.lt
  have hpf := pshifts_any ⟨A1, ps, c1, A2, bs, c2, A3, os, c3⟩ AV2 ys cV2 w6.heap.size _ (Nat.le_refl _) ((X6.out.dg HD.out).more X6.out.le) O2.out.cells (by omega) X6.out.tab
  rw [hml2] at hpf
  go_wp2_with fail
  go_at_call 17
  refine (hpf).mono ?_
  rintro e w7 ⟨rfl, hb⟩
  have X7 := Lib.hid (X6.out.next hb)
  have O1' := Lib.hid (O1.out.call hb)
  clear O1
  have O1 := O1'
  clear O1'
  have O2' := Lib.hid (O2.out.call hb)
  clear O2
  have O2 := O2'
  clear O2'
  clear hpf
  have hfe : fiE 0 bs.length ys = 0 := (if_pos rfl).trans (if_pos (by rw [HML2.out]; exact HP.out.2.1))
  obtain ⟨V, hV⟩ : ∃ V, V = shV 0 ⟨A1, ps, c1, A2, bs, c2, A3, os, c3⟩ ys := ⟨_, rfl⟩
  dsimp only
  rw [HE0.out, hfe, errV_0, ← hV]
  have hVc : V ≤ (cntI bs bs.length : Int) := by rw [hV, shV, if_pos hfe, HYS.out, HP.out.2.1]; have := shK_un (os := os) (L := L) HE0.out bs.length (Nat.le_refl _); dsimp only; omega
  have HV := Lib.hid hVc
  clear hfe hV hVc
  clear hb
  clear f0 f1 f2 h0 h1
  have f0 : w7.cell? ⟨w.heap.size, 0, none⟩ = some (.slice A1 ps.length c1) := X7.out.c0
  have f1 : w7.cell? ⟨w.heap.size, 1, none⟩ = some (.slice A2 bs.length c2) := X7.out.c1
  have f2 : w7.cell? ⟨w.heap.size, 2, none⟩ = some (.slice A3 os.length c3) := X7.out.c2
  have h0 : w7.cell? ⟨w.heap.size + 1, 0, none⟩ = some (.slice AR R.length cR) := X7.out.e0
  have h1 : w7.cell? ⟨w.heap.size + 1, 1, none⟩ = some (.slice AF F.length cF) := X7.out.e1
  have z7 : w.heap.size + 1 < w7.heap.size := X7.out.lt
  have hlb : ((R.length : Int) != (R.length : Int)) = false := by simp
  go_wp2_with fail
  clear f0 f1 f2 h0 h1
  go_loopw [13, 14, 91] (fun s n i wr => unR w7 R.length xs L bs s n i wr) (fun _ _ i _ => R.length - (intOf i).toNat)
  case atStart => exact ⟨0, Nat.zero_le _, rfl, by simp, rfl, Below.refl _ _⟩
  case round =>
    obtain ⟨k, hk, rfl, rfl, rfl, hb⟩ := hrel
    have XR := Lib.hid (X7.out.next hb)
    have O1R := Lib.hid (O1.out.call hb)
    have O2R := Lib.hid (O2.out.call hb)
    have HBR := Lib.hid hb
    obtain ⟨sv, hsv⟩ : ∃ q, q = (((R.length : Int) == 0) || (xs.take k).any (fun x => x == L)) := ⟨_, rfl⟩
    rw [← hsv]
    have HSV := Lib.hid hsv
    have hcl := cntI_le bs k
    obtain ⟨C, hC⟩ : ∃ q, q = cntI bs k := ⟨_, rfl⟩
    rw [← hC] at hcl
    rw [← hC]
    have HCN := Lib.hid hC
    clear hb hsv hC
    by_cases hlt : k < R.length
    · have hkB : k < bs.length := by have := HP.out.2.1; omega
      obtain ⟨b, off, kind, A, args, cap, vn, ve, un, ue, hA, hbm, hbs, hx, g0, g1, g2, g3, g4, g5, ha, hl⟩ := (XR.out.dg HD.out).blk hkB
      dsimp only at hA hx
      subst hA
      clear g1 g2 g3 g4 g5 ha hl
      have HX := Lib.hid hx
      obtain ⟨bf, of, n, rfl, hfm, hfs, hn, gn⟩ := O1R.out.cells.int_ (k := k) (by omega)
      obtain ⟨by', oy, z, rfl, hym, hys', hz, gz⟩ := O2R.out.cells.int_ (k := k) (by omega)
      obtain ⟨by2, oy2, z2, hY2, hym2, hys2, hz2, gz2⟩ := O2R.out.cells.int_ (k := 0) (by omega)
      cases hY2
      have hzL : z = L := by rw [HYS.out, List.getElem?_replicate] at hz; rw [if_pos hlt] at hz; simpa using hz.symm
      have hzL2 : z2 = L := by rw [HYS.out, List.getElem?_replicate] at hz2; rw [if_pos (by omega)] at hz2; simpa using hz2.symm
      subst hzL
      rw [hzL2] at gz2
      clear hzL2 hz hz2
      have gz0 : wr.cell? ⟨by', oy, none⟩ = some (.int .i64 z) := by simpa using gz2
      have hnl : z ≤ n := by rw [HLL.out]; exact least_le (List.mem_of_getElem? hn)
      have HN := Lib.hid hn
      have hne : (z != z) = false := by simp
      have hgt : decide (n < z) = false := decide_eq_false (by omega)
      have hki : (k : Int) < (R.length : Int) := by omega
      have hkBi : (k : Int) < (bs.length : Int) := by omega
      have hR0 : (0 : Int) < (R.length : Int) := by omega
      have f1 : wr.cell? ⟨w.heap.size, 1, none⟩ = some (.slice (some ⟨b, off, none⟩) bs.length c2) := XR.out.c1
      clear hx hn gz2
      cases sv with
      | true =>
        by_cases hk0 : kind = 0
        · have hkb : (kind == 0) = true := by simpa using hk0
          have HKB := Lib.hid hkb
          go_wp2_with fail
          go_quiet (fail)
          go_wp2_with fail
          go_quiet (fail)
          go_wp2_with fail
          exact ⟨⟨k + 1, by omega, by go_num, by rw [any_succ HN.out, ← Bool.or_assoc, ← HSV.out]; rfl, by rw [cntI_yes HX.out HKB.out, ← HCN.out]; go_num, by repeat (first | exact HBR.out | refine ext_drew ?_ | refine ext_drewN ?_ _)⟩, by simp [intOf]; omega⟩
        · have hkb : (kind == 0) = false := by simpa using hk0
          have HKB := Lib.hid hkb
          go_wp2_with fail
          go_quiet (fail)
          go_wp2_with fail
          go_quiet (fail)
          go_wp2_with fail
          exact ⟨⟨k + 1, by omega, by go_num, by rw [any_succ HN.out, ← Bool.or_assoc, ← HSV.out]; rfl, by rw [cntI_no HX.out HKB.out, ← HCN.out], by repeat (first | exact HBR.out | refine ext_drew ?_ | refine ext_drewN ?_ _)⟩, by simp [intOf]; omega⟩
      | false =>
        by_cases hk0 : kind = 0
        · have hkb : (kind == 0) = true := by simpa using hk0
          have HKB := Lib.hid hkb
          go_wp2_with fail
          go_quiet (fail)
          go_wp2_with fail
          go_quiet (fail)
          go_wp2_with fail
          exact ⟨⟨k + 1, by omega, by go_num, by rw [any_succ HN.out, ← Bool.or_assoc, ← HSV.out]; rfl, by rw [cntI_yes HX.out HKB.out, ← HCN.out]; go_num, by repeat (first | exact HBR.out | refine ext_drew ?_ | refine ext_drewN ?_ _)⟩, by simp [intOf]; omega⟩
        · have hkb : (kind == 0) = false := by simpa using hk0
          have HKB := Lib.hid hkb
          go_wp2_with fail
          go_quiet (fail)
          go_wp2_with fail
          go_quiet (fail)
          go_wp2_with fail
          exact ⟨⟨k + 1, by omega, by go_num, by rw [any_succ HN.out, ← Bool.or_assoc, ← HSV.out]; rfl, by rw [cntI_no HX.out HKB.out, ← HCN.out], by repeat (first | exact HBR.out | refine ext_drew ?_ | refine ext_drewN ?_ _)⟩, by simp [intOf]; omega⟩
    · have hke : k = R.length := by omega
      have hst : sv = true := by
        rw [HSV.out, List.take_of_length_le (by omega), HLL.out]
        have := least_some (l := xs) (by rw [HXS.out]; exact chs_30 R)
        rw [HML.out] at this
        exact this
      subst hst
      have hvc : decide (V ≤ (C : Int)) = true := decide_eq_true (by rw [HCN.out, hke, HP.out.2.1]; exact HV.out)
      clear hke
      go_wp2_with fail
      go_ret
      exact ⟨rfl, XR.out.bel⟩
theorem scalesUniform_walk (A1 : Option Addr) (ps : List Prt) (c1 : Nat) (A2 : Option Addr) (bs : List Bk) (c2 : Nat) (A3 : Option Addr) (os : List Int) (c3 : Nat) (AR : Option Addr) (R : List Iv) (cR : Nat) (AF : Option Addr) (F : List Int) (cF : Nat) (w : World) (hi : DgIn w ⟨A1, ps, c1, A2, bs, c2, A3, os, c3⟩) (hj : RgIn w ⟨AR, R, cR, AF, F, cF⟩) (ht : TabAt w) : Calls Tryd.prog 8 #[.agg #[.slice A1 ps.length c1, .slice A2 bs.length c2, .slice A3 os.length c3], .agg #[.slice AR R.length cR, .slice AF F.length cF]] w fun e w' => e = .returned (.bool true) ∧ Below w.heap.size w w' := by
  cases hl : lightR ⟨A1, ps, c1, A2, bs, c2, A3, os, c3⟩ ⟨AR, R, cR, AF, F, cF⟩ with
  | false => exact scun_heavy A1 ps c1 A2 bs c2 A3 os c3 AR R cR AF F cF w hi hj ht hl
  | true =>
    by_cases he : dgErr ps bs os = 0
    · by_cases hc : chErr (gvErr bs.length R) R = 0
      · exact scun_good A1 ps c1 A2 bs c2 A3 os c3 AR R cR AF F cF w hi hj ht hl he hc
      · exact scun_err A1 ps c1 A2 bs c2 A3 os c3 AR R cR AF F cF w hi hj ht hl he hc
    · exact scun_bad A1 ps c1 A2 bs c2 A3 os c3 AR R cR AF F cF w hi hj ht hl he

set_option maxRecDepth 100000 in
set_option maxHeartbeats 4000000 in
theorem scalesUniform_lifted (os : Os) (started : os.Started) (H : Type) (enc : TypeId × Value → H) :
    ReturnsInHanded {} Tryd.checked os 8 .any (fun w args => (Rows.scalesUniformSpec.pre enc Tryd.prog Tryd.f8 [] false w args ∧ laidMetH Tryd.prog laidT w) ∧ sizedMet enc Tryd.prog Tryd.f8 (OpenSpec.ofChange Rows.scalesUniformSpec) false w args)
      (Rows.scalesUniformSpec.post enc Tryd.prog Tryd.f8 false true false false) := by
  refine law_lift_laid (C := Tryd.checked) (T := 4) own started (by kernel_rfl) Tryd.func8
    (ChangeSpec.witness_shaped (enc := enc) (C := Tryd.checked) (os := os) (X := fun w _ => laidMetH Tryd.prog laidT w) false (World.doorLaid Tryd.prog 400 os) #[.agg #[.slice none 0 0, .slice none 0 0, .slice none 0 0], .agg #[.slice none 0 0, .slice none 0 0]] 8 rfl (door_shaped os _) (by kernel_rfl) (by kernel_rfl) (by kernel_rfl) (door_met os _))
    laidOut (by kernel_rfl) rfl Tryd.underlying4 (by kernel_rfl) ?_ ?_
  · intro ds h
    match ds, h with
    | [d1, d2], _ => exact ⟨rfl, rfl, rfl⟩
  · intro W base args ds p hval0 hA0 _ hsz0 hL
    have ht := tab_of hL
    have hval : ∀ (j : Nat) t v, Tryd.f8.params[j]? = some t → args[j]? = some v → Value.okWide Tryd.prog W .any base t v := hval0
    have hA : DataW.TrodAll enc Tryd.prog W 0 (fun _ => true) true Tryd.f8.params.toList args.toList ds p := hA0
    clear hsz0 hL
    rw [Tryd.params8] at hA hval
    obtain ⟨v0, vs0, d0, ds0, p0, q0, hargs, rfl, rfl, h0, r0⟩ := trodAll_cons hA
    obtain ⟨v1, vs1, d1, ds1, p1, q1, rfl, rfl, rfl, h1, r1⟩ := trodAll_cons r0
    obtain ⟨rfl, rfl, rfl⟩ := trodAll_nil r1
    obtain rfl : args = #[v0, v1] := by cases args; simp_all
    obtain ⟨⟨A1, ps, c1, A2, bs, c2, A3, os, c3⟩, rfl, hin⟩ := open_dg (hval 0 26 v0 rfl rfl) h0
    obtain ⟨⟨AR, R, cR, AF, F, cF⟩, rfl, hrg⟩ := open_rg (hval 1 29 v1 rfl rfl) h1
    exact scalesUniform_walk A1 ps c1 A2 bs c2 A3 os c3 AR R cR AF F cF W hin hrg ht
theorem scalesUniform_row : Rows.ScalesUniformSaid :=
  OpenClaim.holds_of_wide 8 Tryd.f8 rfl rfl rfl rfl rfl rfl rfl ⟨rfl, rfl, rfl, rfl, rfl⟩ rfl rfl rfl rfl rfl (by kernel_rfl) Tryd.func8 (by kernel_rfl)
    (of_decide_eq_true (by kernel_rfl)) (by unfold Func.isWrapper; first | (rw [if_pos (by decide +kernel)]; kernel_rfl) | (rw [if_neg (by decide +kernel)]; exact ⟨rfl, rfl⟩))
    (fun os started H enc _ => scalesUniform_lifted os started H enc)
theorem scalesUniform_holds : Rows.ScalesUniformCardSaid :=
  Claim7.holds_tied_plain_at .later [] [.data] true (true, "ceb97b6710135aa47b784ff3ccc4d43c36e529616a739c760362e989b81859fe") true
    scalesUniform_row (fun _ h => by cases h) (by kernel_rfl) (fun _ h => by cases h) scalesUniform_row_tie rfl ⟨rfl, rfl⟩ (by kernel_rfl) rfl
    (fun f fn hf hfn => by
      obtain rfl : f = 8 := Option.some.inj ((show Tryd.prog.funcNamed "commutator/commutatorlaw13.ScalesUniform" = some 8 by kernel_rfl).symm.trans hf) |>.symm
      obtain rfl : fn = Tryd.f8 := (Option.some.inj (Tryd.func8.symm.trans hfn)).symm
      exact ⟨by kernel_rfl, fun j t ht => by
        rw [Tryd.params8] at ht
        have hm : t ∈ [26, 29] := by simpa using Array.mem_of_getElem? ht
        have hall : ([26, 29].all fun u => !Tryd.prog.wantsStandIn u) = true := by kernel_rfl
        exact (show Tryd.prog.wantsStandIn t = false by simpa using List.all_eq_true.1 hall t hm)⟩)
    (by kernel_rfl)
#print axioms scalesUniform_holds

end Go.Proofs.YtejnnljjmafjaaaDoor
