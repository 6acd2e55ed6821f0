/- ScalesGreatest: for every diagram and all ranges the law returns true: the chosen scales fit, with room for as much again; with one more bit there would be no such room, or too many bits. No conditions. -/
import Derived.Test.YtejnnljjmafjaaaDoorScN
import Derived.IntWalk
namespace Go.Proofs.YtejnnljjmafjaaaDoor
set_option linter.unusedVariables false
set_option linter.unusedSimpArgs false
set_option linter.unusedSectionVars false
open Go.ChangeShapes Go.WideShapes Go.ChangeAt Go.RowKit Go.Joins

section
variable {P : Program} {md : Region.Mode} {l : List Oper} {Q : Exit → Act → World → Prop} {S : World → Prop} {fuel : Nat} {listed : Array Bool} {a : Act} {w : World}
theorem takeN {o : Oper} (i : Nat) (hi : l[i]? = some o) (hB : (Region.noSelect l.toArray && Region.free md l.toArray listed i && (Region.ready md l.toArray listed).contains i) = true) (hQ : ∀ c a w, Q (.panic c) (a.put o.dst undef) w → Q (.panic c) a w)
    (hw : Region.wanted o (yielded l.toArray a.tmps) = false) (hS : S w) (h : wpAnyH P md l.toArray Q S fuel (listed.setIfInBounds i true) (a.put o.dst undef) w) : wpAnyH P md l.toArray Q S (fuel + 1) listed a w := by
  simp only [Bool.and_eq_true] at hB
  exact wpAnyH_take (by simpa using hi) hB.1.1 hB.1.2 hB.2 hQ (.inr ⟨hw, rfl⟩) hS h
theorem stepN {o : Oper} (i : Nat) (hi : l[i]? = some o) (hr : Region.ready md l.toArray listed = [i]) (hw : Region.wanted o (yielded l.toArray a.tmps) = false)
    (hS : S w) (h : wpAnyH P md l.toArray Q S fuel (listed.setIfInBounds i true) (a.put o.dst undef) w) : wpAnyH P md l.toArray Q S (fuel + 1) listed a w := by
  refine wpAnyH_all hr (by simp) fun j hj => ?_
  obtain rfl : j = i := by simpa using hj
  have hi' : l.toArray[j]? = some o := by simpa using hi
  unfold wpOp
  simp only [hi', hw, Bool.false_eq_true, if_false]
  exact ⟨hS, h⟩
end

set_option maxRecDepth 100000 in
set_option maxHeartbeats 4000000 in
theorem scgr_heavy (A1 : Option Addr) (ps : List Prt) (c1 : Nat) (A2 : Option Addr) (bs : List Bk) (c2 : Nat) (A3 : Option Addr) (os : List Int) (c3 : Nat) (AR : Option Addr) (R : List Iv) (cR : Nat) (AF : Option Addr) (F : List Int) (cF : Nat) (w : World) (hi : DgIn w ⟨A1, ps, c1, A2, bs, c2, A3, os, c3⟩) (hj : RgIn w ⟨AR, R, cR, AF, F, cF⟩) (ht : TabAt w) (hl : lightR ⟨A1, ps, c1, A2, bs, c2, A3, os, c3⟩ ⟨AR, R, cR, AF, F, cF⟩ = false) : Calls Tryd.prog 7 #[.agg #[.slice A1 ps.length c1, .slice A2 bs.length c2, .slice A3 os.length c3], .agg #[.slice AR R.length cR, .slice AF F.length cF]] w fun e w' => e = .returned (.bool true) ∧ Below w.heap.size w w' := by
  have HI := Lib.hid hi
  have HJ := Lib.hid hj
  have HT := Lib.hid ht
  clear hi hj ht
  have HL := Lib.hid hl
  clear hl
  have X0 := Lib.hid (Ly.start w ⟨A1, ps, c1, A2, bs, c2, A3, os, c3⟩ ⟨AR, R, cR, AF, F, cF⟩ HT.out)
  go_enter Tryd.func7, Tryd.ntmps7
  go_wp2_with fail
  go_at_call 9
  refine (awake13_any _ X0.out.tab).mono ?_
  rintro e w1 ⟨rfl, hb⟩
  have X1 := Lib.hid (X0.out.next hb)
  clear hb
  have f0 : w1.cell? ⟨w.heap.size, 0, none⟩ = some (.slice A1 ps.length c1) := X1.out.c0
  have f1 : w1.cell? ⟨w.heap.size, 1, none⟩ = some (.slice A2 bs.length c2) := X1.out.c1
  have f2 : w1.cell? ⟨w.heap.size, 2, none⟩ = some (.slice A3 os.length c3) := X1.out.c2
  have h0 : w1.cell? ⟨w.heap.size + 1, 0, none⟩ = some (.slice AR R.length cR) := X1.out.e0
  have h1 : w1.cell? ⟨w.heap.size + 1, 1, none⟩ = some (.slice AF F.length cF) := X1.out.e1
  have z1 : w.heap.size + 1 < w1.heap.size := X1.out.lt
  go_wp2_with fail
  go_at_call 10
  refine (light13_any ⟨A1, ps, c1, A2, bs, c2, A3, os, c3⟩ ⟨AR, R, cR, AF, F, cF⟩ _ w X1.out.bel HI.out HJ.out).mono ?_
  rintro e w2 ⟨rfl, hb⟩
  have X2 := Lib.hid (X1.out.next hb)
  rw [HL.out]
  clear hb
  clear f0 f1 f2 h0 h1
  have f0 : w2.cell? ⟨w.heap.size, 0, none⟩ = some (.slice A1 ps.length c1) := X2.out.c0
  have f1 : w2.cell? ⟨w.heap.size, 1, none⟩ = some (.slice A2 bs.length c2) := X2.out.c1
  have f2 : w2.cell? ⟨w.heap.size, 2, none⟩ = some (.slice A3 os.length c3) := X2.out.c2
  have h0 : w2.cell? ⟨w.heap.size + 1, 0, none⟩ = some (.slice AR R.length cR) := X2.out.e0
  have h1 : w2.cell? ⟨w.heap.size + 1, 1, none⟩ = some (.slice AF F.length cF) := X2.out.e1
  have z2 : w.heap.size + 1 < w2.heap.size := X2.out.lt
  go_wp2_with fail
  go_at_call 9
  refine (awake13_any _ X2.out.tab).mono ?_
  rintro e w3 ⟨rfl, hb⟩
  have X3 := Lib.hid (X2.out.next hb)
  clear hb
  clear f0 f1 f2 h0 h1
  have f0 : w3.cell? ⟨w.heap.size, 0, none⟩ = some (.slice A1 ps.length c1) := X3.out.c0
  have f1 : w3.cell? ⟨w.heap.size, 1, none⟩ = some (.slice A2 bs.length c2) := X3.out.c1
  have f2 : w3.cell? ⟨w.heap.size, 2, none⟩ = some (.slice A3 os.length c3) := X3.out.c2
  have h0 : w3.cell? ⟨w.heap.size + 1, 0, none⟩ = some (.slice AR R.length cR) := X3.out.e0
  have h1 : w3.cell? ⟨w.heap.size + 1, 1, none⟩ = some (.slice AF F.length cF) := X3.out.e1
  have z3 : w.heap.size + 1 < w3.heap.size := X3.out.lt
  go_wp2_with fail
  go_ret
  exact ⟨rfl, X3.out.bel⟩
set_option maxRecDepth 100000 in
set_option maxHeartbeats 4000000 in
theorem scgr_bad (A1 : Option Addr) (ps : List Prt) (c1 : Nat) (A2 : Option Addr) (bs : List Bk) (c2 : Nat) (A3 : Option Addr) (os : List Int) (c3 : Nat) (AR : Option Addr) (R : List Iv) (cR : Nat) (AF : Option Addr) (F : List Int) (cF : Nat) (w : World) (hi : DgIn w ⟨A1, ps, c1, A2, bs, c2, A3, os, c3⟩) (hj : RgIn w ⟨AR, R, cR, AF, F, cF⟩) (ht : TabAt w) (hl : lightR ⟨A1, ps, c1, A2, bs, c2, A3, os, c3⟩ ⟨AR, R, cR, AF, F, cF⟩ = true) (he : ¬ dgErr ps bs os = 0) : Calls Tryd.prog 7 #[.agg #[.slice A1 ps.length c1, .slice A2 bs.length c2, .slice A3 os.length c3], .agg #[.slice AR R.length cR, .slice AF F.length cF]] w fun e w' => e = .returned (.bool true) ∧ Below w.heap.size w w' := by
  have HI := Lib.hid hi
  have HJ := Lib.hid hj
  have HT := Lib.hid ht
  clear hi hj ht
  have HL := Lib.hid hl
  obtain ⟨l1, l2, l3, l4, l5⟩ := lightR_parts hl
  dsimp only at l2 l3 l4 l5
  have HD := Lib.hid (HI.out.light13 l1)
  have HR := Lib.hid (HJ.out.ivs l2)
  have HF := Lib.hid HJ.out.fs
  clear hl l1 l2
  obtain ⟨E, hE⟩ : ∃ E, dgErr ps bs os = E := ⟨_, rfl⟩
  rw [hE] at he
  have HE := Lib.hid hE
  have HEN := Lib.hid (errV_n he)
  clear he hE
  have X0 := Lib.hid (Ly.start w ⟨A1, ps, c1, A2, bs, c2, A3, os, c3⟩ ⟨AR, R, cR, AF, F, cF⟩ HT.out)
  go_enter Tryd.func7, Tryd.ntmps7
  go_wp2_with fail
  go_at_call 9
  refine (awake13_any _ X0.out.tab).mono ?_
  rintro e w1 ⟨rfl, hb⟩
  have X1 := Lib.hid (X0.out.next hb)
  clear hb
  have f0 : w1.cell? ⟨w.heap.size, 0, none⟩ = some (.slice A1 ps.length c1) := X1.out.c0
  have f1 : w1.cell? ⟨w.heap.size, 1, none⟩ = some (.slice A2 bs.length c2) := X1.out.c1
  have f2 : w1.cell? ⟨w.heap.size, 2, none⟩ = some (.slice A3 os.length c3) := X1.out.c2
  have h0 : w1.cell? ⟨w.heap.size + 1, 0, none⟩ = some (.slice AR R.length cR) := X1.out.e0
  have h1 : w1.cell? ⟨w.heap.size + 1, 1, none⟩ = some (.slice AF F.length cF) := X1.out.e1
  have z1 : w.heap.size + 1 < w1.heap.size := X1.out.lt
  go_wp2_with fail
  go_at_call 10
  refine (light13_any ⟨A1, ps, c1, A2, bs, c2, A3, os, c3⟩ ⟨AR, R, cR, AF, F, cF⟩ _ w X1.out.bel HI.out HJ.out).mono ?_
  rintro e w2 ⟨rfl, hb⟩
  have X2 := Lib.hid (X1.out.next hb)
  rw [HL.out]
  clear hb
  clear f0 f1 f2 h0 h1
  have f0 : w2.cell? ⟨w.heap.size, 0, none⟩ = some (.slice A1 ps.length c1) := X2.out.c0
  have f1 : w2.cell? ⟨w.heap.size, 1, none⟩ = some (.slice A2 bs.length c2) := X2.out.c1
  have f2 : w2.cell? ⟨w.heap.size, 2, none⟩ = some (.slice A3 os.length c3) := X2.out.c2
  have h0 : w2.cell? ⟨w.heap.size + 1, 0, none⟩ = some (.slice AR R.length cR) := X2.out.e0
  have h1 : w2.cell? ⟨w.heap.size + 1, 1, none⟩ = some (.slice AF F.length cF) := X2.out.e1
  have z2 : w.heap.size + 1 < w2.heap.size := X2.out.lt
  go_wp2_with fail
  go_at_call 11
  refine (Check_any ⟨A1, ps, c1, A2, bs, c2, A3, os, c3⟩ w.heap.size _ X2.out.le (X2.out.dg HD.out) X2.out.tab).mono ?_
  rintro e w3 ⟨rfl, hb⟩
  have X3 := Lib.hid (X2.out.next hb)
  dsimp only
  rw [HE.out, HEN.out]
  clear hb
  clear f0 f1 f2 h0 h1
  have f0 : w3.cell? ⟨w.heap.size, 0, none⟩ = some (.slice A1 ps.length c1) := X3.out.c0
  have f1 : w3.cell? ⟨w.heap.size, 1, none⟩ = some (.slice A2 bs.length c2) := X3.out.c1
  have f2 : w3.cell? ⟨w.heap.size, 2, none⟩ = some (.slice A3 os.length c3) := X3.out.c2
  have h0 : w3.cell? ⟨w.heap.size + 1, 0, none⟩ = some (.slice AR R.length cR) := X3.out.e0
  have h1 : w3.cell? ⟨w.heap.size + 1, 1, none⟩ = some (.slice AF F.length cF) := X3.out.e1
  have z3 : w.heap.size + 1 < w3.heap.size := X3.out.lt
  go_wp2_with fail
  go_at_call 9
  refine (awake13_any _ X3.out.tab).mono ?_
  rintro e w4 ⟨rfl, hb⟩
  have X4 := Lib.hid (X3.out.next hb)
  clear hb
  clear f0 f1 f2 h0 h1
  have f0 : w4.cell? ⟨w.heap.size, 0, none⟩ = some (.slice A1 ps.length c1) := X4.out.c0
  have f1 : w4.cell? ⟨w.heap.size, 1, none⟩ = some (.slice A2 bs.length c2) := X4.out.c1
  have f2 : w4.cell? ⟨w.heap.size, 2, none⟩ = some (.slice A3 os.length c3) := X4.out.c2
  have h0 : w4.cell? ⟨w.heap.size + 1, 0, none⟩ = some (.slice AR R.length cR) := X4.out.e0
  have h1 : w4.cell? ⟨w.heap.size + 1, 1, none⟩ = some (.slice AF F.length cF) := X4.out.e1
  have z4 : w.heap.size + 1 < w4.heap.size := X4.out.lt
  go_wp2_with fail
  go_ret
  exact ⟨rfl, X4.out.bel⟩
set_option maxRecDepth 100000 in
set_option maxHeartbeats 4000000 in
theorem scgr_err (A1 : Option Addr) (ps : List Prt) (c1 : Nat) (A2 : Option Addr) (bs : List Bk) (c2 : Nat) (A3 : Option Addr) (os : List Int) (c3 : Nat) (AR : Option Addr) (R : List Iv) (cR : Nat) (AF : Option Addr) (F : List Int) (cF : Nat) (w : World) (hi : DgIn w ⟨A1, ps, c1, A2, bs, c2, A3, os, c3⟩) (hj : RgIn w ⟨AR, R, cR, AF, F, cF⟩) (ht : TabAt w) (hl : lightR ⟨A1, ps, c1, A2, bs, c2, A3, os, c3⟩ ⟨AR, R, cR, AF, F, cF⟩ = true) (he : dgErr ps bs os = 0) (hc : ¬ chErr (gvErr bs.length R) R = 0) : Calls Tryd.prog 7 #[.agg #[.slice A1 ps.length c1, .slice A2 bs.length c2, .slice A3 os.length c3], .agg #[.slice AR R.length cR, .slice AF F.length cF]] w fun e w' => e = .returned (.bool true) ∧ Below w.heap.size w w' := by
  have HI := Lib.hid hi
  have HJ := Lib.hid hj
  have HT := Lib.hid ht
  clear hi hj ht
  have hcc := ch_codes hc
  have HL := Lib.hid hl
  obtain ⟨l1, l2, l3, l4, l5⟩ := lightR_parts hl
  dsimp only at l2 l3 l4 l5
  have HD := Lib.hid (HI.out.light13 l1)
  have HR := Lib.hid (HJ.out.ivs l2)
  have HF := Lib.hid HJ.out.fs
  clear hl l1 l2
  have HE0 := Lib.hid he
  have HG := Lib.hid (gv_e1 (d := ⟨A1, ps, c1, A2, bs, c2, A3, os, c3⟩) (R := R) he)
  clear he
  dsimp only at HG
  obtain ⟨G, hG⟩ : ∃ G, gvErr bs.length R = G := ⟨_, rfl⟩
  rw [hG] at HG hc hcc
  have HGG := Lib.hid hG
  clear hG
  have X0 := Lib.hid (Ly.start w ⟨A1, ps, c1, A2, bs, c2, A3, os, c3⟩ ⟨AR, R, cR, AF, F, cF⟩ HT.out)
  go_enter Tryd.func7, Tryd.ntmps7
  go_wp2_with fail
  go_at_call 9
  refine (awake13_any _ X0.out.tab).mono ?_
  rintro e w1 ⟨rfl, hb⟩
  have X1 := Lib.hid (X0.out.next hb)
  clear hb
  have f0 : w1.cell? ⟨w.heap.size, 0, none⟩ = some (.slice A1 ps.length c1) := X1.out.c0
  have f1 : w1.cell? ⟨w.heap.size, 1, none⟩ = some (.slice A2 bs.length c2) := X1.out.c1
  have f2 : w1.cell? ⟨w.heap.size, 2, none⟩ = some (.slice A3 os.length c3) := X1.out.c2
  have h0 : w1.cell? ⟨w.heap.size + 1, 0, none⟩ = some (.slice AR R.length cR) := X1.out.e0
  have h1 : w1.cell? ⟨w.heap.size + 1, 1, none⟩ = some (.slice AF F.length cF) := X1.out.e1
  have z1 : w.heap.size + 1 < w1.heap.size := X1.out.lt
  go_wp2_with fail
  go_at_call 10
  refine (light13_any ⟨A1, ps, c1, A2, bs, c2, A3, os, c3⟩ ⟨AR, R, cR, AF, F, cF⟩ _ w X1.out.bel HI.out HJ.out).mono ?_
  rintro e w2 ⟨rfl, hb⟩
  have X2 := Lib.hid (X1.out.next hb)
  rw [HL.out]
  clear hb
  clear f0 f1 f2 h0 h1
  have f0 : w2.cell? ⟨w.heap.size, 0, none⟩ = some (.slice A1 ps.length c1) := X2.out.c0
  have f1 : w2.cell? ⟨w.heap.size, 1, none⟩ = some (.slice A2 bs.length c2) := X2.out.c1
  have f2 : w2.cell? ⟨w.heap.size, 2, none⟩ = some (.slice A3 os.length c3) := X2.out.c2
  have h0 : w2.cell? ⟨w.heap.size + 1, 0, none⟩ = some (.slice AR R.length cR) := X2.out.e0
  have h1 : w2.cell? ⟨w.heap.size + 1, 1, none⟩ = some (.slice AF F.length cF) := X2.out.e1
  have z2 : w.heap.size + 1 < w2.heap.size := X2.out.lt
  go_wp2_with fail
  go_at_call 11
  refine (Check_any ⟨A1, ps, c1, A2, bs, c2, A3, os, c3⟩ w.heap.size _ X2.out.le (X2.out.dg HD.out) X2.out.tab).mono ?_
  rintro e w3 ⟨rfl, hb⟩
  have X3 := Lib.hid (X2.out.next hb)
  dsimp only
  rw [HE0.out, errV_0]
  clear hb
  clear f0 f1 f2 h0 h1
  have f0 : w3.cell? ⟨w.heap.size, 0, none⟩ = some (.slice A1 ps.length c1) := X3.out.c0
  have f1 : w3.cell? ⟨w.heap.size, 1, none⟩ = some (.slice A2 bs.length c2) := X3.out.c1
  have f2 : w3.cell? ⟨w.heap.size, 2, none⟩ = some (.slice A3 os.length c3) := X3.out.c2
  have h0 : w3.cell? ⟨w.heap.size + 1, 0, none⟩ = some (.slice AR R.length cR) := X3.out.e0
  have h1 : w3.cell? ⟨w.heap.size + 1, 1, none⟩ = some (.slice AF F.length cF) := X3.out.e1
  have z3 : w.heap.size + 1 < w3.heap.size := X3.out.lt
  go_wp2_with fail
  go_at_call 12
  refine (pchoose_any ⟨A1, ps, c1, A2, bs, c2, A3, os, c3⟩ AR R cR w.heap.size _ X3.out.le (X3.out.dg HD.out) (X3.out.iv HR.out) (by omega) X3.out.tab).mono ?_
  rintro e w4 ⟨v, rfl, hown, hb⟩
  have X4 := Lib.hid (X3.out.next hb)
  rw [HG.out, ch_oe hc] at hown
  rw [HG.out]
  have O1 := Lib.hid hown
  obtain ⟨AV1, cV1, rfl, _, _⟩ := hown.view
  clear hown
  clear hb
  clear f0 f1 f2 h0 h1
  have f0 : w4.cell? ⟨w.heap.size, 0, none⟩ = some (.slice A1 ps.length c1) := X4.out.c0
  have f1 : w4.cell? ⟨w.heap.size, 1, none⟩ = some (.slice A2 bs.length c2) := X4.out.c1
  have f2 : w4.cell? ⟨w.heap.size, 2, none⟩ = some (.slice A3 os.length c3) := X4.out.c2
  have h0 : w4.cell? ⟨w.heap.size + 1, 0, none⟩ = some (.slice AR R.length cR) := X4.out.e0
  have h1 : w4.cell? ⟨w.heap.size + 1, 1, none⟩ = some (.slice AF F.length cF) := X4.out.e1
  have z4 : w.heap.size + 1 < w4.heap.size := X4.out.lt
  clear hc
  rcases hcc with hcc | hcc | hcc
  · rw [hcc, errV_n (n := 11) (by decide)]
    clear hcc
    go_wp2_with fail
    go_at_call 14
    refine (is_any 11 11 _).mono ?_
    rintro e wq ⟨rfl, rfl⟩
    rw [show isB 11 11 = true from rfl]
    go_wp2_with fail
    go_ret
    exact ⟨rfl, X4.out.bel⟩
  · rw [hcc, errV_n (n := 2) (by decide)]
    clear hcc
    go_wp2_with fail
    go_at_call 14
    refine (is_any 2 11 _).mono ?_
    rintro e wq ⟨rfl, rfl⟩
    rw [show isB 2 11 = false from rfl]
    go_wp2_with fail
    go_at_call 14
    refine (is_any 2 2 _).mono ?_
    rintro e wq ⟨rfl, rfl⟩
    rw [show isB 2 2 = true from rfl]
    go_wp2_with fail
    go_ret
    exact ⟨rfl, X4.out.bel⟩
  · rw [hcc, errV_n (n := 4) (by decide)]
    clear hcc
    go_wp2_with fail
    go_at_call 14
    refine (is_any 4 11 _).mono ?_
    rintro e wq ⟨rfl, rfl⟩
    rw [show isB 4 11 = false from rfl]
    go_wp2_with fail
    go_at_call 14
    refine (is_any 4 2 _).mono ?_
    rintro e wq ⟨rfl, rfl⟩
    rw [show isB 4 2 = false from rfl]
    go_wp2_with fail
    go_at_call 14
    refine (is_any 4 4 _).mono ?_
    rintro e wq ⟨rfl, rfl⟩
    rw [show isB 4 4 = true from rfl]
    go_wp2_with fail
    go_ret
    exact ⟨rfl, X4.out.bel⟩
set_option maxRecDepth 100000 in
set_option maxHeartbeats 4000000 in
theorem scgr_good (A1 : Option Addr) (ps : List Prt) (c1 : Nat) (A2 : Option Addr) (bs : List Bk) (c2 : Nat) (A3 : Option Addr) (os : List Int) (c3 : Nat) (AR : Option Addr) (R : List Iv) (cR : Nat) (AF : Option Addr) (F : List Int) (cF : Nat) (w : World) (hi : DgIn w ⟨A1, ps, c1, A2, bs, c2, A3, os, c3⟩) (hj : RgIn w ⟨AR, R, cR, AF, F, cF⟩) (ht : TabAt w) (hl : lightR ⟨A1, ps, c1, A2, bs, c2, A3, os, c3⟩ ⟨AR, R, cR, AF, F, cF⟩ = true) (he : dgErr ps bs os = 0) (hc : chErr (gvErr bs.length R) R = 0) : Calls Tryd.prog 7 #[.agg #[.slice A1 ps.length c1, .slice A2 bs.length c2, .slice A3 os.length c3], .agg #[.slice AR R.length cR, .slice AF F.length cF]] w fun e w' => e = .returned (.bool true) ∧ Below w.heap.size w w' := by
  have HI := Lib.hid hi
  have HJ := Lib.hid hj
  have HT := Lib.hid ht
  clear hi hj ht
  have HP := Lib.hid (ch_parts hc)
  have HCO := Lib.hid (show chO (gvErr bs.length R) R = R.map chS from if_pos hc)
  have HL := Lib.hid hl
  obtain ⟨l1, l2, l3, l4, l5⟩ := lightR_parts hl
  dsimp only at l2 l3 l4 l5
  have HD := Lib.hid (HI.out.light13 l1)
  have HR := Lib.hid (HJ.out.ivs l2)
  have HF := Lib.hid HJ.out.fs
  clear hl l1 l2
  have HE0 := Lib.hid he
  have HG := Lib.hid (gv_e1 (d := ⟨A1, ps, c1, A2, bs, c2, A3, os, c3⟩) (R := R) he)
  clear he
  dsimp only at HG
  obtain ⟨G, hG⟩ : ∃ G, gvErr bs.length R = G := ⟨_, rfl⟩
  rw [hG] at HG hc HCO
  have HGG := Lib.hid hG
  clear hG
  have X0 := Lib.hid (Ly.start w ⟨A1, ps, c1, A2, bs, c2, A3, os, c3⟩ ⟨AR, R, cR, AF, F, cF⟩ HT.out)
  go_enter Tryd.func7, Tryd.ntmps7
  go_wp2_with fail
  go_at_call 9
  refine (awake13_any _ X0.out.tab).mono ?_
  rintro e w1 ⟨rfl, hb⟩
  have X1 := Lib.hid (X0.out.next hb)
  clear hb
  have f0 : w1.cell? ⟨w.heap.size, 0, none⟩ = some (.slice A1 ps.length c1) := X1.out.c0
  have f1 : w1.cell? ⟨w.heap.size, 1, none⟩ = some (.slice A2 bs.length c2) := X1.out.c1
  have f2 : w1.cell? ⟨w.heap.size, 2, none⟩ = some (.slice A3 os.length c3) := X1.out.c2
  have h0 : w1.cell? ⟨w.heap.size + 1, 0, none⟩ = some (.slice AR R.length cR) := X1.out.e0
  have h1 : w1.cell? ⟨w.heap.size + 1, 1, none⟩ = some (.slice AF F.length cF) := X1.out.e1
  have z1 : w.heap.size + 1 < w1.heap.size := X1.out.lt
  go_wp2_with fail
  go_at_call 10
  refine (light13_any ⟨A1, ps, c1, A2, bs, c2, A3, os, c3⟩ ⟨AR, R, cR, AF, F, cF⟩ _ w X1.out.bel HI.out HJ.out).mono ?_
  rintro e w2 ⟨rfl, hb⟩
  have X2 := Lib.hid (X1.out.next hb)
  rw [HL.out]
  clear hb
  clear f0 f1 f2 h0 h1
  have f0 : w2.cell? ⟨w.heap.size, 0, none⟩ = some (.slice A1 ps.length c1) := X2.out.c0
  have f1 : w2.cell? ⟨w.heap.size, 1, none⟩ = some (.slice A2 bs.length c2) := X2.out.c1
  have f2 : w2.cell? ⟨w.heap.size, 2, none⟩ = some (.slice A3 os.length c3) := X2.out.c2
  have h0 : w2.cell? ⟨w.heap.size + 1, 0, none⟩ = some (.slice AR R.length cR) := X2.out.e0
  have h1 : w2.cell? ⟨w.heap.size + 1, 1, none⟩ = some (.slice AF F.length cF) := X2.out.e1
  have z2 : w.heap.size + 1 < w2.heap.size := X2.out.lt
  go_wp2_with fail
  go_at_call 11
  refine (Check_any ⟨A1, ps, c1, A2, bs, c2, A3, os, c3⟩ w.heap.size _ X2.out.le (X2.out.dg HD.out) X2.out.tab).mono ?_
  rintro e w3 ⟨rfl, hb⟩
  have X3 := Lib.hid (X2.out.next hb)
  dsimp only
  rw [HE0.out, errV_0]
  clear hb
  clear f0 f1 f2 h0 h1
  have f0 : w3.cell? ⟨w.heap.size, 0, none⟩ = some (.slice A1 ps.length c1) := X3.out.c0
  have f1 : w3.cell? ⟨w.heap.size, 1, none⟩ = some (.slice A2 bs.length c2) := X3.out.c1
  have f2 : w3.cell? ⟨w.heap.size, 2, none⟩ = some (.slice A3 os.length c3) := X3.out.c2
  have h0 : w3.cell? ⟨w.heap.size + 1, 0, none⟩ = some (.slice AR R.length cR) := X3.out.e0
  have h1 : w3.cell? ⟨w.heap.size + 1, 1, none⟩ = some (.slice AF F.length cF) := X3.out.e1
  have z3 : w.heap.size + 1 < w3.heap.size := X3.out.lt
  go_wp2_with fail
  go_at_call 12
  refine (pchoose_any ⟨A1, ps, c1, A2, bs, c2, A3, os, c3⟩ AR R cR w.heap.size _ X3.out.le (X3.out.dg HD.out) (X3.out.iv HR.out) (by omega) X3.out.tab).mono ?_
  rintro e w4 ⟨v, rfl, hown, hb⟩
  have X4 := Lib.hid (X3.out.next hb)
  rw [HG.out, HCO.out] at hown
  rw [HG.out, hc, errV_0]
  have O1 := Lib.hid hown
  obtain ⟨AV1, cV1, rfl, _, _⟩ := hown.view
  clear hown
  clear hb
  clear f0 f1 f2 h0 h1
  have f0 : w4.cell? ⟨w.heap.size, 0, none⟩ = some (.slice A1 ps.length c1) := X4.out.c0
  have f1 : w4.cell? ⟨w.heap.size, 1, none⟩ = some (.slice A2 bs.length c2) := X4.out.c1
  have f2 : w4.cell? ⟨w.heap.size, 2, none⟩ = some (.slice A3 os.length c3) := X4.out.c2
  have h0 : w4.cell? ⟨w.heap.size + 1, 0, none⟩ = some (.slice AR R.length cR) := X4.out.e0
  have h1 : w4.cell? ⟨w.heap.size + 1, 1, none⟩ = some (.slice AF F.length cF) := X4.out.e1
  have z4 : w.heap.size + 1 < w4.heap.size := X4.out.lt
  have hml : (R.map chS).length = R.length := by simp
  have HML := Lib.hid hml
  have hG0 := Lib.hid HP.out.1
  obtain ⟨xs, hxs⟩ : ∃ xs, xs = R.map chS := ⟨_, rfl⟩
  have HXS := Lib.hid hxs
  rw [← hxs] at hml HML O1
  rw [← hxs]
  skip
  clear hxs hc
  have hpf := pfits_any ⟨A1, ps, c1, A2, bs, c2, A3, os, c3⟩ AR R cR AV1 xs cV1 w4.heap.size _ (Nat.le_refl _) ((X4.out.dg HD.out).more X4.out.le) ((X4.out.iv HR.out).more X4.out.le) O1.out.cells (by omega) (by omega) X4.out.tab
  rw [hml] at hpf
  go_wp2_with fail
  go_at_call 23
  refine (hpf).mono ?_
  rintro e w5 ⟨rfl, hb⟩
  have X5 := Lib.hid (X4.out.next hb)
  have O1' := Lib.hid (O1.out.call hb)
  clear O1
  have O1 := O1'
  clear O1'
  clear hpf
  have hfe : fiE G bs.length xs = 0 := by rw [← HGG.out, HP.out.1]; exact (if_pos rfl).trans (if_pos (by rw [HML.out]; exact HP.out.2.1))
  have hfb : fiB G bs.length R xs = true := by have hz := HGG.out.symm.trans HP.out.1; rw [hz] at hfe ⊢; exact fi_by hfe (by rw [HXS.out]; exact fit_all HP.out.2.2)
  dsimp only
  rw [HG.out, hfe, hfb, errV_0]
  clear hfe hfb
  clear hb
  clear f0 f1 f2 h0 h1
  have f0 : w5.cell? ⟨w.heap.size, 0, none⟩ = some (.slice A1 ps.length c1) := X5.out.c0
  have f1 : w5.cell? ⟨w.heap.size, 1, none⟩ = some (.slice A2 bs.length c2) := X5.out.c1
  have f2 : w5.cell? ⟨w.heap.size, 2, none⟩ = some (.slice A3 os.length c3) := X5.out.c2
  have h0 : w5.cell? ⟨w.heap.size + 1, 0, none⟩ = some (.slice AR R.length cR) := X5.out.e0
  have h1 : w5.cell? ⟨w.heap.size + 1, 1, none⟩ = some (.slice AF F.length cF) := X5.out.e1
  have z5 : w.heap.size + 1 < w5.heap.size := X5.out.lt
  have hlb : ((R.length : Int) != (R.length : Int)) = false := by simp
  go_wp2_with fail
  go_at_call 26
  refine (pof_any 1073741824 (by decide) (by decide) _ X5.out.tab).mono ?_
  rintro e wo ⟨v9, rfl, D9, hb⟩
  have XO := Lib.hid (X5.out.next hb)
  have OO := Lib.hid (O1.out.call hb)
  have E9 := Lib.hid D9
  obtain ⟨nb9, A9, L9, c9, rfl, _⟩ := D9.form
  clear hb D9 O1 f0 f1 f2 h0 h1
  have f0 : wo.cell? ⟨w.heap.size, 0, none⟩ = some (.slice A1 ps.length c1) := XO.out.c0
  have h0 : wo.cell? ⟨w.heap.size + 1, 0, none⟩ = some (.slice AR R.length cR) := XO.out.e0
  go_wp2_with fail
  obtain ⟨W9, hW⟩ : ∃ q, q = wo.alloc (.cells #[.bool nb9, .slice A9 L9 c9, .int .i64 ((0 : Nat) : Int)] 39) := ⟨_, rfl⟩
  obtain ⟨q9, hq⟩ : ∃ q, q = wo.heap.size := ⟨_, rfl⟩
  have r9 : RowD W9 q9 [.bool nb9, .slice A9 L9 c9, .int .i64 ((0 : Nat) : Int)] 39 := by rw [hW, hq]; exact RowD.new_ _ _ _
  have hb : Below wo.heap.size wo W9 := by rw [hW]; exact al_ _ _
  rw [show ((0 : Nat) : Int) = 0 from rfl] at hW
  rw [← hW, ← hq]
  have X9 := Lib.hid (XO.out.next hb)
  have O9 := Lib.hid (OO.out.call hb)
  have F9 := Lib.hid ((E9.out.below hb (Nat.le_refl _)).more hb.size)
  have R9 := Lib.hid r9
  clear hW hq r9 hb f0 h0 XO OO E9
  go_loopw [71] (fun i wr => grR W9 xs i wr) (fun i _ => xs.length - (intOf i).toNat)
  case atStart => exact ⟨0, Nat.zero_le _, rfl, Below.refl _ _⟩
  case round =>
    obtain ⟨k, hk, rfl, hb⟩ := hrel
    have XR := Lib.hid (X9.out.next hb)
    have OR := Lib.hid (O9.out.call hb)
    have FR := Lib.hid ((F9.out.below hb (Nat.le_refl _)).more hb.size)
    have RR := Lib.hid (R9.out.call hb)
    have HBR := Lib.hid hb
    clear hb
    by_cases hlt : k < xs.length
    · have hkR : k < R.length := by omega
      have hm0 := XR.out.le
      obtain ⟨b, off, y, hA, hbm, hbs, hy, hyc⟩ := (XR.out.iv HR.out).cells.row (s := 6) (fun _ => rfl) (by omega) hkR
      subst hA
      have g0 : wr.cell? ⟨b, off + k * 6, none⟩ = some (.bool y.lo.nb) := hyc 0 _ rfl
      have g1 : wr.cell? ⟨b, off + k * 6 + 1, none⟩ = some (.slice y.lo.A y.lo.ws.length y.lo.cap) := hyc 1 _ rfl
      have g2 : wr.cell? ⟨b, off + k * 6 + 2, none⟩ = some (.int .i64 y.lo.den) := hyc 2 _ rfl
      have g3 : wr.cell? ⟨b, off + k * 6 + 3, none⟩ = some (.bool y.hi.nb) := hyc 3 _ rfl
      have g4 : wr.cell? ⟨b, off + k * 6 + 4, none⟩ = some (.slice y.hi.A y.hi.ws.length y.hi.cap) := hyc 4 _ rfl
      have g5 : wr.cell? ⟨b, off + k * 6 + 5, none⟩ = some (.int .i64 y.hi.den) := hyc 5 _ rfl
      obtain ⟨bf, of, n, rfl, hfm, hfs, hn, gn⟩ := OR.out.cells.int_ hlt
      have hnn : n = chS y := chs_at HXS.out hy hn
      have HNN := Lib.hid hnn
      have hyp := HP.out.2.2 y (List.mem_of_getElem? hy)
      have HYP := Lib.hid hyp
      have hye := HR.out.each y (List.mem_of_getElem? hy)
      have HYE := Lib.hid hye
      have hki : (k : Int) < (xs.length : Int) := by omega
      have hkRi : (k : Int) < (R.length : Int) := by omega
      have h0 : wr.cell? ⟨w.heap.size + 1, 0, none⟩ = some (.slice (some ⟨b, off, none⟩) R.length cR) := XR.out.e0
      clear hyc hy hn hnn hyp hye
      go_wp2_with fail
      go_at_call 27
      have hmg := pmag_any y w.heap.size wr hm0 (HYE.out.1.below XR.out.bel (Nat.le_refl _)) HYP.out.1 (by have := HYE.out.2.1; omega) (by have := HYE.out.2.2; omega) XR.out.tab
      simp only [Iv.val] at hmg
      refine hmg.mono ?_
      rintro e wm ⟨vm, rfl, DM, hb⟩
      have hlm := mag_len HYE.out.1 HYP.out.1 HYE.out.2.1 HYE.out.2.2
      obtain ⟨mx, hmx⟩ : ∃ q, q = (magI y).1 := ⟨_, rfl⟩
      obtain ⟨md, hmd⟩ : ∃ q, q = (magI y).2 := ⟨_, rfl⟩
      have HMG := Lib.hid (show magI y = (mx, md) by rw [hmx, hmd])
      rw [← hmx, ← hmd] at DM
      rw [← hmx] at hlm
      clear hmx hmd hmg g0 g1 g2 g3 g4 g5 gn h0
      have XM := Lib.hid (XR.out.next hb)
      have FM := Lib.hid ((FR.out.below hb (Nat.le_refl _)).more hb.size)
      have RM := Lib.hid (RR.out.call hb)
      have HBM := Lib.hid (HBR.out.trans (hb.mono HBR.out.size))
      obtain ⟨nbm, Am, Lm, cm, rfl, _⟩ := DM.form
      have hmb := DM.bound.1
      have EM := Lib.hid DM
      clear hb DM
      go_wp2_with fail
      obtain ⟨W, hW⟩ : ∃ q, q = wm.alloc (.cells #[.bool nbm, .slice Am Lm cm, .int .i64 (md : Int)] 39) := ⟨_, rfl⟩
      obtain ⟨qm, hq⟩ : ∃ q, q = wm.heap.size := ⟨_, rfl⟩
      have rm : RowD W qm [.bool nbm, .slice Am Lm cm, .int .i64 (md : Int)] 39 := by rw [hW, hq]; exact RowD.new_ _ _ _
      have hb : Below wm.heap.size wm W := by rw [hW]; exact al_ _ _
      rw [← hW, ← hq]
      have XW := Lib.hid (XM.out.next hb)
      have DR := (FM.out.below hb (Nat.le_refl _)).more hb.size
      have r9W := RM.out.call hb
      have DM := (EM.out.below hb (Nat.le_refl _)).more hb.size
      have HBW := Lib.hid (HBM.out.trans (hb.mono HBM.out.size))
      have a0 : W.cell? ⟨qm, 0, none⟩ = some (.bool nbm) := rm.cell 0
      have a1 : W.cell? ⟨qm, 1, none⟩ = some (.slice Am Lm cm) := rm.cell 1
      have a2 : W.cell? ⟨qm, 2, none⟩ = some (.int .i64 (md : Int)) := rm.cell 2
      have b0 : W.cell? ⟨q9, 0, none⟩ = some (.bool nb9) := r9W.cell 0
      have b1 : W.cell? ⟨q9, 1, none⟩ = some (.slice A9 L9 c9) := r9W.cell 1
      have b2 : W.cell? ⟨q9, 2, none⟩ = some (.int .i64 0) := r9W.cell 2
      have hqm := rm.lt
      have hq9 := r9W.lt
      have HTW := XW.out.tab
      have hk : KP W W.heap.size W := ⟨Below.refl _ _, Nat.le_refl _⟩
      have hn0 : 0 ≤ n := by rw [HNN.out]; exact HYP.out.2
      have hn1 : n ≤ 30 := by rw [HNN.out]; exact (chS_range y).2
      have hls : (canon (dyShift mx md n).1.natAbs).length ≤ 50000 := shift_len hlm hn0 (by omega)
      have hls2 : (canon (dyShift mx md (n + 1)).1.natAbs).length ≤ 50000 := shift_len hlm (by omega) (by omega)
      have hlo : (canon (1073741824 : Int).natAbs).length ≤ 50000 := Nat.le_trans (canon_len_le (k := 1) (by decide)) (by decide)
      obtain ⟨c1, hc1⟩ : ∃ q, pCmp (dyShift mx md n).1 (dyShift mx md n).2 1073741824 0 = q := ⟨_, rfl⟩
      have hcl1 : c1 ≤ 0 := by
        have := chS_room HYP.out.2
        unfold roomB at this
        rw [HMG.out, ← HNN.out] at this
        rw [← hc1]
        exact of_decide_eq_true this
      have hcb1 : decide (0 < c1) = false := decide_eq_false (by omega)
      have HC1 := Lib.hid hc1
      have hwn : IntKind.i64.wrap (n + 1) = n + 1 := IntWalk.i64_in _ (by omega)
      have hd1 : decide (n < 0) = false := decide_eq_false (by omega)
      have hd2 : decide (30 < n) = false := decide_eq_false (by omega)
      clear hW hq rm hb XM FM RM HBM EM r9W hc1
      by_cases h30 : n < 30
      · have hd3 : decide (n < 30) = true := decide_eq_true h30
        obtain ⟨c2x, hc2⟩ : ∃ q, pCmp (dyShift mx md (n + 1)).1 (dyShift mx md (n + 1)).2 1073741824 0 = q := ⟨_, rfl⟩
        have hcl2 : ¬ c2x ≤ 0 := by
          have := chS_next HYP.out.2 (by rw [← HNN.out]; exact h30)
          unfold roomB at this
          rw [HMG.out, ← HNN.out] at this
          rw [← hc2]
          exact of_decide_eq_false this
        have hcb2 : decide (c2x ≤ 0) = false := decide_eq_false hcl2
        have HC2 := Lib.hid hc2
        clear hc2
        go_region_held3 (fun w' => (∀ b o, b < W.heap.size → w'.cell? ⟨b, o, none⟩ = W.cell? ⟨b, o, none⟩) ∧ KP W W.heap.size w')
          (first
            | (with_reducible (refine KP.all ?_)
               first
                 | (with_reducible assumption)
                 | (with_reducible exact hk)
                 | (with_reducible exact hk.drew)))
          (first
            | (go_at_call 28; refine (pcmp_any D7 ((DR.below hk7.is (Nat.le_refl _)).more hk7.fits) (Nat.le_refl _) hls2 hlo).mono ?_; (rintro e w8 ⟨rfl, hb8⟩; have hk8 := KP.call hk7 hb8; rw [HC2.out]))
            | (go_at_call 13; refine (pshift_any (DM.below hk6.is (Nat.le_refl _)) hk6.fits (by omega) (by omega) HT6).mono ?_; (rintro e w7 ⟨v7, rfl, D7, hb7⟩; have hk7 := KP.call hk6 hb7; obtain ⟨nb7, A7, L7, c7, rfl, _⟩ := D7.form))
            | (go_at_call 28; refine (pcmp_any D5 ((DR.below hk5.is (Nat.le_refl _)).more hk5.fits) (Nat.le_refl _) hls hlo).mono ?_; (rintro e w6 ⟨rfl, hb6⟩; have hk6 := KP.call hk5 hb6; have HT6 := HT5.call hb6; rw [HC1.out]))
            | (go_at_call 13; refine (pshift_any (DM.below (KP.is hk.drew) (Nat.le_refl _)) (by simp) (by omega) (by omega) (HTW.below (Below.refl _ W).drew HTW.1)).mono ?_; (rintro e w5 ⟨v5, rfl, D5, hb5⟩; have hk5 := KP.call hk.drew hb5; have hz5 := hb5.size; have HT5 := (HTW.below (Below.refl _ W).drew HTW.1).call hb5; obtain ⟨nb5, A5, L5, c5, rfl, _⟩ := D5.form)))
        go_wp2_with fail
        exact ⟨⟨k + 1, by omega, by go_num, HBW.out.trans (hk8.is.mono HBW.out.size)⟩, by simp [intOf]; omega⟩
      · have hd3 : decide (n < 30) = false := decide_eq_false h30
        refine wp_region_held_drew (S := fun w' => Below W.heap.size W w') (by kernel_rfl) (Below.refl _ _).drew (fun hHeld => ?_)
        have hS : Below W.heap.size W W.drew := (Below.refl _ _).drew
        clear hHeld
        refine takeL 0 ?v0 rfl (by kernel_rfl) (by intro _ _ _ h; exact h) (by rfl) hS ?h0 ?r0
        case h0 =>
          intro w2 hSw
          go_simp
          try rfl
        case' r0 => try simp only [Act.put, List.setIfInBounds_toArray, List.set_cons_zero, List.set_cons_succ]
        refine takeL 1 ?v1 rfl (by kernel_rfl) (by intro _ _ _ h; exact h) (by rfl) hS ?h1 ?r1
        case h1 =>
          intro w2 hSw
          go_simp
          try rfl
        case' r1 => try simp only [Act.put, List.setIfInBounds_toArray, List.set_cons_zero, List.set_cons_succ]
        refine takeL 2 ?v2 rfl (by kernel_rfl) (by intro _ _ _ h; exact h) (by rfl) hS ?h2 ?r2
        case h2 =>
          intro w2 hSw
          go_simp
          try rfl
        case' r2 => try simp only [Act.put, List.setIfInBounds_toArray, List.set_cons_zero, List.set_cons_succ]
        refine takeL 3 ?v3 rfl (by kernel_rfl) (by intro _ _ _ h; exact h) (by rfl) hS ?h3 ?r3
        case h3 =>
          intro w2 hSw
          go_simp
          try rfl
        case' r3 => try simp only [Act.put, List.setIfInBounds_toArray, List.set_cons_zero, List.set_cons_succ]
        refine takeL 4 ?v4 rfl (by kernel_rfl) (by intro _ _ _ h; exact h) (by rfl) hS ?h4 ?r4
        case h4 =>
          intro w2 hSw
          go_simp
          try rfl
        case' r4 => try simp only [Act.put, List.setIfInBounds_toArray, List.set_cons_zero, List.set_cons_succ]
        refine takeL 5 ?v5 rfl (by kernel_rfl) (by intro _ _ _ h; exact h) (by rfl) hS ?h5 ?r5
        case h5 =>
          intro w2 hSw
          go_simp
          try rfl
        case' r5 => try simp only [Act.put, List.setIfInBounds_toArray, List.set_cons_zero, List.set_cons_succ]
        refine takeL 6 ?v6 rfl (by kernel_rfl) (by intro _ _ _ h; exact h) (by rfl) hS ?h6 ?r6
        case h6 =>
          intro w2 hSw
          go_simp
          try rfl
        case' r6 => try simp only [Act.put, List.setIfInBounds_toArray, List.set_cons_zero, List.set_cons_succ]
        refine takeL 7 ?v7 rfl (by kernel_rfl) (by intro _ _ _ h; exact h) (by rfl) hS ?h7 ?r7
        case h7 =>
          intro w2 hSw
          have e0 : w2.cell? ⟨qm, 0, none⟩ = some (.bool nbm) := (hSw.cell (p := ⟨qm, 0, none⟩) hqm).trans a0
          have e1 : w2.cell? ⟨qm, 1, none⟩ = some (.slice Am Lm cm) := (hSw.cell (p := ⟨qm, 1, none⟩) hqm).trans a1
          have e2 : w2.cell? ⟨qm, 2, none⟩ = some (.int .i64 (md : Int)) := (hSw.cell (p := ⟨qm, 2, none⟩) hqm).trans a2
          go_simp
          try rfl
        case' r7 => try simp only [Act.put, List.setIfInBounds_toArray, List.set_cons_zero, List.set_cons_succ]
        refine takeL 8 ?v8 rfl (by kernel_rfl) (by intro _ _ _ h; exact h) (by rfl) hS ?h8 ?r8
        case h8 =>
          intro w2 hSw
          go_simp
          try rfl
        case' r8 => try simp only [Act.put, List.setIfInBounds_toArray, List.set_cons_zero, List.set_cons_succ]
        refine takeL 10 ?v10 rfl (by kernel_rfl) (by intro _ _ _ h; exact h) (by rfl) hS ?h10 ?r10
        case h10 =>
          intro w2 hSw
          have e0 : w2.cell? ⟨q9, 0, none⟩ = some (.bool nb9) := (hSw.cell (p := ⟨q9, 0, none⟩) hq9).trans b0
          have e1 : w2.cell? ⟨q9, 1, none⟩ = some (.slice A9 L9 c9) := (hSw.cell (p := ⟨q9, 1, none⟩) hq9).trans b1
          have e2 : w2.cell? ⟨q9, 2, none⟩ = some (.int .i64 0) := (hSw.cell (p := ⟨q9, 2, none⟩) hq9).trans b2
          go_simp
          try rfl
        case' r10 => try simp only [Act.put, List.setIfInBounds_toArray, List.set_cons_zero, List.set_cons_succ]
        refine stepL 9 rfl (by kernel_rfl) (by rfl) ?_
        intro K hK
        go_simp
        have hz : W.heap.size ≤ W.drew.heap.size := by simp
        refine (pshift_any (DM.below hS (Nat.le_refl _)) hz (by omega) (by omega) (HTW.below hS HTW.1)).mono ?_
        rintro e w5 ⟨v5, rfl, D5, hb5⟩
        have hS5 : Below W.heap.size W w5 := hS.trans (hb5.mono hz)
        obtain ⟨nb5, A5, L5, c5, rfl, _⟩ := D5.form
        have E5 := Lib.hid D5
        refine hK.out _ _ hS5 ?_
        clear hK K hS hb5 D5 hz
        have hS := hS5
        clear hS5
        try simp only [Act.put, List.setIfInBounds_toArray, List.set_cons_zero, List.set_cons_succ]
        refine stepL 11 rfl (by kernel_rfl) (by rfl) ?_
        intro K hK
        go_simp
        refine (pcmp_any E5.out ((DR.below hS (Nat.le_refl _)).more hS.size) (Nat.le_refl _) hls hlo).mono ?_
        rintro e w6 ⟨rfl, hb6⟩
        rw [HC1.out]
        have hS6 : Below W.heap.size W w6 := hS.trans (hb6.mono hS.size)
        refine hK.out _ _ hS6 ?_
        clear hK K hS hb6 E5
        have hS := hS6
        clear hS6
        try simp only [Act.put, List.setIfInBounds_toArray, List.set_cons_zero, List.set_cons_succ]
        refine takeL 12 ?v12 rfl (by kernel_rfl) (by intro _ _ _ h; exact h) (by rfl) hS ?h12 ?r12
        case h12 =>
          intro w2 hSw
          go_simp
          try rfl
        case' r12 => try simp only [Act.put, List.setIfInBounds_toArray, List.set_cons_zero, List.set_cons_succ]
        refine takeL 13 ?v13 rfl (by kernel_rfl) (by intro _ _ _ h; exact h) (by rfl) hS ?h13 ?r13
        case h13 =>
          intro w2 hSw
          go_simp
          try rfl
        case' r13 => try simp only [Act.put, List.setIfInBounds_toArray, List.set_cons_zero, List.set_cons_succ]
        refine takeL 14 ?v14 rfl (by kernel_rfl) (by intro _ _ _ h; exact h) (by rfl) hS ?h14 ?r14
        case h14 =>
          intro w2 hSw
          go_simp
          try rfl
        case' r14 => try simp only [Act.put, List.setIfInBounds_toArray, List.set_cons_zero, List.set_cons_succ]
        refine takeL 15 ?v15 rfl (by kernel_rfl) (by intro _ _ _ h; exact h) (by rfl) hS ?h15 ?r15
        case h15 =>
          intro w2 hSw
          go_simp
          try rfl
        case' r15 => try simp only [Act.put, List.setIfInBounds_toArray, List.set_cons_zero, List.set_cons_succ]
        refine takeL 16 ?v16 rfl (by kernel_rfl) (by intro _ _ _ h; exact h) (by rfl) hS ?h16 ?r16
        case h16 =>
          intro w2 hSw
          go_simp
          try rfl
        case' r16 => try simp only [Act.put, List.setIfInBounds_toArray, List.set_cons_zero, List.set_cons_succ]
        refine takeL 17 ?v17 rfl (by kernel_rfl) (by intro _ _ _ h; exact h) (by rfl) hS ?h17 ?r17
        case h17 =>
          intro w2 hSw
          go_simp
          try rfl
        case' r17 => try simp only [Act.put, List.setIfInBounds_toArray, List.set_cons_zero, List.set_cons_succ]
        refine takeN 18 rfl (by kernel_rfl) (by intro _ _ _ h; exact h) (by rfl) hS ?_
        try simp only [Act.put, List.setIfInBounds_toArray, List.set_cons_zero, List.set_cons_succ]
        refine takeN 19 rfl (by kernel_rfl) (by intro _ _ _ h; exact h) (by rfl) hS ?_
        try simp only [Act.put, List.setIfInBounds_toArray, List.set_cons_zero, List.set_cons_succ]
        refine takeN 20 rfl (by kernel_rfl) (by intro _ _ _ h; exact h) (by rfl) hS ?_
        try simp only [Act.put, List.setIfInBounds_toArray, List.set_cons_zero, List.set_cons_succ]
        refine takeN 22 rfl (by kernel_rfl) (by intro _ _ _ h; exact h) (by rfl) hS ?_
        try simp only [Act.put, List.setIfInBounds_toArray, List.set_cons_zero, List.set_cons_succ]
        refine stepN 21 rfl (by kernel_rfl) (by rfl) hS ?_
        try simp only [Act.put, List.setIfInBounds_toArray, List.set_cons_zero, List.set_cons_succ]
        refine stepN 23 rfl (by kernel_rfl) (by rfl) hS ?_
        try simp only [Act.put, List.setIfInBounds_toArray, List.set_cons_zero, List.set_cons_succ]
        refine takeN 24 rfl (by kernel_rfl) (by intro _ _ _ h; exact h) (by rfl) hS ?_
        try simp only [Act.put, List.setIfInBounds_toArray, List.set_cons_zero, List.set_cons_succ]
        refine takeL 25 ?v25 rfl (by kernel_rfl) (by intro _ _ _ h; exact h) (by rfl) hS ?h25 ?r25
        case h25 =>
          intro w2 hSw
          go_simp
          try rfl
        case' r25 => try simp only [Act.put, List.setIfInBounds_toArray, List.set_cons_zero, List.set_cons_succ]
        refine takeL 26 ?v26 rfl (by kernel_rfl) (by intro _ _ _ h; exact h) (by rfl) hS ?h26 ?r26
        case h26 =>
          intro w2 hSw
          go_simp
          try rfl
        case' r26 => try simp only [Act.put, List.setIfInBounds_toArray, List.set_cons_zero, List.set_cons_succ]
        refine endL (by kernel_rfl) ?_
        go_wp2_with fail
        exact ⟨⟨k + 1, by omega, by go_num, HBW.out.trans (hS.mono HBW.out.size)⟩, by simp [intOf]; omega⟩
    · go_wp2_with fail
      go_ret
      exact ⟨rfl, XR.out.bel⟩
theorem scalesGreatest_walk (A1 : Option Addr) (ps : List Prt) (c1 : Nat) (A2 : Option Addr) (bs : List Bk) (c2 : Nat) (A3 : Option Addr) (os : List Int) (c3 : Nat) (AR : Option Addr) (R : List Iv) (cR : Nat) (AF : Option Addr) (F : List Int) (cF : Nat) (w : World) (hi : DgIn w ⟨A1, ps, c1, A2, bs, c2, A3, os, c3⟩) (hj : RgIn w ⟨AR, R, cR, AF, F, cF⟩) (ht : TabAt w) : Calls Tryd.prog 7 #[.agg #[.slice A1 ps.length c1, .slice A2 bs.length c2, .slice A3 os.length c3], .agg #[.slice AR R.length cR, .slice AF F.length cF]] w fun e w' => e = .returned (.bool true) ∧ Below w.heap.size w w' := by
  cases hl : lightR ⟨A1, ps, c1, A2, bs, c2, A3, os, c3⟩ ⟨AR, R, cR, AF, F, cF⟩ with
  | false => exact scgr_heavy A1 ps c1 A2 bs c2 A3 os c3 AR R cR AF F cF w hi hj ht hl
  | true =>
    by_cases he : dgErr ps bs os = 0
    · by_cases hc : chErr (gvErr bs.length R) R = 0
      · exact scgr_good A1 ps c1 A2 bs c2 A3 os c3 AR R cR AF F cF w hi hj ht hl he hc
      · exact scgr_err A1 ps c1 A2 bs c2 A3 os c3 AR R cR AF F cF w hi hj ht hl he hc
    · exact scgr_bad A1 ps c1 A2 bs c2 A3 os c3 AR R cR AF F cF w hi hj ht hl he

set_option maxRecDepth 100000 in
set_option maxHeartbeats 4000000 in
theorem scalesGreatest_lifted (os : Os) (started : os.Started) (H : Type) (enc : TypeId × Value → H) :
    ReturnsInHanded {} Tryd.checked os 7 .any (fun w args => (Rows.scalesGreatestSpec.pre enc Tryd.prog Tryd.f7 [] false w args ∧ laidMetH Tryd.prog laidT w) ∧ sizedMet enc Tryd.prog Tryd.f7 (OpenSpec.ofChange Rows.scalesGreatestSpec) false w args)
      (Rows.scalesGreatestSpec.post enc Tryd.prog Tryd.f7 false true false false) := by
  refine law_lift_laid (C := Tryd.checked) (T := 4) own started (by kernel_rfl) Tryd.func7
    (ChangeSpec.witness_shaped (enc := enc) (C := Tryd.checked) (os := os) (X := fun w _ => laidMetH Tryd.prog laidT w) false (World.doorLaid Tryd.prog 400 os) #[.agg #[.slice none 0 0, .slice none 0 0, .slice none 0 0], .agg #[.slice none 0 0, .slice none 0 0]] 8 rfl (door_shaped os _) (by kernel_rfl) (by kernel_rfl) (by kernel_rfl) (door_met os _))
    laidOut (by kernel_rfl) rfl Tryd.underlying4 (by kernel_rfl) ?_ ?_
  · intro ds h
    match ds, h with
    | [d1, d2], _ => exact ⟨rfl, rfl, rfl⟩
  · intro W base args ds p hval0 hA0 _ hsz0 hL
    have ht := tab_of hL
    have hval : ∀ (j : Nat) t v, Tryd.f7.params[j]? = some t → args[j]? = some v → Value.okWide Tryd.prog W .any base t v := hval0
    have hA : DataW.TrodAll enc Tryd.prog W 0 (fun _ => true) true Tryd.f7.params.toList args.toList ds p := hA0
    clear hsz0 hL
    rw [Tryd.params7] at hA hval
    obtain ⟨v0, vs0, d0, ds0, p0, q0, hargs, rfl, rfl, h0, r0⟩ := trodAll_cons hA
    obtain ⟨v1, vs1, d1, ds1, p1, q1, rfl, rfl, rfl, h1, r1⟩ := trodAll_cons r0
    obtain ⟨rfl, rfl, rfl⟩ := trodAll_nil r1
    obtain rfl : args = #[v0, v1] := by cases args; simp_all
    obtain ⟨⟨A1, ps, c1, A2, bs, c2, A3, os, c3⟩, rfl, hin⟩ := open_dg (hval 0 26 v0 rfl rfl) h0
    obtain ⟨⟨AR, R, cR, AF, F, cF⟩, rfl, hrg⟩ := open_rg (hval 1 29 v1 rfl rfl) h1
    exact scalesGreatest_walk A1 ps c1 A2 bs c2 A3 os c3 AR R cR AF F cF W hin hrg ht
theorem scalesGreatest_row : Rows.ScalesGreatestSaid :=
  OpenClaim.holds_of_wide 7 Tryd.f7 rfl rfl rfl rfl rfl rfl rfl ⟨rfl, rfl, rfl, rfl, rfl⟩ rfl rfl rfl rfl rfl (by kernel_rfl) Tryd.func7 (by kernel_rfl)
    (of_decide_eq_true (by kernel_rfl)) (by unfold Func.isWrapper; first | (rw [if_pos (by decide +kernel)]; kernel_rfl) | (rw [if_neg (by decide +kernel)]; exact ⟨rfl, rfl⟩))
    (fun os started H enc _ => scalesGreatest_lifted os started H enc)
theorem scalesGreatest_holds : Rows.ScalesGreatestCardSaid :=
  Claim7.holds_tied_plain_at .later [] [.data] true (true, "ceb97b6710135aa47b784ff3ccc4d43c36e529616a739c760362e989b81859fe") true
    scalesGreatest_row (fun _ h => by cases h) (by kernel_rfl) (fun _ h => by cases h) scalesGreatest_row_tie rfl ⟨rfl, rfl⟩ (by kernel_rfl) rfl
    (fun f fn hf hfn => by
      obtain rfl : f = 7 := Option.some.inj ((show Tryd.prog.funcNamed "commutator/commutatorlaw13.ScalesGreatest" = some 7 by kernel_rfl).symm.trans hf) |>.symm
      obtain rfl : fn = Tryd.f7 := (Option.some.inj (Tryd.func7.symm.trans hfn)).symm
      exact ⟨by kernel_rfl, fun j t ht => by
        rw [Tryd.params7] at ht
        have hm : t ∈ [26, 29] := by simpa using Array.mem_of_getElem? ht
        have hall : ([26, 29].all fun u => !Tryd.prog.wantsStandIn u) = true := by kernel_rfl
        exact (show Tryd.prog.wantsStandIn t = false by simpa using List.all_eq_true.1 hall t hm)⟩)
    (by kernel_rfl)
#print axioms scalesGreatest_holds

end Go.Proofs.YtejnnljjmafjaaaDoor
