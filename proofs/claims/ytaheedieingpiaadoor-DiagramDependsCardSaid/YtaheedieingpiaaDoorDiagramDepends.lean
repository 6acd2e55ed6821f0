/- DiagramDepends: for every diagram and every number the law returns true: what a block uses within a tick is itself and, if it is no delay, what its arguments use. No conditions. -/
import Derived.Test.YtaheedieingpiaaDoorDhK
namespace Go.Proofs.YtaheedieingpiaaDoor
set_option linter.unusedVariables false
set_option linter.unusedSimpArgs false
set_option linter.unusedSectionVars false
open Go.ChangeShapes Go.WideShapes Go.ChangeAt Go.RowKit Go.Joins

set_option maxRecDepth 100000 in
set_option maxHeartbeats 4000000 in
theorem dep_heavy (A1 : Option Addr) (ps : List Prt) (c1 : Nat) (A2 : Option Addr) (bs : List Bk) (c2 : Nat) (A3 : Option Addr) (os : List Int) (c3 : Nat) (z : Int) (w : World) (hi : DgIn w ⟨A1, ps, c1, A2, bs, c2, A3, os, c3⟩) (ht : TabAt w) (hl : lightG ⟨A1, ps, c1, A2, bs, c2, A3, os, c3⟩ = false) : Calls Tryd.prog 6 #[.agg #[.slice A1 ps.length c1, .slice A2 bs.length c2, .slice A3 os.length c3], .int .u8 z] w fun e w' => e = .returned (.bool true) ∧ Below w.heap.size w w' := by
  have HI := Lib.hid hi
  have HT := Lib.hid ht
  clear hi ht
  have HL := Lib.hid hl
  clear hl
  have X0 := Lib.hid (Lx.start w ⟨A1, ps, c1, A2, bs, c2, A3, os, c3⟩ HT.out)
  go_enter Tryd.func6, Tryd.ntmps6
  go_wp2_with fail
  go_at_call 11
  refine (awake_any _ X0.out.tab).mono ?_
  rintro e w1 ⟨rfl, hb⟩
  have X1 := Lib.hid (X0.out.next hb)
  clear hb
  have f0 : w1.cell? ⟨w.heap.size, 0, none⟩ = some (.slice A1 ps.length c1) := X1.out.c0
  have f1 : w1.cell? ⟨w.heap.size, 1, none⟩ = some (.slice A2 bs.length c2) := X1.out.c1
  have f2 : w1.cell? ⟨w.heap.size, 2, none⟩ = some (.slice A3 os.length c3) := X1.out.c2
  have z1 : w.heap.size < w1.heap.size := X1.out.lt
  go_wp2_with fail
  go_at_call 12
  refine (light_any ⟨A1, ps, c1, A2, bs, c2, A3, os, c3⟩ _ w X1.out.bel HI.out).mono ?_
  rintro e w2 ⟨rfl, hb⟩
  have X2 := Lib.hid (X1.out.next hb)
  rw [HL.out]
  clear hb
  clear f0 f1 f2
  have f0 : w2.cell? ⟨w.heap.size, 0, none⟩ = some (.slice A1 ps.length c1) := X2.out.c0
  have f1 : w2.cell? ⟨w.heap.size, 1, none⟩ = some (.slice A2 bs.length c2) := X2.out.c1
  have f2 : w2.cell? ⟨w.heap.size, 2, none⟩ = some (.slice A3 os.length c3) := X2.out.c2
  have z2 : w.heap.size < w2.heap.size := X2.out.lt
  go_wp2_with fail
  go_at_call 11
  refine (awake_any _ X2.out.tab).mono ?_
  rintro e w3 ⟨rfl, hb⟩
  have X3 := Lib.hid (X2.out.next hb)
  clear hb
  clear f0 f1 f2
  have f0 : w3.cell? ⟨w.heap.size, 0, none⟩ = some (.slice A1 ps.length c1) := X3.out.c0
  have f1 : w3.cell? ⟨w.heap.size, 1, none⟩ = some (.slice A2 bs.length c2) := X3.out.c1
  have f2 : w3.cell? ⟨w.heap.size, 2, none⟩ = some (.slice A3 os.length c3) := X3.out.c2
  have z3 : w.heap.size < w3.heap.size := X3.out.lt
  go_wp2_with fail
  go_ret
  exact ⟨rfl, X3.out.bel⟩
set_option maxRecDepth 100000 in
set_option maxHeartbeats 4000000 in
theorem dep_bad (A1 : Option Addr) (ps : List Prt) (c1 : Nat) (A2 : Option Addr) (bs : List Bk) (c2 : Nat) (A3 : Option Addr) (os : List Int) (c3 : Nat) (z : Int) (w : World) (hi : DgIn w ⟨A1, ps, c1, A2, bs, c2, A3, os, c3⟩) (ht : TabAt w) (hl : lightG ⟨A1, ps, c1, A2, bs, c2, A3, os, c3⟩ = true) (he : ¬ dgErr ps bs os = 0) : Calls Tryd.prog 6 #[.agg #[.slice A1 ps.length c1, .slice A2 bs.length c2, .slice A3 os.length c3], .int .u8 z] w fun e w' => e = .returned (.bool true) ∧ Below w.heap.size w w' := by
  have HI := Lib.hid hi
  have HT := Lib.hid ht
  clear hi ht
  have HL := Lib.hid hl
  have HD := Lib.hid (HI.out.light hl)
  have h10 := hl
  unfold lightG at h10
  simp only [Bool.and_eq_true, decide_eq_true_eq, List.all_eq_true] at h10
  obtain ⟨⟨l1, l2, l3⟩, h4⟩ := h10
  have HA := Lib.hid h4
  clear hl h4
  try dsimp only at l1 l2 l3
  obtain ⟨E, hE⟩ : ∃ E, dgErr ps bs os = E := ⟨_, rfl⟩
  rw [hE] at he
  have HE := Lib.hid hE
  have HEN := Lib.hid (errV_n he)
  clear hE he
  have X0 := Lib.hid (Lx.start w ⟨A1, ps, c1, A2, bs, c2, A3, os, c3⟩ HT.out)
  go_enter Tryd.func6, Tryd.ntmps6
  go_wp2_with fail
  go_at_call 11
  refine (awake_any _ X0.out.tab).mono ?_
  rintro e w1 ⟨rfl, hb⟩
  have X1 := Lib.hid (X0.out.next hb)
  clear hb
  have f0 : w1.cell? ⟨w.heap.size, 0, none⟩ = some (.slice A1 ps.length c1) := X1.out.c0
  have f1 : w1.cell? ⟨w.heap.size, 1, none⟩ = some (.slice A2 bs.length c2) := X1.out.c1
  have f2 : w1.cell? ⟨w.heap.size, 2, none⟩ = some (.slice A3 os.length c3) := X1.out.c2
  have z1 : w.heap.size < w1.heap.size := X1.out.lt
  go_wp2_with fail
  go_at_call 12
  refine (light_any ⟨A1, ps, c1, A2, bs, c2, A3, os, c3⟩ _ w X1.out.bel HI.out).mono ?_
  rintro e w2 ⟨rfl, hb⟩
  have X2 := Lib.hid (X1.out.next hb)
  rw [HL.out]
  clear hb
  clear f0 f1 f2
  have f0 : w2.cell? ⟨w.heap.size, 0, none⟩ = some (.slice A1 ps.length c1) := X2.out.c0
  have f1 : w2.cell? ⟨w.heap.size, 1, none⟩ = some (.slice A2 bs.length c2) := X2.out.c1
  have f2 : w2.cell? ⟨w.heap.size, 2, none⟩ = some (.slice A3 os.length c3) := X2.out.c2
  have z2 : w.heap.size < w2.heap.size := X2.out.lt
  go_wp2_with fail
  go_at_call 18
  refine (Check_any ⟨A1, ps, c1, A2, bs, c2, A3, os, c3⟩ w.heap.size _ X2.out.le (X2.out.dg HD.out) X2.out.tab).mono ?_
  rintro e w3 ⟨rfl, hb⟩
  have X3 := Lib.hid (X2.out.next hb)
  dsimp only
  rw [HE.out, HEN.out]
  clear hb
  clear f0 f1 f2
  have f0 : w3.cell? ⟨w.heap.size, 0, none⟩ = some (.slice A1 ps.length c1) := X3.out.c0
  have f1 : w3.cell? ⟨w.heap.size, 1, none⟩ = some (.slice A2 bs.length c2) := X3.out.c1
  have f2 : w3.cell? ⟨w.heap.size, 2, none⟩ = some (.slice A3 os.length c3) := X3.out.c2
  have z3 : w.heap.size < w3.heap.size := X3.out.lt
  go_wp2_with fail
  go_at_call 11
  refine (awake_any _ X3.out.tab).mono ?_
  rintro e w4 ⟨rfl, hb⟩
  have X4 := Lib.hid (X3.out.next hb)
  clear hb
  clear f0 f1 f2
  have f0 : w4.cell? ⟨w.heap.size, 0, none⟩ = some (.slice A1 ps.length c1) := X4.out.c0
  have f1 : w4.cell? ⟨w.heap.size, 1, none⟩ = some (.slice A2 bs.length c2) := X4.out.c1
  have f2 : w4.cell? ⟨w.heap.size, 2, none⟩ = some (.slice A3 os.length c3) := X4.out.c2
  have z4 : w.heap.size < w4.heap.size := X4.out.lt
  go_wp2_with fail
  go_ret
  exact ⟨rfl, X4.out.bel⟩
set_option maxRecDepth 100000 in
set_option maxHeartbeats 4000000 in
theorem dep_nil (A1 : Option Addr) (ps : List Prt) (c1 : Nat) (A2 : Option Addr) (bs : List Bk) (c2 : Nat) (A3 : Option Addr) (os : List Int) (c3 : Nat) (z : Int) (w : World) (hi : DgIn w ⟨A1, ps, c1, A2, bs, c2, A3, os, c3⟩) (ht : TabAt w) (hl : lightG ⟨A1, ps, c1, A2, bs, c2, A3, os, c3⟩ = true) (he : dgErr ps bs os = 0) (hn : bs.length = 0) : Calls Tryd.prog 6 #[.agg #[.slice A1 ps.length c1, .slice A2 bs.length c2, .slice A3 os.length c3], .int .u8 z] w fun e w' => e = .returned (.bool true) ∧ Below w.heap.size w w' := by
  have HI := Lib.hid hi
  have HT := Lib.hid ht
  clear hi ht
  have HL := Lib.hid hl
  have HD := Lib.hid (HI.out.light hl)
  have h10 := hl
  unfold lightG at h10
  simp only [Bool.and_eq_true, decide_eq_true_eq, List.all_eq_true] at h10
  obtain ⟨⟨l1, l2, l3⟩, h4⟩ := h10
  have HA := Lib.hid h4
  clear hl h4
  try dsimp only at l1 l2 l3
  have HE := Lib.hid he
  clear he
  obtain rfl : bs = [] := List.eq_nil_of_length_eq_zero hn
  clear hn
  have X0 := Lib.hid (Lx.start w ⟨A1, ps, c1, A2, [], c2, A3, os, c3⟩ HT.out)
  go_enter Tryd.func6, Tryd.ntmps6
  go_wp2_with fail
  go_at_call 11
  refine (awake_any _ X0.out.tab).mono ?_
  rintro e w1 ⟨rfl, hb⟩
  have X1 := Lib.hid (X0.out.next hb)
  clear hb
  have f0 : w1.cell? ⟨w.heap.size, 0, none⟩ = some (.slice A1 ps.length c1) := X1.out.c0
  have f1 : w1.cell? ⟨w.heap.size, 1, none⟩ = some (.slice A2 0 c2) := X1.out.c1
  have f2 : w1.cell? ⟨w.heap.size, 2, none⟩ = some (.slice A3 os.length c3) := X1.out.c2
  have z1 : w.heap.size < w1.heap.size := X1.out.lt
  go_wp2_with fail
  go_at_call 12
  refine (light_any ⟨A1, ps, c1, A2, [], c2, A3, os, c3⟩ _ w X1.out.bel HI.out).mono ?_
  rintro e w2 ⟨rfl, hb⟩
  have X2 := Lib.hid (X1.out.next hb)
  rw [HL.out]
  clear hb
  clear f0 f1 f2
  have f0 : w2.cell? ⟨w.heap.size, 0, none⟩ = some (.slice A1 ps.length c1) := X2.out.c0
  have f1 : w2.cell? ⟨w.heap.size, 1, none⟩ = some (.slice A2 0 c2) := X2.out.c1
  have f2 : w2.cell? ⟨w.heap.size, 2, none⟩ = some (.slice A3 os.length c3) := X2.out.c2
  have z2 : w.heap.size < w2.heap.size := X2.out.lt
  go_wp2_with fail
  go_at_call 18
  refine (Check_any ⟨A1, ps, c1, A2, [], c2, A3, os, c3⟩ w.heap.size _ X2.out.le (X2.out.dg HD.out) X2.out.tab).mono ?_
  rintro e w3 ⟨rfl, hb⟩
  have X3 := Lib.hid (X2.out.next hb)
  dsimp only
  rw [HE.out, errV_0]
  clear hb
  clear f0 f1 f2
  have f0 : w3.cell? ⟨w.heap.size, 0, none⟩ = some (.slice A1 ps.length c1) := X3.out.c0
  have f1 : w3.cell? ⟨w.heap.size, 1, none⟩ = some (.slice A2 ([] : List Bk).length c2) := X3.out.c1
  have f2 : w3.cell? ⟨w.heap.size, 2, none⟩ = some (.slice A3 os.length c3) := X3.out.c2
  have z3 : w.heap.size < w3.heap.size := X3.out.lt
  go_wp2_with fail
  go_at_call 11
  refine (awake_any _ X3.out.tab).mono ?_
  rintro e w4 ⟨rfl, hb⟩
  have X4 := Lib.hid (X3.out.next hb)
  clear hb
  clear f0 f1 f2
  have f0 : w4.cell? ⟨w.heap.size, 0, none⟩ = some (.slice A1 ps.length c1) := X4.out.c0
  have f1 : w4.cell? ⟨w.heap.size, 1, none⟩ = some (.slice A2 ([] : List Bk).length c2) := X4.out.c1
  have f2 : w4.cell? ⟨w.heap.size, 2, none⟩ = some (.slice A3 os.length c3) := X4.out.c2
  have z4 : w.heap.size < w4.heap.size := X4.out.lt
  go_wp2_with fail
  go_ret
  exact ⟨rfl, X4.out.bel⟩
theorem Lx.set {w0 w : World} {d : Dg} (h : Lx w0 w d) {g : Nat} (hg : w0.heap.size < g) (j : Nat) (u : Value) : Lx w0 (w.setCell ⟨g, j, none⟩ u) d :=
  ⟨h.bel.setCell (by show w0.heap.size ≤ g; omega) u, h.box.other_ (by omega) j u, h.tab.below ((Below.refl g w).setCell (Nat.le_refl _) u) (by omega)⟩
def dpR (w wm : World) (d : Dg) (g : Nat) (f : Nat → List Bool) (n : Nat) (v : Value) (wr : World) : Prop := ∃ t : Nat, t ≤ n ∧ v = .int .i64 (t : Int) ∧ Lx w wr d ∧ RowD wr g (bools (f t)) 4 ∧ Below g wm wr
def dpB (w wm : World) (d : Dg) (g : Nat) (V : Value) (xs : List Int) (c : List Bool) (v : Value) (wr : World) : Prop := ∃ q : Nat, q ≤ xs.length ∧ v = .int .i64 (q : Int) ∧ Lx w wr d ∧ RowD wr g (bools (setsT xs c q)) 4 ∧ Below g wm wr ∧ OwnI wr (g + 1) V xs
def dp3 (w5 : World) (M : List Bool) (n : Nat) (v16 v : Value) (wr : World) : Prop := ∃ k : Nat, k ≤ n ∧ v = .int .i64 (k : Int) ∧ v16 = .int .i64 (((fl (isM M) k).length : Nat) : Int) ∧ wr = w5

set_option maxRecDepth 100000 in
set_option maxHeartbeats 4000000 in
theorem dep_good (A1 : Option Addr) (ps : List Prt) (c1 : Nat) (A2 : Option Addr) (bs : List Bk) (c2 : Nat) (A3 : Option Addr) (os : List Int) (c3 : Nat) (z : Int) (w : World) (hi : DgIn w ⟨A1, ps, c1, A2, bs, c2, A3, os, c3⟩) (ht : TabAt w) (hl : lightG ⟨A1, ps, c1, A2, bs, c2, A3, os, c3⟩ = true) (hz0 : 0 ≤ z) (hz1 : z ≤ 255) (he : dgErr ps bs os = 0) (hn : 0 < bs.length) : Calls Tryd.prog 6 #[.agg #[.slice A1 ps.length c1, .slice A2 bs.length c2, .slice A3 os.length c3], .int .u8 z] w fun e w' => e = .returned (.bool true) ∧ Below w.heap.size w w' := by
  have HI := Lib.hid hi
  have HT := Lib.hid ht
  clear hi ht
  have HL := Lib.hid hl
  have HD := Lib.hid (HI.out.light hl)
  have h10 := hl
  unfold lightG at h10
  simp only [Bool.and_eq_true, decide_eq_true_eq, List.all_eq_true] at h10
  obtain ⟨⟨l1, l2, l3⟩, h4⟩ := h10
  have HA_ := Lib.hid h4
  clear hl h4
  try dsimp only at l1 l2 l3
  have HE := Lib.hid he
  have HOK := Lib.hid (dg_succ he)
  clear he
  have hni : (0 : Int) < (bs.length : Int) := by omega
  have hnz : ((bs.length : Int) == 0) = false := by simpa using (by omega : ¬ bs.length = 0)
  obtain ⟨a, ha⟩ : ∃ a : Nat, z % (bs.length : Int) = (a : Int) := ⟨(z % (bs.length : Int)).toNat, by have := Int.emod_nonneg z (show (bs.length : Int) ≠ 0 by omega); omega⟩
  have haN : a < bs.length := by have := Int.emod_lt_of_pos z hni; omega
  have haI : (a : Int) < (bs.length : Int) := by omega
  have HA := Lib.hid ha
  obtain ⟨hu1, hu2⟩ := usesO_in HE.out haN
  have HU1 := Lib.hid hu1
  have HU2 := Lib.hid hu2
  have hul := usesL_len bs a
  clear ha hu1 hu2
  obtain ⟨i0, hi0, hy0, hy1, hy2⟩ := info_parts info_bool
  have X0 := Lib.hid (Lx.start w ⟨A1, ps, c1, A2, bs, c2, A3, os, c3⟩ HT.out)
  go_enter Tryd.func6, Tryd.ntmps6
  go_wp2_with fail
  go_at_call 11
  refine (awake_any _ X0.out.tab).mono ?_
  rintro e w1 ⟨rfl, hb⟩
  have X1 := Lib.hid (X0.out.next hb)
  clear hb
  have f0 : w1.cell? ⟨w.heap.size, 0, none⟩ = some (.slice A1 ps.length c1) := X1.out.c0
  have f1 : w1.cell? ⟨w.heap.size, 1, none⟩ = some (.slice A2 bs.length c2) := X1.out.c1
  have f2 : w1.cell? ⟨w.heap.size, 2, none⟩ = some (.slice A3 os.length c3) := X1.out.c2
  have z1 : w.heap.size < w1.heap.size := X1.out.lt
  go_wp2_with fail
  go_at_call 12
  refine (light_any ⟨A1, ps, c1, A2, bs, c2, A3, os, c3⟩ _ w X1.out.bel HI.out).mono ?_
  rintro e w2 ⟨rfl, hb⟩
  have X2 := Lib.hid (X1.out.next hb)
  rw [HL.out]
  clear hb
  clear f0 f1 f2
  have f0 : w2.cell? ⟨w.heap.size, 0, none⟩ = some (.slice A1 ps.length c1) := X2.out.c0
  have f1 : w2.cell? ⟨w.heap.size, 1, none⟩ = some (.slice A2 bs.length c2) := X2.out.c1
  have f2 : w2.cell? ⟨w.heap.size, 2, none⟩ = some (.slice A3 os.length c3) := X2.out.c2
  have z2 : w.heap.size < w2.heap.size := X2.out.lt
  go_wp2_with fail
  go_at_call 18
  refine (Check_any ⟨A1, ps, c1, A2, bs, c2, A3, os, c3⟩ w.heap.size _ X2.out.le (X2.out.dg HD.out) X2.out.tab).mono ?_
  rintro e w3 ⟨rfl, hb⟩
  have X3 := Lib.hid (X2.out.next hb)
  dsimp only
  rw [HE.out, errV_0]
  clear hb
  clear f0 f1 f2
  have f0 : w3.cell? ⟨w.heap.size, 0, none⟩ = some (.slice A1 ps.length c1) := X3.out.c0
  have f1 : w3.cell? ⟨w.heap.size, 1, none⟩ = some (.slice A2 bs.length c2) := X3.out.c1
  have f2 : w3.cell? ⟨w.heap.size, 2, none⟩ = some (.slice A3 os.length c3) := X3.out.c2
  have z3 : w.heap.size < w3.heap.size := X3.out.lt
  go_wp2_with fail
  go_at_call 14
  try rw [HA.out]
  refine (uses_any ⟨A1, ps, c1, A2, bs, c2, A3, os, c3⟩ (a : Int) w.heap.size _ X3.out.le (X3.out.dg HD.out) X3.out.tab).mono ?_
  rintro e w4 ⟨v, rfl, hown, hb⟩
  dsimp only at hown ⊢
  rw [HU2.out] at hown
  rw [HU1.out, errV_0]
  have X4 := Lib.hid (X3.out.next hb)
  obtain ⟨V, vc, rfl, _, hcv⟩ := hown.view
  have HCV0 := Lib.hid hcv
  clear hown hb hcv hz0 hz1
  clear f0 f1 f2
  have f0 : w4.cell? ⟨w.heap.size, 0, none⟩ = some (.slice A1 ps.length c1) := X4.out.c0
  have f1 : w4.cell? ⟨w.heap.size, 1, none⟩ = some (.slice A2 bs.length c2) := X4.out.c1
  have f2 : w4.cell? ⟨w.heap.size, 2, none⟩ = some (.slice A3 os.length c3) := X4.out.c2
  have z4 : w.heap.size < w4.heap.size := X4.out.lt
  go_upto_region 8 with (at_make; (with_reducible refine wpList_make_full _ rfl (.tmp 54) (.tmp 54) 46 rfl w4.heap.size 4 i0 (.bool false) 1 under_bools hi0 hy0 hy1 .i64 .i64 bs.length bs.length bs.length rfl rfl rfl rfl (by rw [hy2]; omega) (by unfold maxLen; omega) (by first | assumption | (simp; done) | (simp; omega)) ?_; intro wm hown hg); have hst : Below w4.heap.size w4 wm := (Below.refl _ _).grown hg (Nat.le_refl _) (fun k h => by simp at h); have hrow := rowD_of hown; rw [made_bools] at hrow; have XM := Lib.hid (X4.out.next hst); have HROW := Lib.hid hrow; have HCV := Lib.hid (HCV0.out.below hst (Nat.le_refl _)); have hzg := hrow.lt; have hgf := hrow.free; have hga : wm.cell? ⟨w4.heap.size, a, none⟩ = some (.bool (isM (List.replicate bs.length false) a)) := (by rw [hrow.cell, bools_get (by simpa using haN)]); clear hown hrow hst hg f0 f1 f2; have f1 : wm.cell? ⟨w.heap.size, 1, none⟩ = some (.slice A2 bs.length c2) := XM.out.c1; have zm : w.heap.size < wm.heap.size := XM.out.lt)
  obtain ⟨b, off, kind, B, args, cap, vn, ve, un, ue, hA2, hbm, hbs, hxb, g0, g1, g2, g3, g4, g5, ha, hl⟩ := (XM.out.dg HD.out).blk haN
  dsimp only at hA2 hxb
  subst hA2
  have hargs : args.length ≤ 10 := HA_.out _ (List.mem_of_getElem? hxb)
  have HX := Lib.hid hxb
  clear hxb hl
  by_cases hk2 : kind = 2
  · subst hk2
    have HS0 := Lib.hid (show succs bs false a = [] from by rw [succs_of HX.out]; rfl)
    have XR0 := Lib.hid ((XM.out.set (g := w4.heap.size) (by omega) a (.bool true)).al (.cells #[.int .i64 2, .slice B args.length cap, .int .i64 vn, .int .i64 ve, .int .i64 un, .int .i64 ue] 44))
    have RF0 := Lib.hid ((HROW.out.set_ a (.bool true)).al (.cells #[.int .i64 2, .slice B args.length cap, .int .i64 vn, .int .i64 ve, .int .i64 un, .int .i64 ue] 44))
    have HB0 := Lib.hid (((Below.refl w4.heap.size wm).setCell (p := ⟨w4.heap.size, a, none⟩) (Nat.le_refl _) (.bool true)).alloc (by show w4.heap.size ≤ (wm.setCell _ _).heap.size; simp; omega) (.cells #[.int .i64 2, .slice B args.length cap, .int .i64 vn, .int .i64 ve, .int .i64 un, .int .i64 ue] 44))
    have RF : Hid (RowD ((wm.setCell ⟨w4.heap.size, a, none⟩ (.bool true)).alloc (.cells #[.int .i64 2, .slice B args.length cap, .int .i64 vn, .int .i64 ve, .int .i64 un, .int .i64 ue] 44)) w4.heap.size (bools (usesM bs a)) 4) := by rw [← dp_end HOK.out haN, HS0.out]; show Hid (RowD _ _ (bools (mark0 bs a)) _); unfold mark0; rw [bools_set]; exact RF0
    have HCW := Lib.hid (HCV.out.below HB0.out (Nat.le_refl _))
    clear ha
    go_wp2_with fail
    obtain ⟨wr, hwr⟩ : ∃ wr, wr = (wm.setCell ⟨w4.heap.size, a, none⟩ (.bool true)).alloc (.cells #[.int .i64 2, .slice B args.length cap, .int .i64 vn, .int .i64 ve, .int .i64 un, .int .i64 ue] 44) := ⟨_, rfl⟩
    rw [← hwr] at RF HCW XR0
    rw [← hwr]
    have XR := XR0
    have hlgr : w4.heap.size < wr.heap.size := RF.out.lt
    clear hwr XM HROW HB0 RF0 XR0 f1 zm hga hgf hzg
    go_wp2_with fail
    obtain ⟨M, hM⟩ : ∃ M, M = usesM bs a := ⟨_, rfl⟩
    have HM := Lib.hid hM
    have HML := Lib.hid (show M.length = bs.length by rw [hM]; exact usesM_len bs a)
    rw [← hM] at RF
    have HUL := Lib.hid (show usesL bs a = natI (fl (isM M) bs.length) by rw [← HML.out, hM]; rfl)
    have HULn := Lib.hid (show (usesL bs a).length = (fl (isM M) bs.length).length by rw [HUL.out, natI_len])
    clear hM
    go_loopw [16, 108] (fun v16 v w9 => dp3 wr M bs.length v16 v w9) (fun _ v _ => bs.length - (intOf v).toNat)
    case atStart => exact ⟨0, Nat.zero_le _, rfl, rfl, rfl⟩
    case round =>
      obtain ⟨wo, rfl⟩ : ∃ wo : World, wo = wr := ⟨_, rfl⟩
      obtain ⟨k, hk, rfl, rfl, rfl⟩ := hrel
      by_cases hlt : k < bs.length
      · have hki : (k : Int) < (bs.length : Int) := by omega
        have hck : wo.cell? ⟨w4.heap.size, k, none⟩ = some (.bool (isM M k)) := by rw [RF.out.cell, bools_get (by rw [HML.out]; exact hlt)]
        obtain ⟨c, hc⟩ : ∃ c, c = (fl (isM M) k).length := ⟨_, rfl⟩
        have HC := Lib.hid hc
        rw [← hc]
        cases hmk : isM M k with
        | true =>
          rw [hmk] at hck
          have hat := fl_at (p := isM M) hmk bs.length hlt
          rw [← hc] at hat
          have hcl := (List.getElem?_eq_some_iff.1 hat).1
          have hcu : c < (usesL bs a).length := by rw [HULn.out]; exact hcl
          have hcui : (c : Int) < ((usesL bs a).length : Int) := by omega
          obtain ⟨ub, uo, y, rfl, hub, hub2, hy, gy⟩ := HCW.out.int_ hcu
          rw [HUL.out, natI_get, hat] at hy
          simp only [Option.map_some, Option.some.injEq] at hy
          subst hy
          have hnx := Lib.hid (show (fl (isM M) (k + 1)).length = c + 1 by rw [fl_hit hmk, List.length_append, ← hc]; rfl)
          have hc6 : c ≤ 1000000 := by omega
          clear hc hat hcl hmk
          go_wp2_with fail
          all_goals try (exfalso; omega)
          exact ⟨⟨k + 1, by omega, by go_num, by rw [hnx.out]; go_num, rfl⟩, by simp [intOf]; omega⟩
        | false =>
          rw [hmk] at hck
          have hnx := Lib.hid (show (fl (isM M) (k + 1)).length = c by rw [fl_no hmk, ← hc])
          clear hc hmk
          go_wp2_with fail
          exact ⟨⟨k + 1, by omega, by go_num, by rw [hnx.out], rfl⟩, by simp [intOf]; omega⟩
      · have e : k = bs.length := by omega
        subst e
        rw [← HULn.out]
        go_wp2_with fail
        go_ret
        exact ⟨rfl, XR.out.bel⟩
  · by_cases hk0 : kind = 0
    · subst hk0
      clear hk2
      have HS0 := Lib.hid (show succs bs false a = [] from by rw [succs_of HX.out]; rfl)
      have XR0 := Lib.hid ((XM.out.set (g := w4.heap.size) (by omega) a (.bool true)).al (.cells #[.int .i64 0, .slice B args.length cap, .int .i64 vn, .int .i64 ve, .int .i64 un, .int .i64 ue] 44))
      have RF0 := Lib.hid ((HROW.out.set_ a (.bool true)).al (.cells #[.int .i64 0, .slice B args.length cap, .int .i64 vn, .int .i64 ve, .int .i64 un, .int .i64 ue] 44))
      have HB0 := Lib.hid (((Below.refl w4.heap.size wm).setCell (p := ⟨w4.heap.size, a, none⟩) (Nat.le_refl _) (.bool true)).alloc (by show w4.heap.size ≤ (wm.setCell _ _).heap.size; simp; omega) (.cells #[.int .i64 0, .slice B args.length cap, .int .i64 vn, .int .i64 ve, .int .i64 un, .int .i64 ue] 44))
      have RF : Hid (RowD ((wm.setCell ⟨w4.heap.size, a, none⟩ (.bool true)).alloc (.cells #[.int .i64 0, .slice B args.length cap, .int .i64 vn, .int .i64 ve, .int .i64 un, .int .i64 ue] 44)) w4.heap.size (bools (usesM bs a)) 4) := by rw [← dp_end HOK.out haN, HS0.out]; show Hid (RowD _ _ (bools (mark0 bs a)) _); unfold mark0; rw [bools_set]; exact RF0
      have HCW := Lib.hid (HCV.out.below HB0.out (Nat.le_refl _))
      clear ha
      go_wp2_with fail
      obtain ⟨wr, hwr⟩ : ∃ wr, wr = (wm.setCell ⟨w4.heap.size, a, none⟩ (.bool true)).alloc (.cells #[.int .i64 0, .slice B args.length cap, .int .i64 vn, .int .i64 ve, .int .i64 un, .int .i64 ue] 44) := ⟨_, rfl⟩
      rw [← hwr] at RF HCW XR0
      rw [← hwr]
      have XR := XR0
      have hlgr : w4.heap.size < wr.heap.size := RF.out.lt
      clear hwr XM HROW HB0 RF0 XR0 f1 zm hga hgf hzg
      go_wp2_with fail
      obtain ⟨M, hM⟩ : ∃ M, M = usesM bs a := ⟨_, rfl⟩
      have HM := Lib.hid hM
      have HML := Lib.hid (show M.length = bs.length by rw [hM]; exact usesM_len bs a)
      rw [← hM] at RF
      have HUL := Lib.hid (show usesL bs a = natI (fl (isM M) bs.length) by rw [← HML.out, hM]; rfl)
      have HULn := Lib.hid (show (usesL bs a).length = (fl (isM M) bs.length).length by rw [HUL.out, natI_len])
      clear hM
      go_loopw [16, 108] (fun v16 v w9 => dp3 wr M bs.length v16 v w9) (fun _ v _ => bs.length - (intOf v).toNat)
      case atStart => exact ⟨0, Nat.zero_le _, rfl, rfl, rfl⟩
      case round =>
        obtain ⟨wo, rfl⟩ : ∃ wo : World, wo = wr := ⟨_, rfl⟩
        obtain ⟨k, hk, rfl, rfl, rfl⟩ := hrel
        by_cases hlt : k < bs.length
        · have hki : (k : Int) < (bs.length : Int) := by omega
          have hck : wo.cell? ⟨w4.heap.size, k, none⟩ = some (.bool (isM M k)) := by rw [RF.out.cell, bools_get (by rw [HML.out]; exact hlt)]
          obtain ⟨c, hc⟩ : ∃ c, c = (fl (isM M) k).length := ⟨_, rfl⟩
          have HC := Lib.hid hc
          rw [← hc]
          cases hmk : isM M k with
          | true =>
            rw [hmk] at hck
            have hat := fl_at (p := isM M) hmk bs.length hlt
            rw [← hc] at hat
            have hcl := (List.getElem?_eq_some_iff.1 hat).1
            have hcu : c < (usesL bs a).length := by rw [HULn.out]; exact hcl
            have hcui : (c : Int) < ((usesL bs a).length : Int) := by omega
            obtain ⟨ub, uo, y, rfl, hub, hub2, hy, gy⟩ := HCW.out.int_ hcu
            rw [HUL.out, natI_get, hat] at hy
            simp only [Option.map_some, Option.some.injEq] at hy
            subst hy
            have hnx := Lib.hid (show (fl (isM M) (k + 1)).length = c + 1 by rw [fl_hit hmk, List.length_append, ← hc]; rfl)
            have hc6 : c ≤ 1000000 := by omega
            clear hc hat hcl hmk
            go_wp2_with fail
            all_goals try (exfalso; omega)
            exact ⟨⟨k + 1, by omega, by go_num, by rw [hnx.out]; go_num, rfl⟩, by simp [intOf]; omega⟩
          | false =>
            rw [hmk] at hck
            have hnx := Lib.hid (show (fl (isM M) (k + 1)).length = c by rw [fl_no hmk, ← hc])
            clear hc hmk
            go_wp2_with fail
            exact ⟨⟨k + 1, by omega, by go_num, by rw [hnx.out], rfl⟩, by simp [intOf]; omega⟩
        · have e : k = bs.length := by omega
          subst e
          rw [← HULn.out]
          go_wp2_with fail
          go_ret
          exact ⟨rfl, XR.out.bel⟩
    · have n2 : (kind != 2) = true := by simpa using hk2
      have n0 : (kind != 0) = true := by simpa using hk0
      have HS0 := Lib.hid (show succs bs false a = args from by rw [succs_of HX.out, if_neg (fun h => hk2 h.1), if_neg hk0])
      have HK0 := Lib.hid hk0
      have XR0 := Lib.hid ((XM.out.set (g := w4.heap.size) (by omega) a (.bool true)).al (.cells #[.int .i64 kind, .slice B args.length cap, .int .i64 vn, .int .i64 ve, .int .i64 un, .int .i64 ue] 44))
      have RF0 := Lib.hid ((HROW.out.set_ a (.bool true)).al (.cells #[.int .i64 kind, .slice B args.length cap, .int .i64 vn, .int .i64 ve, .int .i64 un, .int .i64 ue] 44))
      have HB0 := Lib.hid (((Below.refl w4.heap.size wm).setCell (p := ⟨w4.heap.size, a, none⟩) (Nat.le_refl _) (.bool true)).alloc (by show w4.heap.size ≤ (wm.setCell _ _).heap.size; simp; omega) (.cells #[.int .i64 kind, .slice B args.length cap, .int .i64 vn, .int .i64 ve, .int .i64 un, .int .i64 ue] 44))
      have RF1 := Lib.hid (show RowD ((wm.setCell ⟨w4.heap.size, a, none⟩ (.bool true)).alloc (.cells #[.int .i64 kind, .slice B args.length cap, .int .i64 vn, .int .i64 ve, .int .i64 un, .int .i64 ue] 44)) w4.heap.size (bools (mark0 bs a)) 4 from by unfold mark0; rw [bools_set]; exact RF0.out)
      have HAR := Lib.hid ha
      clear ha hk0 hk2
      go_wp2_with fail
      obtain ⟨xs, hxs⟩ : ∃ xs, xs = args := ⟨_, rfl⟩
      go_loopw [75] (fun v wr => dpR w wm ⟨A1, ps, c1, (some ⟨b, off, none⟩), bs, c2, A3, os, c3⟩ w4.heap.size (dpF bs (mark0 bs a) args) args.length v wr) (fun v _ => args.length - (intOf v).toNat)
      case atStart => exact ⟨0, Nat.zero_le _, rfl, XR0.out, RF1.out, HB0.out⟩
      case round =>
        clear XR0 RF0 RF1 HB0 hxs
        obtain ⟨t, ht, rfl, hx, hr, hbw⟩ := hrel
        have XR := Lib.hid hx
        have RT := Lib.hid hr
        have f0 : wr.cell? ⟨w.heap.size, 0, none⟩ = some (.slice A1 ps.length c1) := hx.c0
        have f1 : wr.cell? ⟨w.heap.size, 1, none⟩ = some (.slice (some ⟨b, off, none⟩) bs.length c2) := hx.c1
        have f2 : wr.cell? ⟨w.heap.size, 2, none⟩ = some (.slice A3 os.length c3) := hx.c2
        have zr : w.heap.size < wr.heap.size := hx.lt
        have zg : w4.heap.size < wr.heap.size := hr.lt
        clear hx hr
        by_cases hlt : t < args.length
        · have hti : (t : Int) < (args.length : Int) := by omega
          obtain ⟨ab, ao, y, rfl, hab, hab2, hy, gy⟩ := (HAR.out.below hbw (by omega)).int_ hlt
          have hyb := HOK.out a haN y (by rw [preds_of HX.out, if_neg HK0.out]; exact List.mem_of_getElem? hy)
          obtain ⟨q, rfl⟩ := Int.eq_ofNat_of_zero_le hyb.1
          have hqN : q < bs.length := by have := hyb.2; omega
          have HY := Lib.hid hy
          obtain ⟨hv1, hv2⟩ := usesO_in HE.out hqN
          have HV1 := Lib.hid hv1
          have HV2 := Lib.hid hv2
          have hvl := usesL_len bs q
          clear hy hyb hv1 hv2
          go_wp2_with fail
          go_at_call 14
          refine (uses_any ⟨A1, ps, c1, (some ⟨b, off, none⟩), bs, c2, A3, os, c3⟩ (q : Int) w.heap.size wr XR.out.le (XR.out.dg HD.out) XR.out.tab).mono ?_
          rintro e w6 ⟨v6, rfl, hown6, hb6⟩
          dsimp only at hown6 ⊢
          rw [HV2.out] at hown6
          rw [HV1.out, errV_0]
          have X6 := Lib.hid (XR.out.next hb6)
          have R6 := Lib.hid (RT.out.call hb6)
          have B6 := Lib.hid (hbw.trans (hb6.mono (Nat.le_of_lt zg)))
          have O6 := Lib.hid (hown6.base_ (show w4.heap.size + 1 ≤ wr.heap.size from zg))
          obtain ⟨V6, vc6, rfl, _, _⟩ := hown6.view
          obtain ⟨F, hF⟩ : ∃ F, F = dpF bs (mark0 bs a) args t := ⟨_, rfl⟩
          have HFN := Lib.hid (show F.length = bs.length by rw [hF, dpF_len]; simp [mark0])
          rw [← hF] at R6
          have HFS := Lib.hid (show dpF bs (mark0 bs a) args (t + 1) = setsT (usesL bs q) F (usesL bs q).length by rw [hF]; show setsT (usesL bs (args[t]?.getD 0).toNat) _ (usesL bs (args[t]?.getD 0).toNat).length = _; rw [HY.out]; rfl)
          clear hown6 hb6 hF f0 f1 f2 zr zg gy hbw XR RT
          go_wp2_with fail
          go_loopw [89] (fun v wr => dpB w wm ⟨A1, ps, c1, (some ⟨b, off, none⟩), bs, c2, A3, os, c3⟩ w4.heap.size (.slice V6 (usesL bs q).length vc6) (usesL bs q) F v wr) (fun v _ => (usesL bs q).length - (intOf v).toNat)
          case atStart => exact ⟨0, Nat.zero_le _, rfl, X6.out, R6.out, B6.out, O6.out⟩
          case round =>
            as_aux_lemma =>
            clear X6 R6 B6 O6
            obtain ⟨p, hp, rfl, hx, hr, hbw, hown⟩ := hrel
            have XR := Lib.hid hx
            have RT := Lib.hid hr
            have OW := Lib.hid hown
            have zg : w4.heap.size < wr.heap.size := hr.lt
            have zr : w.heap.size < wr.heap.size := hx.lt
            have hgf2 := hr.free
            clear hx hr hown
            by_cases hlp : p < (usesL bs q).length
            · have hpi : (p : Int) < ((usesL bs q).length : Int) := by omega
              obtain ⟨xb, xo, x, rfl, hxb, hxb2, hxx, gx⟩ := OW.out.cells.int_ hlp
              have hxr := usesL_in (List.mem_of_getElem? hxx)
              obtain ⟨x, rfl⟩ := Int.eq_ofNat_of_zero_le hxr.1
              have hxN : x < bs.length := by have := hxr.2; omega
              have hxI : (x : Int) < (bs.length : Int) := hxr.2
              have HSX := Lib.hid (setsT_succ (c := F) hxx)
              have hcx : wr.cell? ⟨w4.heap.size, x, none⟩ = some (.bool (isM (setsT (usesL bs q) F p) x)) := by rw [RT.out.cell, bools_get (by rw [setsT_len, HFN.out]; exact hxN)]
              clear hxx hxr
              go_wp2_with fail
              all_goals try (exfalso; omega)
              exact ⟨⟨p + 1, by omega, by go_num, XR.out.set (g := w4.heap.size) (by omega) x (.bool true), by rw [HSX.out, Int.toNat_natCast, bools_set]; exact RT.out.set_ x (.bool true), hbw.setCell (p := ⟨w4.heap.size, x, none⟩) (Nat.le_refl _) _, OW.out.setLow (by omega) x _⟩, by simp [intOf]; omega⟩
            · have hle : ¬ (p : Int) < ((usesL bs q).length : Int) := by omega
              have e : p = (usesL bs q).length := by omega
              subst e
              go_wp2_with fail
              exact ⟨⟨t + 1, by omega, by go_num, XR.out, by rw [HFS.out]; exact RT.out, hbw⟩, by simp [intOf]; omega⟩
        · have e : t = args.length := by omega
          subst e
          have RF : Hid (RowD wr w4.heap.size (bools (usesM bs a)) 4) := by rw [← dp_end HOK.out haN, HS0.out]; exact RT
          have HCW := Lib.hid (HCV.out.below hbw (Nat.le_refl _))
          have hlgr : w4.heap.size < wr.heap.size := zg
          clear RT hbw f0 f1 f2
          go_wp2_with fail
          obtain ⟨M, hM⟩ : ∃ M, M = usesM bs a := ⟨_, rfl⟩
          have HM := Lib.hid hM
          have HML := Lib.hid (show M.length = bs.length by rw [hM]; exact usesM_len bs a)
          rw [← hM] at RF
          have HUL := Lib.hid (show usesL bs a = natI (fl (isM M) bs.length) by rw [← HML.out, hM]; rfl)
          have HULn := Lib.hid (show (usesL bs a).length = (fl (isM M) bs.length).length by rw [HUL.out, natI_len])
          clear hM
          go_loopw [16, 108] (fun v16 v w9 => dp3 wr M bs.length v16 v w9) (fun _ v _ => bs.length - (intOf v).toNat)
          case atStart => exact ⟨0, Nat.zero_le _, rfl, rfl, rfl⟩
          case round =>
            obtain ⟨wo, rfl⟩ : ∃ wo : World, wo = wr := ⟨_, rfl⟩
            obtain ⟨k, hk, rfl, rfl, rfl⟩ := hrel
            by_cases hlt : k < bs.length
            · have hki : (k : Int) < (bs.length : Int) := by omega
              have hck : wo.cell? ⟨w4.heap.size, k, none⟩ = some (.bool (isM M k)) := by rw [RF.out.cell, bools_get (by rw [HML.out]; exact hlt)]
              obtain ⟨c, hc⟩ : ∃ c, c = (fl (isM M) k).length := ⟨_, rfl⟩
              have HC := Lib.hid hc
              rw [← hc]
              cases hmk : isM M k with
              | true =>
                rw [hmk] at hck
                have hat := fl_at (p := isM M) hmk bs.length hlt
                rw [← hc] at hat
                have hcl := (List.getElem?_eq_some_iff.1 hat).1
                have hcu : c < (usesL bs a).length := by rw [HULn.out]; exact hcl
                have hcui : (c : Int) < ((usesL bs a).length : Int) := by omega
                obtain ⟨ub, uo, y, rfl, hub, hub2, hy, gy⟩ := HCW.out.int_ hcu
                rw [HUL.out, natI_get, hat] at hy
                simp only [Option.map_some, Option.some.injEq] at hy
                subst hy
                have hnx := Lib.hid (show (fl (isM M) (k + 1)).length = c + 1 by rw [fl_hit hmk, List.length_append, ← hc]; rfl)
                have hc6 : c ≤ 1000000 := by omega
                clear hc hat hcl hmk
                go_wp2_with fail
                all_goals try (exfalso; omega)
                exact ⟨⟨k + 1, by omega, by go_num, by rw [hnx.out]; go_num, rfl⟩, by simp [intOf]; omega⟩
              | false =>
                rw [hmk] at hck
                have hnx := Lib.hid (show (fl (isM M) (k + 1)).length = c by rw [fl_no hmk, ← hc])
                clear hc hmk
                go_wp2_with fail
                exact ⟨⟨k + 1, by omega, by go_num, by rw [hnx.out], rfl⟩, by simp [intOf]; omega⟩
            · have e : k = bs.length := by omega
              subst e
              rw [← HULn.out]
              go_wp2_with fail
              go_ret
              exact ⟨rfl, XR.out.bel⟩
theorem diagramDepends_walk (A1 : Option Addr) (ps : List Prt) (c1 : Nat) (A2 : Option Addr) (bs : List Bk) (c2 : Nat) (A3 : Option Addr) (os : List Int) (c3 : Nat) (z : Int) (hz0 : 0 ≤ z) (hz1 : z ≤ 255) (w : World) (hi : DgIn w ⟨A1, ps, c1, A2, bs, c2, A3, os, c3⟩) (ht : TabAt w) : Calls Tryd.prog 6 #[.agg #[.slice A1 ps.length c1, .slice A2 bs.length c2, .slice A3 os.length c3], .int .u8 z] w fun e w' => e = .returned (.bool true) ∧ Below w.heap.size w w' := by
  cases hl : lightG ⟨A1, ps, c1, A2, bs, c2, A3, os, c3⟩ with
  | false => exact dep_heavy A1 ps c1 A2 bs c2 A3 os c3 z w hi ht hl
  | true =>
    by_cases he : dgErr ps bs os = 0
    · by_cases hn : bs.length = 0
      · exact dep_nil A1 ps c1 A2 bs c2 A3 os c3 z w hi ht hl he hn
      · exact dep_good A1 ps c1 A2 bs c2 A3 os c3 z w hi ht hl hz0 hz1 he (by omega)
    · exact dep_bad A1 ps c1 A2 bs c2 A3 os c3 z w hi ht hl he

set_option maxRecDepth 100000 in
set_option maxHeartbeats 4000000 in
theorem diagramDepends_lifted (os : Os) (started : os.Started) (H : Type) (enc : TypeId × Value → H) :
    ReturnsInHanded {} Tryd.checked os 6 .any (fun w args => (Rows.diagramDependsSpec.pre enc Tryd.prog Tryd.f6 [] false w args ∧ laidMetH Tryd.prog laidT w) ∧ sizedMet enc Tryd.prog Tryd.f6 (OpenSpec.ofChange Rows.diagramDependsSpec) false w args)
      (Rows.diagramDependsSpec.post enc Tryd.prog Tryd.f6 false true false false) := by
  refine law_lift_laid (C := Tryd.checked) (T := 4) own started (by kernel_rfl) Tryd.func6
    (ChangeSpec.witness_shaped (enc := enc) (C := Tryd.checked) (os := os) (X := fun w _ => laidMetH Tryd.prog laidT w) false (World.doorLaid Tryd.prog 400 os) #[.agg #[.slice none 0 0, .slice none 0 0, .slice none 0 0], .int .u8 0] 8 rfl (door_shaped os _) (by kernel_rfl) (by kernel_rfl) (by kernel_rfl) (door_met os _))
    laidOut (by kernel_rfl) rfl Tryd.underlying4 (by kernel_rfl) ?_ ?_
  · intro ds h
    match ds, h with
    | [d1, d2], _ => exact ⟨rfl, rfl, rfl⟩
  · intro W base args ds p hval0 hA0 _ hsz0 hL
    have ht := tab_of hL
    have hval : ∀ (j : Nat) t v, Tryd.f6.params[j]? = some t → args[j]? = some v → Value.okWide Tryd.prog W .any base t v := hval0
    have hA : DataW.TrodAll enc Tryd.prog W 0 (fun _ => true) true Tryd.f6.params.toList args.toList ds p := hA0
    clear hsz0 hL
    rw [Tryd.params6] at hA hval
    obtain ⟨v0, vs0, d0, ds0, p0, q0, hargs, rfl, rfl, h0, r0⟩ := trodAll_cons hA
    obtain ⟨v1, vs1, d1, ds1, p1, q1, rfl, rfl, rfl, h1, r1⟩ := trodAll_cons r0
    obtain ⟨rfl, rfl, rfl⟩ := trodAll_nil r1
    obtain rfl : args = #[v0, v1] := by cases args; simp_all
    obtain ⟨⟨A1, ps, c1, A2, bs, c2, A3, os, c3⟩, rfl, hin⟩ := open_dg (hval 0 26 v0 rfl rfl) h0
    obtain ⟨z, rfl, rfl, rfl, hzb⟩ := open_int Tryd.underlying5 (hval 1 5 v1 rfl rfl) h1
    obtain ⟨hz0, hz1⟩ := bounds_u8 hzb
    exact diagramDepends_walk A1 ps c1 A2 bs c2 A3 os c3 z hz0 hz1 W hin ht
theorem diagramDepends_row : Rows.DiagramDependsSaid :=
  OpenClaim.holds_of_wide 6 Tryd.f6 rfl rfl rfl rfl rfl rfl rfl ⟨rfl, rfl, rfl, rfl, rfl⟩ rfl rfl rfl rfl rfl (by kernel_rfl) Tryd.func6 (by kernel_rfl)
    (of_decide_eq_true (by kernel_rfl)) (by unfold Func.isWrapper; first | (rw [if_pos (by decide +kernel)]; kernel_rfl) | (rw [if_neg (by decide +kernel)]; exact ⟨rfl, rfl⟩))
    (fun os started H enc _ => diagramDepends_lifted os started H enc)
theorem diagramDepends_holds : Rows.DiagramDependsCardSaid :=
  Claim7.holds_tied_plain_at .later [] [.data] true (true, "d4523cc579fb41ec178fce1dad4bb0eaaa70277df7fec9a2fbd66a268b8bd742") true
    diagramDepends_row (fun _ h => by cases h) (by kernel_rfl) (fun _ h => by cases h) diagramDepends_row_tie rfl ⟨rfl, rfl⟩ (by kernel_rfl) rfl
    (fun f fn hf hfn => by
      obtain rfl : f = 6 := Option.some.inj ((show Tryd.prog.funcNamed "commutator/commutatorlaw10.DiagramDepends" = some 6 by kernel_rfl).symm.trans hf) |>.symm
      obtain rfl : fn = Tryd.f6 := (Option.some.inj (Tryd.func6.symm.trans hfn)).symm
      exact ⟨by kernel_rfl, fun j t ht => by
        rw [Tryd.params6] at ht
        have hm : t ∈ [26, 5] := by simpa using Array.mem_of_getElem? ht
        have hall : ([26, 5].all fun u => !Tryd.prog.wantsStandIn u) = true := by kernel_rfl
        exact (show Tryd.prog.wantsStandIn t = false by simpa using List.all_eq_true.1 hall t hm)⟩)
    (by kernel_rfl)
#print axioms diagramDepends_holds

end Go.Proofs.YtaheedieingpiaaDoor
