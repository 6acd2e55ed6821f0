/- ScalesMoves: for every diagram and all numbers the law returns true: equal scales need shifts only where a port has another one; one scale changed changes their number by at most its arguments and its uses. No conditions. -/
import Derived.Test.YtejnnljjmafjaaaDoorScP
namespace Go.Proofs.YtejnnljjmafjaaaDoor
set_option linter.unusedVariables false
set_option linter.unusedSimpArgs false
set_option linter.unusedSectionVars false
open Go.ChangeShapes Go.WideShapes Go.ChangeAt Go.RowKit Go.Joins

set_option maxRecDepth 100000 in
set_option maxHeartbeats 4000000 in
theorem scmv_heavy (A1 : Option Addr) (ps : List Prt) (c1 : Nat) (A2 : Option Addr) (bs : List Bk) (c2 : Nat) (A3 : Option Addr) (os : List Int) (c3 : Nat) (z y : Int) (w : World) (hi : DgIn w ⟨A1, ps, c1, A2, bs, c2, A3, os, c3⟩) (ht : TabAt w) (hl : lightG ⟨A1, ps, c1, A2, bs, c2, A3, os, c3⟩ = false) : Calls Tryd.prog 4 #[.agg #[.slice A1 ps.length c1, .slice A2 bs.length c2, .slice A3 os.length c3], .int .u8 z, .int .u8 y] w fun e w' => e = .returned (.bool true) ∧ Below w.heap.size w w' := by
  have HI := Lib.hid hi
  have HT := Lib.hid ht
  clear hi ht
  have HL := Lib.hid hl
  clear hl
  have X0 := Lib.hid (Lx.start w ⟨A1, ps, c1, A2, bs, c2, A3, os, c3⟩ HT.out)
  go_enter Tryd.func4, Tryd.ntmps4
  go_wp2_with fail
  go_at_call 9
  refine (awake13_any _ X0.out.tab).mono ?_
  rintro e w1 ⟨rfl, hb⟩
  have X1 := Lib.hid (X0.out.next hb)
  clear hb
  have f0 : w1.cell? ⟨w.heap.size, 0, none⟩ = some (.slice A1 ps.length c1) := X1.out.c0
  have f1 : w1.cell? ⟨w.heap.size, 1, none⟩ = some (.slice A2 bs.length c2) := X1.out.c1
  have f2 : w1.cell? ⟨w.heap.size, 2, none⟩ = some (.slice A3 os.length c3) := X1.out.c2
  have z1 : w.heap.size < w1.heap.size := X1.out.lt
  go_wp2_with fail
  go_at_call 15
  refine (light_any ⟨A1, ps, c1, A2, bs, c2, A3, os, c3⟩ _ w X1.out.bel HI.out).mono ?_
  rintro e w2 ⟨rfl, hb⟩
  have X2 := Lib.hid (X1.out.next hb)
  rw [HL.out]
  clear hb
  clear f0 f1 f2
  have f0 : w2.cell? ⟨w.heap.size, 0, none⟩ = some (.slice A1 ps.length c1) := X2.out.c0
  have f1 : w2.cell? ⟨w.heap.size, 1, none⟩ = some (.slice A2 bs.length c2) := X2.out.c1
  have f2 : w2.cell? ⟨w.heap.size, 2, none⟩ = some (.slice A3 os.length c3) := X2.out.c2
  have z2 : w.heap.size < w2.heap.size := X2.out.lt
  go_wp2_with fail
  go_at_call 9
  refine (awake13_any _ X2.out.tab).mono ?_
  rintro e w3 ⟨rfl, hb⟩
  have X3 := Lib.hid (X2.out.next hb)
  clear hb
  clear f0 f1 f2
  have f0 : w3.cell? ⟨w.heap.size, 0, none⟩ = some (.slice A1 ps.length c1) := X3.out.c0
  have f1 : w3.cell? ⟨w.heap.size, 1, none⟩ = some (.slice A2 bs.length c2) := X3.out.c1
  have f2 : w3.cell? ⟨w.heap.size, 2, none⟩ = some (.slice A3 os.length c3) := X3.out.c2
  have z3 : w.heap.size < w3.heap.size := X3.out.lt
  go_wp2_with fail
  go_ret
  exact ⟨rfl, X3.out.bel⟩
set_option maxRecDepth 100000 in
set_option maxHeartbeats 4000000 in
theorem scmv_bad (A1 : Option Addr) (ps : List Prt) (c1 : Nat) (A2 : Option Addr) (bs : List Bk) (c2 : Nat) (A3 : Option Addr) (os : List Int) (c3 : Nat) (z y : Int) (w : World) (hi : DgIn w ⟨A1, ps, c1, A2, bs, c2, A3, os, c3⟩) (ht : TabAt w) (hl : lightG ⟨A1, ps, c1, A2, bs, c2, A3, os, c3⟩ = true) (he : ¬ dgErr ps bs os = 0) : Calls Tryd.prog 4 #[.agg #[.slice A1 ps.length c1, .slice A2 bs.length c2, .slice A3 os.length c3], .int .u8 z, .int .u8 y] w fun e w' => e = .returned (.bool true) ∧ Below w.heap.size w w' := by
  have HI := Lib.hid hi
  have HT := Lib.hid ht
  clear hi ht
  have HL := Lib.hid hl
  have HD := Lib.hid (HI.out.light13 hl)
  have h80 := (Lx.l80 hl).1
  have HAL := Lib.hid (Lx.l80 hl).2
  clear hl
  try dsimp only at h80
  obtain ⟨E, hE⟩ : ∃ E, dgErr ps bs os = E := ⟨_, rfl⟩
  rw [hE] at he
  have hEn : (E != 0) = true := by simpa using he
  have HE := Lib.hid hE
  clear hE he
  have X0 := Lib.hid (Lx.start w ⟨A1, ps, c1, A2, bs, c2, A3, os, c3⟩ HT.out)
  go_enter Tryd.func4, Tryd.ntmps4
  go_wp2_with fail
  go_at_call 9
  refine (awake13_any _ X0.out.tab).mono ?_
  rintro e w1 ⟨rfl, hb⟩
  have X1 := Lib.hid (X0.out.next hb)
  clear hb
  have f0 : w1.cell? ⟨w.heap.size, 0, none⟩ = some (.slice A1 ps.length c1) := X1.out.c0
  have f1 : w1.cell? ⟨w.heap.size, 1, none⟩ = some (.slice A2 bs.length c2) := X1.out.c1
  have f2 : w1.cell? ⟨w.heap.size, 2, none⟩ = some (.slice A3 os.length c3) := X1.out.c2
  have z1 : w.heap.size < w1.heap.size := X1.out.lt
  go_wp2_with fail
  go_at_call 15
  refine (light_any ⟨A1, ps, c1, A2, bs, c2, A3, os, c3⟩ _ w X1.out.bel HI.out).mono ?_
  rintro e w2 ⟨rfl, hb⟩
  have X2 := Lib.hid (X1.out.next hb)
  rw [HL.out]
  clear hb
  clear f0 f1 f2
  have f0 : w2.cell? ⟨w.heap.size, 0, none⟩ = some (.slice A1 ps.length c1) := X2.out.c0
  have f1 : w2.cell? ⟨w.heap.size, 1, none⟩ = some (.slice A2 bs.length c2) := X2.out.c1
  have f2 : w2.cell? ⟨w.heap.size, 2, none⟩ = some (.slice A3 os.length c3) := X2.out.c2
  have z2 : w.heap.size < w2.heap.size := X2.out.lt
  go_wp2_with fail
  go_at_call 16
  refine (rCheck_any ⟨A1, ps, c1, A2, bs, c2, A3, os, c3⟩ w.heap.size _ X2.out.le (X2.out.dg HD.out)).mono ?_
  rintro e w3 ⟨rfl, hb⟩
  have X3 := Lib.hid (X2.out.next hb)
  dsimp only
  rw [HE.out]
  clear hb
  clear f0 f1 f2
  have f0 : w3.cell? ⟨w.heap.size, 0, none⟩ = some (.slice A1 ps.length c1) := X3.out.c0
  have f1 : w3.cell? ⟨w.heap.size, 1, none⟩ = some (.slice A2 bs.length c2) := X3.out.c1
  have f2 : w3.cell? ⟨w.heap.size, 2, none⟩ = some (.slice A3 os.length c3) := X3.out.c2
  have z3 : w.heap.size < w3.heap.size := X3.out.lt
  go_wp2_with fail
  go_at_call 9
  refine (awake13_any _ X3.out.tab).mono ?_
  rintro e w4 ⟨rfl, hb⟩
  have X4 := Lib.hid (X3.out.next hb)
  clear hb
  clear f0 f1 f2
  have f0 : w4.cell? ⟨w.heap.size, 0, none⟩ = some (.slice A1 ps.length c1) := X4.out.c0
  have f1 : w4.cell? ⟨w.heap.size, 1, none⟩ = some (.slice A2 bs.length c2) := X4.out.c1
  have f2 : w4.cell? ⟨w.heap.size, 2, none⟩ = some (.slice A3 os.length c3) := X4.out.c2
  have z4 : w.heap.size < w4.heap.size := X4.out.lt
  go_wp2_with fail
  go_ret
  exact ⟨rfl, X4.out.bel⟩
set_option maxRecDepth 100000 in
set_option maxHeartbeats 4000000 in
theorem scmv_nil (A1 : Option Addr) (ps : List Prt) (c1 : Nat) (A2 : Option Addr) (bs : List Bk) (c2 : Nat) (A3 : Option Addr) (os : List Int) (c3 : Nat) (z y : Int) (w : World) (hi : DgIn w ⟨A1, ps, c1, A2, bs, c2, A3, os, c3⟩) (ht : TabAt w) (hl : lightG ⟨A1, ps, c1, A2, bs, c2, A3, os, c3⟩ = true) (he : dgErr ps bs os = 0) (hz : ((bs.length : Int) == 0) = true) : Calls Tryd.prog 4 #[.agg #[.slice A1 ps.length c1, .slice A2 bs.length c2, .slice A3 os.length c3], .int .u8 z, .int .u8 y] w fun e w' => e = .returned (.bool true) ∧ Below w.heap.size w w' := by
  have HI := Lib.hid hi
  have HT := Lib.hid ht
  clear hi ht
  have HL := Lib.hid hl
  have HD := Lib.hid (HI.out.light13 hl)
  have h80 := (Lx.l80 hl).1
  have HAL := Lib.hid (Lx.l80 hl).2
  clear hl
  try dsimp only at h80
  have HE := Lib.hid he
  clear he
  have X0 := Lib.hid (Lx.start w ⟨A1, ps, c1, A2, bs, c2, A3, os, c3⟩ HT.out)
  go_enter Tryd.func4, Tryd.ntmps4
  go_wp2_with fail
  go_at_call 9
  refine (awake13_any _ X0.out.tab).mono ?_
  rintro e w1 ⟨rfl, hb⟩
  have X1 := Lib.hid (X0.out.next hb)
  clear hb
  have f0 : w1.cell? ⟨w.heap.size, 0, none⟩ = some (.slice A1 ps.length c1) := X1.out.c0
  have f1 : w1.cell? ⟨w.heap.size, 1, none⟩ = some (.slice A2 bs.length c2) := X1.out.c1
  have f2 : w1.cell? ⟨w.heap.size, 2, none⟩ = some (.slice A3 os.length c3) := X1.out.c2
  have z1 : w.heap.size < w1.heap.size := X1.out.lt
  go_wp2_with fail
  go_at_call 15
  refine (light_any ⟨A1, ps, c1, A2, bs, c2, A3, os, c3⟩ _ w X1.out.bel HI.out).mono ?_
  rintro e w2 ⟨rfl, hb⟩
  have X2 := Lib.hid (X1.out.next hb)
  rw [HL.out]
  clear hb
  clear f0 f1 f2
  have f0 : w2.cell? ⟨w.heap.size, 0, none⟩ = some (.slice A1 ps.length c1) := X2.out.c0
  have f1 : w2.cell? ⟨w.heap.size, 1, none⟩ = some (.slice A2 bs.length c2) := X2.out.c1
  have f2 : w2.cell? ⟨w.heap.size, 2, none⟩ = some (.slice A3 os.length c3) := X2.out.c2
  have z2 : w.heap.size < w2.heap.size := X2.out.lt
  go_wp2_with fail
  go_at_call 16
  refine (rCheck_any ⟨A1, ps, c1, A2, bs, c2, A3, os, c3⟩ w.heap.size _ X2.out.le (X2.out.dg HD.out)).mono ?_
  rintro e w3 ⟨rfl, hb⟩
  have X3 := Lib.hid (X2.out.next hb)
  dsimp only
  rw [HE.out]
  clear hb
  clear f0 f1 f2
  have f0 : w3.cell? ⟨w.heap.size, 0, none⟩ = some (.slice A1 ps.length c1) := X3.out.c0
  have f1 : w3.cell? ⟨w.heap.size, 1, none⟩ = some (.slice A2 bs.length c2) := X3.out.c1
  have f2 : w3.cell? ⟨w.heap.size, 2, none⟩ = some (.slice A3 os.length c3) := X3.out.c2
  have z3 : w.heap.size < w3.heap.size := X3.out.lt
  go_wp2_with fail
  go_at_call 9
  refine (awake13_any _ X3.out.tab).mono ?_
  rintro e w4 ⟨rfl, hb⟩
  have X4 := Lib.hid (X3.out.next hb)
  clear hb
  clear f0 f1 f2
  have f0 : w4.cell? ⟨w.heap.size, 0, none⟩ = some (.slice A1 ps.length c1) := X4.out.c0
  have f1 : w4.cell? ⟨w.heap.size, 1, none⟩ = some (.slice A2 bs.length c2) := X4.out.c1
  have f2 : w4.cell? ⟨w.heap.size, 2, none⟩ = some (.slice A3 os.length c3) := X4.out.c2
  have z4 : w.heap.size < w4.heap.size := X4.out.lt
  go_wp2_with fail
  go_ret
  exact ⟨rfl, X4.out.bel⟩
set_option maxRecDepth 100000 in
set_option maxHeartbeats 4000000 in
theorem scmv_good (A1 : Option Addr) (ps : List Prt) (c1 : Nat) (A2 : Option Addr) (bs : List Bk) (c2 : Nat) (A3 : Option Addr) (os : List Int) (c3 : Nat) (z y : Int) (w : World) (hi : DgIn w ⟨A1, ps, c1, A2, bs, c2, A3, os, c3⟩) (ht : TabAt w) (hl : lightG ⟨A1, ps, c1, A2, bs, c2, A3, os, c3⟩ = true) (hz0 : 0 ≤ z) (hz1 : z ≤ 255) (hy0 : 0 ≤ y) (hy1 : y ≤ 255) (he : dgErr ps bs os = 0) (hn : 0 < bs.length) : Calls Tryd.prog 4 #[.agg #[.slice A1 ps.length c1, .slice A2 bs.length c2, .slice A3 os.length c3], .int .u8 z, .int .u8 y] w fun e w' => e = .returned (.bool true) ∧ Below w.heap.size w w' := by
  have HI := Lib.hid hi
  have HT := Lib.hid ht
  clear hi ht
  have HL := Lib.hid hl
  have HD := Lib.hid (HI.out.light13 hl)
  have h80 := (Lx.l80 hl).1
  have HAL := Lib.hid (Lx.l80 hl).2
  clear hl
  try dsimp only at h80
  have HE := Lib.hid he
  clear he
  have hni : (0 : Int) < (bs.length : Int) := by omega
  have hnz : ((bs.length : Int) == 0) = false := by simpa using (by omega : ¬ bs.length = 0)
  obtain ⟨j0, hj, ho0, ho1, ho2⟩ := info_parts info_int
  obtain ⟨a, ha⟩ : ∃ a : Nat, y % (bs.length : Int) = (a : Int) := ⟨(y % (bs.length : Int)).toNat, by have := Int.emod_nonneg y (show (bs.length : Int) ≠ 0 by omega); omega⟩
  have haN : a < bs.length := by have := Int.emod_lt_of_pos y hni; omega
  have haI : (a : Int) < (bs.length : Int) := by omega
  have HA := Lib.hid ha
  clear ha
  obtain ⟨f, hf⟩ : ∃ f, f = z % 31 := ⟨_, rfl⟩
  have hfa : 0 ≤ f := by omega
  have hfb : f < 31 := by omega
  have HFZ := Lib.hid hf
  clear hf
  have X0 := Lib.hid (Lx.start w ⟨A1, ps, c1, A2, bs, c2, A3, os, c3⟩ HT.out)
  go_enter Tryd.func4, Tryd.ntmps4
  go_wp2_with fail
  go_at_call 9
  refine (awake13_any _ X0.out.tab).mono ?_
  rintro e w1 ⟨rfl, hb⟩
  have X1 := Lib.hid (X0.out.next hb)
  clear hb
  have f0 : w1.cell? ⟨w.heap.size, 0, none⟩ = some (.slice A1 ps.length c1) := X1.out.c0
  have f1 : w1.cell? ⟨w.heap.size, 1, none⟩ = some (.slice A2 bs.length c2) := X1.out.c1
  have f2 : w1.cell? ⟨w.heap.size, 2, none⟩ = some (.slice A3 os.length c3) := X1.out.c2
  have z1 : w.heap.size < w1.heap.size := X1.out.lt
  go_wp2_with fail
  go_at_call 15
  refine (light_any ⟨A1, ps, c1, A2, bs, c2, A3, os, c3⟩ _ w X1.out.bel HI.out).mono ?_
  rintro e w2 ⟨rfl, hb⟩
  have X2 := Lib.hid (X1.out.next hb)
  rw [HL.out]
  clear hb
  clear f0 f1 f2
  have f0 : w2.cell? ⟨w.heap.size, 0, none⟩ = some (.slice A1 ps.length c1) := X2.out.c0
  have f1 : w2.cell? ⟨w.heap.size, 1, none⟩ = some (.slice A2 bs.length c2) := X2.out.c1
  have f2 : w2.cell? ⟨w.heap.size, 2, none⟩ = some (.slice A3 os.length c3) := X2.out.c2
  have z2 : w.heap.size < w2.heap.size := X2.out.lt
  go_wp2_with fail
  go_at_call 16
  refine (rCheck_any ⟨A1, ps, c1, A2, bs, c2, A3, os, c3⟩ w.heap.size _ X2.out.le (X2.out.dg HD.out)).mono ?_
  rintro e w3 ⟨rfl, hb⟩
  have X3 := Lib.hid (X2.out.next hb)
  dsimp only
  rw [HE.out]
  clear hb
  clear f0 f1 f2
  have f0 : w3.cell? ⟨w.heap.size, 0, none⟩ = some (.slice A1 ps.length c1) := X3.out.c0
  have f1 : w3.cell? ⟨w.heap.size, 1, none⟩ = some (.slice A2 bs.length c2) := X3.out.c1
  have f2 : w3.cell? ⟨w.heap.size, 2, none⟩ = some (.slice A3 os.length c3) := X3.out.c2
  have z3 : w.heap.size < w3.heap.size := X3.out.lt
  go_wp2_with ((with_reducible refine wpList_make_full _ rfl (.tmp 42) (.tmp 42) 24 rfl w3.heap.size 3 j0 (.int .i64 0) 1 under_ints hj ho0 ho1 .i64 .i64 bs.length bs.length bs.length rfl rfl rfl rfl (by rw [ho2]; omega) (by unfold maxLen; omega) (by first | assumption | (simp; done) | (simp; omega)) ?_; intro wm hown hg); have hst : Below w3.heap.size w3 wm := (Below.refl _ _).grown hg (Nat.le_refl _) (fun k h => by simp at h); have hO := ownI_made hown; have HO := Lib.hid hO; have XM := Lib.hid (X3.out.next hst); have hgm : w3.heap.size < wm.heap.size := (rowD_of hown).lt; clear hown hg hO hst)
  obtain ⟨g, hg⟩ : ∃ g, g = w3.heap.size := ⟨_, rfl⟩
  rw [← hg] at HO hgm
  rw [← hg]
  have hgw : w.heap.size < g := by omega
  clear hg f0 f1 f2
  go_loopw [46] (fun i wr => mv1 wm g g bs.length bs.length f i wr) (fun i _ => bs.length - (intOf i).toNat)
  case atStart => exact ⟨0, Nat.zero_le _, rfl, by rw [mix_zero]; exact HO.out, Below.refl _ _⟩
  case round =>
    clear HO
    obtain ⟨k, hk, rfl, hown, hb⟩ := hrel
    have hml : (mix (List.replicate bs.length f) (List.replicate bs.length 0) k).length = bs.length := by rw [mix_len (by simp) (by simpa using hk)]; simp
    by_cases hlt : k < bs.length
    · have hki : (k : Int) < (bs.length : Int) := by omega
      have gz : wr.cell? ⟨g, k, none⟩ = some (.int .i64 0) := hown.cellA (mix_get (by simp) (by rw [List.getElem?_replicate]; exact if_pos hlt))
      have gf := hown.freeA hml.symm k
      have HO2 := Lib.hid (hown.put hml.symm k f)
      have HBB := Lib.hid hb
      clear hown hml hb
      go_wp2_with fail
      try rw [← HFZ.out]
      refine ⟨⟨k + 1, by omega, by go_num, ?_, HBB.out.setCell (Nat.le_refl _) _⟩, by simp [intOf]; omega⟩
      have := HO2.out
      rwa [mix_set (by simp) (show (List.replicate bs.length f)[k]? = some f by rw [List.getElem?_replicate]; exact if_pos hlt)] at this
    · have hall : mix (List.replicate bs.length f) (List.replicate bs.length 0) k = List.replicate bs.length f := mix_all (by simp) (by simp; omega)
      rw [hall] at hown
      have HO := Lib.hid hown
      have XR := Lib.hid (show Lx w wr ⟨A1, ps, c1, A2, bs, c2, A3, os, c3⟩ from ⟨XM.out.bel.trans (hb.mono (by omega)), XM.out.box.below hb (by omega), XM.out.tab.below hb (by omega)⟩)
      have hgr : g < wr.heap.size := by have := hb.size; omega
      clear hown hall hml hb XM
      have f1 : wr.cell? ⟨w.heap.size, 1, none⟩ = some (.slice A2 bs.length c2) := XR.out.c1
      go_wp2_with fail
      clear f1
      go_loopw [9, 59] (fun n i wq => mv2 wr ps bs f n i wq) (fun _ i _ => bs.length - (intOf i).toNat)
      case atStart => exact ⟨0, Nat.zero_le _, rfl, rfl, Below.refl _ _⟩
      case round =>
        obtain ⟨wo, rfl⟩ : ∃ wo : World, wo = wr := ⟨_, rfl⟩
        obtain ⟨k, hk, rfl, rfl, hb⟩ := hrel
        rename World => wq
        by_cases hlt2 : k < bs.length
        · have XQ := XR.out.next hb
          obtain ⟨b, off, kind, A, args, cap, vn, ve, un, ue, hA, hbm, hbs, hx, g0, g1, g2, g3, g4, g5, ha, hl⟩ := (XQ.dg HD.out).blk hlt2
          dsimp only at hA hx
          subst hA
          have hbe := blk_args (dgb HE.out hx)
          dsimp only at hbe
          have HAR := Lib.hid hbe.2.2
          have HAN := Lib.hid hbe.2.1
          have HX := Lib.hid hx
          have HAA := Lib.hid ha
          have hwk := wK_le ps bs f k
          obtain ⟨C, hC⟩ : ∃ q, q = wK ps bs f k := ⟨_, rfl⟩
          rw [← hC] at hwk
          rw [← hC]
          have HCN := Lib.hid hC
          have hki : (k : Int) < (bs.length : Int) := by omega
          have HB := Lib.hid hb
          have hwq : w.heap.size ≤ wq.heap.size := XQ.le
          have HXQ := Lib.hid XQ
          clear hx ha hl hbe hC hb XQ
          go_wp2_with fail
          obtain ⟨W, hW⟩ : ∃ W, W = wq.alloc (.cells #[.int .i64 kind, .slice A args.length cap, .int .i64 vn, .int .i64 ve, .int .i64 un, .int .i64 ue] 50) := ⟨_, rfl⟩
          obtain ⟨q, hq⟩ : ∃ q, q = wq.heap.size := ⟨_, rfl⟩
          have rW : RowD W q [.int .i64 kind, .slice A args.length cap, .int .i64 vn, .int .i64 ve, .int .i64 un, .int .i64 ue] 50 := by rw [hW, hq]; exact RowD.new_ _ _ _
          have bW : Below wq.heap.size wq W := by rw [hW]; exact al_ _ _
          rw [← hW, ← hq]
          have HBW := Lib.hid (HB.out.trans (bW.mono HB.out.size))
          have XW := HXQ.out.next bW
          have x0 : W.cell? ⟨w.heap.size, 0, none⟩ = some (.slice A1 ps.length c1) := XW.c0
          have k0 : W.cell? ⟨q, 0, none⟩ = some (.int .i64 kind) := rW.cell 0
          by_cases hk0 : kind = 0
          · subst hk0
            have h1 : arityM 0 = 1 := by decide
            have hal : args.length = 1 := by have := HAN.out; rw [h1] at this; omega
            obtain ⟨ab, ao, a', hA2, ham, has, hav, ga'⟩ := (HAA.out.below bW hwq).int_ (k := 0) (by omega)
            subst hA2
            have har := HAR.out a' (List.mem_of_getElem? hav)
            obtain ⟨a', rfl⟩ := Int.eq_ofNat_of_zero_le har.1
            have hap : a' < ps.length := by have := har.2; unfold mostM at this; rw [if_pos rfl] at this; omega
            have hai : (a' : Int) < (ps.length : Int) := by omega
            have ga : W.cell? ⟨ab, ao, none⟩ = some (.int .i64 (a' : Int)) := by simpa using ga'
            have hal0 : (0 : Int) < (args.length : Int) := by omega
            have k1 : W.cell? ⟨q, 1, none⟩ = some (.slice (some ⟨ab, ao, none⟩) args.length cap) := rW.cell 1
            obtain ⟨pb, po, p, hpA, hpm, hps, hp, hpc⟩ := (XW.dg HD.out).ps.row (s := 3) (fun _ => rfl) (by omega) hap
            dsimp only at hpA hp
            subst hpA
            have gp : W.cell? ⟨pb, po + a' * 3 + 2, none⟩ = some (.int .i64 p.fr) := hpc 2 _ rfl
            have HMV := Lib.hid (show mvB ps f _ = decide (p.fr ≠ f) from mvB_0 (b := ⟨0, some ⟨ab, ao, none⟩, args, cap, vn, ve, un, ue⟩) rfl hav hp)
            clear hW hq rW bW XW g0 g1 g2 g3 g4 g5 hal ga' hpc hp har hav
            by_cases hne : p.fr = f
            · have hnb : (p.fr != z % 31) = false := by rw [hne, HFZ.out]; simp
              have HM2 := Lib.hid (HMV.out.trans (decide_eq_false (not_not_intro hne)))
              clear hne
              go_wp2_with fail
              go_quiet (fail)
              go_wp2_with fail
              exact ⟨⟨k + 1, by omega, by go_num, by rw [wK_no HX.out HM2.out, ← HCN.out], by repeat (first | exact HBW.out | refine ext_drew ?_ | refine ext_drewN ?_ _)⟩, by simp [intOf]; omega⟩
            · have hnb : (p.fr != z % 31) = true := by rw [← HFZ.out]; simpa using hne
              have HM2 := Lib.hid (HMV.out.trans (decide_eq_true hne))
              clear hne
              go_wp2_with fail
              go_quiet (fail)
              go_wp2_with fail
              exact ⟨⟨k + 1, by omega, by go_num, by rw [wK_yes HX.out HM2.out, ← HCN.out]; go_num, by repeat (first | exact HBW.out | refine ext_drew ?_ | refine ext_drewN ?_ _)⟩, by simp [intOf]; omega⟩
          · have hkb : (kind == 0) = false := by simpa using hk0
            have HM2 := Lib.hid (show mvB ps f ⟨kind, A, args, cap, vn, ve, un, ue⟩ = false from mvB_n hk0)
            clear hk0 hW hq rW bW XW g0 g1 g2 g3 g4 g5
            go_wp2_with fail
            go_quiet (fail)
            go_wp2_with fail
            exact ⟨⟨k + 1, by omega, by go_num, by rw [wK_no HX.out HM2.out, ← HCN.out], by repeat (first | exact HBW.out | refine ext_drew ?_ | refine ext_drewN ?_ _)⟩, by simp [intOf]; omega⟩
        · obtain rfl : k = bs.length := by omega
          clear hk hlt2
          obtain ⟨xs, hxs⟩ : ∃ xs, xs = List.replicate bs.length f := ⟨_, rfl⟩
          rw [← hxs] at HO
          have hml : xs.length = bs.length := by rw [hxs]; simp
          have HXS := Lib.hid hxs
          obtain ⟨V, hV⟩ : ∃ V, V = wK ps bs f bs.length := ⟨_, rfl⟩
          have hVl : V ≤ bs.length := by rw [hV]; exact wK_le _ _ _ _
          rw [← hV]
          have HVK := Lib.hid (show shK ps bs xs bs.length = V by rw [hxs, hV]; exact shK_uni HE.out _ (Nat.le_refl _))
          clear hxs hV
          have hfe : fiE 0 bs.length xs = 0 := (if_pos rfl).trans (if_pos hml)
          have HSV := Lib.hid (show shV 0 ⟨A1, ps, c1, A2, bs, c2, A3, os, c3⟩ xs = (V : Int) by unfold shV; rw [if_pos hfe, ← HVK.out])
          have HFE := Lib.hid hfe
          clear hfe
          have XQ := Lib.hid (XR.out.next hb)
          have HOQ := Lib.hid (HO.out.call hb)
          have hgq : g < wq.heap.size := by have := hb.size; omega
          clear hb HO XR
          have f0 : wq.cell? ⟨w.heap.size, 0, none⟩ = some (.slice A1 ps.length c1) := XQ.out.c0
          have f1 : wq.cell? ⟨w.heap.size, 1, none⟩ = some (.slice A2 bs.length c2) := XQ.out.c1
          have f2 : wq.cell? ⟨w.heap.size, 2, none⟩ = some (.slice A3 os.length c3) := XQ.out.c2
          go_wp2_with fail
          go_at_call 17
          have hpf := pshifts_any ⟨A1, ps, c1, A2, bs, c2, A3, os, c3⟩ (some ⟨g, 0, none⟩) xs bs.length wq.heap.size _ (Nat.le_refl _) ((XQ.out.dg HD.out).more XQ.out.le) HOQ.out.cells (by omega) XQ.out.tab
          rw [hml] at hpf
          refine hpf.mono ?_
          rintro e wn ⟨rfl, hb⟩
          dsimp only
          rw [HE.out, HFE.out, HSV.out, errV_0]
          have XN := Lib.hid (XQ.out.next hb)
          have HON := Lib.hid (HOQ.out.call hb)
          have hgn : g < wn.heap.size := by have := hb.size; omega
          have hVV : ((V : Int) != (V : Int)) = false := by simp
          clear hb hpf XQ HOQ f0 f1 f2
          have hya := HA.out
          have gz : wn.cell? ⟨g, a, none⟩ = some (.int .i64 f) := HON.out.cellA (by rw [HXS.out, List.getElem?_replicate]; exact if_pos haN)
          have gf := HON.out.freeA hml.symm a
          have hw1 : IntKind.i64.wrap (f + 1) = f + 1 := IntWalk.i64_in _ (by omega)
          go_upto_region 21 with (fail)
          rw [HA.out]
          clear hya gz gf hw1
          obtain ⟨gv, hgv⟩ : ∃ q, q = (f + 1) % 31 := ⟨_, rfl⟩
          rw [← hgv]
          obtain ⟨W2, hW2⟩ : ∃ q, q = wn.setCell ⟨g, a, none⟩ (.int .i64 gv) := ⟨_, rfl⟩
          have XS := Lib.hid (show Lx w W2 ⟨A1, ps, c1, A2, bs, c2, A3, os, c3⟩ by rw [hW2]; exact XN.out.set hgw _ _)
          have OS := Lib.hid (show OwnI W2 g (.slice (some ⟨g, 0, none⟩) bs.length bs.length) (xs.set a gv) by rw [hW2]; exact HON.out.put hml.symm a gv)
          rw [← hW2]
          have hgW2 : g < W2.heap.size := by rw [hW2]; simpa using hgn
          clear hW2 hgv XN HON hgn
          obtain ⟨b, off, kind, A, args, cap, vn, ve, un, ue, hA, hbm, hbs, hx, g0, g1, g2, g3, g4, g5, ha, hl⟩ := (XS.out.dg HD.out).blk haN
          dsimp only at hA hx
          subst hA
          have f1 : W2.cell? ⟨w.heap.size, 1, none⟩ = some (.slice (some ⟨b, off, none⟩) bs.length c2) := XS.out.c1
          have HN0 := Lib.hid (show (bs[a]?.getD bk0).args.length = args.length by rw [hx]; rfl)
          have hn10 : args.length ≤ 10 := HAL.out _ (List.mem_of_getElem? hx)
          clear g0 g2 g3 g4 g5 ha hl hx
          go_wp2_with fail
          obtain ⟨N0, hN0⟩ : ∃ q, q = args.length := ⟨_, rfl⟩
          rw [← hN0] at HN0 hn10
          rw [← hN0]
          clear hN0 f1 g1 hbm hbs
          go_loopw [15, 121] (fun n i wq => mv3 W2 N0 bs a n i wq) (fun _ i _ => bs.length - (intOf i).toNat)
          case atStart => exact ⟨0, Nat.zero_le _, rfl, rfl, Below.refl _ _⟩
          case round =>
            obtain ⟨k, hk, rfl, rfl, hb⟩ := hrel
            rename World => wq
            by_cases hlt3 : k < bs.length
            · have XQ := XS.out.next hb
              obtain ⟨b', off', kind, A, args, cap, vn, ve, un, ue, hA, hbm, hbs, hx, g0, g1, g2, g3, g4, g5, ha, hl⟩ := (XQ.dg HD.out).blk hlt3
              cases hA
              dsimp only at hx
              have HX := Lib.hid hx
              have HAA := Lib.hid ha
              have hal := HAL.out _ (List.mem_of_getElem? hx)
              dsimp only at hal
              have hTl := TT_le (i0 := a) HAL.out k hk
              obtain ⟨S, hS⟩ : ∃ q, q = N0 + TT bs a k := ⟨_, rfl⟩
              rw [← hS]
              have hSl : S ≤ 1000 := by omega
              have HS := Lib.hid hS
              have hki : (k : Int) < (bs.length : Int) := by omega
              have HB := Lib.hid hb
              have hwq : w.heap.size ≤ wq.heap.size := XQ.le
              clear hx ha hl hS hb XQ hTl
              by_cases hk0 : kind = 0
              · have hkn : (kind != 0) = false := by simpa using hk0
                have HT0 := Lib.hid (show tB a ⟨kind, A, args, cap, vn, ve, un, ue⟩ = 0 from if_pos hk0)
                clear hk0
                go_wp2_with fail
                exact ⟨⟨k + 1, by omega, by go_num, by rw [TT_succ HX.out, HT0.out, Nat.add_zero, ← HS.out], HB.out.trans ((al_ _ _).mono HB.out.size)⟩, by simp [intOf]; omega⟩
              · have hkn : (kind != 0) = true := by simpa using hk0
                have HT0 := Lib.hid (show tB a ⟨kind, A, args, cap, vn, ve, un, ue⟩ = (args.filter (fun v => v == (a : Int))).length from if_neg hk0)
                clear hk0
                go_wp2_with fail
                obtain ⟨W, hW⟩ : ∃ W, W = wq.alloc (.cells #[.int .i64 kind, .slice A args.length cap, .int .i64 vn, .int .i64 ve, .int .i64 un, .int .i64 ue] 50) := ⟨_, rfl⟩
                have bW : Below wq.heap.size wq W := by rw [hW]; exact al_ _ _
                rw [← hW]
                have HBW := Lib.hid (HB.out.trans (bW.mono HB.out.size))
                have HAW := Lib.hid (HAA.out.below bW hwq)
                clear hW bW g0 g1 g2 g3 g4 g5
                go_loopw [15, 131] (fun n i w9 => mv4 W S a args n i w9) (fun _ i _ => args.length - (intOf i).toNat)
                case atStart => exact ⟨0, Nat.zero_le _, rfl, by simp, rfl⟩
                case round =>
                  obtain ⟨t, ht, rfl, rfl, rfl⟩ := hrel
                  have hcl : ((args.take t).filter (fun v => v == (a : Int))).length ≤ t := Nat.le_trans (List.length_filter_le _ _) (List.length_take_le _ _)
                  obtain ⟨C, hC⟩ : ∃ C, C = ((args.take t).filter (fun v => v == (a : Int))).length := ⟨_, rfl⟩
                  rw [← hC] at hcl
                  rw [← hC]
                  have HC := Lib.hid hC
                  clear hC
                  by_cases hta : t < args.length
                  · obtain ⟨ab, ao, v, hA2, ham, has, hav, ga⟩ := HAW.out.int_ hta
                    subst hA2
                    have HAV := Lib.hid hav
                    have hti : (t : Int) < (args.length : Int) := by omega
                    clear hav
                    by_cases hva : (v == (a : Int)) = true
                    · have HVA := Lib.hid hva
                      go_wp2_with fail
                      exact ⟨⟨t + 1, by omega, by go_num, by rw [cnt_yes HAV.out HVA.out, ← HC.out]; go_num, rfl⟩, by simp [intOf]; omega⟩
                    · have hva2 : (v == (a : Int)) = false := by simpa using hva
                      have HVA := Lib.hid hva2
                      clear hva
                      go_wp2_with fail
                      exact ⟨⟨t + 1, by omega, by go_num, by rw [cnt_no HAV.out HVA.out, ← HC.out], rfl⟩, by simp [intOf]; omega⟩
                  · have hke : args.take t = args := List.take_of_length_le (by omega)
                    have HC2 := Lib.hid (show C = tB a ⟨kind, A, args, cap, vn, ve, un, ue⟩ by rw [HC.out, hke, HT0.out])
                    clear hke
                    go_wp2_with fail
                    exact ⟨⟨k + 1, by omega, by go_num, by rw [TT_succ HX.out, ← HC2.out, ← Nat.add_assoc, ← HS.out], HBW.out⟩, by simp [intOf]; omega⟩
            · obtain rfl : k = bs.length := by omega
              clear hk hlt3
              have hTl := TT_le (i0 := a) HAL.out bs.length (Nat.le_refl _)
              obtain ⟨T, hT⟩ : ∃ q, q = N0 + TT bs a bs.length := ⟨_, rfl⟩
              rw [← hT]
              have hTl2 : T ≤ 1000 := by omega
              obtain ⟨ys, hys⟩ : ∃ q, q = xs.set a gv := ⟨_, rfl⟩
              rw [← hys] at OS
              have hml2 : ys.length = bs.length := by rw [hys]; simpa using hml
              obtain ⟨M, hM⟩ : ∃ q, q = shK ps bs ys bs.length := ⟨_, rfl⟩
              have m1 := shK_move (F := xs) (G := ys) (i0 := a) HE.out (fun j hj => by rw [hys]; exact set_ne j hj) bs.length (Nat.le_refl _)
              have m2 := shK_move (F := ys) (G := xs) (i0 := a) HE.out (fun j hj => by rw [hys]; exact (set_ne j hj).symm) bs.length (Nat.le_refl _)
              have hMl := shK_le (F := ys) HE.out bs.length (Nat.le_refl _)
              rw [if_pos haN, HN0.out, HVK.out, ← hM] at m1 m2
              rw [← hM] at hMl
              have hfe : fiE 0 bs.length ys = 0 := (if_pos rfl).trans (if_pos hml2)
              have HSM := Lib.hid (show shV 0 ⟨A1, ps, c1, (some ⟨b, off, none⟩), bs, c2, A3, os, c3⟩ ys = (M : Int) by unfold shV; rw [if_pos hfe, hM])
              have HFM := Lib.hid hfe
              have hd1 : decide ((M : Int) - (V : Int) ≤ (T : Int)) = true := decide_eq_true (by omega)
              have hd2 : decide ((V : Int) - (M : Int) ≤ (T : Int)) = true := decide_eq_true (by omega)
              have hw1 : IntKind.i64.wrap ((M : Int) - (V : Int)) = (M : Int) - (V : Int) := IntWalk.i64_in _ (by omega)
              have hw2 : IntKind.i64.wrap ((V : Int) - (M : Int)) = (V : Int) - (M : Int) := IntWalk.i64_in _ (by omega)
              have XQ := Lib.hid (XS.out.next hb)
              have HOQ := Lib.hid (OS.out.call hb)
              clear hfe hM m1 m2 hys hT hb hTl
              have f0 : wq.cell? ⟨w.heap.size, 0, none⟩ = some (.slice A1 ps.length c1) := XQ.out.c0
              have f1 : wq.cell? ⟨w.heap.size, 1, none⟩ = some (.slice (some ⟨b, off, none⟩) bs.length c2) := XQ.out.c1
              have f2 : wq.cell? ⟨w.heap.size, 2, none⟩ = some (.slice A3 os.length c3) := XQ.out.c2
              go_wp2_with fail
              go_at_call 17
              have hpf := pshifts_any ⟨A1, ps, c1, (some ⟨b, off, none⟩), bs, c2, A3, os, c3⟩ (some ⟨g, 0, none⟩) ys bs.length wq.heap.size _ (Nat.le_refl _) ((XQ.out.dg HD.out).more XQ.out.le) HOQ.out.cells (by omega) XQ.out.tab
              rw [hml2] at hpf
              refine hpf.mono ?_
              rintro e wz ⟨rfl, hb⟩
              dsimp only
              rw [HE.out, HFM.out, HSM.out, errV_0]
              have XZ := Lib.hid (XQ.out.next hb)
              clear hb hpf XQ HOQ f0 f1 f2
              go_wp2_with fail
              go_ret
              exact ⟨rfl, XZ.out.bel⟩
theorem scalesMoves_walk (A1 : Option Addr) (ps : List Prt) (c1 : Nat) (A2 : Option Addr) (bs : List Bk) (c2 : Nat) (A3 : Option Addr) (os : List Int) (c3 : Nat) (z : Int) (hz0 : 0 ≤ z) (hz1 : z ≤ 255) (y : Int) (hy0 : 0 ≤ y) (hy1 : y ≤ 255) (w : World) (hi : DgIn w ⟨A1, ps, c1, A2, bs, c2, A3, os, c3⟩) (ht : TabAt w) : Calls Tryd.prog 4 #[.agg #[.slice A1 ps.length c1, .slice A2 bs.length c2, .slice A3 os.length c3], .int .u8 z, .int .u8 y] w fun e w' => e = .returned (.bool true) ∧ Below w.heap.size w w' := by
  cases hl : lightG ⟨A1, ps, c1, A2, bs, c2, A3, os, c3⟩ with
  | false => exact scmv_heavy A1 ps c1 A2 bs c2 A3 os c3 z y w hi ht hl
  | true =>
    by_cases he : dgErr ps bs os = 0
    · by_cases hn : bs.length = 0
      · exact scmv_nil A1 ps c1 A2 bs c2 A3 os c3 z y w hi ht hl he (by rw [hn]; rfl)
      · exact scmv_good A1 ps c1 A2 bs c2 A3 os c3 z y w hi ht hl hz0 hz1 hy0 hy1 he (by omega)
    · exact scmv_bad A1 ps c1 A2 bs c2 A3 os c3 z y w hi ht hl he

set_option maxRecDepth 100000 in
set_option maxHeartbeats 4000000 in
theorem scalesMoves_lifted (os : Os) (started : os.Started) (H : Type) (enc : TypeId × Value → H) :
    ReturnsInHanded {} Tryd.checked os 4 .any (fun w args => (Rows.scalesMovesSpec.pre enc Tryd.prog Tryd.f4 [] false w args ∧ laidMetH Tryd.prog laidT w) ∧ sizedMet enc Tryd.prog Tryd.f4 (OpenSpec.ofChange Rows.scalesMovesSpec) false w args)
      (Rows.scalesMovesSpec.post enc Tryd.prog Tryd.f4 false true false false) := by
  refine law_lift_laid (C := Tryd.checked) (T := 4) own started (by kernel_rfl) Tryd.func4
    (ChangeSpec.witness_shaped (enc := enc) (C := Tryd.checked) (os := os) (X := fun w _ => laidMetH Tryd.prog laidT w) false (World.doorLaid Tryd.prog 400 os) #[.agg #[.slice none 0 0, .slice none 0 0, .slice none 0 0], .int .u8 0, .int .u8 0] 8 rfl (door_shaped os _) (by kernel_rfl) (by kernel_rfl) (by kernel_rfl) (door_met os _))
    laidOut (by kernel_rfl) rfl Tryd.underlying4 (by kernel_rfl) ?_ ?_
  · intro ds h
    match ds, h with
    | [d1, d2, d3], _ => exact ⟨rfl, rfl, rfl⟩
  · intro W base args ds p hval0 hA0 _ hsz0 hL
    have ht := tab_of hL
    have hval : ∀ (j : Nat) t v, Tryd.f4.params[j]? = some t → args[j]? = some v → Value.okWide Tryd.prog W .any base t v := hval0
    have hA : DataW.TrodAll enc Tryd.prog W 0 (fun _ => true) true Tryd.f4.params.toList args.toList ds p := hA0
    clear hsz0 hL
    rw [Tryd.params4] at hA hval
    obtain ⟨v0, vs0, d0, ds0, p0, q0, hargs, rfl, rfl, h0, r0⟩ := trodAll_cons hA
    obtain ⟨v1, vs1, d1, ds1, p1, q1, rfl, rfl, rfl, h1, r1⟩ := trodAll_cons r0
    obtain ⟨v2, vs2, d2, ds2, p2, q2, rfl, rfl, rfl, h2, r2⟩ := trodAll_cons r1
    obtain ⟨rfl, rfl, rfl⟩ := trodAll_nil r2
    obtain rfl : args = #[v0, v1, v2] := by cases args; simp_all
    obtain ⟨⟨A1, ps, c1, A2, bs, c2, A3, os, c3⟩, rfl, hin⟩ := open_dg (hval 0 26 v0 rfl rfl) h0
    obtain ⟨z, rfl, rfl, rfl, hzb⟩ := open_int Tryd.underlying5 (hval 1 5 v1 rfl rfl) h1
    obtain ⟨hz0, hz1⟩ := bounds_u8 hzb
    obtain ⟨y, rfl, rfl, rfl, hyb⟩ := open_int Tryd.underlying5 (hval 2 5 v2 rfl rfl) h2
    obtain ⟨hy0, hy1⟩ := bounds_u8 hyb
    exact scalesMoves_walk A1 ps c1 A2 bs c2 A3 os c3 z hz0 hz1 y hy0 hy1 W hin ht
theorem scalesMoves_row : Rows.ScalesMovesSaid :=
  OpenClaim.holds_of_wide 4 Tryd.f4 rfl rfl rfl rfl rfl rfl rfl ⟨rfl, rfl, rfl, rfl, rfl⟩ rfl rfl rfl rfl rfl (by kernel_rfl) Tryd.func4 (by kernel_rfl)
    (of_decide_eq_true (by kernel_rfl)) (by unfold Func.isWrapper; first | (rw [if_pos (by decide +kernel)]; kernel_rfl) | (rw [if_neg (by decide +kernel)]; exact ⟨rfl, rfl⟩))
    (fun os started H enc _ => scalesMoves_lifted os started H enc)
theorem scalesMoves_holds : Rows.ScalesMovesCardSaid :=
  Claim7.holds_tied_plain_at .later [] [.data] true (true, "ceb97b6710135aa47b784ff3ccc4d43c36e529616a739c760362e989b81859fe") true
    scalesMoves_row (fun _ h => by cases h) (by kernel_rfl) (fun _ h => by cases h) scalesMoves_row_tie rfl ⟨rfl, rfl⟩ (by kernel_rfl) rfl
    (fun f fn hf hfn => by
      obtain rfl : f = 4 := Option.some.inj ((show Tryd.prog.funcNamed "commutator/commutatorlaw13.ScalesMoves" = some 4 by kernel_rfl).symm.trans hf) |>.symm
      obtain rfl : fn = Tryd.f4 := (Option.some.inj (Tryd.func4.symm.trans hfn)).symm
      exact ⟨by kernel_rfl, fun j t ht => by
        rw [Tryd.params4] at ht
        have hm : t ∈ [26, 5, 5] := by simpa using Array.mem_of_getElem? ht
        have hall : ([26, 5, 5].all fun u => !Tryd.prog.wantsStandIn u) = true := by kernel_rfl
        exact (show Tryd.prog.wantsStandIn t = false by simpa using List.all_eq_true.1 hall t hm)⟩)
    (by kernel_rfl)
#print axioms scalesMoves_holds

end Go.Proofs.YtejnnljjmafjaaaDoor
