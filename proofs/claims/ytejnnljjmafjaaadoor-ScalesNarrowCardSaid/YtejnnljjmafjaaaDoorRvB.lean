/- Intervals as arguments: Norm, Point of the document. Conditions: lists of words not too long. The least interval that contains some numbers, as the document makes it. Conditions: lists not too long. -/
import Derived.Test.YtejnnljjmafjaaaDoorIvD
import Derived.Test.YtejnnljjmafjaaaDoorPvB
namespace Go.Proofs.YtejnnljjmafjaaaDoor
set_option linter.unusedVariables false
set_option linter.unusedSimpArgs false
set_option linter.unusedSectionVars false
open Go.RowKit

theorem res_rnormI {tmps : Array Value} {w : World} {b : Nat} {v0 v1 v2 v3 v4 v5 : Value} (h2 : tmps.getD 2 undef = .pointer (some ⟨b, 0, none⟩)) (hB : RowD w b [v0, v1, v2, v3, v4, v5] 41) :
    (results Tryd.f92 tmps).run Tryd.prog w = .ok (.agg #[v0, v1, v2, v3, v4, v5]) w := by
  have k0 := hB.cell 0
  have k1 := hB.cell 1
  have k2 := hB.cell 2
  have k3 := hB.cell 3
  have k4 := hB.cell 4
  have k5 := hB.cell 5
  simp at k0 k1 k2 k3 k4 k5
  simp at h2
  simp [results, Tryd.results92, go_sem, h2, k0, k1, k2, k3, k4, k5]
set_option maxRecDepth 100000 in
set_option maxHeartbeats 4000000 in
theorem rnormI_any (a : Iv) (m : Nat) (w : World) (hm : m ≤ w.heap.size) (h : IvAt w m a) (hv : ivB a = true) (l1 : a.lo.ws.length ≤ 50000) (l2 : a.hi.ws.length ≤ 50000) :
    Calls Tryd.prog 92 #[a.val] w fun e w' => e = .returned a.val ∧ Below w.heap.size w w' := by
  have hval := hv
  have H1 := Lib.hid h.lo
  have H2 := Lib.hid h.hi
  have HA := Lib.hid h
  have hp : ivP a := of_decide_eq_true hv
  have Y1 := Lib.hid (h.lo.dy hp.1)
  have Y2 := Lib.hid (h.hi.dy hp.2.1)
  have n1 : (canon a.lo.x.natAbs).length ≤ 50000 := by rw [rw_len h.lo hp.1]; exact l1
  have n2 : (canon a.hi.x.natAbs).length ≤ 50000 := by rw [rw_len h.hi hp.2.1]; exact l2
  have HV := Lib.hid hv
  clear h hv hval hp
  obtain ⟨x1, hx1⟩ : ∃ z, z = a.lo.x := ⟨_, rfl⟩
  obtain ⟨d1, hd1⟩ : ∃ z, z = a.lo.d := ⟨_, rfl⟩
  obtain ⟨x2, hx2⟩ : ∃ z, z = a.hi.x := ⟨_, rfl⟩
  obtain ⟨d2, hd2⟩ : ∃ z, z = a.hi.d := ⟨_, rfl⟩
  rw [← hx1] at n1
  rw [← hx2] at n2
  rw [← hx1, ← hd1] at Y1
  rw [← hx2, ← hd2] at Y2
  try rw [← hx1, ← hd1, ← hx2, ← hd2]
  clear hx1 hd1 hx2 hd2
  obtain ⟨⟨nb1, A1, ws1, c1, e1⟩, ⟨nb2, A2, ws2, c2, e2⟩⟩ := a
  dsimp only at l1 l2
  simp only [Iv.val]
  simp only [Rw.val] at Y1 Y2
  have b0 : Below w.heap.size w ((w.alloc (.cells #[.bool nb1, .slice A1 ws1.length c1, .int .i64 e1, .bool nb2, .slice A2 ws2.length c2, .int .i64 e2] 41)).alloc (.cells #[.bool false, .slice none 0 0, .int .i64 0, .bool false, .slice none 0 0, .int .i64 0] 41)) := ext_alloc (ext_alloc (Below.refl _ _) _) _
  have r0 := (RowD.new_ w [.bool nb1, .slice A1 ws1.length c1, .int .i64 e1, .bool nb2, .slice A2 ws2.length c2, .int .i64 e2] 41).call (al_ _ (.cells #[.bool false, .slice none 0 0, .int .i64 0, .bool false, .slice none 0 0, .int .i64 0] 41))
  have r1 := RowD.new_ (w.alloc (.cells #[.bool nb1, .slice A1 ws1.length c1, .int .i64 e1, .bool nb2, .slice A2 ws2.length c2, .int .i64 e2] 41)) [.bool false, .slice none 0 0, .int .i64 0, .bool false, .slice none 0 0, .int .i64 0] 41
  rw [show (w.alloc (.cells #[.bool nb1, .slice A1 ws1.length c1, .int .i64 e1, .bool nb2, .slice A2 ws2.length c2, .int .i64 e2] 41)).heap.size = w.heap.size + 1 by simp] at r1
  go_enter Tryd.func92, Tryd.ntmps92
  go_wp2_with fail
  go_at_call 65
  refine (rivalid_any ⟨⟨nb1, A1, ws1, c1, e1⟩, ⟨nb2, A2, ws2, c2, e2⟩⟩ m _ (by simp; omega) (HA.out.below b0 hm) l1 l2).mono ?_
  rintro e W ⟨rfl, hb1⟩
  rw [HV.out]
  have s0 := r0.call hb1
  have s1 := r1.call hb1
  have bW := b0.trans (hb1.mono (by simp; omega))
  have hWs : w.heap.size + 2 ≤ W.heap.size := by have := hb1.size; simpa using this
  have E1 := Y1.out.below bW hm
  have E2 := Y2.out.below bW hm
  clear r0 r1 b0 hb1
  have a0 : W.cell? ⟨w.heap.size, 0, none⟩ = some (.bool nb1) := s0.cell 0
  have a1 : W.cell? ⟨w.heap.size, 1, none⟩ = some (.slice A1 ws1.length c1) := s0.cell 1
  have a2 : W.cell? ⟨w.heap.size, 2, none⟩ = some (.int .i64 e1) := s0.cell 2
  have a3 : W.cell? ⟨w.heap.size, 3, none⟩ = some (.bool nb2) := s0.cell 3
  have a4 : W.cell? ⟨w.heap.size, 4, none⟩ = some (.slice A2 ws2.length c2) := s0.cell 4
  have a5 : W.cell? ⟨w.heap.size, 5, none⟩ = some (.int .i64 e2) := s0.cell 5
  have z0 : W.cell? ⟨w.heap.size + 1, 0, none⟩ = some (.bool false) := s1.cell 0
  have z1 : W.cell? ⟨w.heap.size + 1, 1, none⟩ = some (.slice none 0 0) := s1.cell 1
  have z2 : W.cell? ⟨w.heap.size + 1, 2, none⟩ = some (.int .i64 0) := s1.cell 2
  have z3 : W.cell? ⟨w.heap.size + 1, 3, none⟩ = some (.bool false) := s1.cell 3
  have z4 : W.cell? ⟨w.heap.size + 1, 4, none⟩ = some (.slice none 0 0) := s1.cell 4
  have z5 : W.cell? ⟨w.heap.size + 1, 5, none⟩ = some (.int .i64 0) := s1.cell 5
  have zf := s1.free
  have hz := s1.lt
  go_wp2_with fail
  exact bodyPost_ret (res_rnormI rfl (s1.set6 _ _ _ _ _ _)) rfl ⟨rfl, below_set6 bW (by omega) _ _ _ _ _ _⟩
theorem res_rPoint {tmps : Array Value} {w : World} {b : Nat} {v0 v1 v2 v3 v4 v5 : Value} (h2 : tmps.getD 2 undef = .pointer (some ⟨b, 0, none⟩)) (hB : RowD w b [v0, v1, v2, v3, v4, v5] 41) :
    (results Tryd.f72 tmps).run Tryd.prog w = .ok (.agg #[v0, v1, v2, v3, v4, v5]) w := by
  have k0 := hB.cell 0
  have k1 := hB.cell 1
  have k2 := hB.cell 2
  have k3 := hB.cell 3
  have k4 := hB.cell 4
  have k5 := hB.cell 5
  simp at k0 k1 k2 k3 k4 k5
  simp at h2
  simp [results, Tryd.results72, go_sem, h2, k0, k1, k2, k3, k4, k5]
set_option maxRecDepth 100000 in
set_option maxHeartbeats 4000000 in
theorem rpoint_any {v : Value} {x : Int} {d lo m : Nat} {w : World} (D : DyR w lo m v x d) (hm : m ≤ w.heap.size) (hl : (canon x.natAbs).length ≤ 50000) :
    Calls Tryd.prog 72 #[v] w fun e w' => ∃ v', e = .returned v' ∧ IvR w' lo w'.heap.size v' x d x d ∧ Below w.heap.size w w' := by
  obtain ⟨nb1, A1, L1, c1, rfl, HD⟩ := D.form
  have D' := Lib.hid D
  clear D
  have b0 : Below w.heap.size w ((w.alloc (.cells #[.bool nb1, .slice A1 L1 c1, .int .i64 (d : Int)] 39)).alloc (.cells #[.bool false, .slice none 0 0, .int .i64 0, .bool false, .slice none 0 0, .int .i64 0] 41)) := ext_alloc (ext_alloc (Below.refl _ _) _) _
  have r0 := (RowD.new_ w [.bool nb1, .slice A1 L1 c1, .int .i64 (d : Int)] 39).call (al_ _ (.cells #[.bool false, .slice none 0 0, .int .i64 0, .bool false, .slice none 0 0, .int .i64 0] 41))
  have r1 := RowD.new_ (w.alloc (.cells #[.bool nb1, .slice A1 L1 c1, .int .i64 (d : Int)] 39)) [.bool false, .slice none 0 0, .int .i64 0, .bool false, .slice none 0 0, .int .i64 0] 41
  rw [show (w.alloc (.cells #[.bool nb1, .slice A1 L1 c1, .int .i64 (d : Int)] 39)).heap.size = w.heap.size + 1 by simp] at r1
  go_enter Tryd.func72, Tryd.ntmps72
  go_wp2_with fail
  go_at_call 81
  refine (norm_w (D'.out.below b0 hm) (by simp; omega) (by omega)).mono ?_
  rintro e W ⟨rfl, hb1⟩
  have s0 := r0.call hb1
  have s1 := r1.call hb1
  have bW := b0.trans (hb1.mono (by simp; omega))
  have hWs : w.heap.size + 2 ≤ W.heap.size := by have := hb1.size; simpa using this
  have E1 := D'.out.below bW hm
  clear r0 r1 b0 hb1
  have a0 : W.cell? ⟨w.heap.size, 0, none⟩ = some (.bool nb1) := s0.cell 0
  have a1 : W.cell? ⟨w.heap.size, 1, none⟩ = some (.slice A1 L1 c1) := s0.cell 1
  have a2 : W.cell? ⟨w.heap.size, 2, none⟩ = some (.int .i64 (d : Int)) := s0.cell 2
  have af := s0.free
  have z0 : W.cell? ⟨w.heap.size + 1, 0, none⟩ = some (.bool false) := s1.cell 0
  have z1 : W.cell? ⟨w.heap.size + 1, 1, none⟩ = some (.slice none 0 0) := s1.cell 1
  have z2 : W.cell? ⟨w.heap.size + 1, 2, none⟩ = some (.int .i64 0) := s1.cell 2
  have z3 : W.cell? ⟨w.heap.size + 1, 3, none⟩ = some (.bool false) := s1.cell 3
  have z4 : W.cell? ⟨w.heap.size + 1, 4, none⟩ = some (.slice none 0 0) := s1.cell 4
  have z5 : W.cell? ⟨w.heap.size + 1, 5, none⟩ = some (.int .i64 0) := s1.cell 5
  have zf := s1.free
  have hz := s1.lt
  go_wp2_with fail
  have s1' := ((s1.other_ (k := w.heap.size) (by omega) 0 (.bool nb1)).other_ (k := w.heap.size) (by omega) 1 (.slice A1 L1 c1)).other_ (k := w.heap.size) (by omega) 2 (.int .i64 (d : Int))
  refine bodyPost_ret (res_rPoint rfl (s1'.set6 _ _ _ _ _ _)) rfl ⟨_, rfl, ?_, below_set6 (((bW.setCell (by simp) _).setCell (by simp) _).setCell (by simp) _) (by omega) _ _ _ _ _ _⟩
  have E2 := E1.below (below_set6 ((((Below.refl w.heap.size W).setCell (p := ⟨w.heap.size, 0, none⟩) (by simp) (.bool nb1)).setCell (p := ⟨w.heap.size, 1, none⟩) (by simp) (.slice A1 L1 c1)).setCell (p := ⟨w.heap.size, 2, none⟩) (by simp) (.int .i64 (d : Int))) (show w.heap.size ≤ w.heap.size + 1 by omega) (.bool nb1) (.slice A1 L1 c1) (.int .i64 (d : Int)) (.bool nb1) (.slice A1 L1 c1) (.int .i64 (d : Int))) hm
  exact (IvR.of E2 E2).more (by simp; omega)
set_option maxRecDepth 100000 in
set_option maxHeartbeats 4000000 in
theorem rcontains_any (a : Iv) {v : Value} {x : Int} {d lo m : Nat} {w : World} (hm : m ≤ w.heap.size) (h : IvAt w m a) (hv : ivB a = true) (l1 : a.lo.ws.length ≤ 50000) (l2 : a.hi.ws.length ≤ 50000) (D : DyR w lo m v x d) (hl : (canon x.natAbs).length ≤ 50000) :
    Calls Tryd.prog 94 #[a.val, v] w fun e w' => e = .returned (.bool (decide (pCmp a.lo.x a.lo.d x d ≤ 0) && decide (pCmp x d a.hi.x a.hi.d ≤ 0))) ∧ Below w.heap.size w w' := by
  have HA := Lib.hid h
  have HV := Lib.hid hv
  have hp : ivP a := of_decide_eq_true hv
  have n1 : (canon a.lo.x.natAbs).length ≤ 50000 := by rw [rw_len h.lo hp.1]; exact l1
  have n2 : (canon a.hi.x.natAbs).length ≤ 50000 := by rw [rw_len h.hi hp.2.1]; exact l2
  have Y1 := Lib.hid (h.lo.dy hp.1)
  have Y2 := Lib.hid (h.hi.dy hp.2.1)
  clear h hv hp
  have hcon : ∀ u : World, Below w.heap.size w u → Calls Tryd.prog 92 #[a.val] u fun e w' => e = .returned a.val ∧ Below u.heap.size u w' := fun u hu => rnormI_any a m u (by have := hu.size; omega) (HA.out.below hu hm) HV.out l1 l2
  have HCON := Lib.hid hcon
  obtain ⟨x1, hx1⟩ : ∃ z, z = a.lo.x := ⟨_, rfl⟩
  obtain ⟨d1, hd1⟩ : ∃ z, z = a.lo.d := ⟨_, rfl⟩
  obtain ⟨x2, hx2⟩ : ∃ z, z = a.hi.x := ⟨_, rfl⟩
  obtain ⟨d2, hd2⟩ : ∃ z, z = a.hi.d := ⟨_, rfl⟩
  rw [← hx1] at n1
  rw [← hx2] at n2
  rw [← hx1, ← hd1] at Y1
  rw [← hx2, ← hd2] at Y2
  rw [← hx1, ← hd1, ← hx2, ← hd2]
  clear hx1 hd1 hx2 hd2 hcon HA HV
  obtain ⟨⟨nb1, A1, ws1, c1, e1⟩, ⟨nb2, A2, ws2, c2, e2⟩⟩ := a
  dsimp only at l1 l2
  simp only [Iv.val] at HCON ⊢
  simp only [Rw.val] at Y1 Y2
  obtain ⟨nb3, A3, L3, c3, rfl, HD⟩ := D.form
  have D3 := Lib.hid D
  obtain ⟨cv, hcv⟩ : ∃ cv, cv = pCmp x1 d1 x d := ⟨_, rfl⟩
  obtain ⟨cu, hcu⟩ : ∃ cu, cu = pCmp x d x2 d2 := ⟨_, rfl⟩
  have C1 := Lib.hid hcv
  have C2 := Lib.hid hcu
  rw [← hcv, ← hcu]
  have b0 : Below w.heap.size w ((w.alloc (.cells #[.bool nb1, .slice A1 ws1.length c1, .int .i64 e1, .bool nb2, .slice A2 ws2.length c2, .int .i64 e2] 41)).alloc (.cells #[.bool nb3, .slice A3 L3 c3, .int .i64 (d : Int)] 39)) := ext_alloc (ext_alloc (Below.refl _ _) _) _
  have r0 := (RowD.new_ w [.bool nb1, .slice A1 ws1.length c1, .int .i64 e1, .bool nb2, .slice A2 ws2.length c2, .int .i64 e2] 41).call (al_ _ (.cells #[.bool nb3, .slice A3 L3 c3, .int .i64 (d : Int)] 39))
  have r1 := RowD.new_ (w.alloc (.cells #[.bool nb1, .slice A1 ws1.length c1, .int .i64 e1, .bool nb2, .slice A2 ws2.length c2, .int .i64 e2] 41)) [.bool nb3, .slice A3 L3 c3, .int .i64 (d : Int)] 39
  rw [show (w.alloc (.cells #[.bool nb1, .slice A1 ws1.length c1, .int .i64 e1, .bool nb2, .slice A2 ws2.length c2, .int .i64 e2] 41)).heap.size = w.heap.size + 1 by simp] at r1
  clear D hcv hcu
  go_enter Tryd.func94, Tryd.ntmps94
  go_wp2_with fail
  go_at_call 92
  refine (HCON.out _ b0).mono ?_
  rintro e w1 ⟨rfl, hb1⟩
  have R0 := Lib.hid (r0.call hb1)
  have R1 := Lib.hid (r1.call hb1)
  have HB := Lib.hid (b0.trans (hb1.mono (by simp; omega)))
  have hw1 : w.heap.size + 2 ≤ w1.heap.size := by have := hb1.size; simpa using this
  clear r0 r1 b0 hb1 HCON
  have a0 : w1.cell? ⟨w.heap.size, 0, none⟩ = some (.bool nb1) := R0.out.cell 0
  have a1 : w1.cell? ⟨w.heap.size, 1, none⟩ = some (.slice A1 ws1.length c1) := R0.out.cell 1
  have a2 : w1.cell? ⟨w.heap.size, 2, none⟩ = some (.int .i64 e1) := R0.out.cell 2
  have a3 : w1.cell? ⟨w.heap.size, 3, none⟩ = some (.bool nb2) := R0.out.cell 3
  have a4 : w1.cell? ⟨w.heap.size, 4, none⟩ = some (.slice A2 ws2.length c2) := R0.out.cell 4
  have a5 : w1.cell? ⟨w.heap.size, 5, none⟩ = some (.int .i64 e2) := R0.out.cell 5
  have af := R0.out.free
  go_upto_region 2 with (fail)
  obtain ⟨W, hW⟩ : ∃ q, q = (((((w1.setCell ⟨w.heap.size, 0, none⟩ (.bool nb1)).setCell ⟨w.heap.size, 1, none⟩ (.slice A1 ws1.length c1)).setCell ⟨w.heap.size, 2, none⟩ (.int .i64 e1)).setCell ⟨w.heap.size, 3, none⟩ (.bool nb2)).setCell ⟨w.heap.size, 4, none⟩ (.slice A2 ws2.length c2)).setCell ⟨w.heap.size, 5, none⟩ (.int .i64 e2) := ⟨_, rfl⟩
  have rA : RowD W w.heap.size [.bool nb1, .slice A1 ws1.length c1, .int .i64 e1, .bool nb2, .slice A2 ws2.length c2, .int .i64 e2] 41 := by rw [hW]; exact R0.out.set6 _ _ _ _ _ _
  have rX : RowD W (w.heap.size + 1) [.bool nb3, .slice A3 L3 c3, .int .i64 (d : Int)] 39 := by rw [hW]; exact R1.out.other6 (by omega) _ _ _ _ _ _
  have bW : Below w.heap.size w W := by rw [hW]; exact below_set6 HB.out (Nat.le_refl _) _ _ _ _ _ _
  have hsW : w.heap.size + 2 ≤ W.heap.size := by rw [hW, size6]; exact hw1
  try rw [← hW]
  clear hW R0 R1 HB a0 a1 a2 a3 a4 a5 af hw1 w1
  have a0 : W.cell? ⟨w.heap.size, 0, none⟩ = some (.bool nb1) := rA.cell 0
  have a1 : W.cell? ⟨w.heap.size, 1, none⟩ = some (.slice A1 ws1.length c1) := rA.cell 1
  have a2 : W.cell? ⟨w.heap.size, 2, none⟩ = some (.int .i64 e1) := rA.cell 2
  have a3 : W.cell? ⟨w.heap.size, 3, none⟩ = some (.bool nb2) := rA.cell 3
  have a4 : W.cell? ⟨w.heap.size, 4, none⟩ = some (.slice A2 ws2.length c2) := rA.cell 4
  have a5 : W.cell? ⟨w.heap.size, 5, none⟩ = some (.int .i64 e2) := rA.cell 5
  have y0 : W.cell? ⟨w.heap.size + 1, 0, none⟩ = some (.bool nb3) := rX.cell 0
  have y1 : W.cell? ⟨w.heap.size + 1, 1, none⟩ = some (.slice A3 L3 c3) := rX.cell 1
  have y2 : W.cell? ⟨w.heap.size + 1, 2, none⟩ = some (.int .i64 (d : Int)) := rX.cell 2
  have RA := Lib.hid rA
  have RX := Lib.hid rX
  have HBW := Lib.hid bW
  clear rA rX bW
  go_wp2_with fail
  go_at_call 66
  refine (cmp_any (Y1.out.below HBW.out hm) (D3.out.below HBW.out hm) (by omega) n1 hl).mono ?_
  rintro e w2 ⟨rfl, hb⟩
  rw [dyCmp_eq, ← C1.out]
  have RA2 := RA.out.call hb
  have RX2 := RX.out.call hb
  have hz2 := hb.size
  have HB2 := Lib.hid (HBW.out.trans (hb.mono (by omega)))
  clear a0 a1 a2 a3 a4 a5 y0 y1 y2 hb RA RX HBW
  have a0 : w2.cell? ⟨w.heap.size, 0, none⟩ = some (.bool nb1) := RA2.cell 0
  have a1 : w2.cell? ⟨w.heap.size, 1, none⟩ = some (.slice A1 ws1.length c1) := RA2.cell 1
  have a2 : w2.cell? ⟨w.heap.size, 2, none⟩ = some (.int .i64 e1) := RA2.cell 2
  have a3 : w2.cell? ⟨w.heap.size, 3, none⟩ = some (.bool nb2) := RA2.cell 3
  have a4 : w2.cell? ⟨w.heap.size, 4, none⟩ = some (.slice A2 ws2.length c2) := RA2.cell 4
  have a5 : w2.cell? ⟨w.heap.size, 5, none⟩ = some (.int .i64 e2) := RA2.cell 5
  have y0 : w2.cell? ⟨w.heap.size + 1, 0, none⟩ = some (.bool nb3) := RX2.cell 0
  have y1 : w2.cell? ⟨w.heap.size + 1, 1, none⟩ = some (.slice A3 L3 c3) := RX2.cell 1
  have y2 : w2.cell? ⟨w.heap.size + 1, 2, none⟩ = some (.int .i64 (d : Int)) := RX2.cell 2
  by_cases k1 : cv ≤ 0
  · have kb : decide (cv ≤ 0) = true := decide_eq_true k1
    clear k1 RA2 RX2
    go_wp2_with fail
    go_at_call 66
    refine (cmp_any (D3.out.below HB2.out hm) (Y2.out.below HB2.out hm) (by omega) hl n2).mono ?_
    rintro e w3 ⟨rfl, hb⟩
    rw [dyCmp_eq, ← C2.out]
    have HB3 := HB2.out.trans (hb.mono (by omega))
    go_wp2_with fail
    go_ret
    exact ⟨by rw [kb]; rfl, HB3⟩
  · have kb : decide (cv ≤ 0) = false := decide_eq_false k1
    clear k1 RA2 RX2
    go_wp2_with fail
    go_ret
    exact ⟨by rw [kb]; rfl, HB2.out⟩
theorem rcontains_w {v v2 : Value} {x y z : Int} {dx dy dz lo lo2 m : Nat} {w : World} (I : IvR w lo m v x dx y dy) (hc : pCmp x dx y dy ≤ 0) (n1 : (canon x.natAbs).length ≤ 50000) (n2 : (canon y.natAbs).length ≤ 50000) (hm : m ≤ w.heap.size) (D : DyR w lo2 m v2 z dz) (hl : (canon z.natAbs).length ≤ 50000) :
    Calls Tryd.prog 94 #[v, v2] w fun e w' => e = .returned (.bool (decide (pCmp x dx z dz ≤ 0) && decide (pCmp z dz y dy ≤ 0))) ∧ Below w.heap.size w w' := by
  obtain ⟨a, rfl, hat, v1, v2, rfl, rfl, rfl, rfl⟩ := I.raw
  exact rcontains_any a hm hat (decide_eq_true ⟨v1, v2, hc⟩) (by rw [← rw_len hat.lo v1]; exact n1) (by rw [← rw_len hat.hi v2]; exact n2) D hl
end Go.Proofs.YtejnnljjmafjaaaDoor
namespace Go.Proofs.YtejnnljjmafjaaaDoor
set_option linter.unusedVariables false
set_option linter.unusedSimpArgs false
set_option linter.unusedSectionVars false
open Go.RowKit

theorem res_rspan {tmps : Array Value} {w : World} {b : Nat} {v0 v1 v2 v3 v4 v5 : Value} (h2 : tmps.getD 2 undef = .pointer (some ⟨b, 0, none⟩)) (hB : RowD w b [v0, v1, v2, v3, v4, v5] 41) :
    (results Tryd.f49 tmps).run Tryd.prog w = .ok (.agg #[v0, v1, v2, v3, v4, v5]) w := by
  have k0 := hB.cell 0
  have k1 := hB.cell 1
  have k2 := hB.cell 2
  have k3 := hB.cell 3
  have k4 := hB.cell 4
  have k5 := hB.cell 5
  simp at k0 k1 k2 k3 k4 k5
  simp at h2
  simp [results, Tryd.results49, go_sem, h2, k0, k1, k2, k3, k4, k5]
set_option maxRecDepth 100000 in
set_option maxHeartbeats 4000000 in
theorem rspan_any (A : Option Addr) (r0 : Rw) (l : List Rw) (c m : Nat) (w : World) (hm : m ≤ w.heap.size) (h : RwsAt w m A (r0 :: l)) (hc : l.length + 1 ≤ c) (hn : l.length ≤ 1000) (h1 : 0 < l.length) :
    Calls Tryd.prog 49 #[.slice A (l.length + 1) c] w fun e w' => ∃ v', e = .returned v' ∧ IvR w' (0) w'.heap.size v' (spLo (r0.x, r0.d) l).1 (spLo (r0.x, r0.d) l).2 (spHi (r0.x, r0.d) l).1 (spHi (r0.x, r0.d) l).2 ∧ Below w.heap.size w w' := by
  have H := Lib.hid h
  clear h
  obtain ⟨b, off, x, hA, hbm, hbs, hx, hcell⟩ := H.out.cells.row (s := 3) (fun _ => rfl) (by omega) (k := 0) (by simp)
  have e0 : x = r0 := by simpa using hx.symm
  subst e0 hA
  have g0 : w.cell? ⟨b, off, none⟩ = some (.bool x.nb) := hcell 0 _ rfl
  have g1 : w.cell? ⟨b, off + 1, none⟩ = some (.slice x.A x.ws.length x.cap) := by simpa using hcell 1 _ rfl
  have g2 : w.cell? ⟨b, off + 2, none⟩ = some (.int .i64 x.den) := by simpa using hcell 2 _ rfl
  have hx0 := H.out.each x (by simp)
  have D0 := Lib.hid (hx0.1.dy hx0.2.1)
  have hl0 : (canon x.x.natAbs).length ≤ 50000 := by rw [rw_len hx0.1 hx0.2.1]; exact hx0.2.2
  have hc1 : (1 : Int) < (c : Int) := by omega
  have hc2 : ¬ (1 = c) := by omega
  clear hcell hx hx0
  go_enter Tryd.func49, Tryd.ntmps49
  go_wp2_with fail
  go_at_call 72
  have b0 : Below w.heap.size w (w.alloc (.cells #[.bool false, .slice none 0 0, .int .i64 0, .bool false, .slice none 0 0, .int .i64 0] 41)) := al_ _ _
  refine (rpoint_any (D0.out.below b0 hm) (by simp; omega) hl0).mono ?_
  rintro e w1 ⟨v1, rfl, I1, hb1⟩
  obtain ⟨nb1, A1, L1, c1, nb2, A2, L2, c2, rfl, D1, D2⟩ := I1.form
  have R2 := Lib.hid ((RowD.new_ w [.bool false, .slice none 0 0, .int .i64 0, .bool false, .slice none 0 0, .int .i64 0] 41).call hb1)
  have B1 := Lib.hid (b0.trans (hb1.mono (by simp)))
  have D1' := Lib.hid D1
  have D2' := Lib.hid D2
  clear b0 I1 D1 D2 g0 g1 g2
  go_wp2_with fail
  obtain ⟨W, hW⟩ : ∃ W, W = (w1.alloc (.cells #[.bool nb1, .slice A1 L1 c1, .int .i64 (x.d : Int), .bool nb2, .slice A2 L2 c2, .int .i64 (x.d : Int)] 41)) := ⟨_, rfl⟩
  obtain ⟨g, hg⟩ : ∃ g, g = w1.heap.size := ⟨_, rfl⟩
  have bW : Below w1.heap.size w1 W := by rw [hW]; exact al_ _ _
  have rW := RowD.new_ w1 [.bool nb1, .slice A1 L1 c1, .int .i64 (x.d : Int), .bool nb2, .slice A2 L2 c2, .int .i64 (x.d : Int)] 41
  have hgW : w.heap.size + 1 ≤ g := by rw [hg]; have := R2.out.lt; omega
  rw [← hW] at rW
  rw [← hW, ← hg]
  rw [← hg] at rW
  have HRW := Lib.hid rW
  have HBW := Lib.hid bW
  have HG := Lib.hid hg
  clear hW bW rW hg
  go_loopw [13] (fun i wr => spRel w (0) g (x.x, x.d) l i wr ∧ RowD wr w.heap.size [.bool false, .slice none 0 0, .int .i64 0, .bool false, .slice none 0 0, .int .i64 0] 41) (fun i _ => l.length - (intOf i).toNat)
  case atStart =>
    refine ⟨⟨0, Nat.zero_le _, rfl, B1.out.trans (HBW.out.mono B1.out.size), nb1, A1, L1, c1, nb2, A2, L2, c2, HRW.out, ?_, ?_, hl0, hl0⟩, R2.out.call HBW.out⟩
    · exact ((D1'.out.below HBW.out (Nat.le_refl _)).more HBW.out.size).low (by first | (simp; done) | omega)
    · exact ((D2'.out.below HBW.out (Nat.le_refl _)).more HBW.out.size).low (by first | (simp; done) | omega)
  case round =>
    clear HRW HBW R2 D1' D2' B1
    obtain ⟨⟨k, hk, rfl, hb, nb1, A1, L1, c1, nb2, A2, L2, c2, hr, hd1, hd2, hl1, hl2⟩, hres⟩ := hrel
    by_cases hlt : k < l.length
    · obtain ⟨b', off', y, hA', hym, hys, hy, hyc⟩ := (H.out.below hb hm).cells.row (s := 3) (fun _ => rfl) (by omega) (k := k + 1) (by simp; omega)
      cases hA'
      rw [List.getElem?_cons_succ] at hy
      have g0 : wr.cell? ⟨b, off + 3 + k * 3, none⟩ = some (.bool y.nb) := by have := hyc 0 _ rfl; rwa [show off + (k + 1) * 3 + 0 = off + 3 + k * 3 by omega] at this
      have g1 : wr.cell? ⟨b, off + 3 + k * 3 + 1, none⟩ = some (.slice y.A y.ws.length y.cap) := by have := hyc 1 _ rfl; rwa [show off + (k + 1) * 3 + 1 = off + 3 + k * 3 + 1 by omega] at this
      have g2 : wr.cell? ⟨b, off + 3 + k * 3 + 2, none⟩ = some (.int .i64 y.den) := by have := hyc 2 _ rfl; rwa [show off + (k + 1) * 3 + 2 = off + 3 + k * 3 + 2 by omega] at this
      have hki : (k : Int) < (l.length : Int) := by omega
      have hyy := H.out.each y (by simp [List.mem_of_getElem? hy])
      have HYD := Lib.hid (hyy.1.dy hyy.2.1)
      have hly : (canon y.x.natAbs).length ≤ 50000 := by rw [rw_len hyy.1 hyy.2.1]; exact hyy.2.2
      clear hyy
      have HY := Lib.hid hy
      have HR := Lib.hid hr
      have HRES := Lib.hid hres
      clear hyc hr hy hres
      obtain ⟨p1, hp1⟩ : ∃ p, p = spLo (x.x, x.d) (l.take k) := ⟨_, rfl⟩
      obtain ⟨p2, hp2⟩ : ∃ p, p = spHi (x.x, x.d) (l.take k) := ⟨_, rfl⟩
      rw [← hp1] at HR hd1 hl1
      rw [← hp2] at HR hd2 hl2
      have HP1 := Lib.hid hp1
      have HP2 := Lib.hid hp2
      clear hp1 hp2
      obtain ⟨x1, d1⟩ := p1
      obtain ⟨x2, d2⟩ := p2
      dsimp only at HR hd1 hd2 hl1 hl2
      have q0 : wr.cell? ⟨g, 0, none⟩ = some (.bool nb1) := HR.out.cell 0
      have q1 : wr.cell? ⟨g, 1, none⟩ = some (.slice A1 L1 c1) := HR.out.cell 1
      have q2 : wr.cell? ⟨g, 2, none⟩ = some (.int .i64 (d1 : Int)) := HR.out.cell 2
      have q3 : wr.cell? ⟨g, 3, none⟩ = some (.bool nb2) := HR.out.cell 3
      have q4 : wr.cell? ⟨g, 4, none⟩ = some (.slice A2 L2 c2) := HR.out.cell 4
      have q5 : wr.cell? ⟨g, 5, none⟩ = some (.int .i64 (d2 : Int)) := HR.out.cell 5
      have hgr := HR.out.lt
      have HD1 := Lib.hid hd1
      have HD2 := Lib.hid hd2
      clear hd1 hd2
      go_wp2_with fail
      refine wp_region_part 9 (by kernel_rfl) (by kernel_rfl) ?_
      dsimp only [List.take, List.drop]
      obtain ⟨WB, hWB⟩ : ∃ WB, WB = wr.alloc (.cells #[.bool y.nb, .slice y.A y.ws.length y.cap, .int .i64 y.den] 39) := ⟨_, rfl⟩
      rw [← hWB]
      have bB : Below wr.heap.size wr WB := by rw [hWB]; exact al_ _ _
      have rgB : RowD WB g [.bool nb1, .slice A1 L1 c1, .int .i64 (d1 : Int), .bool nb2, .slice A2 L2 c2, .int .i64 (d2 : Int)] 41 := HR.out.call bB
      have rxB : RowD WB wr.heap.size [.bool y.nb, .slice y.A y.ws.length y.cap, .int .i64 y.den] 39 := by rw [hWB]; exact RowD.new_ _ _ _
      have f0 : WB.cell? ⟨g, 0, none⟩ = some (.bool nb1) := rgB.cell 0
      have f1 : WB.cell? ⟨g, 1, none⟩ = some (.slice A1 L1 c1) := rgB.cell 1
      have f2 : WB.cell? ⟨g, 2, none⟩ = some (.int .i64 (d1 : Int)) := rgB.cell 2
      have f3 : WB.cell? ⟨g, 3, none⟩ = some (.bool nb2) := rgB.cell 3
      have f4 : WB.cell? ⟨g, 4, none⟩ = some (.slice A2 L2 c2) := rgB.cell 4
      have f5 : WB.cell? ⟨g, 5, none⟩ = some (.int .i64 (d2 : Int)) := rgB.cell 5
      have y0 : WB.cell? ⟨wr.heap.size, 0, none⟩ = some (.bool y.nb) := rxB.cell 0
      have y1 : WB.cell? ⟨wr.heap.size, 1, none⟩ = some (.slice y.A y.ws.length y.cap) := rxB.cell 1
      have y2 : WB.cell? ⟨wr.heap.size, 2, none⟩ = some (.int .i64 y.den) := rxB.cell 2
      have hgB : g < WB.heap.size := rgB.lt
      have hxB : wr.heap.size < WB.heap.size := rxB.lt
      have hS : Below WB.heap.size WB WB.drew := (Below.refl _ _).drew
      have dB1 := Lib.hid (HD1.out.below bB (Nat.le_refl _))
      have dB2 := Lib.hid (HD2.out.below bB (Nat.le_refl _))
      have dY := Lib.hid ((HYD.out.below hb hm).below bB (by have := hb.size; omega))
      have HBB := Lib.hid (hb.trans (bB.mono hb.size))
      have hwm : m ≤ WB.heap.size := by have := hb.size; omega
      have hwW : w.heap.size + 1 ≤ WB.heap.size := by omega
      have HRB := Lib.hid rgB
      have HSZ := Lib.hid (HRES.out.call bB)
      clear hWB q0 q1 q2 q3 q4 q5 g0 g1 g2 bB rxB rgB
      refine wpAny_of_held (S := fun w' => Below WB.heap.size WB w') _ _ _ _ ?_
      refine takeL 0 ?v0 rfl (by kernel_rfl) (by intro _ _ _ h; exact h) (by rfl) hS ?h0 ?r0
      case h0 =>
        intro w2 hSw
        go_simp
        try rfl
      case' r0 => try simp only [Act.put, List.setIfInBounds_toArray, List.set_cons_zero, List.set_cons_succ]
      refine takeL 1 ?v1 rfl (by kernel_rfl) (by intro _ _ _ h; exact h) (by rfl) hS ?h1 ?r1
      case h1 =>
        intro w2 hSw
        have e0 : w2.cell? ⟨g, 0, none⟩ = some (.bool nb1) := (hSw.cell (p := ⟨g, 0, none⟩) hgB).trans f0
        have e1 : w2.cell? ⟨g, 1, none⟩ = some (.slice A1 L1 c1) := (hSw.cell (p := ⟨g, 1, none⟩) hgB).trans f1
        have e2 : w2.cell? ⟨g, 2, none⟩ = some (.int .i64 (d1 : Int)) := (hSw.cell (p := ⟨g, 2, none⟩) hgB).trans f2
        go_simp
        try rfl
      case' r1 => try simp only [Act.put, List.setIfInBounds_toArray, List.set_cons_zero, List.set_cons_succ]
      refine takeL 2 ?v2 rfl (by kernel_rfl) (by intro _ _ _ h; exact h) (by rfl) hS ?h2 ?r2
      case h2 =>
        intro w2 hSw
        have e0 : w2.cell? ⟨wr.heap.size, 0, none⟩ = some (.bool y.nb) := (hSw.cell (p := ⟨wr.heap.size, 0, none⟩) hxB).trans y0
        have e1 : w2.cell? ⟨wr.heap.size, 1, none⟩ = some (.slice y.A y.ws.length y.cap) := (hSw.cell (p := ⟨wr.heap.size, 1, none⟩) hxB).trans y1
        have e2 : w2.cell? ⟨wr.heap.size, 2, none⟩ = some (.int .i64 y.den) := (hSw.cell (p := ⟨wr.heap.size, 2, none⟩) hxB).trans y2
        go_simp
        try rfl
      case' r2 => try simp only [Act.put, List.setIfInBounds_toArray, List.set_cons_zero, List.set_cons_succ]
      refine takeL 4 ?v4 rfl (by kernel_rfl) (by intro _ _ _ h; exact h) (by rfl) hS ?h4 ?r4
      case h4 =>
        intro w2 hSw
        go_simp
        try rfl
      case' r4 => try simp only [Act.put, List.setIfInBounds_toArray, List.set_cons_zero, List.set_cons_succ]
      refine takeL 5 ?v5 rfl (by kernel_rfl) (by intro _ _ _ h; exact h) (by rfl) hS ?h5 ?r5
      case h5 =>
        intro w2 hSw
        have e3 : w2.cell? ⟨g, 3, none⟩ = some (.bool nb2) := (hSw.cell (p := ⟨g, 3, none⟩) hgB).trans f3
        have e4 : w2.cell? ⟨g, 4, none⟩ = some (.slice A2 L2 c2) := (hSw.cell (p := ⟨g, 4, none⟩) hgB).trans f4
        have e5 : w2.cell? ⟨g, 5, none⟩ = some (.int .i64 (d2 : Int)) := (hSw.cell (p := ⟨g, 5, none⟩) hgB).trans f5
        go_simp
        try rfl
      case' r5 => try simp only [Act.put, List.setIfInBounds_toArray, List.set_cons_zero, List.set_cons_succ]
      refine takeL 6 ?v6 rfl (by kernel_rfl) (by intro _ _ _ h; exact h) (by rfl) hS ?h6 ?r6
      case h6 =>
        intro w2 hSw
        have e0 : w2.cell? ⟨wr.heap.size, 0, none⟩ = some (.bool y.nb) := (hSw.cell (p := ⟨wr.heap.size, 0, none⟩) hxB).trans y0
        have e1 : w2.cell? ⟨wr.heap.size, 1, none⟩ = some (.slice y.A y.ws.length y.cap) := (hSw.cell (p := ⟨wr.heap.size, 1, none⟩) hxB).trans y1
        have e2 : w2.cell? ⟨wr.heap.size, 2, none⟩ = some (.int .i64 y.den) := (hSw.cell (p := ⟨wr.heap.size, 2, none⟩) hxB).trans y2
        go_simp
        try rfl
      case' r6 => try simp only [Act.put, List.setIfInBounds_toArray, List.set_cons_zero, List.set_cons_succ]
      refine stepL 3 rfl (by kernel_rfl) (by rfl) ?_
      intro K hK
      go_simp
      have hmB : WB.heap.size ≤ WB.drew.heap.size := by simp
      refine (min_any ((dB1.out.below hS (by omega)).more (by omega : wr.heap.size ≤ WB.heap.size)) ((dY.out.below hS hwm).more hwm) hmB hl1 hly).mono ?_
      rintro e w3 ⟨v3, rfl, M1, hb3⟩
      have hS3 : Below WB.heap.size WB w3 := hS.trans (hb3.mono (by simp))
      obtain ⟨nb3, A3, L3, c3, rfl, _⟩ := M1.form
      have HM1 := Lib.hid (M1.low (show (0) ≤ _ by first | (simp; done) | (simp; omega)))
      refine hK.out _ _ hS3 ?_
      clear hK K hS M1 hb3
      have hS := hS3
      clear hS3
      try simp only [Act.put, List.setIfInBounds_toArray, List.set_cons_zero, List.set_cons_succ]
      refine takeL 8 ?v8 rfl (by kernel_rfl) (by intro _ _ _ h; exact h) (by rfl) hS ?h8 ?r8
      case h8 =>
        intro w2 hSw
        go_simp
        try rfl
      case' r8 => try simp only [Act.put, List.setIfInBounds_toArray, List.set_cons_zero, List.set_cons_succ]
      refine stepL 7 rfl (by kernel_rfl) (by rfl) ?_
      intro K hK
      go_simp
      have hm3 : WB.heap.size ≤ w3.heap.size := hS.size
      refine (max_any ((dB2.out.below hS (by omega)).more (by omega : wr.heap.size ≤ WB.heap.size)) ((dY.out.below hS hwm).more hwm) hm3 hl2 hly).mono ?_
      rintro e w4 ⟨v4, rfl, M2, hb4⟩
      have hS4 : Below WB.heap.size WB w4 := hS.trans (hb4.mono hm3)
      obtain ⟨nb4, A4, L4, c4, rfl, _⟩ := M2.form
      have HM2 := Lib.hid (M2.low (show (0) ≤ _ by omega))
      have HM1' := Lib.hid ((HM1.out.below hb4 (Nat.le_refl _)).more hb4.size)
      refine hK.out _ _ hS4 ?_
      clear hK K hS M2 hb4 HM1
      try simp only [Act.put, List.setIfInBounds_toArray, List.set_cons_zero, List.set_cons_succ]
      have rg4 := HRB.out.call hS4
      have HRG := Lib.hid rg4
      have HSZ4 := Lib.hid (HSZ.out.call hS4)
      have HB4 := Lib.hid (HBB.out.trans (hS4.mono HBB.out.size))
      clear f0 f1 f2 f3 f4 f5 y0 y1 y2
      have f0 : w4.cell? ⟨g, 0, none⟩ = some (.bool nb1) := rg4.cell 0
      have f1 : w4.cell? ⟨g, 1, none⟩ = some (.slice A1 L1 c1) := rg4.cell 1
      have f2 : w4.cell? ⟨g, 2, none⟩ = some (.int .i64 (d1 : Int)) := rg4.cell 2
      have f3 : w4.cell? ⟨g, 3, none⟩ = some (.bool nb2) := rg4.cell 3
      have f4 : w4.cell? ⟨g, 4, none⟩ = some (.slice A2 L2 c2) := rg4.cell 4
      have f5 : w4.cell? ⟨g, 5, none⟩ = some (.int .i64 (d2 : Int)) := rg4.cell 5
      have ff := rg4.free
      have hg4 := rg4.lt
      clear rg4 hS4
      refine endL (by kernel_rfl) ?_
      dsimp only [PartQ]
      go_wp2_with fail
      have e1 : spLo (x.x, x.d) (l.take (k + 1)) = dyMin x1 d1 y.x y.d := by rw [List.take_add_one, HY.out]; show spLo _ (l.take k ++ [y]) = _; rw [spLo_snoc, ← HP1.out]
      have e2 : spHi (x.x, x.d) (l.take (k + 1)) = dyMax x2 d2 y.x y.d := by rw [List.take_add_one, HY.out]; show spHi _ (l.take k ++ [y]) = _; rw [spHi_snoc, ← HP2.out]
      refine ⟨⟨⟨k + 1, by omega, by go_num, below_set6 HB4.out (by omega) _ _ _ _ _ _, ?_⟩, HSZ4.out.other6 (by omega) _ _ _ _ _ _⟩, by simp [intOf]; omega⟩
      rw [e1, e2]
      refine ⟨nb3, A3, L3, c3, nb4, A4, L4, c4, HRG.out.set6 _ _ _ _ _ _, ?_, ?_, dyMin_len hl1 hly, dyMax_len hl2 hly⟩
      · rw [size6]; exact HM1'.out.set6G HRG.out noW_6 noW_6
      · rw [size6]; exact HM2.out.set6G HRG.out noW_6 noW_6
    · have hke : k = l.length := by omega
      have hr' := hr
      have hs' := hres
      have q0 : wr.cell? ⟨g, 0, none⟩ = some (.bool nb1) := hr.cell 0
      have q1 : wr.cell? ⟨g, 1, none⟩ = some (.slice A1 L1 c1) := hr.cell 1
      have q2 : wr.cell? ⟨g, 2, none⟩ = some (.int .i64 ((spLo (x.x, x.d) (l.take k)).2 : Int)) := hr.cell 2
      have q3 : wr.cell? ⟨g, 3, none⟩ = some (.bool nb2) := hr.cell 3
      have q4 : wr.cell? ⟨g, 4, none⟩ = some (.slice A2 L2 c2) := hr.cell 4
      have q5 : wr.cell? ⟨g, 5, none⟩ = some (.int .i64 ((spHi (x.x, x.d) (l.take k)).2 : Int)) := hr.cell 5
      have z0 : wr.cell? ⟨w.heap.size, 0, none⟩ = some (.bool false) := hres.cell 0
      have z1 : wr.cell? ⟨w.heap.size, 1, none⟩ = some (.slice none 0 0) := hres.cell 1
      have z2 : wr.cell? ⟨w.heap.size, 2, none⟩ = some (.int .i64 0) := hres.cell 2
      have z3 : wr.cell? ⟨w.heap.size, 3, none⟩ = some (.bool false) := hres.cell 3
      have z4 : wr.cell? ⟨w.heap.size, 4, none⟩ = some (.slice none 0 0) := hres.cell 4
      have z5 : wr.cell? ⟨w.heap.size, 5, none⟩ = some (.int .i64 0) := hres.cell 5
      have zf := hres.free
      have HD1 := Lib.hid hd1
      have HD2 := Lib.hid hd2
      have HSZ := Lib.hid hres
      have HKE := Lib.hid hke
      have hzr := hres.lt
      clear hr' hs' hr hres hd1 hd2 hke
      go_wp2_with fail
      refine bodyPost_ret (res_rspan rfl (HSZ.out.set6 _ _ _ _ _ _)) rfl ⟨_, rfl, ?_, below_set6 hb (Nat.le_refl _) _ _ _ _ _ _⟩
      rw [size6]
      have ht : l.take k = l := by rw [HKE.out]; exact List.take_length
      rw [ht] at HD1 HD2 ⊢
      exact IvR.of (HD1.out.set6G HSZ.out noW_6 noW_6) (HD2.out.set6G HSZ.out noW_6 noW_6)
end Go.Proofs.YtejnnljjmafjaaaDoor
