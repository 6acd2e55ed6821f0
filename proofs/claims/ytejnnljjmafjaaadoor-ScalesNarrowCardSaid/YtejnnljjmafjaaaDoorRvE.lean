/- The absolute values of an interval, as the document makes them. Conditions: lists of words not too long. The magnitude of an interval, and whether it has room, as the document has it. Conditions: lists of words not too long. -/
import Derived.Test.YtejnnljjmafjaaaDoorRvB
import Derived.Test.YtejnnljjmafjaaaDoorPvE
namespace Go.Proofs.YtejnnljjmafjaaaDoor
set_option linter.unusedVariables false
set_option linter.unusedSimpArgs false
set_option linter.unusedSectionVars false
open Go.RowKit

theorem pCmp_r (x : Int) (d : Nat) : pCmp x d 0 0 = sgI x := by
  unfold pCmp
  rw [Int.zero_mul, Int.sub_zero, sgI_mul]
theorem pCmp_l (y : Int) (d : Nat) : pCmp 0 0 y d = -sgI y := by
  unfold pCmp
  rw [Int.zero_mul, Int.zero_sub, sgI_negv, sgI_mul]
theorem sgI_le0 {x : Int} : sgI x ≤ 0 ↔ x ≤ 0 := by unfold sgI; split <;> (try split) <;> omega
theorem sgI_ge0 {x : Int} : 0 ≤ sgI x ↔ 0 ≤ x := by unfold sgI; split <;> (try split) <;> omega
theorem con_yes {x1 x2 : Int} {d1 d2 : Nat} (h : x1 ≤ 0 ∧ 0 ≤ x2) : (decide (pCmp x1 d1 0 0 ≤ 0) && decide (pCmp 0 0 x2 d2 ≤ 0)) = true := by
  rw [pCmp_r, pCmp_l, decide_eq_true (sgI_le0.2 h.1), decide_eq_true (by have := sgI_ge0.2 h.2; omega)]
  rfl
theorem con_no {x1 x2 : Int} {d1 d2 : Nat} (h : ¬ (x1 ≤ 0 ∧ 0 ≤ x2)) : (decide (pCmp x1 d1 0 0 ≤ 0) && decide (pCmp 0 0 x2 d2 ≤ 0)) = false := by
  rw [pCmp_r, pCmp_l]
  by_cases h1 : x1 ≤ 0
  · rw [decide_eq_false (p := -sgI x2 ≤ 0) (fun h2 => h ⟨h1, sgI_ge0.1 (by omega)⟩)]
    simp
  · rw [decide_eq_false (p := sgI x1 ≤ 0) (fun h2 => h1 (sgI_le0.1 h2))]
    rfl
theorem iabs_zero {x y : Int} {dx dy : Nat} (h1 : x ≤ 0) (h2 : 0 ≤ y) (b1 : dx ≠ 0 → x % 2 = 1) (b2 : dy ≠ 0 → y % 2 = 1) : iabsLo x dx y dy = (0, 0) := by
  unfold iabsLo
  by_cases h : x < 0 ∧ 0 < y
  · rw [if_pos h]
  · rw [if_neg h]
    by_cases hx : x = 0
    · subst hx
      have hd : dx = 0 := by
        rcases Nat.eq_zero_or_pos dx with h3 | h3
        · exact h3
        · have := b1 (by omega); omega
      subst hd
      have : ¬ 0 < dyCmp 0 0 ((y.natAbs : Nat) : Int) dy := by
        rw [dyCmp_eq, pCmp_l]
        have := (sgI_ge0 (x := ((y.natAbs : Nat) : Int))).2 (by omega)
        omega
      unfold dyMin
      rw [show (((0 : Int).natAbs : Nat) : Int) = 0 by rfl, if_neg this]
    · have hy : y = 0 := by omega
      subst hy
      have hd : dy = 0 := by
        rcases Nat.eq_zero_or_pos dy with h3 | h3
        · exact h3
        · have := b2 (by omega); omega
      subst hd
      have : 0 < dyCmp ((x.natAbs : Nat) : Int) dx 0 0 := by
        rw [dyCmp_eq, pCmp_r, sgI_p (by omega)]
        decide
      unfold dyMin
      rw [show (((0 : Int).natAbs : Nat) : Int) = 0 by rfl, if_pos this]
theorem res_rabsI {tmps : Array Value} {w : World} {b : Nat} {v0 v1 v2 v3 v4 v5 : Value} (h2 : tmps.getD 2 undef = .pointer (some ⟨b, 0, none⟩)) (hB : RowD w b [v0, v1, v2, v3, v4, v5] 41) :
    (results Tryd.f83 tmps).run Tryd.prog w = .ok (.agg #[v0, v1, v2, v3, v4, v5]) w := by
  have k0 := hB.cell 0
  have k1 := hB.cell 1
  have k2 := hB.cell 2
  have k3 := hB.cell 3
  have k4 := hB.cell 4
  have k5 := hB.cell 5
  simp at k0 k1 k2 k3 k4 k5
  simp at h2
  simp [results, Tryd.results83, go_sem, h2, k0, k1, k2, k3, k4, k5]
set_option maxRecDepth 100000 in
set_option maxHeartbeats 4000000 in
theorem rabsI_any (a : Iv) (m : Nat) (w : World) (hm : m ≤ w.heap.size) (h : IvAt w m a) (hv : ivB a = true) (l1 : a.lo.ws.length ≤ 50000) (l2 : a.hi.ws.length ≤ 50000) :
    Calls Tryd.prog 83 #[a.val] w fun e w' => ∃ v', e = .returned v' ∧ IvR w' 0 w'.heap.size v' (iabsLo a.lo.x a.lo.d a.hi.x a.hi.d).1 (iabsLo a.lo.x a.lo.d a.hi.x a.hi.d).2 (iabsHi a.lo.x a.lo.d a.hi.x a.hi.d).1 (iabsHi a.lo.x a.lo.d a.hi.x a.hi.d).2 ∧ Below w.heap.size w w' := by
  have HA := Lib.hid h
  have HV := Lib.hid hv
  have hp : ivP a := of_decide_eq_true hv
  have n1 : (canon a.lo.x.natAbs).length ≤ 50000 := by rw [rw_len h.lo hp.1]; exact l1
  have n2 : (canon a.hi.x.natAbs).length ≤ 50000 := by rw [rw_len h.hi hp.2.1]; exact l2
  have Y1 := h.lo.dy hp.1
  have Y2 := h.hi.dy hp.2.1
  have HCM := Lib.hid hp.2.2
  have HB1 := Lib.hid Y1.bound
  have HB2 := Lib.hid Y2.bound
  clear h hv hp
  obtain ⟨x1, hx1⟩ : ∃ z, z = a.lo.x := ⟨_, rfl⟩
  obtain ⟨d1, hd1⟩ : ∃ z, z = a.lo.d := ⟨_, rfl⟩
  obtain ⟨x2, hx2⟩ : ∃ z, z = a.hi.x := ⟨_, rfl⟩
  obtain ⟨d2, hd2⟩ : ∃ z, z = a.hi.d := ⟨_, rfl⟩
  have hcon : ∀ u : World, Below w.heap.size w u → Calls Tryd.prog 92 #[a.val] u fun e w' => ∃ v', e = .returned v' ∧ IvR w' 0 w'.heap.size v' x1 d1 x2 d2 ∧ Below u.heap.size u w' := fun u hu => by
    rw [hx1, hd1, hx2, hd2]
    refine (rnormI_any a m u (by have := hu.size; omega) (HA.out.below hu hm) HV.out l1 l2).mono ?_
    rintro e w' ⟨rfl, hb⟩
    have hi := ((HA.out.below hu hm).below hb (by have := hu.size; omega)).iv HV.out
    exact ⟨_, rfl, hi.more (by have := hu.size; have := hb.size; omega), hb⟩
  have HCON := Lib.hid hcon
  rw [← hx1] at n1 HB1 HCM
  rw [← hx2] at n2 HB2 HCM
  rw [← hd1] at HB1 HCM
  rw [← hd2] at HB2 HCM
  rw [← hx1, ← hd1, ← hx2, ← hd2]
  clear hx1 hd1 hx2 hd2 hcon Y1 Y2 HA HV
  obtain ⟨⟨mb1, M1, ws1, k1, e1⟩, ⟨mb2, M2, ws2, k2, e2⟩⟩ := a
  dsimp only at l1 l2
  simp only [Iv.val] at HCON ⊢
  have b0 : Below w.heap.size w ((w.alloc (.cells #[.bool mb1, .slice M1 ws1.length k1, .int .i64 e1, .bool mb2, .slice M2 ws2.length k2, .int .i64 e2] 41)).alloc (.cells #[.bool false, .slice none 0 0, .int .i64 0, .bool false, .slice none 0 0, .int .i64 0] 41)) := ext_alloc (ext_alloc (Below.refl _ _) _) _
  have r0 := (RowD.new_ w [.bool mb1, .slice M1 ws1.length k1, .int .i64 e1, .bool mb2, .slice M2 ws2.length k2, .int .i64 e2] 41).call (al_ _ (.cells #[.bool false, .slice none 0 0, .int .i64 0, .bool false, .slice none 0 0, .int .i64 0] 41))
  have r1 := RowD.new_ (w.alloc (.cells #[.bool mb1, .slice M1 ws1.length k1, .int .i64 e1, .bool mb2, .slice M2 ws2.length k2, .int .i64 e2] 41)) [.bool false, .slice none 0 0, .int .i64 0, .bool false, .slice none 0 0, .int .i64 0] 41
  rw [show (w.alloc (.cells #[.bool mb1, .slice M1 ws1.length k1, .int .i64 e1, .bool mb2, .slice M2 ws2.length k2, .int .i64 e2] 41)).heap.size = w.heap.size + 1 by simp] at r1
  go_enter Tryd.func83, Tryd.ntmps83
  go_wp2_with fail
  go_at_call 92
  refine (HCON.out _ b0).mono ?_
  rintro e w1 ⟨v1, rfl, I1, hb1⟩
  obtain ⟨nb1, A1, L1, c1, nb2, A2, L2, c2, rfl, E1, E2⟩ := I1.form
  have s0 := r0.call hb1
  have s1 := r1.call hb1
  have b1 := b0.trans (hb1.mono (by simp; omega))
  have hw1 : w.heap.size + 2 ≤ w1.heap.size := by have := hb1.size; simpa using this
  clear r0 r1 b0 hb1 I1 HCON
  have a0 : w1.cell? ⟨w.heap.size, 0, none⟩ = some (.bool mb1) := s0.cell 0
  have a1 : w1.cell? ⟨w.heap.size, 1, none⟩ = some (.slice M1 ws1.length k1) := s0.cell 1
  have a2 : w1.cell? ⟨w.heap.size, 2, none⟩ = some (.int .i64 e1) := s0.cell 2
  have a3 : w1.cell? ⟨w.heap.size, 3, none⟩ = some (.bool mb2) := s0.cell 3
  have a4 : w1.cell? ⟨w.heap.size, 4, none⟩ = some (.slice M2 ws2.length k2) := s0.cell 4
  have a5 : w1.cell? ⟨w.heap.size, 5, none⟩ = some (.int .i64 e2) := s0.cell 5
  have af := s0.free
  have R0 := Lib.hid s0
  have R1 := Lib.hid s1
  have G1 := Lib.hid E1
  have G2 := Lib.hid E2
  have HBB := Lib.hid b1
  clear s0 s1 E1 E2 b1
  go_wp2_with fail
  obtain ⟨W, hW⟩ : ∃ q, q = (((((w1.setCell ⟨w.heap.size, 0, none⟩ (.bool nb1)).setCell ⟨w.heap.size, 1, none⟩ (.slice A1 L1 c1)).setCell ⟨w.heap.size, 2, none⟩ (.int .i64 (d1 : Int))).setCell ⟨w.heap.size, 3, none⟩ (.bool nb2)).setCell ⟨w.heap.size, 4, none⟩ (.slice A2 L2 c2)).setCell ⟨w.heap.size, 5, none⟩ (.int .i64 (d2 : Int)) := ⟨_, rfl⟩
  have rA : RowD W w.heap.size [.bool nb1, .slice A1 L1 c1, .int .i64 (d1 : Int), .bool nb2, .slice A2 L2 c2, .int .i64 (d2 : Int)] 41 := by rw [hW]; exact R0.out.set6 _ _ _ _ _ _
  have rR : RowD W (w.heap.size + 1) [.bool false, .slice none 0 0, .int .i64 0, .bool false, .slice none 0 0, .int .i64 0] 41 := by rw [hW]; exact R1.out.other6 (by omega) _ _ _ _ _ _
  have D1 : DyR W 0 w1.heap.size (.agg #[.bool nb1, .slice A1 L1 c1, .int .i64 (d1 : Int)]) x1 d1 := by rw [hW]; exact G1.out.set6G R0.out noW_6 noW_6
  have D2 : DyR W 0 w1.heap.size (.agg #[.bool nb2, .slice A2 L2 c2, .int .i64 (d2 : Int)]) x2 d2 := by rw [hW]; exact G2.out.set6G R0.out noW_6 noW_6
  have bW : Below w.heap.size w W := by rw [hW]; exact below_set6 HBB.out (Nat.le_refl _) _ _ _ _ _ _
  have hmW : w1.heap.size ≤ W.heap.size := by rw [hW, size6]; exact Nat.le_refl _
  rw [← hW]
  clear hW R0 R1 G1 G2 HBB a0 a1 a2 a3 a4 a5 af
  have RA := Lib.hid rA
  have RR := Lib.hid rR
  have HD1 := Lib.hid D1
  have HD2 := Lib.hid D2
  have HBW := Lib.hid bW
  clear D1 D2 bW rR
  have D1 := HD1
  have D2 := HD2
  have a0 : W.cell? ⟨w.heap.size, 0, none⟩ = some (.bool nb1) := rA.cell 0
  have a1 : W.cell? ⟨w.heap.size, 1, none⟩ = some (.slice A1 L1 c1) := rA.cell 1
  have a2 : W.cell? ⟨w.heap.size, 2, none⟩ = some (.int .i64 (d1 : Int)) := rA.cell 2
  have a3 : W.cell? ⟨w.heap.size, 3, none⟩ = some (.bool nb2) := rA.cell 3
  have a4 : W.cell? ⟨w.heap.size, 4, none⟩ = some (.slice A2 L2 c2) := rA.cell 4
  have a5 : W.cell? ⟨w.heap.size, 5, none⟩ = some (.int .i64 (d2 : Int)) := rA.cell 5
  have hA := rA.lt
  clear rA
  go_cut [3] (fun v wx => ∃ g, v = .pointer (some ⟨g, 0, none⟩) ∧ W.heap.size ≤ g ∧ ∃ nb A L c nb' A' L' c', RowD wx g [.bool nb, .slice A L c, .int .i64 ((dyMin ((x1.natAbs : Nat) : Int) d1 ((x2.natAbs : Nat) : Int) d2).2 : Int), .bool nb', .slice A' L' c', .int .i64 ((dyMax ((x1.natAbs : Nat) : Int) d1 ((x2.natAbs : Nat) : Int) d2).2 : Int)] 41 ∧
    DyR wx 0 wx.heap.size (.agg #[.bool nb, .slice A L c, .int .i64 ((dyMin ((x1.natAbs : Nat) : Int) d1 ((x2.natAbs : Nat) : Int) d2).2 : Int)]) (dyMin ((x1.natAbs : Nat) : Int) d1 ((x2.natAbs : Nat) : Int) d2).1 (dyMin ((x1.natAbs : Nat) : Int) d1 ((x2.natAbs : Nat) : Int) d2).2 ∧
    DyR wx 0 wx.heap.size (.agg #[.bool nb', .slice A' L' c', .int .i64 ((dyMax ((x1.natAbs : Nat) : Int) d1 ((x2.natAbs : Nat) : Int) d2).2 : Int)]) (dyMax ((x1.natAbs : Nat) : Int) d1 ((x2.natAbs : Nat) : Int) d2).1 (dyMax ((x1.natAbs : Nat) : Int) d1 ((x2.natAbs : Nat) : Int) d2).2 ∧ Below W.heap.size W wx)
  case first =>
    refine wp_region_part 9 (by kernel_rfl) (by kernel_rfl) ?_
    dsimp only [List.take, List.drop]
    refine wpAny_of_held (S := fun w' => Below W.heap.size W w') _ _ _ _ ?_
    obtain ⟨u0, hu0⟩ : ∃ q, q = W.drew := ⟨_, rfl⟩
    have hS : Below W.heap.size W u0 := by rw [hu0]; exact (Below.refl _ _).drew
    rw [← hu0]
    clear hu0
    refine takeL 0 ?v0 rfl (by kernel_rfl) (by intro _ _ _ h; exact h) (by rfl) hS ?h0 ?r0
    case h0 =>
      intro w2 hSw
      go_simp
      try rfl
    case' r0 => try simp only [Act.put, List.setIfInBounds_toArray, List.set_cons_zero, List.set_cons_succ]
    refine takeL 1 ?v1 rfl (by kernel_rfl) (by intro _ _ _ h; exact h) (by rfl) hS ?h1 ?r1
    case h1 =>
      intro w2 hSw
      have e0 : w2.cell? ⟨w.heap.size, 0, none⟩ = some (.bool nb1) := (hSw.cell (p := ⟨w.heap.size, 0, none⟩) hA).trans a0
      have e1 : w2.cell? ⟨w.heap.size, 1, none⟩ = some (.slice A1 L1 c1) := (hSw.cell (p := ⟨w.heap.size, 1, none⟩) hA).trans a1
      have e2 : w2.cell? ⟨w.heap.size, 2, none⟩ = some (.int .i64 (d1 : Int)) := (hSw.cell (p := ⟨w.heap.size, 2, none⟩) hA).trans a2
      go_simp
      try rfl
    case' r1 => try simp only [Act.put, List.setIfInBounds_toArray, List.set_cons_zero, List.set_cons_succ]
    refine takeL 3 ?v3 rfl (by kernel_rfl) (by intro _ _ _ h; exact h) (by rfl) hS ?h3 ?r3
    case h3 =>
      intro w2 hSw
      go_simp
      try rfl
    case' r3 => try simp only [Act.put, List.setIfInBounds_toArray, List.set_cons_zero, List.set_cons_succ]
    refine takeL 4 ?v4 rfl (by kernel_rfl) (by intro _ _ _ h; exact h) (by rfl) hS ?h4 ?r4
    case h4 =>
      intro w2 hSw
      have e3 : w2.cell? ⟨w.heap.size, 3, none⟩ = some (.bool nb2) := (hSw.cell (p := ⟨w.heap.size, 3, none⟩) hA).trans a3
      have e4 : w2.cell? ⟨w.heap.size, 4, none⟩ = some (.slice A2 L2 c2) := (hSw.cell (p := ⟨w.heap.size, 4, none⟩) hA).trans a4
      have e5 : w2.cell? ⟨w.heap.size, 5, none⟩ = some (.int .i64 (d2 : Int)) := (hSw.cell (p := ⟨w.heap.size, 5, none⟩) hA).trans a5
      go_simp
      try rfl
    case' r4 => try simp only [Act.put, List.setIfInBounds_toArray, List.set_cons_zero, List.set_cons_succ]
    clear a0 a1 a2 a3 a4 a5
    refine stepL2 2 8 rfl rfl (by kernel_rfl) (by rfl) (by rfl) ?_ ?_
    · intro K hK
      go_simp
      refine (abs_w (D1.out.below hS hmW) (by have := hS.size; omega) (by omega)).mono ?_
      rintro e u1 ⟨v5, rfl, E5, hb⟩
      obtain ⟨r5, rfl, q5, vd, hx, hd, hw, _⟩ := E5.rw_
      have vd5 := Lib.hid vd
      have hx5 := Lib.hid hx
      have hd5 := Lib.hid hd
      have hw5 := Lib.hid hw
      clear vd hx hd hw
      have hS2 : Below W.heap.size W u1 := hS.trans (hb.mono (by have := hS.size; omega))
      refine hK.out _ _ hS2 ?_
      clear hK K hS E5 hb
      have hS := hS2
      clear hS2
      try simp only [Act.put, List.setIfInBounds_toArray, List.set_cons_zero, List.set_cons_succ]
      try dsimp only [Rw.val]
      refine stepL2 5 8 rfl rfl (by kernel_rfl) (by rfl) (by rfl) ?_ ?_
      · intro K hK
        go_simp
        refine (abs_w (D2.out.below hS hmW) (by have := hS.size; omega) (by omega)).mono ?_
        rintro e u2 ⟨v5, rfl, E5, hb⟩
        obtain ⟨r6, rfl, q6, vd, hx, hd, hw, _⟩ := E5.rw_
        have vd6 := Lib.hid vd
        have hx6 := Lib.hid hx
        have hd6 := Lib.hid hd
        have hw6 := Lib.hid hw
        clear vd hx hd hw
        have hS2 : Below W.heap.size W u2 := hS.trans (hb.mono (by have := hS.size; omega))
        replace q5 := (q5.below hb (Nat.le_refl _)).more hb.size
        refine hK.out _ _ hS2 ?_
        clear hK K hS E5 hb
        have hS := hS2
        clear hS2
        try simp only [Act.put, List.setIfInBounds_toArray, List.set_cons_zero, List.set_cons_succ]
        try dsimp only [Rw.val]
        refine stepL2 6 8 rfl rfl (by kernel_rfl) (by rfl) (by rfl) ?_ ?_
        · intro K hK
          go_simp
          refine hK.out _ _ (hS.alloc hS.size _) ?_
          clear hK K
          try simp only [Act.put, List.setIfInBounds_toArray, List.set_cons_zero, List.set_cons_succ]
          obtain ⟨u3, hn⟩ : ∃ q, q = u2.alloc (.cells #[.bool r5.nb, .slice r5.A r5.ws.length r5.cap, .int .i64 r5.den, .bool r6.nb, .slice r6.A r6.ws.length r6.cap, .int .i64 r6.den] 39) := ⟨_, rfl⟩
          obtain ⟨s, hs⟩ : ∃ q, q = u2.heap.size := ⟨_, rfl⟩
          have rs : RowD u3 s [.bool r5.nb, .slice r5.A r5.ws.length r5.cap, .int .i64 r5.den, .bool r6.nb, .slice r6.A r6.ws.length r6.cap, .int .i64 r6.den] 39 := by rw [hn, hs]; exact RowD.new_ _ _ _
          have hb : Below u2.heap.size u2 u3 := by rw [hn]; exact al_ _ _
          replace q5 := (q5.below hb (Nat.le_refl _)).more hb.size
          replace q6 := (q6.below hb (Nat.le_refl _)).more hb.size
          have hS2 : Below W.heap.size W u3 := hS.trans (hb.mono hS.size)
          rw [← hn, ← hs]
          clear hn hs hb hS
          have hS := hS2
          clear hS2
          refine stepL2 7 8 rfl rfl (by kernel_rfl) (by rfl) (by rfl) ?_ ?_
          · intro K hK
            go_simp
            have hx5a : ((x1.natAbs : Nat) : Int).natAbs = x1.natAbs := by simp
            have hx6a : ((x2.natAbs : Nat) : Int).natAbs = x2.natAbs := by simp
            have hrw : RwsAt u3 u3.heap.size (some ⟨s, 0, none⟩) [r5, r6] := ⟨rs.cells_ rs.lt, fun r hr => by rcases List.mem_cons.1 hr with rfl | hr; exact ⟨q5, vd5.out, by rw [hw5.out, hx5a]; exact n1⟩; rcases List.mem_cons.1 hr with rfl | hr; exact ⟨q6, vd6.out, by rw [hw6.out, hx6a]; exact n2⟩; cases hr⟩
            refine (rspan_any (some ⟨s, 0, none⟩) r5 [r6] 2 u3.heap.size _ (Nat.le_refl _) hrw (by simp) (by simp) (by simp)).mono ?_
            rintro e u4 ⟨v7, rfl, I7, hb⟩
            replace I7 := I7.low (Nat.zero_le _)
            simp only [spLo, spHi, List.foldl_cons, List.foldl_nil] at I7
            rw [hx5.out, hx6.out, hd5.out, hd6.out] at I7
            obtain ⟨nb7, A7, L7, c7, nb8, A8, L8, c8, rfl, E7, E8⟩ := I7.form
            have hS2 : Below W.heap.size W u4 := hS.trans (hb.mono hS.size)
            refine hK.out _ _ hS2 ?_
            clear hK K hS hb rs q5 q6 hrw hx5a hx6a I7
            have hS := hS2
            clear hS2
            try simp only [Act.put, List.setIfInBounds_toArray, List.set_cons_zero, List.set_cons_succ]
            refine stepL 8 rfl (by kernel_rfl) (by rfl) ?_
            intro K hK
            go_simp
            refine hK.out _ _ (hS.alloc hS.size _) ?_
            clear hK K
            try simp only [Act.put, List.setIfInBounds_toArray, List.set_cons_zero, List.set_cons_succ]
            obtain ⟨u5, hn⟩ : ∃ q, q = u4.alloc (.cells #[.bool false, .slice none 0 0, .int .i64 0, .bool false, .slice none 0 0, .int .i64 0] 41) := ⟨_, rfl⟩
            obtain ⟨g, hg⟩ : ∃ q, q = u4.heap.size := ⟨_, rfl⟩
            have rg : RowD u5 g [.bool false, .slice none 0 0, .int .i64 0, .bool false, .slice none 0 0, .int .i64 0] 41 := by rw [hn, hg]; exact RowD.new_ _ _ _
            have hgW : W.heap.size ≤ g := by rw [hg]; exact hS.size
            have hb : Below u4.heap.size u4 u5 := by rw [hn]; exact al_ _ _
            replace E7 := (E7.below hb (Nat.le_refl _)).more hb.size
            replace E8 := (E8.below hb (Nat.le_refl _)).more hb.size
            have hS2 : Below W.heap.size W u5 := hS.trans (hb.mono hS.size)
            rw [← hn, ← hg]
            clear hn hg hb hS
            have hS := hS2
            clear hS2
            have c0 : u5.cell? ⟨g, 0, none⟩ = some (.bool false) := rg.cell 0
            have c1 : u5.cell? ⟨g, 1, none⟩ = some (.slice none 0 0) := rg.cell 1
            have c2 : u5.cell? ⟨g, 2, none⟩ = some (.int .i64 0) := rg.cell 2
            have c3 : u5.cell? ⟨g, 3, none⟩ = some (.bool false) := rg.cell 3
            have c4 : u5.cell? ⟨g, 4, none⟩ = some (.slice none 0 0) := rg.cell 4
            have c5 : u5.cell? ⟨g, 5, none⟩ = some (.int .i64 0) := rg.cell 5
            have cf := rg.free
            have cg := rg.lt
            have RG := Lib.hid rg
            have HE7 := Lib.hid E7
            have HE8 := Lib.hid E8
            have HSS := Lib.hid hS
            clear rg E7 E8 hS
            refine endL (by kernel_rfl) ?_
            dsimp only [PartQ]
            go_wp2_with fail
            go_meet
            exact ⟨g, rfl, hgW, nb7, A7, L7, c7, nb8, A8, L8, c8, RG.out.set6 _ _ _ _ _ _, by rw [size6]; exact HE7.out.set6G RG.out noW_6 noW_6, by rw [size6]; exact HE8.out.set6G RG.out noW_6 noW_6, below_set6 HSS.out hgW _ _ _ _ _ _⟩
          · intro K hK
            go_simp
            refine hK.out _ _ (hS.alloc hS.size _) ?_
            clear hK K
            try simp only [Act.put, List.setIfInBounds_toArray, List.set_cons_zero, List.set_cons_succ]
            obtain ⟨u4, hn⟩ : ∃ q, q = u3.alloc (.cells #[.bool false, .slice none 0 0, .int .i64 0, .bool false, .slice none 0 0, .int .i64 0] 41) := ⟨_, rfl⟩
            obtain ⟨g, hg⟩ : ∃ q, q = u3.heap.size := ⟨_, rfl⟩
            have rg : RowD u4 g [.bool false, .slice none 0 0, .int .i64 0, .bool false, .slice none 0 0, .int .i64 0] 41 := by rw [hn, hg]; exact RowD.new_ _ _ _
            have hgW : W.heap.size ≤ g := by rw [hg]; exact hS.size
            have hb : Below u3.heap.size u3 u4 := by rw [hn]; exact al_ _ _
            replace q5 := (q5.below hb (Nat.le_refl _)).more hb.size
            replace q6 := (q6.below hb (Nat.le_refl _)).more hb.size
            replace rs := rs.call hb
            have hS2 : Below W.heap.size W u4 := hS.trans (hb.mono hS.size)
            rw [← hn, ← hg]
            clear hn hg hb hS
            have hS := hS2
            clear hS2
            refine stepL 7 rfl (by kernel_rfl) (by rfl) ?_
            intro K hK
            go_simp
            have hx5a : ((x1.natAbs : Nat) : Int).natAbs = x1.natAbs := by simp
            have hx6a : ((x2.natAbs : Nat) : Int).natAbs = x2.natAbs := by simp
            have hrw : RwsAt u4 u4.heap.size (some ⟨s, 0, none⟩) [r5, r6] := ⟨rs.cells_ rs.lt, fun r hr => by rcases List.mem_cons.1 hr with rfl | hr; exact ⟨q5, vd5.out, by rw [hw5.out, hx5a]; exact n1⟩; rcases List.mem_cons.1 hr with rfl | hr; exact ⟨q6, vd6.out, by rw [hw6.out, hx6a]; exact n2⟩; cases hr⟩
            refine (rspan_any (some ⟨s, 0, none⟩) r5 [r6] 2 u4.heap.size _ (Nat.le_refl _) hrw (by simp) (by simp) (by simp)).mono ?_
            rintro e u5 ⟨v7, rfl, I7, hb⟩
            replace I7 := I7.low (Nat.zero_le _)
            simp only [spLo, spHi, List.foldl_cons, List.foldl_nil] at I7
            rw [hx5.out, hx6.out, hd5.out, hd6.out] at I7
            obtain ⟨nb7, A7, L7, c7, nb8, A8, L8, c8, rfl, E7, E8⟩ := I7.form
            have hS2 : Below W.heap.size W u5 := hS.trans (hb.mono hS.size)
            have rg2 := rg.call hb
            clear rg
            refine hK.out _ _ hS2 ?_
            clear hK K hS hb rs q5 q6 hrw hx5a hx6a I7
            have hS := hS2
            clear hS2
            have rg := rg2
            clear rg2
            try simp only [Act.put, List.setIfInBounds_toArray, List.set_cons_zero, List.set_cons_succ]
            have c0 : u5.cell? ⟨g, 0, none⟩ = some (.bool false) := rg.cell 0
            have c1 : u5.cell? ⟨g, 1, none⟩ = some (.slice none 0 0) := rg.cell 1
            have c2 : u5.cell? ⟨g, 2, none⟩ = some (.int .i64 0) := rg.cell 2
            have c3 : u5.cell? ⟨g, 3, none⟩ = some (.bool false) := rg.cell 3
            have c4 : u5.cell? ⟨g, 4, none⟩ = some (.slice none 0 0) := rg.cell 4
            have c5 : u5.cell? ⟨g, 5, none⟩ = some (.int .i64 0) := rg.cell 5
            have cf := rg.free
            have cg := rg.lt
            have RG := Lib.hid rg
            have HE7 := Lib.hid E7
            have HE8 := Lib.hid E8
            have HSS := Lib.hid hS
            clear rg E7 E8 hS
            refine endL (by kernel_rfl) ?_
            dsimp only [PartQ]
            go_wp2_with fail
            go_meet
            exact ⟨g, rfl, hgW, nb7, A7, L7, c7, nb8, A8, L8, c8, RG.out.set6 _ _ _ _ _ _, by rw [size6]; exact HE7.out.set6G RG.out noW_6 noW_6, by rw [size6]; exact HE8.out.set6G RG.out noW_6 noW_6, below_set6 HSS.out hgW _ _ _ _ _ _⟩
        · intro K hK
          go_simp
          refine hK.out _ _ (hS.alloc hS.size _) ?_
          clear hK K
          try simp only [Act.put, List.setIfInBounds_toArray, List.set_cons_zero, List.set_cons_succ]
          obtain ⟨u3, hn⟩ : ∃ q, q = u2.alloc (.cells #[.bool false, .slice none 0 0, .int .i64 0, .bool false, .slice none 0 0, .int .i64 0] 41) := ⟨_, rfl⟩
          obtain ⟨g, hg⟩ : ∃ q, q = u2.heap.size := ⟨_, rfl⟩
          have rg : RowD u3 g [.bool false, .slice none 0 0, .int .i64 0, .bool false, .slice none 0 0, .int .i64 0] 41 := by rw [hn, hg]; exact RowD.new_ _ _ _
          have hgW : W.heap.size ≤ g := by rw [hg]; exact hS.size
          have hb : Below u2.heap.size u2 u3 := by rw [hn]; exact al_ _ _
          replace q5 := (q5.below hb (Nat.le_refl _)).more hb.size
          replace q6 := (q6.below hb (Nat.le_refl _)).more hb.size
          have hS2 : Below W.heap.size W u3 := hS.trans (hb.mono hS.size)
          rw [← hn, ← hg]
          clear hn hg hb hS
          have hS := hS2
          clear hS2
          refine stepL 6 rfl (by kernel_rfl) (by rfl) ?_
          intro K hK
          go_simp
          refine hK.out _ _ (hS.alloc hS.size _) ?_
          clear hK K
          try simp only [Act.put, List.setIfInBounds_toArray, List.set_cons_zero, List.set_cons_succ]
          obtain ⟨u4, hn⟩ : ∃ q, q = u3.alloc (.cells #[.bool r5.nb, .slice r5.A r5.ws.length r5.cap, .int .i64 r5.den, .bool r6.nb, .slice r6.A r6.ws.length r6.cap, .int .i64 r6.den] 39) := ⟨_, rfl⟩
          obtain ⟨s, hs⟩ : ∃ q, q = u3.heap.size := ⟨_, rfl⟩
          have rs : RowD u4 s [.bool r5.nb, .slice r5.A r5.ws.length r5.cap, .int .i64 r5.den, .bool r6.nb, .slice r6.A r6.ws.length r6.cap, .int .i64 r6.den] 39 := by rw [hn, hs]; exact RowD.new_ _ _ _
          have hb : Below u3.heap.size u3 u4 := by rw [hn]; exact al_ _ _
          replace q5 := (q5.below hb (Nat.le_refl _)).more hb.size
          replace q6 := (q6.below hb (Nat.le_refl _)).more hb.size
          have hS2 : Below W.heap.size W u4 := hS.trans (hb.mono hS.size)
          replace rg := rg.call hb
          rw [← hn, ← hs]
          clear hn hs hb hS
          have hS := hS2
          clear hS2
          refine stepL 7 rfl (by kernel_rfl) (by rfl) ?_
          intro K hK
          go_simp
          have hx5a : ((x1.natAbs : Nat) : Int).natAbs = x1.natAbs := by simp
          have hx6a : ((x2.natAbs : Nat) : Int).natAbs = x2.natAbs := by simp
          have hrw : RwsAt u4 u4.heap.size (some ⟨s, 0, none⟩) [r5, r6] := ⟨rs.cells_ rs.lt, fun r hr => by rcases List.mem_cons.1 hr with rfl | hr; exact ⟨q5, vd5.out, by rw [hw5.out, hx5a]; exact n1⟩; rcases List.mem_cons.1 hr with rfl | hr; exact ⟨q6, vd6.out, by rw [hw6.out, hx6a]; exact n2⟩; cases hr⟩
          refine (rspan_any (some ⟨s, 0, none⟩) r5 [r6] 2 u4.heap.size _ (Nat.le_refl _) hrw (by simp) (by simp) (by simp)).mono ?_
          rintro e u5 ⟨v7, rfl, I7, hb⟩
          replace I7 := I7.low (Nat.zero_le _)
          simp only [spLo, spHi, List.foldl_cons, List.foldl_nil] at I7
          rw [hx5.out, hx6.out, hd5.out, hd6.out] at I7
          obtain ⟨nb7, A7, L7, c7, nb8, A8, L8, c8, rfl, E7, E8⟩ := I7.form
          have hS2 : Below W.heap.size W u5 := hS.trans (hb.mono hS.size)
          have rg2 := rg.call hb
          clear rg
          refine hK.out _ _ hS2 ?_
          clear hK K hS hb rs q5 q6 hrw hx5a hx6a I7
          have hS := hS2
          clear hS2
          have rg := rg2
          clear rg2
          try simp only [Act.put, List.setIfInBounds_toArray, List.set_cons_zero, List.set_cons_succ]
          have c0 : u5.cell? ⟨g, 0, none⟩ = some (.bool false) := rg.cell 0
          have c1 : u5.cell? ⟨g, 1, none⟩ = some (.slice none 0 0) := rg.cell 1
          have c2 : u5.cell? ⟨g, 2, none⟩ = some (.int .i64 0) := rg.cell 2
          have c3 : u5.cell? ⟨g, 3, none⟩ = some (.bool false) := rg.cell 3
          have c4 : u5.cell? ⟨g, 4, none⟩ = some (.slice none 0 0) := rg.cell 4
          have c5 : u5.cell? ⟨g, 5, none⟩ = some (.int .i64 0) := rg.cell 5
          have cf := rg.free
          have cg := rg.lt
          have RG := Lib.hid rg
          have HE7 := Lib.hid E7
          have HE8 := Lib.hid E8
          have HSS := Lib.hid hS
          clear rg E7 E8 hS
          refine endL (by kernel_rfl) ?_
          dsimp only [PartQ]
          go_wp2_with fail
          go_meet
          exact ⟨g, rfl, hgW, nb7, A7, L7, c7, nb8, A8, L8, c8, RG.out.set6 _ _ _ _ _ _, by rw [size6]; exact HE7.out.set6G RG.out noW_6 noW_6, by rw [size6]; exact HE8.out.set6G RG.out noW_6 noW_6, below_set6 HSS.out hgW _ _ _ _ _ _⟩
      · intro K hK
        go_simp
        refine hK.out _ _ (hS.alloc hS.size _) ?_
        clear hK K
        try simp only [Act.put, List.setIfInBounds_toArray, List.set_cons_zero, List.set_cons_succ]
        obtain ⟨u2, hn⟩ : ∃ q, q = u1.alloc (.cells #[.bool false, .slice none 0 0, .int .i64 0, .bool false, .slice none 0 0, .int .i64 0] 41) := ⟨_, rfl⟩
        obtain ⟨g, hg⟩ : ∃ q, q = u1.heap.size := ⟨_, rfl⟩
        have rg : RowD u2 g [.bool false, .slice none 0 0, .int .i64 0, .bool false, .slice none 0 0, .int .i64 0] 41 := by rw [hn, hg]; exact RowD.new_ _ _ _
        have hgW : W.heap.size ≤ g := by rw [hg]; exact hS.size
        have hb : Below u1.heap.size u1 u2 := by rw [hn]; exact al_ _ _
        replace q5 := (q5.below hb (Nat.le_refl _)).more hb.size
        have hS2 : Below W.heap.size W u2 := hS.trans (hb.mono hS.size)
        rw [← hn, ← hg]
        clear hn hg hb hS
        have hS := hS2
        clear hS2
        refine stepL 5 rfl (by kernel_rfl) (by rfl) ?_
        intro K hK
        go_simp
        refine (abs_w (D2.out.below hS hmW) (by have := hS.size; omega) (by omega)).mono ?_
        rintro e u3 ⟨v5, rfl, E5, hb⟩
        obtain ⟨r6, rfl, q6, vd, hx, hd, hw, _⟩ := E5.rw_
        have vd6 := Lib.hid vd
        have hx6 := Lib.hid hx
        have hd6 := Lib.hid hd
        have hw6 := Lib.hid hw
        clear vd hx hd hw
        have hS2 : Below W.heap.size W u3 := hS.trans (hb.mono (by have := hS.size; omega))
        replace q5 := (q5.below hb (Nat.le_refl _)).more hb.size
        have rg2 := rg.call hb
        clear rg
        refine hK.out _ _ hS2 ?_
        clear hK K hS E5 hb
        have hS := hS2
        clear hS2
        have rg := rg2
        clear rg2
        try simp only [Act.put, List.setIfInBounds_toArray, List.set_cons_zero, List.set_cons_succ]
        try dsimp only [Rw.val]
        refine stepL 6 rfl (by kernel_rfl) (by rfl) ?_
        intro K hK
        go_simp
        refine hK.out _ _ (hS.alloc hS.size _) ?_
        clear hK K
        try simp only [Act.put, List.setIfInBounds_toArray, List.set_cons_zero, List.set_cons_succ]
        obtain ⟨u4, hn⟩ : ∃ q, q = u3.alloc (.cells #[.bool r5.nb, .slice r5.A r5.ws.length r5.cap, .int .i64 r5.den, .bool r6.nb, .slice r6.A r6.ws.length r6.cap, .int .i64 r6.den] 39) := ⟨_, rfl⟩
        obtain ⟨s, hs⟩ : ∃ q, q = u3.heap.size := ⟨_, rfl⟩
        have rs : RowD u4 s [.bool r5.nb, .slice r5.A r5.ws.length r5.cap, .int .i64 r5.den, .bool r6.nb, .slice r6.A r6.ws.length r6.cap, .int .i64 r6.den] 39 := by rw [hn, hs]; exact RowD.new_ _ _ _
        have hb : Below u3.heap.size u3 u4 := by rw [hn]; exact al_ _ _
        replace q5 := (q5.below hb (Nat.le_refl _)).more hb.size
        replace q6 := (q6.below hb (Nat.le_refl _)).more hb.size
        have hS2 : Below W.heap.size W u4 := hS.trans (hb.mono hS.size)
        replace rg := rg.call hb
        rw [← hn, ← hs]
        clear hn hs hb hS
        have hS := hS2
        clear hS2
        refine stepL 7 rfl (by kernel_rfl) (by rfl) ?_
        intro K hK
        go_simp
        have hx5a : ((x1.natAbs : Nat) : Int).natAbs = x1.natAbs := by simp
        have hx6a : ((x2.natAbs : Nat) : Int).natAbs = x2.natAbs := by simp
        have hrw : RwsAt u4 u4.heap.size (some ⟨s, 0, none⟩) [r5, r6] := ⟨rs.cells_ rs.lt, fun r hr => by rcases List.mem_cons.1 hr with rfl | hr; exact ⟨q5, vd5.out, by rw [hw5.out, hx5a]; exact n1⟩; rcases List.mem_cons.1 hr with rfl | hr; exact ⟨q6, vd6.out, by rw [hw6.out, hx6a]; exact n2⟩; cases hr⟩
        refine (rspan_any (some ⟨s, 0, none⟩) r5 [r6] 2 u4.heap.size _ (Nat.le_refl _) hrw (by simp) (by simp) (by simp)).mono ?_
        rintro e u5 ⟨v7, rfl, I7, hb⟩
        replace I7 := I7.low (Nat.zero_le _)
        simp only [spLo, spHi, List.foldl_cons, List.foldl_nil] at I7
        rw [hx5.out, hx6.out, hd5.out, hd6.out] at I7
        obtain ⟨nb7, A7, L7, c7, nb8, A8, L8, c8, rfl, E7, E8⟩ := I7.form
        have hS2 : Below W.heap.size W u5 := hS.trans (hb.mono hS.size)
        have rg2 := rg.call hb
        clear rg
        refine hK.out _ _ hS2 ?_
        clear hK K hS hb rs q5 q6 hrw hx5a hx6a I7
        have hS := hS2
        clear hS2
        have rg := rg2
        clear rg2
        try simp only [Act.put, List.setIfInBounds_toArray, List.set_cons_zero, List.set_cons_succ]
        have c0 : u5.cell? ⟨g, 0, none⟩ = some (.bool false) := rg.cell 0
        have c1 : u5.cell? ⟨g, 1, none⟩ = some (.slice none 0 0) := rg.cell 1
        have c2 : u5.cell? ⟨g, 2, none⟩ = some (.int .i64 0) := rg.cell 2
        have c3 : u5.cell? ⟨g, 3, none⟩ = some (.bool false) := rg.cell 3
        have c4 : u5.cell? ⟨g, 4, none⟩ = some (.slice none 0 0) := rg.cell 4
        have c5 : u5.cell? ⟨g, 5, none⟩ = some (.int .i64 0) := rg.cell 5
        have cf := rg.free
        have cg := rg.lt
        have RG := Lib.hid rg
        have HE7 := Lib.hid E7
        have HE8 := Lib.hid E8
        have HSS := Lib.hid hS
        clear rg E7 E8 hS
        refine endL (by kernel_rfl) ?_
        dsimp only [PartQ]
        go_wp2_with fail
        go_meet
        exact ⟨g, rfl, hgW, nb7, A7, L7, c7, nb8, A8, L8, c8, RG.out.set6 _ _ _ _ _ _, by rw [size6]; exact HE7.out.set6G RG.out noW_6 noW_6, by rw [size6]; exact HE8.out.set6G RG.out noW_6 noW_6, below_set6 HSS.out hgW _ _ _ _ _ _⟩
    · intro K hK
      go_simp
      refine hK.out _ _ (hS.alloc hS.size _) ?_
      clear hK K
      try simp only [Act.put, List.setIfInBounds_toArray, List.set_cons_zero, List.set_cons_succ]
      obtain ⟨u1, hn⟩ : ∃ q, q = u0.alloc (.cells #[.bool false, .slice none 0 0, .int .i64 0, .bool false, .slice none 0 0, .int .i64 0] 41) := ⟨_, rfl⟩
      obtain ⟨g, hg⟩ : ∃ q, q = u0.heap.size := ⟨_, rfl⟩
      have rg : RowD u1 g [.bool false, .slice none 0 0, .int .i64 0, .bool false, .slice none 0 0, .int .i64 0] 41 := by rw [hn, hg]; exact RowD.new_ _ _ _
      have hgW : W.heap.size ≤ g := by rw [hg]; exact hS.size
      have hb : Below u0.heap.size u0 u1 := by rw [hn]; exact al_ _ _
      have hS2 : Below W.heap.size W u1 := hS.trans (hb.mono hS.size)
      rw [← hn, ← hg]
      clear hn hg hb hS
      have hS := hS2
      clear hS2
      refine stepL 2 rfl (by kernel_rfl) (by rfl) ?_
      intro K hK
      go_simp
      refine (abs_w (D1.out.below hS hmW) (by have := hS.size; omega) (by omega)).mono ?_
      rintro e u2 ⟨v5, rfl, E5, hb⟩
      obtain ⟨r5, rfl, q5, vd, hx, hd, hw, _⟩ := E5.rw_
      have vd5 := Lib.hid vd
      have hx5 := Lib.hid hx
      have hd5 := Lib.hid hd
      have hw5 := Lib.hid hw
      clear vd hx hd hw
      have hS2 : Below W.heap.size W u2 := hS.trans (hb.mono (by have := hS.size; omega))
      have rg2 := rg.call hb
      clear rg
      refine hK.out _ _ hS2 ?_
      clear hK K hS E5 hb
      have hS := hS2
      clear hS2
      have rg := rg2
      clear rg2
      try simp only [Act.put, List.setIfInBounds_toArray, List.set_cons_zero, List.set_cons_succ]
      try dsimp only [Rw.val]
      refine stepL 5 rfl (by kernel_rfl) (by rfl) ?_
      intro K hK
      go_simp
      refine (abs_w (D2.out.below hS hmW) (by have := hS.size; omega) (by omega)).mono ?_
      rintro e u3 ⟨v5, rfl, E5, hb⟩
      obtain ⟨r6, rfl, q6, vd, hx, hd, hw, _⟩ := E5.rw_
      have vd6 := Lib.hid vd
      have hx6 := Lib.hid hx
      have hd6 := Lib.hid hd
      have hw6 := Lib.hid hw
      clear vd hx hd hw
      have hS2 : Below W.heap.size W u3 := hS.trans (hb.mono (by have := hS.size; omega))
      replace q5 := (q5.below hb (Nat.le_refl _)).more hb.size
      have rg2 := rg.call hb
      clear rg
      refine hK.out _ _ hS2 ?_
      clear hK K hS E5 hb
      have hS := hS2
      clear hS2
      have rg := rg2
      clear rg2
      try simp only [Act.put, List.setIfInBounds_toArray, List.set_cons_zero, List.set_cons_succ]
      try dsimp only [Rw.val]
      refine stepL 6 rfl (by kernel_rfl) (by rfl) ?_
      intro K hK
      go_simp
      refine hK.out _ _ (hS.alloc hS.size _) ?_
      clear hK K
      try simp only [Act.put, List.setIfInBounds_toArray, List.set_cons_zero, List.set_cons_succ]
      obtain ⟨u4, hn⟩ : ∃ q, q = u3.alloc (.cells #[.bool r5.nb, .slice r5.A r5.ws.length r5.cap, .int .i64 r5.den, .bool r6.nb, .slice r6.A r6.ws.length r6.cap, .int .i64 r6.den] 39) := ⟨_, rfl⟩
      obtain ⟨s, hs⟩ : ∃ q, q = u3.heap.size := ⟨_, rfl⟩
      have rs : RowD u4 s [.bool r5.nb, .slice r5.A r5.ws.length r5.cap, .int .i64 r5.den, .bool r6.nb, .slice r6.A r6.ws.length r6.cap, .int .i64 r6.den] 39 := by rw [hn, hs]; exact RowD.new_ _ _ _
      have hb : Below u3.heap.size u3 u4 := by rw [hn]; exact al_ _ _
      replace q5 := (q5.below hb (Nat.le_refl _)).more hb.size
      replace q6 := (q6.below hb (Nat.le_refl _)).more hb.size
      have hS2 : Below W.heap.size W u4 := hS.trans (hb.mono hS.size)
      replace rg := rg.call hb
      rw [← hn, ← hs]
      clear hn hs hb hS
      have hS := hS2
      clear hS2
      refine stepL 7 rfl (by kernel_rfl) (by rfl) ?_
      intro K hK
      go_simp
      have hx5a : ((x1.natAbs : Nat) : Int).natAbs = x1.natAbs := by simp
      have hx6a : ((x2.natAbs : Nat) : Int).natAbs = x2.natAbs := by simp
      have hrw : RwsAt u4 u4.heap.size (some ⟨s, 0, none⟩) [r5, r6] := ⟨rs.cells_ rs.lt, fun r hr => by rcases List.mem_cons.1 hr with rfl | hr; exact ⟨q5, vd5.out, by rw [hw5.out, hx5a]; exact n1⟩; rcases List.mem_cons.1 hr with rfl | hr; exact ⟨q6, vd6.out, by rw [hw6.out, hx6a]; exact n2⟩; cases hr⟩
      refine (rspan_any (some ⟨s, 0, none⟩) r5 [r6] 2 u4.heap.size _ (Nat.le_refl _) hrw (by simp) (by simp) (by simp)).mono ?_
      rintro e u5 ⟨v7, rfl, I7, hb⟩
      replace I7 := I7.low (Nat.zero_le _)
      simp only [spLo, spHi, List.foldl_cons, List.foldl_nil] at I7
      rw [hx5.out, hx6.out, hd5.out, hd6.out] at I7
      obtain ⟨nb7, A7, L7, c7, nb8, A8, L8, c8, rfl, E7, E8⟩ := I7.form
      have hS2 : Below W.heap.size W u5 := hS.trans (hb.mono hS.size)
      have rg2 := rg.call hb
      clear rg
      refine hK.out _ _ hS2 ?_
      clear hK K hS hb rs q5 q6 hrw hx5a hx6a I7
      have hS := hS2
      clear hS2
      have rg := rg2
      clear rg2
      try simp only [Act.put, List.setIfInBounds_toArray, List.set_cons_zero, List.set_cons_succ]
      have c0 : u5.cell? ⟨g, 0, none⟩ = some (.bool false) := rg.cell 0
      have c1 : u5.cell? ⟨g, 1, none⟩ = some (.slice none 0 0) := rg.cell 1
      have c2 : u5.cell? ⟨g, 2, none⟩ = some (.int .i64 0) := rg.cell 2
      have c3 : u5.cell? ⟨g, 3, none⟩ = some (.bool false) := rg.cell 3
      have c4 : u5.cell? ⟨g, 4, none⟩ = some (.slice none 0 0) := rg.cell 4
      have c5 : u5.cell? ⟨g, 5, none⟩ = some (.int .i64 0) := rg.cell 5
      have cf := rg.free
      have cg := rg.lt
      have RG := Lib.hid rg
      have HE7 := Lib.hid E7
      have HE8 := Lib.hid E8
      have HSS := Lib.hid hS
      clear rg E7 E8 hS
      refine endL (by kernel_rfl) ?_
      dsimp only [PartQ]
      go_wp2_with fail
      go_meet
      exact ⟨g, rfl, hgW, nb7, A7, L7, c7, nb8, A8, L8, c8, RG.out.set6 _ _ _ _ _ _, by rw [size6]; exact HE7.out.set6G RG.out noW_6 noW_6, by rw [size6]; exact HE8.out.set6G RG.out noW_6 noW_6, below_set6 HSS.out hgW _ _ _ _ _ _⟩
  case rest =>
    obtain ⟨g, rfl, hgW, nb7, A7, L7, c7, nb8, A8, L8, c8, rg, e7, e8, hbc⟩ := hcut
    have HL := Lib.hid (show iabsHi x1 d1 x2 d2 = dyMax ((x1.natAbs : Nat) : Int) d1 ((x2.natAbs : Nat) : Int) d2 from rfl)
    have HM := Lib.hid (show ¬ (x1 < 0 ∧ 0 < x2) → iabsLo x1 d1 x2 d2 = dyMin ((x1.natAbs : Nat) : Int) d1 ((x2.natAbs : Nat) : Int) d2 from fun hn => if_neg hn)
    have HZ := Lib.hid (show x1 < 0 ∧ 0 < x2 → iabsLo x1 d1 x2 d2 = (0, 0) from fun hn => if_pos hn)
    obtain ⟨p7, hp7⟩ : ∃ p, p = dyMin ((x1.natAbs : Nat) : Int) d1 ((x2.natAbs : Nat) : Int) d2 := ⟨_, rfl⟩
    obtain ⟨p8, hp8⟩ : ∃ p, p = dyMax ((x1.natAbs : Nat) : Int) d1 ((x2.natAbs : Nat) : Int) d2 := ⟨_, rfl⟩
    have HP7 := Lib.hid hp7
    rw [← hp7] at rg e7 HM
    rw [← hp8] at rg e8 HL
    clear hp7 hp8
    obtain ⟨y1, f1⟩ := p7
    obtain ⟨y2, f2⟩ := p8
    dsimp only at rg e7 e8
    have hS := hbc.size
    have RA2 := Lib.hid (RA.out.call hbc)
    have RR2 := Lib.hid (RR.out.call hbc)
    have RG2 := Lib.hid rg
    have HE7 := Lib.hid e7
    have HE8 := Lib.hid e8
    have HC := Lib.hid (HBW.out.trans (hbc.mono HBW.out.size))
    have DD1 := Lib.hid (HD1.out.below hbc hmW)
    have DD2 := Lib.hid (HD2.out.below hbc hmW)
    clear rg e7 e8 hbc RA RR a0 a1 a2 a3 a4 a5
    have a0 : wc.cell? ⟨w.heap.size, 0, none⟩ = some (.bool nb1) := RA2.out.cell 0
    have a1 : wc.cell? ⟨w.heap.size, 1, none⟩ = some (.slice A1 L1 c1) := RA2.out.cell 1
    have a2 : wc.cell? ⟨w.heap.size, 2, none⟩ = some (.int .i64 (d1 : Int)) := RA2.out.cell 2
    have a3 : wc.cell? ⟨w.heap.size, 3, none⟩ = some (.bool nb2) := RA2.out.cell 3
    have a4 : wc.cell? ⟨w.heap.size, 4, none⟩ = some (.slice A2 L2 c2) := RA2.out.cell 4
    have a5 : wc.cell? ⟨w.heap.size, 5, none⟩ = some (.int .i64 (d2 : Int)) := RA2.out.cell 5
    by_cases k1 : x1 ≤ 0 ∧ 0 ≤ x2
    · have K1 := Lib.hid k1
      have hlo := Lib.hid (iabs_zero k1.1 k1.2 HB1.out.2 HB2.out.2)
      clear k1
      go_wp2_with fail
      go_at_call 94
      refine (rcontains_w (IvR.of DD1.out DD2.out) HCM.out n1 n2 (by omega) (DyR.zero_ wc 0 w1.heap.size) (by simp [canon_zero])).mono ?_
      rintro e u1 ⟨rfl, hb⟩
      rw [show (decide (pCmp x1 d1 0 0 ≤ 0) && decide (pCmp 0 0 x2 d2 ≤ 0)) = true from con_yes K1.out]
      have hz3 := hb.size
      have RG3x := RG2.out.call hb
      have RR3x := RR2.out.call hb
      have E73x := (HE7.out.below hb (Nat.le_refl _)).more hb.size
      have E83x := (HE8.out.below hb (Nat.le_refl _)).more hb.size
      have HC3x := HC.out.trans (hb.mono HC.out.size)
      have RA3x := RA2.out.call hb
      have DD3x := DD2.out.below hb (by omega)
      have RG3 := Lib.hid RG3x
      have RR3 := Lib.hid RR3x
      have E73 := Lib.hid E73x
      have E83 := Lib.hid E83x
      have HC3 := Lib.hid HC3x
      have RA3 := Lib.hid RA3x
      have DD3 := Lib.hid DD3x
      clear RG3x RR3x E73x E83x HC3x RA3x DD3x hb a0 a1 a2 a3 a4 a5
      have b0 : u1.cell? ⟨g, 0, none⟩ = some (.bool nb7) := RG3.out.cell 0
      have b1 : u1.cell? ⟨g, 1, none⟩ = some (.slice A7 L7 c7) := RG3.out.cell 1
      have b2 : u1.cell? ⟨g, 2, none⟩ = some (.int .i64 (f1 : Int)) := RG3.out.cell 2
      have b3 : u1.cell? ⟨g, 3, none⟩ = some (.bool nb8) := RG3.out.cell 3
      have b4 : u1.cell? ⟨g, 4, none⟩ = some (.slice A8 L8 c8) := RG3.out.cell 4
      have b5 : u1.cell? ⟨g, 5, none⟩ = some (.int .i64 (f2 : Int)) := RG3.out.cell 5
      have bf := RG3.out.free
      have hgl := RG3.out.lt
      have z0 : u1.cell? ⟨w.heap.size + 1, 0, none⟩ = some (.bool false) := RR3.out.cell 0
      have z1 : u1.cell? ⟨w.heap.size + 1, 1, none⟩ = some (.slice none 0 0) := RR3.out.cell 1
      have z2 : u1.cell? ⟨w.heap.size + 1, 2, none⟩ = some (.int .i64 0) := RR3.out.cell 2
      have z3 : u1.cell? ⟨w.heap.size + 1, 3, none⟩ = some (.bool false) := RR3.out.cell 3
      have z4 : u1.cell? ⟨w.heap.size + 1, 4, none⟩ = some (.slice none 0 0) := RR3.out.cell 4
      have z5 : u1.cell? ⟨w.heap.size + 1, 5, none⟩ = some (.int .i64 0) := RR3.out.cell 5
      have zf := RR3.out.free
      have hzl := RR3.out.lt
      go_wp2_with fail
      have RR4 := Lib.hid (((RR3.out.other_ (k := g) (by omega) 0 (.bool false)).other_ (k := g) (by omega) 1 (.slice none 0 0)).other_ (k := g) (by omega) 2 (.int .i64 0))
      have k0 := noW_6 (b1 := nb7) (A1 := A7) (L1 := L7) (c1 := c7) (d1 := (f1 : Int)) (b2 := nb8) (A2 := A8) (L2 := L8) (c2 := c8) (d2 := (f2 : Int))
      have k1 := k0.set 0 (u := .bool false) (by simp)
      have k2 := k1.set 1 (u := .slice none 0 0) (by simp)
      have E8b := Lib.hid (((E83.out.setG RG3.out k0 0 (.bool false)).setG (RG3.out.set_ 0 (.bool false)) k1 1 (.slice none 0 0)).setG ((RG3.out.set_ 0 (.bool false)).set_ 1 (.slice none 0 0)) k2 2 (.int .i64 0))
      have HC4 := ((HC3.out.setCell (p := ⟨g, 0, none⟩) (show w.heap.size ≤ g by omega) (.bool false)).setCell (p := ⟨g, 1, none⟩) (show w.heap.size ≤ g by omega) (.slice none 0 0)).setCell (p := ⟨g, 2, none⟩) (show w.heap.size ≤ g by omega) (.int .i64 0)
      refine bodyPost_ret (res_rabsI rfl (RR4.out.set6 _ _ _ _ _ _)) rfl ⟨_, rfl, ?_, below_set6 HC4 (by omega) _ _ _ _ _ _⟩
      rw [HL.out, hlo.out]
      refine IvR.of (DyR.zero_ _ _ _) ?_
      exact (E8b.out.set6G RR4.out noW_6 noW_6).more (by simp)
    · have K1 := Lib.hid k1
      have hlo := Lib.hid (HM.out (fun h => k1 ⟨by omega, by omega⟩))
      clear k1
      go_wp2_with fail
      go_at_call 94
      refine (rcontains_w (IvR.of DD1.out DD2.out) HCM.out n1 n2 (by omega) (DyR.zero_ wc 0 w1.heap.size) (by simp [canon_zero])).mono ?_
      rintro e u1 ⟨rfl, hb⟩
      rw [show (decide (pCmp x1 d1 0 0 ≤ 0) && decide (pCmp 0 0 x2 d2 ≤ 0)) = false from con_no K1.out]
      have hz3 := hb.size
      have RG3x := RG2.out.call hb
      have RR3x := RR2.out.call hb
      have E73x := (HE7.out.below hb (Nat.le_refl _)).more hb.size
      have E83x := (HE8.out.below hb (Nat.le_refl _)).more hb.size
      have HC3x := HC.out.trans (hb.mono HC.out.size)
      have RA3x := RA2.out.call hb
      have DD3x := DD2.out.below hb (by omega)
      have RG3 := Lib.hid RG3x
      have RR3 := Lib.hid RR3x
      have E73 := Lib.hid E73x
      have E83 := Lib.hid E83x
      have HC3 := Lib.hid HC3x
      have RA3 := Lib.hid RA3x
      have DD3 := Lib.hid DD3x
      clear RG3x RR3x E73x E83x HC3x RA3x DD3x hb a0 a1 a2 a3 a4 a5
      have b0 : u1.cell? ⟨g, 0, none⟩ = some (.bool nb7) := RG3.out.cell 0
      have b1 : u1.cell? ⟨g, 1, none⟩ = some (.slice A7 L7 c7) := RG3.out.cell 1
      have b2 : u1.cell? ⟨g, 2, none⟩ = some (.int .i64 (f1 : Int)) := RG3.out.cell 2
      have b3 : u1.cell? ⟨g, 3, none⟩ = some (.bool nb8) := RG3.out.cell 3
      have b4 : u1.cell? ⟨g, 4, none⟩ = some (.slice A8 L8 c8) := RG3.out.cell 4
      have b5 : u1.cell? ⟨g, 5, none⟩ = some (.int .i64 (f2 : Int)) := RG3.out.cell 5
      have bf := RG3.out.free
      have hgl := RG3.out.lt
      have z0 : u1.cell? ⟨w.heap.size + 1, 0, none⟩ = some (.bool false) := RR3.out.cell 0
      have z1 : u1.cell? ⟨w.heap.size + 1, 1, none⟩ = some (.slice none 0 0) := RR3.out.cell 1
      have z2 : u1.cell? ⟨w.heap.size + 1, 2, none⟩ = some (.int .i64 0) := RR3.out.cell 2
      have z3 : u1.cell? ⟨w.heap.size + 1, 3, none⟩ = some (.bool false) := RR3.out.cell 3
      have z4 : u1.cell? ⟨w.heap.size + 1, 4, none⟩ = some (.slice none 0 0) := RR3.out.cell 4
      have z5 : u1.cell? ⟨w.heap.size + 1, 5, none⟩ = some (.int .i64 0) := RR3.out.cell 5
      have zf := RR3.out.free
      have hzl := RR3.out.lt
      go_wp2_with fail
      refine bodyPost_ret (res_rabsI rfl (RR3.out.set6 _ _ _ _ _ _)) rfl ⟨_, rfl, ?_, below_set6 HC3.out (by omega) _ _ _ _ _ _⟩
      rw [HL.out, hlo.out]
      rw [size6]
      exact IvR.of (E73.out.set6G RR3.out noW_6 noW_6) (E83.out.set6G RR3.out noW_6 noW_6)
end Go.Proofs.YtejnnljjmafjaaaDoor
namespace Go.Proofs.YtejnnljjmafjaaaDoor
set_option linter.unusedVariables false
set_option linter.unusedSimpArgs false
set_option linter.unusedSectionVars false
open Go.RowKit

theorem res_rmag {tmps : Array Value} {w : World} {b : Nat} {v0 v1 v2 : Value} (h2 : tmps.getD 2 undef = .pointer (some ⟨b, 0, none⟩)) (hB : RowD w b [v0, v1, v2] 39) :
    (results Tryd.f68 tmps).run Tryd.prog w = .ok (.agg #[v0, v1, v2]) w := by
  have k0 := hB.cell 0
  have k1 := hB.cell 1
  have k2 := hB.cell 2
  simp at k0 k1 k2
  simp at h2
  simp [results, Tryd.results68, go_sem, h2, k0, k1, k2]
set_option maxRecDepth 100000 in
set_option maxHeartbeats 4000000 in
theorem rmag_any (a : Iv) (m : Nat) (w : World) (hm : m ≤ w.heap.size) (h : IvAt w m a) (hv : ivB a = true) (l1 : a.lo.ws.length ≤ 50000) (l2 : a.hi.ws.length ≤ 50000) :
    Calls Tryd.prog 68 #[a.val] w fun e w' => ∃ v', e = .returned v' ∧ DyR w' 0 w'.heap.size v' (magI a).1 (magI a).2 ∧ Below w.heap.size w w' := by
  have HA := Lib.hid h
  have HV := Lib.hid hv
  have hcon : ∀ u : World, Below w.heap.size w u → Calls Tryd.prog 83 #[a.val] u fun e w' => ∃ v', e = .returned v' ∧ IvR w' 0 w'.heap.size v' (iabsLo a.lo.x a.lo.d a.hi.x a.hi.d).1 (iabsLo a.lo.x a.lo.d a.hi.x a.hi.d).2 (magI a).1 (magI a).2 ∧ Below u.heap.size u w' := fun u hu =>
    rabsI_any a m u (by have := hu.size; omega) (HA.out.below hu hm) HV.out l1 l2
  have HCON := Lib.hid hcon
  clear hcon h hv
  obtain ⟨p, hp⟩ : ∃ p, p = iabsLo a.lo.x a.lo.d a.hi.x a.hi.d := ⟨_, rfl⟩
  obtain ⟨q, hq⟩ : ∃ q, q = magI a := ⟨_, rfl⟩
  rw [← hp, ← hq] at HCON
  rw [← hq]
  clear hp hq HA HV
  obtain ⟨x1, d1⟩ := p
  obtain ⟨x2, d2⟩ := q
  obtain ⟨⟨nb1, A1, ws1, c1, e1⟩, ⟨nb2, A2, ws2, c2, e2⟩⟩ := a
  dsimp only at HCON ⊢
  simp only [Iv.val] at HCON ⊢
  have b0 : Below w.heap.size w ((w.alloc (.cells #[.bool nb1, .slice A1 ws1.length c1, .int .i64 e1, .bool nb2, .slice A2 ws2.length c2, .int .i64 e2] 41)).alloc (.cells #[.bool false, .slice none 0 0, .int .i64 0] 39)) := ext_alloc (ext_alloc (Below.refl _ _) _) _
  have r1 := RowD.new_ (w.alloc (.cells #[.bool nb1, .slice A1 ws1.length c1, .int .i64 e1, .bool nb2, .slice A2 ws2.length c2, .int .i64 e2] 41)) [.bool false, .slice none 0 0, .int .i64 0] 39
  rw [show (w.alloc (.cells #[.bool nb1, .slice A1 ws1.length c1, .int .i64 e1, .bool nb2, .slice A2 ws2.length c2, .int .i64 e2] 41)).heap.size = w.heap.size + 1 by simp] at r1
  go_enter Tryd.func68, Tryd.ntmps68
  go_wp2_with fail
  go_at_call 83
  refine (HCON.out _ b0).mono ?_
  rintro e w1 ⟨v1, rfl, I1, hb1⟩
  obtain ⟨nb3, A3, L3, c3, nb4, A4, L4, c4, rfl, E1, E2⟩ := I1.form
  have u1 := r1.call hb1
  have bv := b0.trans (hb1.mono (by simp; omega))
  have G2 := Lib.hid E2
  clear I1 E1 E2 hb1 r1 b0 HCON
  have q0 : w1.cell? ⟨w.heap.size + 1, 0, none⟩ = some (.bool false) := u1.cell 0
  have q1 : w1.cell? ⟨w.heap.size + 1, 1, none⟩ = some (.slice none 0 0) := u1.cell 1
  have q2 : w1.cell? ⟨w.heap.size + 1, 2, none⟩ = some (.int .i64 0) := u1.cell 2
  have qf := u1.free
  have hu1 := u1.lt
  have hfd : ∀ u, (Instr.field 41 (.agg #[.bool nb3, .slice A3 L3 c3, .int .i64 (d1 : Int), .bool nb4, .slice A4 L4 c4, .int .i64 (d2 : Int)]) 1).run Tryd.prog u = .ok (.agg #[.bool nb4, .slice A4 L4 c4, .int .i64 (d2 : Int)]) u := fun _ => by kernel_rfl
  go_wp2_with fail
  refine bodyPost_ret (res_rmag rfl (u1.set3 _ _ _)) rfl ⟨_, rfl, ?_, (((bv.setCell (by first | (simp; done) | (simp; omega)) _).setCell (by first | (simp; done) | (simp; omega)) _).setCell (by first | (simp; done) | (simp; omega)) _)⟩
  have k0 := noW_rw rw0
  exact (((G2.out.setG u1 k0 0 _).setG (u1.set_ 0 _) (k0.set 0 (by simp)) 1 _).setG ((u1.set_ 0 _).set_ 1 _) ((k0.set 0 (by simp)).set 1 (by simp)) 2 _).more (by simp)
set_option maxRecDepth 100000 in
set_option maxHeartbeats 4000000 in
theorem rroom_any (a : Iv) (f most : Int) (m : Nat) (w : World) (hm : m ≤ w.heap.size) (h : IvAt w m a) (hv : ivB a = true) (l1 : a.lo.ws.length ≤ 10000) (l2 : a.hi.ws.length ≤ 10000) (hf0 : 0 ≤ f) (hf : f ≤ 1000) (hm0 : -9223372036854775808 ≤ most) (hm1 : most < 9223372036854775808) :
    Calls Tryd.prog 43 #[a.val, .int .i64 f, .int .i64 most] w fun e w' => e = .returned (.bool (roomB a f most)) ∧ Below w.heap.size w w' := by
  have hlm := mag_len h hv l1 l2
  have hlo : (canon most.natAbs).length ≤ 50000 := Nat.le_trans (canon_len_le (k := 2) (by omega)) (by decide)
  have hls := shift_len (n := f) (d := (magI a).2) hlm hf0 hf
  have HA := Lib.hid h
  have HV := Lib.hid hv
  have hcon : ∀ u : World, Below w.heap.size w u → Calls Tryd.prog 68 #[a.val] u fun e w' => ∃ v', e = .returned v' ∧ DyR w' 0 w'.heap.size v' (magI a).1 (magI a).2 ∧ Below u.heap.size u w' := fun u hu =>
    rmag_any a m u (by have := hu.size; omega) (HA.out.below hu hm) HV.out (by omega) (by omega)
  have HCON := Lib.hid hcon
  have HR := Lib.hid (show roomB a f most = decide (pCmp (dyShift (magI a).1 (magI a).2 f).1 (dyShift (magI a).1 (magI a).2 f).2 most 0 ≤ 0) from rfl)
  clear hcon h hv
  obtain ⟨q, hq⟩ : ∃ q, q = magI a := ⟨_, rfl⟩
  rw [← hq] at HCON HR hlm hls
  clear hq HA HV
  obtain ⟨x, d⟩ := q
  obtain ⟨bv, hbv⟩ : ∃ q, q = roomB a f most := ⟨_, rfl⟩
  rw [← hbv] at HR
  rw [← hbv]
  clear hbv
  obtain ⟨⟨nb1, A1, ws1, c1, e1⟩, ⟨nb2, A2, ws2, c2, e2⟩⟩ := a
  dsimp only at HCON HR hlm hls ⊢
  simp only [Iv.val] at HCON ⊢
  have b0 : Below w.heap.size w (w.alloc (.cells #[.bool nb1, .slice A1 ws1.length c1, .int .i64 e1, .bool nb2, .slice A2 ws2.length c2, .int .i64 e2] 41)) := al_ _ _
  clear l1 l2
  go_enter Tryd.func43, Tryd.ntmps43
  go_wp2_with fail
  go_at_call 68
  refine (HCON.out _ b0).mono ?_
  rintro e w1 ⟨v1, rfl, D1, hb1⟩
  have B1 := Lib.hid (b0.trans (hb1.mono (by simp)))
  have hbd := D1.bound.1
  have G1 := Lib.hid D1
  obtain ⟨nb3, A3, L3, c3, rfl, _⟩ := D1.form
  have hz1 := B1.out.size
  clear D1 hb1 b0 HCON
  go_wp2_with fail
  go_at_call 67
  refine (dshift_any G1.out (Nat.le_refl _) (Nat.le_trans hlm (by decide)) (by omega)).mono ?_
  rintro e w2 ⟨v2, rfl, D2, hb2⟩
  have B2 := Lib.hid (B1.out.trans (hb2.mono hz1))
  have G2 := Lib.hid D2
  obtain ⟨nb4, A4, L4, c4, rfl, _⟩ := D2.form
  have hz2 := B2.out.size
  clear D2 hb2 G1
  go_wp2_with fail
  go_at_call 50
  refine (of_any most hm0 hm1 _).mono ?_
  rintro e w3 ⟨v3, rfl, D3, hb3⟩
  have B3 := Lib.hid (B2.out.trans (hb3.mono hz2))
  have G2' := Lib.hid ((G2.out.below hb3 (Nat.le_refl _)).more hb3.size)
  have G3 := Lib.hid D3
  obtain ⟨nb5, A5, L5, c5, rfl, _⟩ := D3.form
  have hz3 := B3.out.size
  clear D3 hb3 G2
  go_wp2_with fail
  go_at_call 66
  refine (cmp_any G2'.out G3.out (Nat.le_refl _) hls hlo).mono ?_
  rintro e w4 ⟨rfl, hb4⟩
  rw [dyCmp_eq]
  obtain ⟨cv, hcv⟩ : ∃ cv, cv = pCmp (dyShift x d f).1 (dyShift x d f).2 most 0 := ⟨_, rfl⟩
  rw [← hcv] at HR
  rw [← hcv]
  clear hcv
  go_wp2_with fail
  go_ret
  exact ⟨by rw [HR.out]; rfl, B3.out.trans (hb4.mono hz3)⟩
end Go.Proofs.YtejnnljjmafjaaaDoor
