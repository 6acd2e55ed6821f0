/- Whether numbers and intervals are valid. Conditions: lists of words not too long. -/
import Derived.Test.YtejnnljjmafjaaaDoorIvC
import Derived.Test.YtejnnljjmafjaaaDoorRd
namespace Go.Proofs.YtejnnljjmafjaaaDoor
set_option linter.unusedVariables false
set_option linter.unusedSimpArgs false
set_option linter.unusedSectionVars false
open Go.RowKit

set_option maxRecDepth 100000 in
set_option maxHeartbeats 4000000 in
theorem rvalid_raw (r : Rw) (m : Nat) (w : World) (hm : m ≤ w.heap.size) (h : RwAt w m r) (hl : r.ws.length ≤ 1000000) :
    Calls Tryd.prog 78 #[r.val] w fun e w' => e = .returned (.bool (vdB r)) ∧ Below w.heap.size w w' := by
  have hat := h.at_
  have hok := h.ok
  obtain ⟨nb, A, ws, cap, den⟩ := r
  dsimp only at hat hok hl
  simp only [Rw.val]
  have key : den < 0 ∨ den = 0 ∨ (0 < den ∧ den ≤ 65536) ∨ 65536 < den := by omega
  by_cases h0 : ws.length = 0
  · have hp := vdP_0 (r := ⟨nb, A, ws, cap, den⟩) h0
    dsimp only at hp
    have hz : (ws.length : Int) = 0 := by omega
    have hzb : ((ws.length : Int) == 0) = true := by rw [hz]; rfl
    rw [h0] at hzb ⊢
    clear hat hok hl h hz h0
    cases nb with
    | true =>
      rcases key with k1 | k1 | k1 | k1
      all_goals
        have HV := Lib.hid (show vdB ⟨true, A, ws, cap, den⟩ = false from vd_no (fun hv => by have := (hp.1 hv).1; cases this))
        clear hp
        go_enter Tryd.func78, Tryd.ntmps78
        go_wp2_with fail
        all_goals first
          | (exfalso; omega)
          | (go_ret
             exact ⟨by rw [HV.out]; rfl, al_ _ _⟩)
    | false =>
      rcases key with k1 | k1 | k1 | k1
      · have d0 : (den == 0) = false := by rw [beq_eq_false_iff_ne]; omega
        have HV := Lib.hid (show vdB ⟨false, A, ws, cap, den⟩ = false from vd_no (fun hv => by have := (hp.1 hv).2; omega))
        clear hp
        go_enter Tryd.func78, Tryd.ntmps78
        go_wp2_with fail
        all_goals first
          | (exfalso; omega)
          | (go_ret
             exact ⟨by rw [HV.out]; rfl, al_ _ _⟩)
      · have d0 : (den == 0) = true := by simp; omega
        have HV := Lib.hid (show vdB ⟨false, A, ws, cap, den⟩ = true from vd_yes (hp.2 ⟨rfl, k1⟩))
        clear hp
        go_enter Tryd.func78, Tryd.ntmps78
        go_wp2_with fail
        all_goals first
          | (exfalso; omega)
          | (go_ret
             exact ⟨by rw [HV.out]; rfl, al_ _ _⟩)
      · have d0 : (den == 0) = false := by rw [beq_eq_false_iff_ne]; omega
        have HV := Lib.hid (show vdB ⟨false, A, ws, cap, den⟩ = false from vd_no (fun hv => by have := (hp.1 hv).2; omega))
        clear hp
        go_enter Tryd.func78, Tryd.ntmps78
        go_wp2_with fail
        all_goals first
          | (exfalso; omega)
          | (go_ret
             exact ⟨by rw [HV.out]; rfl, al_ _ _⟩)
      · have d0 : (den == 0) = false := by rw [beq_eq_false_iff_ne]; omega
        have HV := Lib.hid (show vdB ⟨false, A, ws, cap, den⟩ = false from vd_no (fun hv => by have := (hp.1 hv).2; omega))
        clear hp
        go_enter Tryd.func78, Tryd.ntmps78
        go_wp2_with fail
        all_goals first
          | (exfalso; omega)
          | (go_ret
             exact ⟨by rw [HV.out]; rfl, al_ _ _⟩)
  · have hp := vdP_n (r := ⟨nb, A, ws, cap, den⟩) h0
    dsimp only at hp
    obtain ⟨b, off, z, hA, q1, q2, hz, g1⟩ := hat.w32_ (k := ws.length - 1) (by omega)
    subst hA
    obtain ⟨b', off', y, hA', _, _, hy, g0⟩ := hat.w32_ (k := 0) (by omega)
    cases hA'
    rw [Nat.add_zero] at g0
    obtain ⟨L, hL⟩ : ∃ L, L = ws.length - 1 := ⟨_, rfl⟩
    have hlen : ws.length = L + 1 := by omega
    have hl' : L ≤ 1000000 := by omega
    have e0 : ((L : Int) + 1 == 0) = false := by simp; omega
    rw [← hL] at g1
    rw [hz, hy] at hp
    simp only [Option.getD_some] at hp
    rw [hlen]
    clear hat hok hl h hz hy hL q1 q2 h0 hlen
    by_cases hz0 : z = 0
    · subst hz0
      have hzb : (((0 : Nat) : Int) != 0) = false := by rfl
      rcases key with k1 | k1 | k1 | k1
      all_goals
        have HV := Lib.hid (show vdB ⟨nb, some ⟨b, off, none⟩, ws, cap, den⟩ = false from vd_no (fun hv => (hp.1 hv).1 rfl))
        clear hp
        go_enter Tryd.func78, Tryd.ntmps78
        go_wp2_with fail
        all_goals first
          | (exfalso; omega)
          | (go_ret
             exact ⟨by rw [HV.out]; rfl, al_ _ _⟩)
    · have hzb : ((z : Int) != 0) = true := by simp; omega
      rcases key with k1 | k1 | k1 | k1
      · have HV := Lib.hid (show vdB ⟨nb, some ⟨b, off, none⟩, ws, cap, den⟩ = false from vd_no (fun hv => by have := (hp.1 hv).2.1; omega))
        clear hp
        go_enter Tryd.func78, Tryd.ntmps78
        go_wp2_with fail
        all_goals first
          | (exfalso; omega)
          | (go_ret
             exact ⟨by rw [HV.out]; rfl, al_ _ _⟩)
      · have d0 : (den == 0) = true := by simp; omega
        have HV := Lib.hid (show vdB ⟨nb, some ⟨b, off, none⟩, ws, cap, den⟩ = true from vd_yes (hp.2 ⟨hz0, by omega, by omega, .inl k1⟩))
        clear hp
        go_enter Tryd.func78, Tryd.ntmps78
        go_wp2_with fail
        all_goals first
          | (exfalso; omega)
          | (go_ret
             exact ⟨by rw [HV.out]; rfl, al_ _ _⟩)
      · have d0 : (den == 0) = false := by rw [beq_eq_false_iff_ne]; omega
        have d1 : decide (den ≤ 65536) = true := decide_eq_true k1.2
        have d2 : decide (0 ≤ den) = true := decide_eq_true (by omega)
        by_cases ho : y % 2 = 1
        · have hoi : (y : Int) % 2 = 1 := by omega
          have HV := Lib.hid (show vdB ⟨nb, some ⟨b, off, none⟩, ws, cap, den⟩ = true from vd_yes (hp.2 ⟨hz0, by omega, k1.2, .inr ho⟩))
          clear hp
          go_enter Tryd.func78, Tryd.ntmps78
          go_wp2_with fail
          all_goals first
            | (exfalso; omega)
            | (go_ret
               exact ⟨by rw [HV.out]; rfl, al_ _ _⟩)
        · have hoi : (y : Int) % 2 = 0 := by omega
          have HV := Lib.hid (show vdB ⟨nb, some ⟨b, off, none⟩, ws, cap, den⟩ = false from vd_no (fun hv => by have := (hp.1 hv).2.2.2; omega))
          clear hp
          go_enter Tryd.func78, Tryd.ntmps78
          go_wp2_with fail
          all_goals first
            | (exfalso; omega)
            | (go_ret
               exact ⟨by rw [HV.out]; rfl, al_ _ _⟩)
      · have HV := Lib.hid (show vdB ⟨nb, some ⟨b, off, none⟩, ws, cap, den⟩ = false from vd_no (fun hv => by have := (hp.1 hv).2.2.1; omega))
        clear hp
        go_enter Tryd.func78, Tryd.ntmps78
        go_wp2_with fail
        all_goals first
          | (exfalso; omega)
          | (go_ret
             exact ⟨by rw [HV.out]; rfl, al_ _ _⟩)
set_option maxRecDepth 100000 in
set_option maxHeartbeats 4000000 in
theorem rivalid_any (a : Iv) (m : Nat) (w : World) (hm : m ≤ w.heap.size) (h : IvAt w m a) (l1 : a.lo.ws.length ≤ 50000) (l2 : a.hi.ws.length ≤ 50000) :
    Calls Tryd.prog 65 #[a.val] w fun e w' => e = .returned (.bool (ivB a)) ∧ Below w.heap.size w w' := by
  have H1 := Lib.hid h.lo
  have H2 := Lib.hid h.hi
  clear h
  obtain ⟨⟨nb1, A1, ws1, c1, e1⟩, ⟨nb2, A2, ws2, c2, e2⟩⟩ := a
  dsimp only at H1 H2 l1 l2
  simp only [Iv.val]
  have b0 : Below w.heap.size w (w.alloc (.cells #[.bool nb1, .slice A1 ws1.length c1, .int .i64 e1, .bool nb2, .slice A2 ws2.length c2, .int .i64 e2] 41)) := al_ _ _
  have r0 := RowD.new_ w [.bool nb1, .slice A1 ws1.length c1, .int .i64 e1, .bool nb2, .slice A2 ws2.length c2, .int .i64 e2] 41
  have hl1 := l1
  have hl2 := l2
  replace l1 : ws1.length ≤ 1000000 := by omega
  replace l2 : ws2.length ≤ 1000000 := by omega
  cases v1 : vdB ⟨nb1, A1, ws1, c1, e1⟩ with
  | false =>
    have V1 := Lib.hid v1
    have HV := Lib.hid (show ivB ⟨⟨nb1, A1, ws1, c1, e1⟩, ⟨nb2, A2, ws2, c2, e2⟩⟩ = false from decide_eq_false (fun hp => by have := hp.1; rw [v1] at this; cases this))
    clear v1
    go_enter Tryd.func65, Tryd.ntmps65
    go_wp2_with fail
    go_at_call_of 78 (Value.agg #[.bool nb1, .slice A1 ws1.length c1, .int .i64 e1])
    refine (rvalid_raw ⟨nb1, A1, ws1, c1, e1⟩ m _ (by simp; omega) (H1.out.below b0 hm) l1).mono ?_
    rintro e w1 ⟨rfl, hb1⟩
    rw [V1.out]
    have r1 := r0.call hb1
    have b1 := b0.trans (hb1.mono (by simp))
    clear r0 b0 hb1
    have k0 : w1.cell? ⟨w.heap.size, 0, none⟩ = some (.bool nb1) := r1.cell 0
    have k1 : w1.cell? ⟨w.heap.size, 1, none⟩ = some (.slice A1 ws1.length c1) := r1.cell 1
    have k2 : w1.cell? ⟨w.heap.size, 2, none⟩ = some (.int .i64 e1) := r1.cell 2
    have k3 : w1.cell? ⟨w.heap.size, 3, none⟩ = some (.bool nb2) := r1.cell 3
    have k4 : w1.cell? ⟨w.heap.size, 4, none⟩ = some (.slice A2 ws2.length c2) := r1.cell 4
    have k5 : w1.cell? ⟨w.heap.size, 5, none⟩ = some (.int .i64 e2) := r1.cell 5
    go_wp2_with fail
    go_ret
    exact ⟨by rw [HV.out]; rfl, b1⟩
  | true =>
    have V1 := Lib.hid v1
    cases v2 : vdB ⟨nb2, A2, ws2, c2, e2⟩ with
    | false =>
      have V2 := Lib.hid v2
      have HV := Lib.hid (show ivB ⟨⟨nb1, A1, ws1, c1, e1⟩, ⟨nb2, A2, ws2, c2, e2⟩⟩ = false from decide_eq_false (fun hp => by have := hp.2.1; rw [v2] at this; cases this))
      clear v1 v2
      go_enter Tryd.func65, Tryd.ntmps65
      go_wp2_with fail
      go_at_call_of 78 (Value.agg #[.bool nb1, .slice A1 ws1.length c1, .int .i64 e1])
      refine (rvalid_raw ⟨nb1, A1, ws1, c1, e1⟩ m _ (by simp; omega) (H1.out.below b0 hm) l1).mono ?_
      rintro e w1 ⟨rfl, hb1⟩
      rw [V1.out]
      have r1 := r0.call hb1
      have b1 := b0.trans (hb1.mono (by simp))
      clear r0 b0 hb1
      have k0 : w1.cell? ⟨w.heap.size, 0, none⟩ = some (.bool nb1) := r1.cell 0
      have k1 : w1.cell? ⟨w.heap.size, 1, none⟩ = some (.slice A1 ws1.length c1) := r1.cell 1
      have k2 : w1.cell? ⟨w.heap.size, 2, none⟩ = some (.int .i64 e1) := r1.cell 2
      have k3 : w1.cell? ⟨w.heap.size, 3, none⟩ = some (.bool nb2) := r1.cell 3
      have k4 : w1.cell? ⟨w.heap.size, 4, none⟩ = some (.slice A2 ws2.length c2) := r1.cell 4
      have k5 : w1.cell? ⟨w.heap.size, 5, none⟩ = some (.int .i64 e2) := r1.cell 5
      go_wp2_with fail
      go_at_call_of 78 (Value.agg #[.bool nb2, .slice A2 ws2.length c2, .int .i64 e2])
      have hs1 := b1.size
      refine (rvalid_raw ⟨nb2, A2, ws2, c2, e2⟩ m _ (by omega) (H2.out.below b1 hm) l2).mono ?_
      rintro e w2 ⟨rfl, hb2⟩
      rw [V2.out]
      have r2 := r1.call hb2
      have b2 := b1.trans (hb2.mono (by omega))
      clear r1 b1 hb2 k0 k1 k2 k3 k4 k5
      have k0 : w2.cell? ⟨w.heap.size, 0, none⟩ = some (.bool nb1) := r2.cell 0
      have k1 : w2.cell? ⟨w.heap.size, 1, none⟩ = some (.slice A1 ws1.length c1) := r2.cell 1
      have k2 : w2.cell? ⟨w.heap.size, 2, none⟩ = some (.int .i64 e1) := r2.cell 2
      have k3 : w2.cell? ⟨w.heap.size, 3, none⟩ = some (.bool nb2) := r2.cell 3
      have k4 : w2.cell? ⟨w.heap.size, 4, none⟩ = some (.slice A2 ws2.length c2) := r2.cell 4
      have k5 : w2.cell? ⟨w.heap.size, 5, none⟩ = some (.int .i64 e2) := r2.cell 5
      go_wp2_with fail
      go_ret
      exact ⟨by rw [HV.out]; rfl, b2⟩
    | true =>
      have V2 := Lib.hid v2
      have L1 := Lib.hid (rw_len H1.out v1)
      have L2 := Lib.hid (rw_len H2.out v2)
      obtain ⟨cv, hcv⟩ : ∃ cv, cv = pCmp (Rw.x ⟨nb1, A1, ws1, c1, e1⟩) (Rw.d ⟨nb1, A1, ws1, c1, e1⟩) (Rw.x ⟨nb2, A2, ws2, c2, e2⟩) (Rw.d ⟨nb2, A2, ws2, c2, e2⟩) := ⟨_, rfl⟩
      have HV := Lib.hid (show ivB ⟨⟨nb1, A1, ws1, c1, e1⟩, ⟨nb2, A2, ws2, c2, e2⟩⟩ = decide (cv ≤ 0) by
        refine decide_eq_decide.2 ⟨fun h => ?_, fun h => ⟨v1, v2, ?_⟩⟩
        · rw [hcv]; exact h.2.2
        · rw [hcv] at h; exact h)
      have HC := Lib.hid hcv
      clear v1 v2 hcv
      go_enter Tryd.func65, Tryd.ntmps65
      go_wp2_with fail
      go_at_call_of 78 (Value.agg #[.bool nb1, .slice A1 ws1.length c1, .int .i64 e1])
      refine (rvalid_raw ⟨nb1, A1, ws1, c1, e1⟩ m _ (by simp; omega) (H1.out.below b0 hm) l1).mono ?_
      rintro e w1 ⟨rfl, hb1⟩
      rw [V1.out]
      have r1 := r0.call hb1
      have b1 := b0.trans (hb1.mono (by simp))
      clear r0 b0 hb1
      have k0 : w1.cell? ⟨w.heap.size, 0, none⟩ = some (.bool nb1) := r1.cell 0
      have k1 : w1.cell? ⟨w.heap.size, 1, none⟩ = some (.slice A1 ws1.length c1) := r1.cell 1
      have k2 : w1.cell? ⟨w.heap.size, 2, none⟩ = some (.int .i64 e1) := r1.cell 2
      have k3 : w1.cell? ⟨w.heap.size, 3, none⟩ = some (.bool nb2) := r1.cell 3
      have k4 : w1.cell? ⟨w.heap.size, 4, none⟩ = some (.slice A2 ws2.length c2) := r1.cell 4
      have k5 : w1.cell? ⟨w.heap.size, 5, none⟩ = some (.int .i64 e2) := r1.cell 5
      go_wp2_with fail
      go_at_call_of 78 (Value.agg #[.bool nb2, .slice A2 ws2.length c2, .int .i64 e2])
      have hs1 := b1.size
      refine (rvalid_raw ⟨nb2, A2, ws2, c2, e2⟩ m _ (by omega) (H2.out.below b1 hm) l2).mono ?_
      rintro e w2 ⟨rfl, hb2⟩
      rw [V2.out]
      have r2 := r1.call hb2
      have b2 := b1.trans (hb2.mono (by omega))
      clear r1 b1 hb2 k0 k1 k2 k3 k4 k5
      have k0 : w2.cell? ⟨w.heap.size, 0, none⟩ = some (.bool nb1) := r2.cell 0
      have k1 : w2.cell? ⟨w.heap.size, 1, none⟩ = some (.slice A1 ws1.length c1) := r2.cell 1
      have k2 : w2.cell? ⟨w.heap.size, 2, none⟩ = some (.int .i64 e1) := r2.cell 2
      have k3 : w2.cell? ⟨w.heap.size, 3, none⟩ = some (.bool nb2) := r2.cell 3
      have k4 : w2.cell? ⟨w.heap.size, 4, none⟩ = some (.slice A2 ws2.length c2) := r2.cell 4
      have k5 : w2.cell? ⟨w.heap.size, 5, none⟩ = some (.int .i64 e2) := r2.cell 5
      go_wp2_with fail
      go_at_call 66
      have hs2 := b2.size
      refine (cmp_any ((H1.out.dy V1.out).below b2 hm) ((H2.out.dy V2.out).below b2 hm) (by omega) (by rw [L1.out]; exact hl1) (by rw [L2.out]; exact hl2)).mono ?_
      rintro e w3 ⟨rfl, hb3⟩
      rw [dyCmp_eq, ← HC.out]
      go_wp2_with fail
      go_ret
      exact ⟨by rw [HV.out]; rfl, b2.trans (hb3.mono hs2)⟩
end Go.Proofs.YtejnnljjmafjaaaDoor
