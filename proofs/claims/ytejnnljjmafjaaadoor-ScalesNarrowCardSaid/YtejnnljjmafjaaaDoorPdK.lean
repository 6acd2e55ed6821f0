/- The program's numbers: Neg, Abs, Min, Max. Condition: the table of math/bits stands in block 0. -/
import Derived.Test.YtejnnljjmafjaaaDoorPdJ
namespace Go.Proofs.YtejnnljjmafjaaaDoor
set_option linter.unusedVariables false
set_option linter.unusedSimpArgs false
set_option linter.unusedSectionVars false
open Go.RowKit

theorem sgI_nf (m : Int) (d : Nat) : sgI (nf m d).1 = sgI m := by
  rw [← sgI_mul (nf m d).1 d, nf_eq, sgI_mul]
theorem dyCmp_eq (x : Int) (dx : Nat) (y : Int) (dy : Nat) : dyCmp x dx y dy = pCmp x dx y dy := by
  unfold dyCmp pCmp dySum
  rw [sgI_nf, Int.neg_mul]
  rfl
theorem min_fst {x y : Int} {dx dy : Nat} (h : pCmp x dx y dy ≤ 0) : dyMin x dx y dy = (x, dx) := by unfold dyMin; rw [dyCmp_eq, if_neg (by omega)]
theorem min_snd {x y : Int} {dx dy : Nat} (h : ¬ pCmp x dx y dy ≤ 0) : dyMin x dx y dy = (y, dy) := by unfold dyMin; rw [dyCmp_eq, if_pos (by omega)]
theorem max_fst {x y : Int} {dx dy : Nat} (h : 0 ≤ pCmp x dx y dy) : dyMax x dx y dy = (x, dx) := by unfold dyMax; rw [dyCmp_eq, if_neg (by omega)]
theorem max_snd {x y : Int} {dx dy : Nat} (h : ¬ 0 ≤ pCmp x dx y dy) : dyMax x dx y dy = (y, dy) := by unfold dyMax; rw [dyCmp_eq, if_pos (by omega)]
theorem sh0 {x : Int} {d : Nat} (h : d ≠ 0 → x % 2 = 1) : dyShift x d 0 = (x, d) := by
  unfold dyShift
  rw [show max (-65536) (min (0 : Int) 65536) = 0 by omega, if_neg (by omega)]
  simpa using nf_id h
theorem sg_flip (x : Int) : sg (!decide (x < 0)) x.natAbs = -x := by
  unfold sg
  by_cases h : x < 0
  · rw [decide_eq_true h]; simp; omega
  · rw [decide_eq_false h]; simp; omega
theorem res_pAbs {tmps : Array Value} {w : World} {b : Nat} {v0 v1 v2 : Value} (h2 : tmps.getD 2 undef = .pointer (some ⟨b, 0, none⟩)) (hB : RowD w b [v0, v1, v2] 39) :
    (results Tryd.f71 tmps).run Tryd.prog w = .ok (.agg #[v0, v1, v2]) w := by
  have k0 := hB.cell 0
  have k1 := hB.cell 1
  have k2 := hB.cell 2
  simp at k0 k1 k2
  simp at h2
  simp [results, Tryd.results71, go_sem, h2, k0, k1, k2]
set_option maxRecDepth 100000 in
set_option maxHeartbeats 4000000 in
theorem pabs_any {v : Value} {x : Int} {d lo m : Nat} {w : World} (D : DyR w lo m v x d) (hm : m ≤ w.heap.size) (hl : (canon x.natAbs).length ≤ 50000) (ht : TabAt w) :
    Calls Tryd.prog 71 #[v] w fun e w' => ∃ v', e = .returned v' ∧ DyR w' w.heap.size w'.heap.size v' (((x.natAbs : Nat) : Int)) d ∧ Below w.heap.size w w' := by
  have hd6 := D.bound.1
  have HV := Lib.hid (show nf (sg (false) x.natAbs) d = (((x.natAbs : Nat) : Int), d) by
    rw [show sg (false) x.natAbs = ((x.natAbs : Nat) : Int) from by unfold sg; simp]
    exact nf_id (fun h => by have := D.bound.2 h; omega))
  obtain ⟨nb, A, L, c, rfl, HD⟩ := D.form
  have D' := Lib.hid D
  have HT := Lib.hid ht
  have b0 : Below w.heap.size w ((w.alloc (.cells #[.bool nb, .slice A L c, .int .i64 (d : Int)] 39)).alloc (.cells #[.bool false, .slice none 0 0, .int .i64 0] 39)) := ext_alloc (ext_alloc (Below.refl _ _) _) _
  have r0 := RowD.new_ (w.alloc (.cells #[.bool nb, .slice A L c, .int .i64 (d : Int)] 39)) [.bool false, .slice none 0 0, .int .i64 0] 39
  rw [show (w.alloc (.cells #[.bool nb, .slice A L c, .int .i64 (d : Int)] 39)).heap.size = w.heap.size + 1 by simp] at r0
  clear D ht
  go_enter Tryd.func71, Tryd.ntmps71
  go_wp2_with fail
  go_at_call 35
  refine (parts_w (D'.out.below b0 hm) (by simp; omega) (by omega)).mono ?_
  rintro e w1 ⟨nb', A', L', c', he, rfl, hb1⟩
  cases he
  have r1 := r0.call hb1
  have b1 := b0.trans (hb1.mono (by simp; omega))
  have hw1 := r1.lt
  have HT1 := HT.out.below b1 HT.out.1
  have X1 := (D'.out.below b1 hm).words
  clear hb1 r0 b0
  go_wp2_with fail
  go_at_call 37
  refine (presult_v (d := d) X1 (by omega) (by omega) hd6 HT1).mono ?_
  rintro e w3 ⟨v', rfl, D3, hb3⟩
  rw [show nf (sg (false) x.natAbs) d = (((x.natAbs : Nat) : Int), d) by exact HV.out] at D3
  have u1 := r1.call hb3
  have bv := b1.trans (hb3.mono (by have := b1.size; omega))
  obtain ⟨nb3, A3, L3, c3, rfl, _⟩ := D3.form
  have D3' := Lib.hid D3
  clear D3 hb3 r1 b1
  have q0 : w3.cell? ⟨w.heap.size + 1, 0, none⟩ = some (.bool false) := u1.cell 0
  have q1 : w3.cell? ⟨w.heap.size + 1, 1, none⟩ = some (.slice none 0 0) := u1.cell 1
  have q2 : w3.cell? ⟨w.heap.size + 1, 2, none⟩ = some (.int .i64 0) := u1.cell 2
  have qf := u1.free
  have hu1 := u1.lt
  go_wp2_with fail
  refine bodyPost_ret (res_pAbs rfl (((u1.set_ 0 _).set_ 1 _).set_ 2 _)) rfl ⟨_, rfl, ?_, ((bv.setCell (by simp) _).setCell (by simp) _).setCell (by simp) _⟩
  exact ((((D3'.out.set_ (by omega) 0 _).set_ (by omega) 1 _).set_ (by omega) 2 _).low (by omega)).more (by simp)
theorem res_pMin {tmps : Array Value} {w : World} {b : Nat} {v0 v1 v2 : Value} (h2 : tmps.getD 4 undef = .pointer (some ⟨b, 0, none⟩)) (hB : RowD w b [v0, v1, v2] 39) :
    (results Tryd.f86 tmps).run Tryd.prog w = .ok (.agg #[v0, v1, v2]) w := by
  have k0 := hB.cell 0
  have k1 := hB.cell 1
  have k2 := hB.cell 2
  simp at k0 k1 k2
  simp at h2
  simp [results, Tryd.results86, go_sem, h2, k0, k1, k2]
set_option maxRecDepth 100000 in
set_option maxHeartbeats 4000000 in
theorem pmin_any {v v2 : Value} {x y : Int} {dx dy lo1 lo2 m : Nat} {w : World} (D1 : DyR w lo1 m v x dx) (D2 : DyR w lo2 m v2 y dy) (hm : m ≤ w.heap.size) (l1 : (canon x.natAbs).length ≤ 50000) (l2 : (canon y.natAbs).length ≤ 50000) (ht : TabAt w) :
    Calls Tryd.prog 86 #[v, v2] w fun e w' => ∃ v', e = .returned v' ∧ DyR w' w.heap.size w'.heap.size v' (dyMin x dx y dy).1 (dyMin x dx y dy).2 ∧ Below w.heap.size w w' := by
  have HB1 := D1.bound
  have HB2 := D2.bound
  obtain ⟨nb1, A1, L1, c1, rfl, HD1⟩ := D1.form
  obtain ⟨nb2, A2, L2, c2, rfl, HD2⟩ := D2.form
  have HT := Lib.hid ht
  clear ht
  have b0 : Below w.heap.size w (((w.alloc (.cells #[.bool nb1, .slice A1 L1 c1, .int .i64 (dx : Int)] 39)).alloc (.cells #[.bool nb2, .slice A2 L2 c2, .int .i64 (dy : Int)] 39)).alloc (.cells #[.bool false, .slice none 0 0, .int .i64 0] 39)) := ext_alloc (ext_alloc (ext_alloc (Below.refl _ _) _) _) _
  have D1' := D1.below b0 hm
  have D2' := D2.below b0 hm
  clear D1 D2
  have r2 := RowD.new_ ((w.alloc (.cells #[.bool nb1, .slice A1 L1 c1, .int .i64 (dx : Int)] 39)).alloc (.cells #[.bool nb2, .slice A2 L2 c2, .int .i64 (dy : Int)] 39)) [.bool false, .slice none 0 0, .int .i64 0] 39
  have r1 := (RowD.new_ (w.alloc (.cells #[.bool nb1, .slice A1 L1 c1, .int .i64 (dx : Int)] 39)) [.bool nb2, .slice A2 L2 c2, .int .i64 (dy : Int)] 39).call ((Below.refl _ _).alloc (Nat.le_refl _) (.cells #[.bool false, .slice none 0 0, .int .i64 0] 39))
  have r0 := ((RowD.new_ w [.bool nb1, .slice A1 L1 c1, .int .i64 (dx : Int)] 39).call ((Below.refl _ _).alloc (Nat.le_refl _) (.cells #[.bool nb2, .slice A2 L2 c2, .int .i64 (dy : Int)] 39))).call ((Below.refl _ _).alloc (Nat.le_refl _) (.cells #[.bool false, .slice none 0 0, .int .i64 0] 39))
  rw [show ((w.alloc (.cells #[.bool nb1, .slice A1 L1 c1, .int .i64 (dx : Int)] 39)).alloc (.cells #[.bool nb2, .slice A2 L2 c2, .int .i64 (dy : Int)] 39)).heap.size = w.heap.size + 2 by simp] at r2
  rw [show (w.alloc (.cells #[.bool nb1, .slice A1 L1 c1, .int .i64 (dx : Int)] 39)).heap.size = w.heap.size + 1 by simp] at r1
  go_enter Tryd.func86, Tryd.ntmps86
  go_wp2_with fail
  obtain ⟨W, hW⟩ : ∃ W, W = (((w.alloc (.cells #[.bool nb1, .slice A1 L1 c1, .int .i64 (dx : Int)] 39)).alloc (.cells #[.bool nb2, .slice A2 L2 c2, .int .i64 (dy : Int)] 39)).alloc (.cells #[.bool false, .slice none 0 0, .int .i64 0] 39)) := ⟨_, rfl⟩
  have hWs : W.heap.size = w.heap.size + 3 := by rw [hW]; simp
  rw [← hW]
  rw [← hW] at b0 D1' D2' r0 r1 r2
  clear hW
  have a0 : W.cell? ⟨w.heap.size, 0, none⟩ = some (.bool nb1) := r0.cell 0
  have a1 : W.cell? ⟨w.heap.size, 1, none⟩ = some (.slice A1 L1 c1) := r0.cell 1
  have a2 : W.cell? ⟨w.heap.size, 2, none⟩ = some (.int .i64 (dx : Int)) := r0.cell 2
  have e0 : W.cell? ⟨w.heap.size + 1, 0, none⟩ = some (.bool nb2) := r1.cell 0
  have e1 : W.cell? ⟨w.heap.size + 1, 1, none⟩ = some (.slice A2 L2 c2) := r1.cell 1
  have e2 : W.cell? ⟨w.heap.size + 1, 2, none⟩ = some (.int .i64 (dy : Int)) := r1.cell 2
  go_at_call 28
  refine (pcmp_any D1' D2' (by omega) l1 l2).mono ?_
  rintro e w2 ⟨rfl, hb2⟩
  have s0 := r0.call hb2
  have s1 := r1.call hb2
  have s2 := r2.call hb2
  have b2 := b0.trans (hb2.mono (by omega))
  replace D1' := D1'.below hb2 (by omega)
  replace D2' := D2'.below hb2 (by omega)
  have hz2 : w.heap.size + 3 ≤ w2.heap.size := by have := hb2.size; omega
  clear r0 r1 r2 b0 a0 a1 a2 e0 e1 e2 hWs hb2
  have a0 : w2.cell? ⟨w.heap.size, 0, none⟩ = some (.bool nb1) := s0.cell 0
  have a1 : w2.cell? ⟨w.heap.size, 1, none⟩ = some (.slice A1 L1 c1) := s0.cell 1
  have a2 : w2.cell? ⟨w.heap.size, 2, none⟩ = some (.int .i64 (dx : Int)) := s0.cell 2
  have e0 : w2.cell? ⟨w.heap.size + 1, 0, none⟩ = some (.bool nb2) := s1.cell 0
  have e1 : w2.cell? ⟨w.heap.size + 1, 1, none⟩ = some (.slice A2 L2 c2) := s1.cell 1
  have e2 : w2.cell? ⟨w.heap.size + 1, 2, none⟩ = some (.int .i64 (dy : Int)) := s1.cell 2
  obtain ⟨cv, hcv⟩ : ∃ cv, cv = pCmp x dx y dy := ⟨_, rfl⟩
  have HCV := Lib.hid hcv
  rw [← hcv]
  clear hcv
  by_cases hc : cv ≤ 0
  · have tb : decide (cv ≤ 0) = true := decide_eq_true hc
    have HC := Lib.hid hc
    as_aux_lemma =>
    have hbd := HB1
    have HVV := Lib.hid (show dyMin x dx y dy = (x, dx) from min_fst (by rw [← HCV.out]; exact HC.out))
    have HSH := Lib.hid (show dyShift x dx 0 = (x, dx) from sh0 hbd.2)
    go_wp2_with fail
    go_at_call 13
    refine (pshift_any D1' (by omega) l1 (by have := hbd.1; omega) (HT.out.below b2 HT.out.1)).mono ?_
    rintro e w6 ⟨v6, rfl, D6, hb6⟩
    rw [HSH.out] at D6
    have D6' := Lib.hid D6
    obtain ⟨nb6, A6, L6, c6, rfl, _⟩ := D6.form
    have s6 := s2.call hb6
    have b6 := b2.trans (hb6.mono (by omega))
    clear D6 hb6 s0 s1 s2 a0 a1 a2 e0 e1 e2 b2 D1' D2' hc tb
    have q0 : w6.cell? ⟨w.heap.size + 2, 0, none⟩ = some (.bool false) := s6.cell 0
    have q1 : w6.cell? ⟨w.heap.size + 2, 1, none⟩ = some (.slice none 0 0) := s6.cell 1
    have q2 : w6.cell? ⟨w.heap.size + 2, 2, none⟩ = some (.int .i64 0) := s6.cell 2
    have qf := s6.free
    have hu1 := s6.lt
    go_wp2_with fail
    refine bodyPost_ret (res_pMin rfl (((s6.set_ 0 _).set_ 1 _).set_ 2 _)) rfl ⟨_, rfl, ?_, ((b6.setCell (by simp; omega) _).setCell (by simp; omega) _).setCell (by simp; omega) _⟩
    rw [HVV.out]
    exact ((((D6'.out.set_ (by omega) 0 _).set_ (by omega) 1 _).set_ (by omega) 2 _).low (by omega)).more (by simp)
  · have tb : decide (cv ≤ 0) = false := decide_eq_false hc
    have HC := Lib.hid hc
    as_aux_lemma =>
    have hbd := HB2
    have HVV := Lib.hid (show dyMin x dx y dy = (y, dy) from min_snd (by rw [← HCV.out]; exact HC.out))
    have HSH := Lib.hid (show dyShift y dy 0 = (y, dy) from sh0 hbd.2)
    go_wp2_with fail
    go_at_call 13
    refine (pshift_any D2' (by omega) l2 (by have := hbd.1; omega) (HT.out.below b2 HT.out.1)).mono ?_
    rintro e w6 ⟨v6, rfl, D6, hb6⟩
    rw [HSH.out] at D6
    have D6' := Lib.hid D6
    obtain ⟨nb6, A6, L6, c6, rfl, _⟩ := D6.form
    have s6 := s2.call hb6
    have b6 := b2.trans (hb6.mono (by omega))
    clear D6 hb6 s0 s1 s2 a0 a1 a2 e0 e1 e2 b2 D1' D2' hc tb
    have q0 : w6.cell? ⟨w.heap.size + 2, 0, none⟩ = some (.bool false) := s6.cell 0
    have q1 : w6.cell? ⟨w.heap.size + 2, 1, none⟩ = some (.slice none 0 0) := s6.cell 1
    have q2 : w6.cell? ⟨w.heap.size + 2, 2, none⟩ = some (.int .i64 0) := s6.cell 2
    have qf := s6.free
    have hu1 := s6.lt
    go_wp2_with fail
    refine bodyPost_ret (res_pMin rfl (((s6.set_ 0 _).set_ 1 _).set_ 2 _)) rfl ⟨_, rfl, ?_, ((b6.setCell (by simp; omega) _).setCell (by simp; omega) _).setCell (by simp; omega) _⟩
    rw [HVV.out]
    exact ((((D6'.out.set_ (by omega) 0 _).set_ (by omega) 1 _).set_ (by omega) 2 _).low (by omega)).more (by simp)
theorem res_pMax {tmps : Array Value} {w : World} {b : Nat} {v0 v1 v2 : Value} (h2 : tmps.getD 4 undef = .pointer (some ⟨b, 0, none⟩)) (hB : RowD w b [v0, v1, v2] 39) :
    (results Tryd.f87 tmps).run Tryd.prog w = .ok (.agg #[v0, v1, v2]) w := by
  have k0 := hB.cell 0
  have k1 := hB.cell 1
  have k2 := hB.cell 2
  simp at k0 k1 k2
  simp at h2
  simp [results, Tryd.results87, go_sem, h2, k0, k1, k2]
set_option maxRecDepth 100000 in
set_option maxHeartbeats 4000000 in
theorem pmax_any {v v2 : Value} {x y : Int} {dx dy lo1 lo2 m : Nat} {w : World} (D1 : DyR w lo1 m v x dx) (D2 : DyR w lo2 m v2 y dy) (hm : m ≤ w.heap.size) (l1 : (canon x.natAbs).length ≤ 50000) (l2 : (canon y.natAbs).length ≤ 50000) (ht : TabAt w) :
    Calls Tryd.prog 87 #[v, v2] w fun e w' => ∃ v', e = .returned v' ∧ DyR w' w.heap.size w'.heap.size v' (dyMax x dx y dy).1 (dyMax x dx y dy).2 ∧ Below w.heap.size w w' := by
  have HB1 := D1.bound
  have HB2 := D2.bound
  obtain ⟨nb1, A1, L1, c1, rfl, HD1⟩ := D1.form
  obtain ⟨nb2, A2, L2, c2, rfl, HD2⟩ := D2.form
  have HT := Lib.hid ht
  clear ht
  have b0 : Below w.heap.size w (((w.alloc (.cells #[.bool nb1, .slice A1 L1 c1, .int .i64 (dx : Int)] 39)).alloc (.cells #[.bool nb2, .slice A2 L2 c2, .int .i64 (dy : Int)] 39)).alloc (.cells #[.bool false, .slice none 0 0, .int .i64 0] 39)) := ext_alloc (ext_alloc (ext_alloc (Below.refl _ _) _) _) _
  have D1' := D1.below b0 hm
  have D2' := D2.below b0 hm
  clear D1 D2
  have r2 := RowD.new_ ((w.alloc (.cells #[.bool nb1, .slice A1 L1 c1, .int .i64 (dx : Int)] 39)).alloc (.cells #[.bool nb2, .slice A2 L2 c2, .int .i64 (dy : Int)] 39)) [.bool false, .slice none 0 0, .int .i64 0] 39
  have r1 := (RowD.new_ (w.alloc (.cells #[.bool nb1, .slice A1 L1 c1, .int .i64 (dx : Int)] 39)) [.bool nb2, .slice A2 L2 c2, .int .i64 (dy : Int)] 39).call ((Below.refl _ _).alloc (Nat.le_refl _) (.cells #[.bool false, .slice none 0 0, .int .i64 0] 39))
  have r0 := ((RowD.new_ w [.bool nb1, .slice A1 L1 c1, .int .i64 (dx : Int)] 39).call ((Below.refl _ _).alloc (Nat.le_refl _) (.cells #[.bool nb2, .slice A2 L2 c2, .int .i64 (dy : Int)] 39))).call ((Below.refl _ _).alloc (Nat.le_refl _) (.cells #[.bool false, .slice none 0 0, .int .i64 0] 39))
  rw [show ((w.alloc (.cells #[.bool nb1, .slice A1 L1 c1, .int .i64 (dx : Int)] 39)).alloc (.cells #[.bool nb2, .slice A2 L2 c2, .int .i64 (dy : Int)] 39)).heap.size = w.heap.size + 2 by simp] at r2
  rw [show (w.alloc (.cells #[.bool nb1, .slice A1 L1 c1, .int .i64 (dx : Int)] 39)).heap.size = w.heap.size + 1 by simp] at r1
  go_enter Tryd.func87, Tryd.ntmps87
  go_wp2_with fail
  obtain ⟨W, hW⟩ : ∃ W, W = (((w.alloc (.cells #[.bool nb1, .slice A1 L1 c1, .int .i64 (dx : Int)] 39)).alloc (.cells #[.bool nb2, .slice A2 L2 c2, .int .i64 (dy : Int)] 39)).alloc (.cells #[.bool false, .slice none 0 0, .int .i64 0] 39)) := ⟨_, rfl⟩
  have hWs : W.heap.size = w.heap.size + 3 := by rw [hW]; simp
  rw [← hW]
  rw [← hW] at b0 D1' D2' r0 r1 r2
  clear hW
  have a0 : W.cell? ⟨w.heap.size, 0, none⟩ = some (.bool nb1) := r0.cell 0
  have a1 : W.cell? ⟨w.heap.size, 1, none⟩ = some (.slice A1 L1 c1) := r0.cell 1
  have a2 : W.cell? ⟨w.heap.size, 2, none⟩ = some (.int .i64 (dx : Int)) := r0.cell 2
  have e0 : W.cell? ⟨w.heap.size + 1, 0, none⟩ = some (.bool nb2) := r1.cell 0
  have e1 : W.cell? ⟨w.heap.size + 1, 1, none⟩ = some (.slice A2 L2 c2) := r1.cell 1
  have e2 : W.cell? ⟨w.heap.size + 1, 2, none⟩ = some (.int .i64 (dy : Int)) := r1.cell 2
  go_at_call 28
  refine (pcmp_any D1' D2' (by omega) l1 l2).mono ?_
  rintro e w2 ⟨rfl, hb2⟩
  have s0 := r0.call hb2
  have s1 := r1.call hb2
  have s2 := r2.call hb2
  have b2 := b0.trans (hb2.mono (by omega))
  replace D1' := D1'.below hb2 (by omega)
  replace D2' := D2'.below hb2 (by omega)
  have hz2 : w.heap.size + 3 ≤ w2.heap.size := by have := hb2.size; omega
  clear r0 r1 r2 b0 a0 a1 a2 e0 e1 e2 hWs hb2
  have a0 : w2.cell? ⟨w.heap.size, 0, none⟩ = some (.bool nb1) := s0.cell 0
  have a1 : w2.cell? ⟨w.heap.size, 1, none⟩ = some (.slice A1 L1 c1) := s0.cell 1
  have a2 : w2.cell? ⟨w.heap.size, 2, none⟩ = some (.int .i64 (dx : Int)) := s0.cell 2
  have e0 : w2.cell? ⟨w.heap.size + 1, 0, none⟩ = some (.bool nb2) := s1.cell 0
  have e1 : w2.cell? ⟨w.heap.size + 1, 1, none⟩ = some (.slice A2 L2 c2) := s1.cell 1
  have e2 : w2.cell? ⟨w.heap.size + 1, 2, none⟩ = some (.int .i64 (dy : Int)) := s1.cell 2
  obtain ⟨cv, hcv⟩ : ∃ cv, cv = pCmp x dx y dy := ⟨_, rfl⟩
  have HCV := Lib.hid hcv
  rw [← hcv]
  clear hcv
  by_cases hc : 0 ≤ cv
  · have tb : decide (0 ≤ cv) = true := decide_eq_true hc
    have HC := Lib.hid hc
    as_aux_lemma =>
    have hbd := HB1
    have HVV := Lib.hid (show dyMax x dx y dy = (x, dx) from max_fst (by rw [← HCV.out]; exact HC.out))
    have HSH := Lib.hid (show dyShift x dx 0 = (x, dx) from sh0 hbd.2)
    go_wp2_with fail
    go_at_call 13
    refine (pshift_any D1' (by omega) l1 (by have := hbd.1; omega) (HT.out.below b2 HT.out.1)).mono ?_
    rintro e w6 ⟨v6, rfl, D6, hb6⟩
    rw [HSH.out] at D6
    have D6' := Lib.hid D6
    obtain ⟨nb6, A6, L6, c6, rfl, _⟩ := D6.form
    have s6 := s2.call hb6
    have b6 := b2.trans (hb6.mono (by omega))
    clear D6 hb6 s0 s1 s2 a0 a1 a2 e0 e1 e2 b2 D1' D2' hc tb
    have q0 : w6.cell? ⟨w.heap.size + 2, 0, none⟩ = some (.bool false) := s6.cell 0
    have q1 : w6.cell? ⟨w.heap.size + 2, 1, none⟩ = some (.slice none 0 0) := s6.cell 1
    have q2 : w6.cell? ⟨w.heap.size + 2, 2, none⟩ = some (.int .i64 0) := s6.cell 2
    have qf := s6.free
    have hu1 := s6.lt
    go_wp2_with fail
    refine bodyPost_ret (res_pMax rfl (((s6.set_ 0 _).set_ 1 _).set_ 2 _)) rfl ⟨_, rfl, ?_, ((b6.setCell (by simp; omega) _).setCell (by simp; omega) _).setCell (by simp; omega) _⟩
    rw [HVV.out]
    exact ((((D6'.out.set_ (by omega) 0 _).set_ (by omega) 1 _).set_ (by omega) 2 _).low (by omega)).more (by simp)
  · have tb : decide (0 ≤ cv) = false := decide_eq_false hc
    have HC := Lib.hid hc
    as_aux_lemma =>
    have hbd := HB2
    have HVV := Lib.hid (show dyMax x dx y dy = (y, dy) from max_snd (by rw [← HCV.out]; exact HC.out))
    have HSH := Lib.hid (show dyShift y dy 0 = (y, dy) from sh0 hbd.2)
    go_wp2_with fail
    go_at_call 13
    refine (pshift_any D2' (by omega) l2 (by have := hbd.1; omega) (HT.out.below b2 HT.out.1)).mono ?_
    rintro e w6 ⟨v6, rfl, D6, hb6⟩
    rw [HSH.out] at D6
    have D6' := Lib.hid D6
    obtain ⟨nb6, A6, L6, c6, rfl, _⟩ := D6.form
    have s6 := s2.call hb6
    have b6 := b2.trans (hb6.mono (by omega))
    clear D6 hb6 s0 s1 s2 a0 a1 a2 e0 e1 e2 b2 D1' D2' hc tb
    have q0 : w6.cell? ⟨w.heap.size + 2, 0, none⟩ = some (.bool false) := s6.cell 0
    have q1 : w6.cell? ⟨w.heap.size + 2, 1, none⟩ = some (.slice none 0 0) := s6.cell 1
    have q2 : w6.cell? ⟨w.heap.size + 2, 2, none⟩ = some (.int .i64 0) := s6.cell 2
    have qf := s6.free
    have hu1 := s6.lt
    go_wp2_with fail
    refine bodyPost_ret (res_pMax rfl (((s6.set_ 0 _).set_ 1 _).set_ 2 _)) rfl ⟨_, rfl, ?_, ((b6.setCell (by simp; omega) _).setCell (by simp; omega) _).setCell (by simp; omega) _⟩
    rw [HVV.out]
    exact ((((D6'.out.set_ (by omega) 0 _).set_ (by omega) 1 _).set_ (by omega) 2 _).low (by omega)).more (by simp)
end Go.Proofs.YtejnnljjmafjaaaDoor
