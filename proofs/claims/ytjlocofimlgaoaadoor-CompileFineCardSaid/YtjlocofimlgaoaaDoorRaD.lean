/- The document's Fit. No conditions. The document's values and raw values of scalars. No conditions. -/
import Derived.Test.YtjlocofimlgaoaaDoorRaB
import Derived.Test.YtjlocofimlgaoaaDoorRd
namespace Go.Proofs.YtjlocofimlgaoaaDoor
set_option linter.unusedVariables false
set_option linter.unusedSimpArgs false
set_option linter.unusedSectionVars false
open Go.RowKit

def fitV (n : Int) : Int := max (-2147483648) (min n 2147483647)
def fitB (n : Int) : Bool := decide (-2147483648 ≤ n ∧ n < 2147483648)
theorem fit_lo (x : Int) : dyCmp x 0 (-2147483648) 0 = sgI (x + 2147483648) := by
  rw [dyCmp_int]
  congr 1
theorem fit_hi (x : Int) : dyCmp x 0 2147483647 0 = sgI (x - 2147483647) := dyCmp_int _ _
theorem len_k1 : (canon (Int.natAbs (-2147483648))).length ≤ 50000 := Nat.le_trans (canon_len_le (k := 1) (by decide)) (by decide)
theorem len_k2 : (canon (Int.natAbs 2147483647)).length ≤ 50000 := Nat.le_trans (canon_len_le (k := 1) (by decide)) (by decide)
set_option maxRecDepth 100000 in
set_option maxHeartbeats 4000000 in
theorem rFit_any {v : Value} {x : Int} {lo m : Nat} {w : World} (D : DyR w lo m v x 0) (hm : m ≤ w.heap.size) (hl : (canon x.natAbs).length ≤ 50000) :
    Calls Tryd.prog 45 #[v] w fun e w' => e = .returned (.tuple #[.int .i64 (fitV x), .bool (!fitB x)]) ∧ Below w.heap.size w w' := by
  obtain ⟨nb, A, L, c, rfl, _⟩ := D.form
  have b0 : Below w.heap.size w (w.alloc (.cells #[.bool nb, .slice A L c, .int .i64 0] 37)) := ext_alloc (Below.refl _ _) _
  have r0 := RowD.new_ w [.bool nb, .slice A L c, .int .i64 0] 37
  have X := (D.below b0 hm).more (show m ≤ w.heap.size + 1 by omega)
  clear D
  go_enter Tryd.func45, Tryd.ntmps45
  go_wp2_with fail
  obtain ⟨W, hW⟩ : ∃ W, W = w.alloc (.cells #[.bool nb, .slice A L c, .int .i64 0] 37) := ⟨_, rfl⟩
  have hWs : W.heap.size = w.heap.size + 1 := by rw [hW]; simp
  rw [← hW]
  rw [← hW] at b0 r0 X
  clear hW
  have a0 : W.cell? ⟨w.heap.size, 0, none⟩ = some (.bool nb) := r0.cell 0
  have a1 : W.cell? ⟨w.heap.size, 1, none⟩ = some (.slice A L c) := r0.cell 1
  have a2 : W.cell? ⟨w.heap.size, 2, none⟩ = some (.int .i64 0) := r0.cell 2
  have hk : SK W (w.heap.size + 1) w.heap.size W := SK.refl (by omega) ⟨_, _, _, r0⟩
  by_cases hx : x < -2147483648
  · as_aux_lemma =>
    have hcv : dyCmp x 0 (-2147483648) 0 = -1 := by rw [fit_lo]; unfold sgI; rw [if_neg (by omega), if_pos (by omega)]
    have HV := Lib.hid (show fitV x = -2147483648 ∧ fitB x = false by
      refine ⟨by unfold fitV; omega, ?_⟩
      unfold fitB; rw [decide_eq_false]; omega)
    clear hx
    go_region_held3 (fun w' => (∀ b o, b < w.heap.size + 1 → w'.cell? ⟨b, o, none⟩ = W.cell? ⟨b, o, none⟩) ∧ SK W (w.heap.size + 1) w.heap.size w')
      (first
        | (refine SK.all ?_
           first
             | assumption
             | exact hk
             | exact hk.drew))
      (first
        | (go_at_call 46; refine (of_any (-2147483648) (by omega) (by omega) _).mono ?_; (rintro e w5 ⟨v5, rfl, D5, hb5⟩; have hk5 := SK.call hk.drew hb5; have hf5 := hk5.lt; have hff5 := hk5.fits; obtain ⟨nb5, A5, L5, c5, rfl, _⟩ := D5.form))
        | (go_at_call 16; refine (cmp_any ((X.below hk5.is (Nat.le_refl _)).more hff5) D5 (Nat.le_refl _) (by omega) len_k1).mono ?_; (rintro e w6 ⟨rfl, hb6⟩; have hk6 := SK.call hk5 hb6; rw [hcv])))
    go_wp2_with fail
    refine bodyPost_ret (v := .tuple #[.int .i64 (-2147483648), .bool true]) (by simp [results, Tryd.results45, go_sem]) rfl ⟨?_, b0.trans (hk6.is.mono (by omega))⟩
    rw [HV.out.1, HV.out.2]
    rfl
  · by_cases hx2 : 2147483647 < x
    · as_aux_lemma =>
      have hcv : dyCmp x 0 (-2147483648) 0 = 1 := by rw [fit_lo]; unfold sgI; rw [if_neg (by omega), if_neg (by omega)]
      have hcv2 : dyCmp x 0 2147483647 0 = 1 := by rw [fit_hi]; unfold sgI; rw [if_neg (by omega), if_neg (by omega)]
      have HV := Lib.hid (show fitV x = 2147483647 ∧ fitB x = false by
        refine ⟨by unfold fitV; omega, ?_⟩
        unfold fitB; rw [decide_eq_false]; omega)
      clear hx hx2
      go_region_held3 (fun w' => (∀ b o, b < w.heap.size + 1 → w'.cell? ⟨b, o, none⟩ = W.cell? ⟨b, o, none⟩) ∧ SK W (w.heap.size + 1) w.heap.size w')
        (first
          | (refine SK.all ?_
             first
               | assumption
               | exact hk
               | exact hk.drew))
        (first
          | (go_at_call 46; refine (of_any (-2147483648) (by omega) (by omega) _).mono ?_; (rintro e w5 ⟨v5, rfl, D5, hb5⟩; have hk5 := SK.call hk.drew hb5; have hf5 := hk5.lt; have hff5 := hk5.fits; obtain ⟨nb5, A5, L5, c5, rfl, _⟩ := D5.form))
          | (go_at_call 16; refine (cmp_any ((X.below hk5.is (Nat.le_refl _)).more hff5) D5 (Nat.le_refl _) (by omega) len_k1).mono ?_; (rintro e w6 ⟨rfl, hb6⟩; have hk6 := SK.call hk5 hb6; rw [hcv])))
      have c0 : w6.cell? ⟨w.heap.size, 0, none⟩ = some (.bool nb) := (hk6.all.1 _ _ (by omega)).trans a0
      have c1 : w6.cell? ⟨w.heap.size, 1, none⟩ = some (.slice A L c) := (hk6.all.1 _ _ (by omega)).trans a1
      have c2 : w6.cell? ⟨w.heap.size, 2, none⟩ = some (.int .i64 0) := (hk6.all.1 _ _ (by omega)).trans a2
      have hfit6 := hk6.fits
      go_wp2_with fail
      go_region_held3 (fun w' => (∀ b o, b < w.heap.size + 1 → w'.cell? ⟨b, o, none⟩ = W.cell? ⟨b, o, none⟩) ∧ SK W (w.heap.size + 1) w.heap.size w')
        (first
          | (refine SK.all ?_
             first
               | assumption
               | exact hk6
               | exact hk6.drew))
        (first
          | (go_at_call 46; refine (of_any (2147483647) (by omega) (by omega) _).mono ?_; (rintro e w7 ⟨v7, rfl, D7, hb7⟩; have hk7 := SK.call hk6.drew hb7; have hf7 := hk7.lt; have hff7 := hk7.fits; obtain ⟨nb7, A7, L7, c7, rfl, _⟩ := D7.form))
          | (go_at_call 16; refine (cmp_any ((X.below hk7.is (Nat.le_refl _)).more hff7) D7 (Nat.le_refl _) (by omega) len_k2).mono ?_; (rintro e w8 ⟨rfl, hb8⟩; have hk8 := SK.call hk7 hb8; rw [hcv2])))
      go_wp2_with fail
      refine bodyPost_ret (v := .tuple #[.int .i64 2147483647, .bool true]) (by simp [results, Tryd.results45, go_sem]) rfl ⟨?_, b0.trans (hk8.is.mono (by omega))⟩
      rw [HV.out.1, HV.out.2]
      rfl
    · as_aux_lemma =>
      obtain ⟨cv, hcv0⟩ : ∃ cv, cv = dyCmp x 0 (-2147483648) 0 := ⟨_, rfl⟩
      obtain ⟨cv2, hcv02⟩ : ∃ cv, cv = dyCmp x 0 2147483647 0 := ⟨_, rfl⟩
      have hcv := hcv0.symm
      have hcv2 := hcv02.symm
      have hp : 0 ≤ cv := by
        rw [hcv0, fit_lo]; unfold sgI; split
        · omega
        · rw [if_neg (by omega)]; omega
      have hp2 : cv2 ≤ 0 := by
        rw [hcv02, fit_hi]; unfold sgI; split
        · omega
        · rw [if_pos (by omega)]; omega
      have hb1 : decide (cv < 0) = false := decide_eq_false (by omega)
      have hb2 : decide (0 < cv2) = false := decide_eq_false (by omega)
      have HV := Lib.hid (show fitV x = x ∧ fitB x = true by
        refine ⟨by unfold fitV; omega, ?_⟩
        unfold fitB; rw [decide_eq_true]; omega)
      have hxa : -9223372036854775808 ≤ x := by omega
      have hxb : x < 9223372036854775808 := by omega
      clear hx hx2 hcv0 hcv02
      go_region_held3 (fun w' => (∀ b o, b < w.heap.size + 1 → w'.cell? ⟨b, o, none⟩ = W.cell? ⟨b, o, none⟩) ∧ SK W (w.heap.size + 1) w.heap.size w')
        (first
          | (refine SK.all ?_
             first
               | assumption
               | exact hk
               | exact hk.drew))
        (first
          | (go_at_call 46; refine (of_any (-2147483648) (by omega) (by omega) _).mono ?_; (rintro e w5 ⟨v5, rfl, D5, hb5⟩; have hk5 := SK.call hk.drew hb5; have hf5 := hk5.lt; have hff5 := hk5.fits; obtain ⟨nb5, A5, L5, c5, rfl, _⟩ := D5.form))
          | (go_at_call 16; refine (cmp_any ((X.below hk5.is (Nat.le_refl _)).more hff5) D5 (Nat.le_refl _) (by omega) len_k1).mono ?_; (rintro e w6 ⟨rfl, hb6⟩; have hk6 := SK.call hk5 hb6; rw [hcv])))
      have c0 : w6.cell? ⟨w.heap.size, 0, none⟩ = some (.bool nb) := (hk6.all.1 _ _ (by omega)).trans a0
      have c1 : w6.cell? ⟨w.heap.size, 1, none⟩ = some (.slice A L c) := (hk6.all.1 _ _ (by omega)).trans a1
      have c2 : w6.cell? ⟨w.heap.size, 2, none⟩ = some (.int .i64 0) := (hk6.all.1 _ _ (by omega)).trans a2
      have hfit6 := hk6.fits
      clear hcv
      go_wp2_with fail
      go_region_held3 (fun w' => (∀ b o, b < w.heap.size + 1 → w'.cell? ⟨b, o, none⟩ = W.cell? ⟨b, o, none⟩) ∧ SK W (w.heap.size + 1) w.heap.size w')
        (first
          | (refine SK.all ?_
             first
               | assumption
               | exact hk6
               | exact hk6.drew))
        (first
          | (go_at_call 46; refine (of_any (2147483647) (by omega) (by omega) _).mono ?_; (rintro e w7 ⟨v7, rfl, D7, hb7⟩; have hk7 := SK.call hk6.drew hb7; have hf7 := hk7.lt; have hff7 := hk7.fits; obtain ⟨nb7, A7, L7, c7, rfl, _⟩ := D7.form))
          | (go_at_call 16; refine (cmp_any ((X.below hk7.is (Nat.le_refl _)).more hff7) D7 (Nat.le_refl _) (by omega) len_k2).mono ?_; (rintro e w8 ⟨rfl, hb8⟩; have hk8 := SK.call hk7 hb8; rw [hcv2])))
      have d0 : w8.cell? ⟨w.heap.size, 0, none⟩ = some (.bool nb) := (hk8.all.1 _ _ (by omega)).trans a0
      have d1 : w8.cell? ⟨w.heap.size, 1, none⟩ = some (.slice A L c) := (hk8.all.1 _ _ (by omega)).trans a1
      have d2 : w8.cell? ⟨w.heap.size, 2, none⟩ = some (.int .i64 0) := (hk8.all.1 _ _ (by omega)).trans a2
      have hfit8 := hk8.fits
      clear hcv2
      go_wp2_with fail
      go_at_call 89
      refine (int_any (X.below hk8.is (Nat.le_refl _)) (by omega) hxa hxb).mono ?_
      rintro e w9 ⟨rfl, hb9⟩
      go_wp2_with fail
      refine bodyPost_ret (v := .tuple #[.int .i64 x, .bool false]) (by simp [results, Tryd.results45, go_sem]) rfl ⟨?_, (b0.trans (hk8.is.mono (by omega))).trans (hb9.mono (by omega))⟩
      rw [HV.out.1, HV.out.2]
      rfl
end Go.Proofs.YtjlocofimlgaoaaDoor
namespace Go.Proofs.YtjlocofimlgaoaaDoor
set_option linter.unusedVariables false
set_option linter.unusedSimpArgs false
set_option linter.unusedSectionVars false
open Go.RowKit

theorem res_rValue {tmps : Array Value} {w : World} {b : Nat} {v0 v1 v2 : Value} (h2 : tmps.getD 2 undef = .pointer (some ⟨b, 0, none⟩)) (hB : RowD w b [v0, v1, v2] 37) :
    (results Tryd.f14 tmps).run Tryd.prog w = .ok (.agg #[v0, v1, v2]) w := by
  have k0 := hB.cell 0
  have k1 := hB.cell 1
  have k2 := hB.cell 2
  simp at k0 k1 k2
  simp at h2
  simp [results, Tryd.results14, go_sem, h2, k0, k1, k2]
set_option maxRecDepth 100000 in
set_option maxHeartbeats 4000000 in
theorem rvalue_any (n e : Int) (h1 : -9223372036854775808 ≤ n) (h2 : n < 9223372036854775808) (w : World) :
    Calls Tryd.prog 14 #[.agg #[.int .i64 n, .int .i64 e]] w fun r w' => ∃ v', r = .returned v' ∧ DyR w' w.heap.size w'.heap.size v' (dyShift n 0 e).1 (dyShift n 0 e).2 ∧ Below w.heap.size w w' := by
  have l5 : (canon n.natAbs).length ≤ 50000 := Nat.le_trans (canon_len_le (k := 2) (by omega)) (by decide)
  go_enter Tryd.func14, Tryd.ntmps14
  go_wp2_with fail
  obtain ⟨W, hW⟩ : ∃ q, q = (w.alloc (.cells #[.int .i64 n, .int .i64 e] 23)).alloc (.cells #[.bool false, .slice none 0 0, .int .i64 0] 37) := ⟨_, rfl⟩
  have rX : RowD W w.heap.size [.int .i64 n, .int .i64 e] 23 := by rw [hW]; exact (RowD.new_ _ _ _).call (al_ _ _)
  have rR : RowD W (w.heap.size + 1) [.bool false, .slice none 0 0, .int .i64 0] 37 := by rw [hW]; have h := RowD.new_ (w.alloc (.cells #[.int .i64 n, .int .i64 e] 23)) [.bool false, .slice none 0 0, .int .i64 0] 37; rwa [show (w.alloc (.cells #[.int .i64 n, .int .i64 e] 23)).heap.size = w.heap.size + 1 by simp] at h
  have bW : Below w.heap.size w W := by rw [hW]; exact ext_alloc (ext_alloc (Below.refl _ _) _) _
  rw [← hW]
  clear hW
  have hA := rX.lt
  have hA2 := rR.lt
  have a0 : W.cell? ⟨w.heap.size, 0, none⟩ = some (.int .i64 n) := rX.cell 0
  have a1 : W.cell? ⟨w.heap.size, 1, none⟩ = some (.int .i64 e) := rX.cell 1
  have hWs := bW.size
  refine wp_region_E 6 (by kernel_rfl) (by kernel_rfl) ?_
  dsimp only [List.take, List.drop]
  obtain ⟨u0, hu0⟩ : ∃ q, q = W.drew := ⟨_, rfl⟩
  have hS : Below W.heap.size W u0 := by rw [hu0]; exact (Below.refl _ _).drew
  rw [← hu0]
  clear hu0
  refine takeE 0 ?v0 rfl (by kernel_rfl) (by intro _ _ _ h; exact h) (by rfl) ?h0 ?r0
  case h0 =>
    intro w2 hx
    go_simp
    try rfl
  case' r0 => try simp only [Act.put, List.setIfInBounds_toArray, List.set_cons_zero, List.set_cons_succ]
  refine takeE 1 ?v1 rfl (by kernel_rfl) (by intro _ _ _ h; exact h) (by rfl) ?h1 ?r1
  case h1 =>
    intro w2 hx
    have e0 : w2.cell? ⟨w.heap.size, 0, none⟩ = some (.int .i64 n) := ((hS.trans (hx.more0.mono hS.size)).cell (p := ⟨w.heap.size, 0, none⟩) hA).trans a0
    go_simp
    try rfl
  case' r1 => try simp only [Act.put, List.setIfInBounds_toArray, List.set_cons_zero, List.set_cons_succ]
  refine takeE 3 ?v3 rfl (by kernel_rfl) (by intro _ _ _ h; exact h) (by rfl) ?h3 ?r3
  case h3 =>
    intro w2 hx
    go_simp
    try rfl
  case' r3 => try simp only [Act.put, List.setIfInBounds_toArray, List.set_cons_zero, List.set_cons_succ]
  refine takeE 4 ?v4 rfl (by kernel_rfl) (by intro _ _ _ h; exact h) (by rfl) ?h4 ?r4
  case h4 =>
    intro w2 hx
    have e1 : w2.cell? ⟨w.heap.size, 1, none⟩ = some (.int .i64 e) := ((hS.trans (hx.more0.mono hS.size)).cell (p := ⟨w.heap.size, 1, none⟩) hA).trans a1
    go_simp
    try rfl
  case' r4 => try simp only [Act.put, List.setIfInBounds_toArray, List.set_cons_zero, List.set_cons_succ]
  refine stepE 2 rfl (by kernel_rfl) (by rfl) ?_
  intro x1 hx K hK
  have hS1 := hS.trans (hx.mono hS.size)
  clear hS
  go_simp
  refine (of_any n h1 h2 x1).mono ?_
  rintro e u1 ⟨v5, rfl, D5, hb⟩
  have hS := hS1.trans (hb.mono hS1.size)
  obtain ⟨nb5, A5, L5, c5, rfl, _⟩ := D5.form
  refine hK.out _ _ (MoreW.growU hb) ?_
  clear hK K hx hS1 hb
  try simp only [Act.put, List.setIfInBounds_toArray, List.set_cons_zero, List.set_cons_succ]
  refine stepE 5 rfl (by kernel_rfl) (by rfl) ?_
  intro x2 hx K hK
  have hS1 := hS.trans (hx.mono hS.size)
  clear hS
  replace D5 := (D5.below hx (Nat.le_refl _)).more hx.size
  go_simp
  refine (dshift_any (n := e) D5 (Nat.le_refl _) l5 (by omega)).mono ?_
  rintro e u2 ⟨v6, rfl, D6, hb⟩
  have hS := hS1.trans (hb.mono hS1.size)
  replace D5 := (D5.below hb (Nat.le_refl _)).more hb.size
  have hx2 := hS1.size
  obtain ⟨nb6, A6, L6, c6, rfl, _⟩ := D6.form
  clear D5
  refine hK.out _ _ (MoreW.growU hb) ?_
  clear hK K hx hS1 hb
  try simp only [Act.put, List.setIfInBounds_toArray, List.set_cons_zero, List.set_cons_succ]
  refine endE (by kernel_rfl) ?_
  intro u4 hx
  have hS4 := hS.trans (hx.mono hS.size)
  replace D6 := (D6.below hx (Nat.le_refl _)).more hx.size
  have r4 := rR.below hS4 hA2
  have HD6 := Lib.hid D6
  have R4 := Lib.hid r4
  have B4 := Lib.hid (bW.trans (hS4.mono hWs))
  have q0 : u4.cell? ⟨w.heap.size + 1, 0, none⟩ = some (.bool false) := r4.cell 0
  have q1 : u4.cell? ⟨w.heap.size + 1, 1, none⟩ = some (.slice none 0 0) := r4.cell 1
  have q2 : u4.cell? ⟨w.heap.size + 1, 2, none⟩ = some (.int .i64 0) := r4.cell 2
  have qf := r4.free
  have hu4 := r4.lt
  clear D6 r4 hS4 hS hx a0 a1 rX rR bW
  go_wp2_with fail
  refine bodyPost_ret (res_rValue rfl (R4.out.set3d _ _ _)) rfl ⟨_, rfl, ?_, below_set3d B4.out (by omega) _ _ _⟩
  rw [size3d]
  exact (HD6.out.set3H R4.out noWd3 noWd3).low (by omega)
set_option maxRecDepth 100000 in
set_option maxHeartbeats 4000000 in
theorem rraw_no (n e f : Int) (w : World) (h : ¬ rawOk n e f) :
    Calls Tryd.prog 11 #[.agg #[.int .i64 n, .int .i64 e], .int .i64 f] w fun r w' => r = .returned (.tuple #[.int .i64 (rawV n e f), .int .i64 (rawErr n e f)]) ∧ Below w.heap.size w w' := by
  have HV := Lib.hid (raw_no h)
  have b0 := al_ w (.cells #[.int .i64 n, .int .i64 e] 23)
  have r0 := RowD.new_ w [.int .i64 n, .int .i64 e] 23
  have h' := rawOk_not h
  clear h
  rcases h' with g0 | ⟨g0, g1⟩ | ⟨g0, g1, g2⟩ | ⟨g0, g1, g2, g3⟩ | ⟨g0, g1, g2, g3, g4⟩ | ⟨g0, g1, g2, g3, g4, g5⟩
  · have d0 : decide (n ≤ -2147483648) = true := decide_eq_true g0
    clear g0
    go_enter Tryd.func11, Tryd.ntmps11
    go_wp2_with fail
    exact bodyPost_ret (v := .tuple #[.int .i64 0, .int .i64 3]) (by simp [results, Tryd.results11, go_sem]) rfl ⟨by rw [HV.out.1, HV.out.2], b0⟩
  · have d0 : decide (n ≤ -2147483648) = false := decide_eq_false g0
    have d1 : decide (2147483648 ≤ n) = true := decide_eq_true g1
    clear g0 g1
    go_enter Tryd.func11, Tryd.ntmps11
    go_wp2_with fail
    exact bodyPost_ret (v := .tuple #[.int .i64 0, .int .i64 3]) (by simp [results, Tryd.results11, go_sem]) rfl ⟨by rw [HV.out.1, HV.out.2], b0⟩
  · have d0 : decide (n ≤ -2147483648) = false := decide_eq_false g0
    have d1 : decide (2147483648 ≤ n) = false := decide_eq_false g1
    have d2 : decide (e < -62) = true := decide_eq_true g2
    clear g0 g1 g2
    go_enter Tryd.func11, Tryd.ntmps11
    go_wp2_with fail
    exact bodyPost_ret (v := .tuple #[.int .i64 0, .int .i64 3]) (by simp [results, Tryd.results11, go_sem]) rfl ⟨by rw [HV.out.1, HV.out.2], b0⟩
  · have d0 : decide (n ≤ -2147483648) = false := decide_eq_false g0
    have d1 : decide (2147483648 ≤ n) = false := decide_eq_false g1
    have d2 : decide (e < -62) = false := decide_eq_false g2
    have d3 : decide (30 < e) = true := decide_eq_true g3
    clear g0 g1 g2 g3
    go_enter Tryd.func11, Tryd.ntmps11
    go_wp2_with fail
    exact bodyPost_ret (v := .tuple #[.int .i64 0, .int .i64 3]) (by simp [results, Tryd.results11, go_sem]) rfl ⟨by rw [HV.out.1, HV.out.2], b0⟩
  · have d0 : decide (n ≤ -2147483648) = false := decide_eq_false g0
    have d1 : decide (2147483648 ≤ n) = false := decide_eq_false g1
    have d2 : decide (e < -62) = false := decide_eq_false g2
    have d3 : decide (30 < e) = false := decide_eq_false g3
    have d4 : decide (f < 0) = true := decide_eq_true g4
    clear g0 g1 g2 g3 g4
    go_enter Tryd.func11, Tryd.ntmps11
    go_wp2_with fail
    exact bodyPost_ret (v := .tuple #[.int .i64 0, .int .i64 3]) (by simp [results, Tryd.results11, go_sem]) rfl ⟨by rw [HV.out.1, HV.out.2], b0⟩
  · have d0 : decide (n ≤ -2147483648) = false := decide_eq_false g0
    have d1 : decide (2147483648 ≤ n) = false := decide_eq_false g1
    have d2 : decide (e < -62) = false := decide_eq_false g2
    have d3 : decide (30 < e) = false := decide_eq_false g3
    have d4 : decide (f < 0) = false := decide_eq_false g4
    have d5 : decide (30 < f) = true := decide_eq_true g5
    clear g0 g1 g2 g3 g4 g5
    go_enter Tryd.func11, Tryd.ntmps11
    go_wp2_with fail
    exact bodyPost_ret (v := .tuple #[.int .i64 0, .int .i64 3]) (by simp [results, Tryd.results11, go_sem]) rfl ⟨by rw [HV.out.1, HV.out.2], b0⟩
set_option maxRecDepth 100000 in
set_option maxHeartbeats 4000000 in
theorem rraw_any (n e f : Int) (w : World) :
    Calls Tryd.prog 11 #[.agg #[.int .i64 n, .int .i64 e], .int .i64 f] w fun r w' => r = .returned (.tuple #[.int .i64 (rawV n e f), .int .i64 (rawErr n e f)]) ∧ Below w.heap.size w w' := by
  by_cases h : rawOk n e f
  case neg => exact rraw_no n e f w h
  have hp := rawOk_parts h
  have hn : n.natAbs ≤ 2147483648 := by have := hp.1; have := hp.2.1; omega
  have hk : -62 ≤ e + f ∧ e + f ≤ 60 := by obtain ⟨_, _, _, _, _, _⟩ := hp; omega
  have HOK := Lib.hid h
  obtain ⟨g0, g1, g2, g3, g4, g5⟩ := hp
  have d0 : decide (n ≤ -2147483648) = false := decide_eq_false g0
  have d1 : decide (2147483648 ≤ n) = false := decide_eq_false g1
  have d2 : decide (e < -62) = false := decide_eq_false g2
  have d3 : decide (30 < e) = false := decide_eq_false g3
  have d4 : decide (f < 0) = false := decide_eq_false g4
  have d5 : decide (30 < f) = false := decide_eq_false g5
  have hi1 : -9223372036854775808 ≤ n := by omega
  have hi2 : n < 9223372036854775808 := by omega
  have he1 : -62 ≤ e := by omega
  have he2 : e ≤ 30 := by omega
  have hf1 : 0 ≤ f := by omega
  have hf2 : f ≤ 30 := by omega
  have l5 : (canon (dyShift n 0 e).1.natAbs).length ≤ 50000 := Nat.le_trans (sh_len hn (by omega) (by omega)) (by decide)
  have hde : (dyShift n 0 e).2 ≤ 62 := by
    unfold dyShift
    rw [show max (-65536) (min e 65536) = e by omega]
    split
    · exact Nat.le_trans (nf_le _ _) (by omega)
    · exact Nat.le_trans (nf_le _ _) (by omega)
  have l6 : (canon (dyShift n 0 (e + f)).1.natAbs).length ≤ 50000 := Nat.le_trans (sh_len hn (by omega) (by omega)) (by decide)
  have l7 : (canon (shE n (e + f)).natAbs).length ≤ 50000 := Nat.le_trans (shE_len hn (by omega)) (by decide)
  have hst := Lib.hid (sh_two (x := n) (a := e) (b := f) (by omega) (by omega) (by omega) (by omega))
  have hsv := Lib.hid (sh_val (x := n) (k := e + f) (by omega) (by omega))
  obtain ⟨x, hx⟩ : ∃ x, x = shE n (e + f) := ⟨_, rfl⟩
  rw [← hx] at l7 hsv
  have HX := Lib.hid hx
  have b0 := al_ w (.cells #[.int .i64 n, .int .i64 e] 23)
  have r0 := RowD.new_ w [.int .i64 n, .int .i64 e] 23
  clear h g0 g1 g2 g3 g4 g5 hx
  go_enter Tryd.func11, Tryd.ntmps11
  go_wp2_with fail
  go_at_call 14
  refine (rvalue_any n e hi1 hi2 _).mono ?_
  rintro r u1 ⟨v5, rfl, D5, hb⟩
  have B1 := b0.trans (hb.mono b0.size)
  clear hb b0 r0
  obtain ⟨nb5, A5, L5, c5, rfl, _⟩ := D5.form
  have HD5 := Lib.hid D5
  clear D5
  have z1 := B1.size
  have HB1 := Lib.hid B1
  clear B1
  go_wp2_with fail
  go_at_call 44
  refine (dshift_any (n := f) HD5.out (Nat.le_refl _) l5 (by omega)).mono ?_
  rintro r u2 ⟨v6, rfl, D6, hb⟩
  rw [hst.out] at D6
  have B2 := HB1.out.trans (hb.mono z1)
  obtain ⟨nb6, A6, L6, c6, rfl, _⟩ := D6.form
  have HD6 := Lib.hid D6
  clear D6 hb
  have z2 := B2.size
  have HB2 := Lib.hid B2
  clear B2
  go_wp2_with fail
  go_at_call 43
  refine (floor_any (den := 0) HD6.out (Nat.le_refl _) l6 (by omega)).mono ?_
  rintro r u3 ⟨v7, rfl, D7, hb⟩
  rw [hsv.out] at D7
  have B3 := HB2.out.trans (hb.mono z2)
  obtain ⟨nb7, A7, L7, c7, rfl, _⟩ := D7.form
  have HD7 := Lib.hid D7
  clear D7 hb
  have z3 := B3.size
  have HB3 := Lib.hid B3
  clear B3
  go_wp2_with fail
  go_at_call 45
  obtain ⟨y, hy⟩ : ∃ q, q = u3.alloc (.cells #[.bool nb7, .slice A7 L7 c7, .int .i64 0] 37) := ⟨_, rfl⟩
  have hSy : Below u3.heap.size u3 y := by rw [hy]; exact al_ _ _
  have Dy : DyR y u2.heap.size u3.heap.size (.agg #[.bool nb7, .slice A7 L7 c7, .int .i64 ((0 : Nat) : Int)]) x 0 := HD7.out.below hSy (Nat.le_refl _)
  try rw [← hy]
  clear hy
  refine (rFit_any Dy hSy.size l7).mono ?_
  rintro r u5 ⟨rfl, hb⟩
  have HF := Lib.hid (HB3.out.trans ((hSy.trans (hb.mono hSy.size)).mono z3))
  clear hb hSy Dy HD7 HD6 HD5 HB1 HB2 HB3
  obtain ⟨x2, hx2⟩ : ∃ q, q = fitV x := ⟨_, rfl⟩
  rw [← hx2]
  by_cases h32 : -2147483648 ≤ x ∧ x < 2147483648
  · have HV := Lib.hid (raw_yes HOK.out (by rw [← HX.out]; exact h32))
    rw [show fitB x = true from decide_eq_true h32]
    have HX2 := Lib.hid (show x2 = x by rw [hx2]; unfold fitV; omega)
    clear h32 hx2
    go_wp2_with fail
    exact bodyPost_ret (v := .tuple #[.int .i64 x2, .int .i64 0]) (by simp [results, Tryd.results11, go_sem]) rfl ⟨by rw [HV.out.1, HV.out.2, ← HX.out, HX2.out], HF.out⟩
  · have HV := Lib.hid (raw_far HOK.out (by rw [← HX.out]; exact h32))
    rw [show fitB x = false from decide_eq_false h32]
    clear h32 hx2
    go_wp2_with fail
    exact bodyPost_ret (v := .tuple #[.int .i64 0, .int .i64 13]) (by simp [results, Tryd.results11, go_sem]) rfl ⟨by rw [HV.out.1, HV.out.2], HF.out⟩
end Go.Proofs.YtjlocofimlgaoaaDoor
