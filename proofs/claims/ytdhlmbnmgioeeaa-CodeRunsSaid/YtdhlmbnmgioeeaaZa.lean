/- The document's Shift and Fit. And more of the kind. No conditions. -/
import Derived.Test.YtdhlmbnmgioeeaaDe
import Derived.Test.YtdhlmbnmgioeeaaCdI
import Derived.Test.YtdhlmbnmgioeeaaCdM
/- The document's Shift and Fit. No conditions. -/
namespace Go.Proofs.Ytdhlmbnmgioeeaa
set_option linter.unusedVariables false
set_option linter.unusedSimpArgs false
set_option linter.unusedSectionVars false
open Go.RowKit

/-- The greatest integer that is at most x * 2^k. -/
def shE (x k : Int) : Int := if k < 0 then x / 2 ^ (-k).toNat else x * 2 ^ k.toNat
theorem nf_floor (x : Int) (p : Nat) : (nf x p).1 / 2 ^ (nf x p).2 = x / 2 ^ p := by
  induction p generalizing x with
  | zero => rfl
  | succ p ih =>
    unfold nf
    split
    · rename_i h
      rw [ih]
      have e : x = 2 * (x / 2) := by omega
      rw [Int.pow_succ, Int.mul_comm (2 ^ p) 2, ← Int.ediv_ediv_of_nonneg (by omega)]
    · rfl
theorem dyFloor_zero (x : Int) (d : Nat) : dyFloor x d 0 = (x / 2 ^ d, 0) := by
  unfold dyFloor
  by_cases h : d ≤ 0
  · have : d = 0 := by omega
    subst this
    simp
  · rw [if_neg h]
    rfl
theorem sh_val {x k : Int} (h1 : -62 ≤ k) (h2 : k ≤ 30) : dyFloor (dyShift x 0 k).1 (dyShift x 0 k).2 0 = (shE x k, 0) := by
  rw [dyFloor_zero]
  congr 1
  unfold dyShift shE
  rw [show max (-65536) (min k 65536) = k by omega]
  by_cases h : k < 0
  · rw [if_pos h, if_pos h, Nat.zero_add]
    exact nf_floor _ _
  · rw [if_neg h, if_neg h]
    show x * 2 ^ k.toNat / 2 ^ 0 = _
    simp
theorem len_of_abs {x : Int} {k : Nat} (h : x.natAbs < 4294967296 ^ k) : (canon x.natAbs).length ≤ k := canon_len_le h
theorem res_rShift {tmps : Array Value} {w : World} {b : Nat} {v0 v1 v2 : Value} (h2 : tmps.getD 4 undef = .pointer (some ⟨b, 0, none⟩)) (hB : RowD w b [v0, v1, v2] 75) :
    (results Try.f38 tmps).run Try.prog w = .ok (.agg #[v0, v1, v2]) w := by
  have k0 := hB.cell 0
  have k1 := hB.cell 1
  have k2 := hB.cell 2
  simp at k0 k1 k2
  simp at h2
  simp [results, Try.results38, go_sem, h2, k0, k1, k2]
set_option maxRecDepth 100000 in
set_option maxHeartbeats 4000000 in
theorem rShift_any (x k : Int) (w : World) (h1 : -62 ≤ k) (h2 : k ≤ 30) (hx : x.natAbs ≤ 4611686018427387904) :
    Calls Try.prog 38 #[.int .i64 x, .int .i64 k] w fun e w' => ∃ v', e = .returned v' ∧ DyR w' w.heap.size w'.heap.size v' (shE x k) 0 ∧ Below w.heap.size w w' := by
  have lx : (canon x.natAbs).length ≤ 2 := canon_len_le (by omega)
  have ls : (canon (dyShift x 0 k).1.natAbs).length ≤ 50000 := by
    unfold dyShift
    rw [show max (-65536) (min k 65536) = k by omega]
    split
    · exact Nat.le_trans (canon_len_mono (nf_abs_le _ _)) (by omega)
    · refine Nat.le_trans (canon_len_mono (nf_abs_le _ _)) ?_
      rw [abs_mul_pow]
      have := canon_len_shift x.natAbs k.toNat
      omega
  have hmm : max (-65536) (min k 65536) = k := by omega
  have HV := Lib.hid (sh_val (x := x) h1 h2)
  have b0 : Below w.heap.size w (w.alloc (.cells #[.bool false, .slice none 0 0, .int .i64 0] 75)) := ext_alloc (Below.refl _ _) _
  have r0 := RowD.new_ w [.bool false, .slice none 0 0, .int .i64 0] 75
  go_enter Try.func38, Try.ntmps38
  go_wp2_with fail
  go_at_call 36
  refine (of_any x (by omega) (by omega) _).mono ?_
  rintro e w1 ⟨v1, rfl, D1, hb1⟩
  have r1 := r0.call hb1
  have b1 := b0.trans (hb1.mono (by simp))
  obtain ⟨nb1, A1, L1, c1, rfl, _⟩ := D1.form
  have D1' := Lib.hid D1
  clear D1 hb1 r0 b0
  go_wp2_with fail
  go_at_call 51
  refine (dshift_any D1'.out (Nat.le_refl _) (by omega) (by rw [hmm]; omega)).mono ?_
  rintro e w2 ⟨v2, rfl, D2, hb2⟩
  have r2 := r1.call hb2
  have b2 := b1.trans (hb2.mono (by have := b1.size; omega))
  have hd2 := D2.bound.1
  generalize hS : dyShift x 0 k = S at D2 ls HV
  obtain ⟨xs, ds⟩ := S
  obtain ⟨nb2, A2, L2, c2, rfl, _⟩ := D2.form
  have D2' := Lib.hid D2
  clear D2 hb2 r1 b1 hS
  go_wp2_with fail
  go_at_call 50
  refine (floor_any (den := 0) D2'.out (Nat.le_refl _) ls (by omega)).mono ?_
  rintro e w3 ⟨v3, rfl, D3, hb3⟩
  rw [HV.out] at D3
  have r3 := r2.call hb3
  have b3 := b2.trans (hb3.mono (by have := b2.size; omega))
  obtain ⟨nb3, A3, L3, c3, rfl, _⟩ := D3.form
  have D3' := Lib.hid D3
  have hr := r3.lt
  have hr2 := r2.lt
  have k0 : w3.cell? ⟨w.heap.size, 0, none⟩ = some (.bool false) := r3.cell 0
  have k1 : w3.cell? ⟨w.heap.size, 1, none⟩ = some (.slice none 0 0) := r3.cell 1
  have k2 : w3.cell? ⟨w.heap.size, 2, none⟩ = some (.int .i64 0) := r3.cell 2
  have kf := r3.free
  clear D3 hb3 r2 b2 D2' D1'
  go_wp2_with fail
  have al : ∀ (u : World) (o : Obj), Below u.heap.size u (u.alloc o) := fun u o => (Below.refl _ u).alloc (Nat.le_refl _) o
  refine bodyPost_ret (res_rShift rfl ((((r3.set_ 0 _).set_ 1 _).set_ 2 _).call (al _ _))) rfl ⟨_, rfl, ?_, (((b3.setCell (by simp) _).setCell (by simp) _).setCell (by simp) _).alloc (by simp; omega) _⟩
  have E := ((((D3'.out.set_ (b := w.heap.size) (by omega) 0 (.bool nb3)).set_ (b := w.heap.size) (by omega) 1 (.slice A3 L3 c3)).set_ (b := w.heap.size) (by omega) 2 (.int .i64 0)).low (show w.heap.size ≤ w2.heap.size by omega))
  exact (E.below (al _ _) (by simp)).more (by simp)
theorem fit_lo (x : Int) : dyCmp x 0 (-2147483648) 0 = sgI (x + 2147483648) := by
  rw [dyCmp_int]
  congr 1
theorem fit_hi (x : Int) : dyCmp x 0 2147483647 0 = sgI (x - 2147483647) := dyCmp_int _ _
theorem len_k1 : (canon (Int.natAbs (-2147483648))).length ≤ 50000 := Nat.le_trans (canon_len_le (k := 1) (by decide)) (by decide)
theorem len_k2 : (canon (Int.natAbs 2147483647)).length ≤ 50000 := Nat.le_trans (canon_len_le (k := 1) (by decide)) (by decide)
set_option maxRecDepth 100000 in
set_option maxHeartbeats 4000000 in
theorem rFit_any {v : Value} {x : Int} {lo m : Nat} {w : World} (D : DyR w lo m v x 0) (hm : m ≤ w.heap.size) (hl : (canon x.natAbs).length ≤ 50000) :
    Calls Try.prog 30 #[v] w fun e w' => e = .returned (.tuple #[.int .i64 (cut32 x), .bool (!shortB x)]) ∧ Below w.heap.size w w' := by
  obtain ⟨nb, A, L, c, rfl, _⟩ := D.form
  have b0 : Below w.heap.size w (w.alloc (.cells #[.bool nb, .slice A L c, .int .i64 0] 75)) := ext_alloc (Below.refl _ _) _
  have r0 := RowD.new_ w [.bool nb, .slice A L c, .int .i64 0] 75
  have X := (D.below b0 hm).more (show m ≤ w.heap.size + 1 by omega)
  clear D
  go_enter Try.func30, Try.ntmps30
  go_wp2_with fail
  obtain ⟨W, hW⟩ : ∃ W, W = w.alloc (.cells #[.bool nb, .slice A L c, .int .i64 0] 75) := ⟨_, rfl⟩
  have hWs : W.heap.size = w.heap.size + 1 := by rw [hW]; simp
  rw [← hW]
  rw [← hW] at b0 r0 X
  clear hW
  have a0 : W.cell? ⟨w.heap.size, 0, none⟩ = some (.bool nb) := r0.cell 0
  have a1 : W.cell? ⟨w.heap.size, 1, none⟩ = some (.slice A L c) := r0.cell 1
  have a2 : W.cell? ⟨w.heap.size, 2, none⟩ = some (.int .i64 0) := r0.cell 2
  have hk : SK W (w.heap.size + 1) w.heap.size W := SK.refl (by omega) ⟨_, _, _, r0⟩
  by_cases hx : x < -2147483648
  · as_aux_lemma =>
    have hcv : dyCmp x 0 (-2147483648) 0 = -1 := by rw [fit_lo]; unfold sgI; rw [if_neg (by omega), if_pos (by omega)]
    have HV := Lib.hid (show cut32 x = -2147483648 ∧ shortB x = false by
      refine ⟨by unfold cut32; omega, ?_⟩
      unfold shortB; rw [decide_eq_false]; omega)
    clear hx
    go_region_held3 (fun w' => (∀ b o, b < w.heap.size + 1 → w'.cell? ⟨b, o, none⟩ = W.cell? ⟨b, o, none⟩) ∧ SK W (w.heap.size + 1) w.heap.size w')
      (first
        | (refine SK.all ?_
           first
             | assumption
             | exact hk
             | exact hk.drew))
      (first
        | (go_at_call 36; refine (of_any (-2147483648) (by omega) (by omega) _).mono ?_; (rintro e w5 ⟨v5, rfl, D5, hb5⟩; have hk5 := SK.call hk.drew hb5; have hf5 := hk5.lt; have hff5 := hk5.fits; obtain ⟨nb5, A5, L5, c5, rfl, _⟩ := D5.form))
        | (go_at_call 35; refine (cmp_any ((X.below hk5.is (Nat.le_refl _)).more hff5) D5 (Nat.le_refl _) (by omega) len_k1).mono ?_; (rintro e w6 ⟨rfl, hb6⟩; have hk6 := SK.call hk5 hb6; rw [hcv])))
    go_wp2_with fail
    refine bodyPost_ret (v := .tuple #[.int .i64 (-2147483648), .bool true]) (by simp [results, Try.results30, go_sem]) rfl ⟨?_, b0.trans (hk6.is.mono (by omega))⟩
    rw [HV.out.1, HV.out.2]
    rfl
  · by_cases hx2 : 2147483647 < x
    · as_aux_lemma =>
      have hcv : dyCmp x 0 (-2147483648) 0 = 1 := by rw [fit_lo]; unfold sgI; rw [if_neg (by omega), if_neg (by omega)]
      have hcv2 : dyCmp x 0 2147483647 0 = 1 := by rw [fit_hi]; unfold sgI; rw [if_neg (by omega), if_neg (by omega)]
      have HV := Lib.hid (show cut32 x = 2147483647 ∧ shortB x = false by
        refine ⟨by unfold cut32; omega, ?_⟩
        unfold shortB; rw [decide_eq_false]; omega)
      clear hx hx2
      go_region_held3 (fun w' => (∀ b o, b < w.heap.size + 1 → w'.cell? ⟨b, o, none⟩ = W.cell? ⟨b, o, none⟩) ∧ SK W (w.heap.size + 1) w.heap.size w')
        (first
          | (refine SK.all ?_
             first
               | assumption
               | exact hk
               | exact hk.drew))
        (first
          | (go_at_call 36; refine (of_any (-2147483648) (by omega) (by omega) _).mono ?_; (rintro e w5 ⟨v5, rfl, D5, hb5⟩; have hk5 := SK.call hk.drew hb5; have hf5 := hk5.lt; have hff5 := hk5.fits; obtain ⟨nb5, A5, L5, c5, rfl, _⟩ := D5.form))
          | (go_at_call 35; refine (cmp_any ((X.below hk5.is (Nat.le_refl _)).more hff5) D5 (Nat.le_refl _) (by omega) len_k1).mono ?_; (rintro e w6 ⟨rfl, hb6⟩; have hk6 := SK.call hk5 hb6; rw [hcv])))
      have c0 : w6.cell? ⟨w.heap.size, 0, none⟩ = some (.bool nb) := (hk6.all.1 _ _ (by omega)).trans a0
      have c1 : w6.cell? ⟨w.heap.size, 1, none⟩ = some (.slice A L c) := (hk6.all.1 _ _ (by omega)).trans a1
      have c2 : w6.cell? ⟨w.heap.size, 2, none⟩ = some (.int .i64 0) := (hk6.all.1 _ _ (by omega)).trans a2
      have hfit6 := hk6.fits
      go_wp2_with fail
      go_region_held3 (fun w' => (∀ b o, b < w.heap.size + 1 → w'.cell? ⟨b, o, none⟩ = W.cell? ⟨b, o, none⟩) ∧ SK W (w.heap.size + 1) w.heap.size w')
        (first
          | (refine SK.all ?_
             first
               | assumption
               | exact hk6
               | exact hk6.drew))
        (first
          | (go_at_call 36; refine (of_any (2147483647) (by omega) (by omega) _).mono ?_; (rintro e w7 ⟨v7, rfl, D7, hb7⟩; have hk7 := SK.call hk6.drew hb7; have hf7 := hk7.lt; have hff7 := hk7.fits; obtain ⟨nb7, A7, L7, c7, rfl, _⟩ := D7.form))
          | (go_at_call 35; refine (cmp_any ((X.below hk7.is (Nat.le_refl _)).more hff7) D7 (Nat.le_refl _) (by omega) len_k2).mono ?_; (rintro e w8 ⟨rfl, hb8⟩; have hk8 := SK.call hk7 hb8; rw [hcv2])))
      go_wp2_with fail
      refine bodyPost_ret (v := .tuple #[.int .i64 2147483647, .bool true]) (by simp [results, Try.results30, go_sem]) rfl ⟨?_, b0.trans (hk8.is.mono (by omega))⟩
      rw [HV.out.1, HV.out.2]
      rfl
    · as_aux_lemma =>
      obtain ⟨cv, hcv0⟩ : ∃ cv, cv = dyCmp x 0 (-2147483648) 0 := ⟨_, rfl⟩
      obtain ⟨cv2, hcv02⟩ : ∃ cv, cv = dyCmp x 0 2147483647 0 := ⟨_, rfl⟩
      have hcv := hcv0.symm
      have hcv2 := hcv02.symm
      have hp : 0 ≤ cv := by
        rw [hcv0, fit_lo]; unfold sgI; split
        · omega
        · rw [if_neg (by omega)]; omega
      have hp2 : cv2 ≤ 0 := by
        rw [hcv02, fit_hi]; unfold sgI; split
        · omega
        · rw [if_pos (by omega)]; omega
      have hb1 : decide (cv < 0) = false := decide_eq_false (by omega)
      have hb2 : decide (0 < cv2) = false := decide_eq_false (by omega)
      have HV := Lib.hid (show cut32 x = x ∧ shortB x = true by
        refine ⟨by unfold cut32; omega, ?_⟩
        unfold shortB; rw [decide_eq_true]; omega)
      have hxa : -9223372036854775808 ≤ x := by omega
      have hxb : x < 9223372036854775808 := by omega
      clear hx hx2 hcv0 hcv02
      go_region_held3 (fun w' => (∀ b o, b < w.heap.size + 1 → w'.cell? ⟨b, o, none⟩ = W.cell? ⟨b, o, none⟩) ∧ SK W (w.heap.size + 1) w.heap.size w')
        (first
          | (refine SK.all ?_
             first
               | assumption
               | exact hk
               | exact hk.drew))
        (first
          | (go_at_call 36; refine (of_any (-2147483648) (by omega) (by omega) _).mono ?_; (rintro e w5 ⟨v5, rfl, D5, hb5⟩; have hk5 := SK.call hk.drew hb5; have hf5 := hk5.lt; have hff5 := hk5.fits; obtain ⟨nb5, A5, L5, c5, rfl, _⟩ := D5.form))
          | (go_at_call 35; refine (cmp_any ((X.below hk5.is (Nat.le_refl _)).more hff5) D5 (Nat.le_refl _) (by omega) len_k1).mono ?_; (rintro e w6 ⟨rfl, hb6⟩; have hk6 := SK.call hk5 hb6; rw [hcv])))
      have c0 : w6.cell? ⟨w.heap.size, 0, none⟩ = some (.bool nb) := (hk6.all.1 _ _ (by omega)).trans a0
      have c1 : w6.cell? ⟨w.heap.size, 1, none⟩ = some (.slice A L c) := (hk6.all.1 _ _ (by omega)).trans a1
      have c2 : w6.cell? ⟨w.heap.size, 2, none⟩ = some (.int .i64 0) := (hk6.all.1 _ _ (by omega)).trans a2
      have hfit6 := hk6.fits
      clear hcv
      go_wp2_with fail
      go_region_held3 (fun w' => (∀ b o, b < w.heap.size + 1 → w'.cell? ⟨b, o, none⟩ = W.cell? ⟨b, o, none⟩) ∧ SK W (w.heap.size + 1) w.heap.size w')
        (first
          | (refine SK.all ?_
             first
               | assumption
               | exact hk6
               | exact hk6.drew))
        (first
          | (go_at_call 36; refine (of_any (2147483647) (by omega) (by omega) _).mono ?_; (rintro e w7 ⟨v7, rfl, D7, hb7⟩; have hk7 := SK.call hk6.drew hb7; have hf7 := hk7.lt; have hff7 := hk7.fits; obtain ⟨nb7, A7, L7, c7, rfl, _⟩ := D7.form))
          | (go_at_call 35; refine (cmp_any ((X.below hk7.is (Nat.le_refl _)).more hff7) D7 (Nat.le_refl _) (by omega) len_k2).mono ?_; (rintro e w8 ⟨rfl, hb8⟩; have hk8 := SK.call hk7 hb8; rw [hcv2])))
      have d0 : w8.cell? ⟨w.heap.size, 0, none⟩ = some (.bool nb) := (hk8.all.1 _ _ (by omega)).trans a0
      have d1 : w8.cell? ⟨w.heap.size, 1, none⟩ = some (.slice A L c) := (hk8.all.1 _ _ (by omega)).trans a1
      have d2 : w8.cell? ⟨w.heap.size, 2, none⟩ = some (.int .i64 0) := (hk8.all.1 _ _ (by omega)).trans a2
      have hfit8 := hk8.fits
      clear hcv2
      go_wp2_with fail
      go_at_call 37
      refine (int_any (X.below hk8.is (Nat.le_refl _)) (by omega) hxa hxb).mono ?_
      rintro e w9 ⟨rfl, hb9⟩
      go_wp2_with fail
      refine bodyPost_ret (v := .tuple #[.int .i64 x, .bool false]) (by simp [results, Try.results30, go_sem]) rfl ⟨?_, (b0.trans (hk8.is.mono (by omega))).trans (hb9.mono (by omega))⟩
      rw [HV.out.1, HV.out.2]
      rfl
end Go.Proofs.Ytdhlmbnmgioeeaa

/- The document's Result of an instruction. No conditions. -/
namespace Go.Proofs.Ytdhlmbnmgioeeaa
set_option linter.unusedVariables false
set_option linter.unusedSimpArgs false
set_option linter.unusedSectionVars false
open Go.RowKit

def resE (x : Ins) (cs inn : List Int) : Int :=
  if x.op = 0 then shE (inn[x.a.toNat]?.getD 0) x.sa
  else if x.op = 1 then x.imm
  else if x.op = 6 then shE (cs[x.a.toNat]?.getD 0 * x.imm) x.sa
  else if x.op = 7 then shE (cs[x.a.toNat]?.getD 0 * cs[x.b.toNat]?.getD 0) x.sa
  else if x.op = 5 then -shE (cs[x.a.toNat]?.getD 0) x.sa
  else if x.op = 10 then (((shE (cs[x.a.toNat]?.getD 0) x.sa).natAbs : Nat) : Int)
  else if x.op = 2 then shE (cs[x.a.toNat]?.getD 0) x.sa
  else if x.op = 3 then shE (cs[x.a.toNat]?.getD 0) x.sa + shE (cs[x.b.toNat]?.getD 0) x.sb
  else if x.op = 4 then shE (cs[x.a.toNat]?.getD 0) x.sa - shE (cs[x.b.toNat]?.getD 0) x.sb
  else if x.op = 8 then min (shE (cs[x.a.toNat]?.getD 0) x.sa) (shE (cs[x.b.toNat]?.getD 0) x.sb)
  else max (shE (cs[x.a.toNat]?.getD 0) x.sa) (shE (cs[x.b.toNat]?.getD 0) x.sb)
theorem mul_short {x y : Int} (h1 : -2147483648 ≤ x) (h2 : x < 2147483648) (h3 : -2147483648 ≤ y) (h4 : y < 2147483648) : (x * y).natAbs ≤ 4611686018427387904 := by
  rw [Int.natAbs_mul]
  exact Nat.mul_le_mul (show x.natAbs ≤ 2147483648 by omega) (show y.natAbs ≤ 2147483648 by omega)
def ResPost (w : World) (r : Int) (e : Ending) (w' : World) : Prop := ∃ v', e = .returned v' ∧ DyR w' w.heap.size w'.heap.size v' r 0 ∧ Below w.heap.size w w'
theorem sh_len {x k : Int} (h1 : -62 ≤ k) (h2 : k ≤ 30) (hx : x.natAbs ≤ 4611686018427387904) : (canon (shE x k).natAbs).length ≤ 10 := by
  refine canon_len_le ?_
  have hb : (shE x k).natAbs ≤ x.natAbs * 2 ^ 30 + 1 := by
    unfold shE
    split
    · generalize (-k).toNat = p
      have hp : (0 : Int) < 2 ^ p := Int.pow_pos (by decide)
      have := Int.natAbs_ediv_le_natAbs x (2 ^ p)
      omega
    · rw [abs_mul_pow]
      exact Nat.le_trans (Nat.mul_le_mul_left _ (Nat.pow_le_pow_right (by decide) (by omega))) (Nat.le_succ _)
  omega
theorem res_rResult {tmps : Array Value} {w : World} {b : Nat} {v0 v1 v2 : Value} (h2 : tmps.getD 6 undef = .pointer (some ⟨b, 0, none⟩)) (hB : RowD w b [v0, v1, v2] 75) :
    (results Try.f31 tmps).run Try.prog w = .ok (.agg #[v0, v1, v2]) w := by
  have k0 := hB.cell 0
  have k1 := hB.cell 1
  have k2 := hB.cell 2
  simp at k0 k1 k2
  simp at h2
  simp [results, Try.results31, go_sem, h2, k0, k1, k2]
set_option maxRecDepth 100000 in
set_option maxHeartbeats 4000000 in
theorem rRes_in (A B : Option Addr) (dst a b sa sb imm : Int) (cs inn : List Int) (c1 c2 m : Nat) (w : World) (hm : m ≤ w.heap.size) (hA : CellsAt w m A (ints cs)) (hB : CellsAt w m B (ints inn)) (ok : InsOk inn.length cs.length ⟨0, dst, a, b, sa, sb, imm⟩)
    (hcs : ∀ z ∈ cs, shortB z = true) (hin : ∀ z ∈ inn, shortB z = true) :
    Calls Try.prog 31 #[.agg #[.int .i64 0, .int .i64 dst, .int .i64 a, .int .i64 b, .int .i64 sa, .int .i64 sb, .int .i64 imm], .slice A cs.length c1, .slice B inn.length c2] w (ResPost w (resE ⟨0, dst, a, b, sa, sb, imm⟩ cs inn)) := by
  have hsa := ok.sa rfl
  have ha : 0 ≤ a ∧ a < (inn.length : Int) := by simpa using ok.a rfl
  obtain ⟨i, hi⟩ : ∃ i : Nat, a = (i : Int) := ⟨a.toNat, by have := ha; omega⟩
  subst hi
  have hil : i < inn.length := by have := ha; simp at this; omega
  obtain ⟨b1, o1, z1, e1, hb1, _, hg1, hc1⟩ := hB.int_ hil
  cases e1
  have hz1 := shortB_t (hin z1 (List.mem_of_getElem? hg1))
  have HV := Lib.hid (show shE z1 sa = resE ⟨0, dst, (i : Int), b, sa, sb, imm⟩ cs inn by
    simp [resE, hg1])
  have hil : (i : Int) < (inn.length : Int) := by omega
  have b1s : b1 < w.heap.size + 1 := by omega
  clear ok ha hg1
  have b0 : Below w.heap.size w ((w.alloc (.cells #[.int .i64 0, .int .i64 dst, .int .i64 (i : Int), .int .i64 b, .int .i64 sa, .int .i64 sb, .int .i64 imm] 49)).alloc (.cells #[.bool false, .slice none 0 0, .int .i64 0] 75)) := ext_alloc (ext_alloc (Below.refl _ _) _) _
  have r0 := (RowD.new_ w [.int .i64 0, .int .i64 dst, .int .i64 (i : Int), .int .i64 b, .int .i64 sa, .int .i64 sb, .int .i64 imm] 49).call ((Below.refl _ _).alloc (Nat.le_refl _) (.cells #[.bool false, .slice none 0 0, .int .i64 0] 75))
  have r1 := (RowD.new_ (w.alloc (.cells #[.int .i64 0, .int .i64 dst, .int .i64 (i : Int), .int .i64 b, .int .i64 sa, .int .i64 sb, .int .i64 imm] 49)) [.bool false, .slice none 0 0, .int .i64 0] 75)
  rw [show (w.alloc (.cells #[.int .i64 0, .int .i64 dst, .int .i64 (i : Int), .int .i64 b, .int .i64 sa, .int .i64 sb, .int .i64 imm] 49)).heap.size = w.heap.size + 1 by simp] at r1
  go_enter Try.func31, Try.ntmps31
  go_wp2_with fail
  obtain ⟨W, hW⟩ : ∃ W, W = ((w.alloc (.cells #[.int .i64 0, .int .i64 dst, .int .i64 (i : Int), .int .i64 b, .int .i64 sa, .int .i64 sb, .int .i64 imm] 49)).alloc (.cells #[.bool false, .slice none 0 0, .int .i64 0] 75)) := ⟨_, rfl⟩
  have hWs : W.heap.size = w.heap.size + 2 := by rw [hW]; simp
  rw [← hW]
  rw [← hW] at b0 r0 r1
  clear hW
  have hk : SK W (w.heap.size + 1) (w.heap.size + 1) W := SK.refl (by omega) ⟨_, _, _, r1⟩
  have x0 : W.cell? ⟨w.heap.size, 0, none⟩ = some (.int .i64 0) := r0.cell 0
  have x1 : W.cell? ⟨w.heap.size, 1, none⟩ = some (.int .i64 dst) := r0.cell 1
  have x2 : W.cell? ⟨w.heap.size, 2, none⟩ = some (.int .i64 (i : Int)) := r0.cell 2
  have x3 : W.cell? ⟨w.heap.size, 3, none⟩ = some (.int .i64 b) := r0.cell 3
  have x4 : W.cell? ⟨w.heap.size, 4, none⟩ = some (.int .i64 sa) := r0.cell 4
  have x5 : W.cell? ⟨w.heap.size, 5, none⟩ = some (.int .i64 sb) := r0.cell 5
  have x6 : W.cell? ⟨w.heap.size, 6, none⟩ = some (.int .i64 imm) := r0.cell 6
  have hc1' : W.cell? ⟨b1, o1 + i, none⟩ = some (.int .i64 z1) := (b0.cell (p := ⟨b1, o1 + i, none⟩) (Nat.lt_of_lt_of_le hb1 hm)).trans hc1
  clear hc1
  go_region_held3 (fun w' => (∀ b o, b < w.heap.size + 1 → w'.cell? ⟨b, o, none⟩ = W.cell? ⟨b, o, none⟩) ∧ SK W (w.heap.size + 1) (w.heap.size + 1) w')
    (first
      | (refine SK.all ?_
         first
           | assumption
           | exact hk
           | exact hk.drew
           | exact ((SK.set (by assumption) (by omega) _ _).set (by omega) _ _).set (by omega) _ _))
    ((go_at_call 38; refine (rShift_any (z1) sa _ hsa.1 hsa.2 (by omega)).mono ?_; (rintro e w6 ⟨v6, rfl, D6, hb6⟩; have hk6 := SK.call hk.drew hb6; have hf6 := hk6.lt; rw [HV.out] at D6; replace D6 := D6.low (Nat.le_of_eq hWs.symm); obtain ⟨nb6, A9, L9, c9, rfl, _⟩ := D6.form; obtain ⟨y0, y1, y2, rz, k0, k1, k2, kf⟩ := SK.cells hk6)))
  go_wp2_with fail
  refine bodyPost_ret (res_rResult rfl (((rz.set_ 0 _).set_ 1 _).set_ 2 _)) rfl ⟨_, rfl, ?_, (((b0.trans (hk6.is.mono (by omega))).setCell (by simp) _).setCell (by simp) _).setCell (by simp) _⟩
  exact ((((D6.set_ (by omega) 0 _).set_ (by omega) 1 _).set_ (by omega) 2 _).low (by omega)).more (by simp)
set_option maxRecDepth 100000 in
set_option maxHeartbeats 4000000 in
theorem rRes_const (A B : Option Addr) (dst a b sa sb imm : Int) (cs inn : List Int) (c1 c2 m : Nat) (w : World) (hm : m ≤ w.heap.size) (hA : CellsAt w m A (ints cs)) (hB : CellsAt w m B (ints inn)) (ok : InsOk inn.length cs.length ⟨1, dst, a, b, sa, sb, imm⟩)
    (hcs : ∀ z ∈ cs, shortB z = true) (hin : ∀ z ∈ inn, shortB z = true) :
    Calls Try.prog 31 #[.agg #[.int .i64 1, .int .i64 dst, .int .i64 a, .int .i64 b, .int .i64 sa, .int .i64 sb, .int .i64 imm], .slice A cs.length c1, .slice B inn.length c2] w (ResPost w (resE ⟨1, dst, a, b, sa, sb, imm⟩ cs inn)) := by
  have himm := shortB_t (ok.imm rfl)
  have HV := Lib.hid (show imm = resE ⟨1, dst, a, b, sa, sb, imm⟩ cs inn by simp [resE])
  clear ok
  have b0 : Below w.heap.size w ((w.alloc (.cells #[.int .i64 1, .int .i64 dst, .int .i64 a, .int .i64 b, .int .i64 sa, .int .i64 sb, .int .i64 imm] 49)).alloc (.cells #[.bool false, .slice none 0 0, .int .i64 0] 75)) := ext_alloc (ext_alloc (Below.refl _ _) _) _
  have r0 := (RowD.new_ w [.int .i64 1, .int .i64 dst, .int .i64 a, .int .i64 b, .int .i64 sa, .int .i64 sb, .int .i64 imm] 49).call ((Below.refl _ _).alloc (Nat.le_refl _) (.cells #[.bool false, .slice none 0 0, .int .i64 0] 75))
  have r1 := (RowD.new_ (w.alloc (.cells #[.int .i64 1, .int .i64 dst, .int .i64 a, .int .i64 b, .int .i64 sa, .int .i64 sb, .int .i64 imm] 49)) [.bool false, .slice none 0 0, .int .i64 0] 75)
  rw [show (w.alloc (.cells #[.int .i64 1, .int .i64 dst, .int .i64 a, .int .i64 b, .int .i64 sa, .int .i64 sb, .int .i64 imm] 49)).heap.size = w.heap.size + 1 by simp] at r1
  go_enter Try.func31, Try.ntmps31
  go_wp2_with fail
  go_at_call 36
  obtain ⟨W, hW⟩ : ∃ W, W = ((w.alloc (.cells #[.int .i64 1, .int .i64 dst, .int .i64 a, .int .i64 b, .int .i64 sa, .int .i64 sb, .int .i64 imm] 49)).alloc (.cells #[.bool false, .slice none 0 0, .int .i64 0] 75)) := ⟨_, rfl⟩
  have hWs : W.heap.size = w.heap.size + 2 := by rw [hW]; simp
  rw [← hW]
  rw [← hW] at b0 r0 r1
  clear hW
  have hk : SK W (w.heap.size + 1) (w.heap.size + 1) W := SK.refl (by omega) ⟨_, _, _, r1⟩
  have x0 : W.cell? ⟨w.heap.size, 0, none⟩ = some (.int .i64 1) := r0.cell 0
  have x1 : W.cell? ⟨w.heap.size, 1, none⟩ = some (.int .i64 dst) := r0.cell 1
  have x2 : W.cell? ⟨w.heap.size, 2, none⟩ = some (.int .i64 a) := r0.cell 2
  have x3 : W.cell? ⟨w.heap.size, 3, none⟩ = some (.int .i64 b) := r0.cell 3
  have x4 : W.cell? ⟨w.heap.size, 4, none⟩ = some (.int .i64 sa) := r0.cell 4
  have x5 : W.cell? ⟨w.heap.size, 5, none⟩ = some (.int .i64 sb) := r0.cell 5
  have x6 : W.cell? ⟨w.heap.size, 6, none⟩ = some (.int .i64 imm) := r0.cell 6
  refine (of_any imm (by omega) (by omega) _).mono ?_
  rintro e w6 ⟨v6, rfl, D6, hb6⟩
  have hk6 := SK.call hk hb6
  have hf6 := hk6.lt
  rw [HV.out] at D6
  replace D6 := D6.low (Nat.le_of_eq hWs.symm)
  obtain ⟨nb6, A9, L9, c9, rfl, _⟩ := D6.form
  obtain ⟨y0, y1, y2, rz, k0, k1, k2, kf⟩ := SK.cells hk6
  go_wp2_with fail
  refine bodyPost_ret (res_rResult rfl (((rz.set_ 0 _).set_ 1 _).set_ 2 _)) rfl ⟨_, rfl, ?_, (((b0.trans (hk6.is.mono (by omega))).setCell (by simp) _).setCell (by simp) _).setCell (by simp) _⟩
  exact ((((D6.set_ (by omega) 0 _).set_ (by omega) 1 _).set_ (by omega) 2 _).low (by omega)).more (by simp)
set_option maxRecDepth 100000 in
set_option maxHeartbeats 4000000 in
theorem rRes_gain (A B : Option Addr) (dst a b sa sb imm : Int) (cs inn : List Int) (c1 c2 m : Nat) (w : World) (hm : m ≤ w.heap.size) (hA : CellsAt w m A (ints cs)) (hB : CellsAt w m B (ints inn)) (ok : InsOk inn.length cs.length ⟨6, dst, a, b, sa, sb, imm⟩)
    (hcs : ∀ z ∈ cs, shortB z = true) (hin : ∀ z ∈ inn, shortB z = true) :
    Calls Try.prog 31 #[.agg #[.int .i64 6, .int .i64 dst, .int .i64 a, .int .i64 b, .int .i64 sa, .int .i64 sb, .int .i64 imm], .slice A cs.length c1, .slice B inn.length c2] w (ResPost w (resE ⟨6, dst, a, b, sa, sb, imm⟩ cs inn)) := by
  have hsa := ok.sa rfl
  have himm := shortB_t (ok.imm rfl)
  have ha : 0 ≤ a ∧ a < (cs.length : Int) := by simpa using ok.a rfl
  obtain ⟨i, hi⟩ : ∃ i : Nat, a = (i : Int) := ⟨a.toNat, by have := ha; omega⟩
  subst hi
  have hil : i < cs.length := by have := ha; simp at this; omega
  obtain ⟨b1, o1, z1, e1, hb1, _, hg1, hc1⟩ := hA.int_ hil
  cases e1
  have hz1 := shortB_t (hcs z1 (List.mem_of_getElem? hg1))
  have hil : (i : Int) < (cs.length : Int) := by omega
  have b1s : b1 < w.heap.size + 1 := by omega
  obtain ⟨pr, hpr⟩ : ∃ pr, pr = z1 * imm := ⟨_, rfl⟩
  have hpb := mul_short hz1.1 hz1.2 himm.1 himm.2
  rw [← hpr] at hpb
  have hwr : IntKind.i64.wrap (z1 * imm) = pr := by rw [← hpr, IntKind.wrap_i64]; omega
  have HV := Lib.hid (show shE pr sa = resE ⟨6, dst, (i : Int), b, sa, sb, imm⟩ cs inn by
    simp [resE, hg1, hpr])
  clear ok ha hg1 hpr
  have b0 : Below w.heap.size w ((w.alloc (.cells #[.int .i64 6, .int .i64 dst, .int .i64 (i : Int), .int .i64 b, .int .i64 sa, .int .i64 sb, .int .i64 imm] 49)).alloc (.cells #[.bool false, .slice none 0 0, .int .i64 0] 75)) := ext_alloc (ext_alloc (Below.refl _ _) _) _
  have r0 := (RowD.new_ w [.int .i64 6, .int .i64 dst, .int .i64 (i : Int), .int .i64 b, .int .i64 sa, .int .i64 sb, .int .i64 imm] 49).call ((Below.refl _ _).alloc (Nat.le_refl _) (.cells #[.bool false, .slice none 0 0, .int .i64 0] 75))
  have r1 := (RowD.new_ (w.alloc (.cells #[.int .i64 6, .int .i64 dst, .int .i64 (i : Int), .int .i64 b, .int .i64 sa, .int .i64 sb, .int .i64 imm] 49)) [.bool false, .slice none 0 0, .int .i64 0] 75)
  rw [show (w.alloc (.cells #[.int .i64 6, .int .i64 dst, .int .i64 (i : Int), .int .i64 b, .int .i64 sa, .int .i64 sb, .int .i64 imm] 49)).heap.size = w.heap.size + 1 by simp] at r1
  go_enter Try.func31, Try.ntmps31
  go_wp2_with fail
  obtain ⟨W, hW⟩ : ∃ W, W = ((w.alloc (.cells #[.int .i64 6, .int .i64 dst, .int .i64 (i : Int), .int .i64 b, .int .i64 sa, .int .i64 sb, .int .i64 imm] 49)).alloc (.cells #[.bool false, .slice none 0 0, .int .i64 0] 75)) := ⟨_, rfl⟩
  have hWs : W.heap.size = w.heap.size + 2 := by rw [hW]; simp
  rw [← hW]
  rw [← hW] at b0 r0 r1
  clear hW
  have hk : SK W (w.heap.size + 1) (w.heap.size + 1) W := SK.refl (by omega) ⟨_, _, _, r1⟩
  have x0 : W.cell? ⟨w.heap.size, 0, none⟩ = some (.int .i64 6) := r0.cell 0
  have x1 : W.cell? ⟨w.heap.size, 1, none⟩ = some (.int .i64 dst) := r0.cell 1
  have x2 : W.cell? ⟨w.heap.size, 2, none⟩ = some (.int .i64 (i : Int)) := r0.cell 2
  have x3 : W.cell? ⟨w.heap.size, 3, none⟩ = some (.int .i64 b) := r0.cell 3
  have x4 : W.cell? ⟨w.heap.size, 4, none⟩ = some (.int .i64 sa) := r0.cell 4
  have x5 : W.cell? ⟨w.heap.size, 5, none⟩ = some (.int .i64 sb) := r0.cell 5
  have x6 : W.cell? ⟨w.heap.size, 6, none⟩ = some (.int .i64 imm) := r0.cell 6
  have hc1' : W.cell? ⟨b1, o1 + i, none⟩ = some (.int .i64 z1) := (b0.cell (p := ⟨b1, o1 + i, none⟩) (Nat.lt_of_lt_of_le hb1 hm)).trans hc1
  clear hc1
  go_region_held3 (fun w' => (∀ b o, b < w.heap.size + 1 → w'.cell? ⟨b, o, none⟩ = W.cell? ⟨b, o, none⟩) ∧ SK W (w.heap.size + 1) (w.heap.size + 1) w')
    (first
      | (refine SK.all ?_
         first
           | assumption
           | exact hk
           | exact hk.drew
           | exact ((SK.set (by assumption) (by omega) _ _).set (by omega) _ _).set (by omega) _ _))
    ((go_at_call 38; refine (rShift_any (pr) sa _ hsa.1 hsa.2 hpb).mono ?_; (rintro e w6 ⟨v6, rfl, D6, hb6⟩; have hk6 := SK.call hk.drew hb6; have hf6 := hk6.lt; rw [HV.out] at D6; replace D6 := D6.low (Nat.le_of_eq hWs.symm); obtain ⟨nb6, A9, L9, c9, rfl, _⟩ := D6.form; obtain ⟨y0, y1, y2, rz, k0, k1, k2, kf⟩ := SK.cells hk6)))
  go_wp2_with fail
  refine bodyPost_ret (res_rResult rfl (((rz.set_ 0 _).set_ 1 _).set_ 2 _)) rfl ⟨_, rfl, ?_, (((b0.trans (hk6.is.mono (by omega))).setCell (by simp) _).setCell (by simp) _).setCell (by simp) _⟩
  exact ((((D6.set_ (by omega) 0 _).set_ (by omega) 1 _).set_ (by omega) 2 _).low (by omega)).more (by simp)
set_option maxRecDepth 100000 in
set_option maxHeartbeats 4000000 in
theorem rRes_mul (A B : Option Addr) (dst a b sa sb imm : Int) (cs inn : List Int) (c1 c2 m : Nat) (w : World) (hm : m ≤ w.heap.size) (hA : CellsAt w m A (ints cs)) (hB : CellsAt w m B (ints inn)) (ok : InsOk inn.length cs.length ⟨7, dst, a, b, sa, sb, imm⟩)
    (hcs : ∀ z ∈ cs, shortB z = true) (hin : ∀ z ∈ inn, shortB z = true) :
    Calls Try.prog 31 #[.agg #[.int .i64 7, .int .i64 dst, .int .i64 a, .int .i64 b, .int .i64 sa, .int .i64 sb, .int .i64 imm], .slice A cs.length c1, .slice B inn.length c2] w (ResPost w (resE ⟨7, dst, a, b, sa, sb, imm⟩ cs inn)) := by
  have hsa := ok.sa rfl
  have ha : 0 ≤ a ∧ a < (cs.length : Int) := by simpa using ok.a rfl
  have hbb : 0 ≤ b ∧ b < (cs.length : Int) := by simpa using ok.b rfl
  obtain ⟨i, hi⟩ : ∃ i : Nat, a = (i : Int) := ⟨a.toNat, by have := ha; omega⟩
  subst hi
  have hil : i < cs.length := by have := ha; simp at this; omega
  obtain ⟨b1, o1, z1, e1, hb1, _, hg1, hc1⟩ := hA.int_ hil
  cases e1
  have hz1 := shortB_t (hcs z1 (List.mem_of_getElem? hg1))
  have hil : (i : Int) < (cs.length : Int) := by omega
  have b1s : b1 < w.heap.size + 1 := by omega
  obtain ⟨j, hj⟩ : ∃ j : Nat, b = (j : Int) := ⟨b.toNat, by have := hbb; omega⟩
  subst hj
  have hjl : j < cs.length := by have := hbb; simp at this; omega
  obtain ⟨b2, o2, z2, e2, hb2, _, hg2, hc2⟩ := hA.int_ hjl
  cases e2
  have hz2 := shortB_t (hcs z2 (List.mem_of_getElem? hg2))
  have hjl : (j : Int) < (cs.length : Int) := by omega
  obtain ⟨pr, hpr⟩ : ∃ pr, pr = z1 * z2 := ⟨_, rfl⟩
  have hpb := mul_short hz1.1 hz1.2 hz2.1 hz2.2
  rw [← hpr] at hpb
  have hwr : IntKind.i64.wrap (z1 * z2) = pr := by rw [← hpr, IntKind.wrap_i64]; omega
  have HV := Lib.hid (show shE pr sa = resE ⟨7, dst, (i : Int), (j : Int), sa, sb, imm⟩ cs inn by
    simp [resE, hg1, hg2, hpr])
  clear ok ha hbb hg1 hg2 hpr
  have b0 : Below w.heap.size w ((w.alloc (.cells #[.int .i64 7, .int .i64 dst, .int .i64 (i : Int), .int .i64 (j : Int), .int .i64 sa, .int .i64 sb, .int .i64 imm] 49)).alloc (.cells #[.bool false, .slice none 0 0, .int .i64 0] 75)) := ext_alloc (ext_alloc (Below.refl _ _) _) _
  have r0 := (RowD.new_ w [.int .i64 7, .int .i64 dst, .int .i64 (i : Int), .int .i64 (j : Int), .int .i64 sa, .int .i64 sb, .int .i64 imm] 49).call ((Below.refl _ _).alloc (Nat.le_refl _) (.cells #[.bool false, .slice none 0 0, .int .i64 0] 75))
  have r1 := (RowD.new_ (w.alloc (.cells #[.int .i64 7, .int .i64 dst, .int .i64 (i : Int), .int .i64 (j : Int), .int .i64 sa, .int .i64 sb, .int .i64 imm] 49)) [.bool false, .slice none 0 0, .int .i64 0] 75)
  rw [show (w.alloc (.cells #[.int .i64 7, .int .i64 dst, .int .i64 (i : Int), .int .i64 (j : Int), .int .i64 sa, .int .i64 sb, .int .i64 imm] 49)).heap.size = w.heap.size + 1 by simp] at r1
  go_enter Try.func31, Try.ntmps31
  go_wp2_with fail
  obtain ⟨W, hW⟩ : ∃ W, W = ((w.alloc (.cells #[.int .i64 7, .int .i64 dst, .int .i64 (i : Int), .int .i64 (j : Int), .int .i64 sa, .int .i64 sb, .int .i64 imm] 49)).alloc (.cells #[.bool false, .slice none 0 0, .int .i64 0] 75)) := ⟨_, rfl⟩
  have hWs : W.heap.size = w.heap.size + 2 := by rw [hW]; simp
  rw [← hW]
  rw [← hW] at b0 r0 r1
  clear hW
  have hk : SK W (w.heap.size + 1) (w.heap.size + 1) W := SK.refl (by omega) ⟨_, _, _, r1⟩
  have x0 : W.cell? ⟨w.heap.size, 0, none⟩ = some (.int .i64 7) := r0.cell 0
  have x1 : W.cell? ⟨w.heap.size, 1, none⟩ = some (.int .i64 dst) := r0.cell 1
  have x2 : W.cell? ⟨w.heap.size, 2, none⟩ = some (.int .i64 (i : Int)) := r0.cell 2
  have x3 : W.cell? ⟨w.heap.size, 3, none⟩ = some (.int .i64 (j : Int)) := r0.cell 3
  have x4 : W.cell? ⟨w.heap.size, 4, none⟩ = some (.int .i64 sa) := r0.cell 4
  have x5 : W.cell? ⟨w.heap.size, 5, none⟩ = some (.int .i64 sb) := r0.cell 5
  have x6 : W.cell? ⟨w.heap.size, 6, none⟩ = some (.int .i64 imm) := r0.cell 6
  have hc1' : W.cell? ⟨b1, o1 + i, none⟩ = some (.int .i64 z1) := (b0.cell (p := ⟨b1, o1 + i, none⟩) (Nat.lt_of_lt_of_le hb1 hm)).trans hc1
  clear hc1
  have hc2' : W.cell? ⟨b1, o1 + j, none⟩ = some (.int .i64 z2) := (b0.cell (p := ⟨b1, o1 + j, none⟩) (Nat.lt_of_lt_of_le hb1 hm)).trans hc2
  clear hc2
  go_region_held3 (fun w' => (∀ b o, b < w.heap.size + 1 → w'.cell? ⟨b, o, none⟩ = W.cell? ⟨b, o, none⟩) ∧ SK W (w.heap.size + 1) (w.heap.size + 1) w')
    (first
      | (refine SK.all ?_
         first
           | assumption
           | exact hk
           | exact hk.drew
           | exact ((SK.set (by assumption) (by omega) _ _).set (by omega) _ _).set (by omega) _ _))
    ((go_at_call 38; refine (rShift_any (pr) sa _ hsa.1 hsa.2 hpb).mono ?_; (rintro e w6 ⟨v6, rfl, D6, hb6⟩; have hk6 := SK.call hk.drew hb6; have hf6 := hk6.lt; rw [HV.out] at D6; replace D6 := D6.low (Nat.le_of_eq hWs.symm); obtain ⟨nb6, A9, L9, c9, rfl, _⟩ := D6.form; obtain ⟨y0, y1, y2, rz, k0, k1, k2, kf⟩ := SK.cells hk6)))
  go_wp2_with fail
  refine bodyPost_ret (res_rResult rfl (((rz.set_ 0 _).set_ 1 _).set_ 2 _)) rfl ⟨_, rfl, ?_, (((b0.trans (hk6.is.mono (by omega))).setCell (by simp) _).setCell (by simp) _).setCell (by simp) _⟩
  exact ((((D6.set_ (by omega) 0 _).set_ (by omega) 1 _).set_ (by omega) 2 _).low (by omega)).more (by simp)
end Go.Proofs.Ytdhlmbnmgioeeaa
