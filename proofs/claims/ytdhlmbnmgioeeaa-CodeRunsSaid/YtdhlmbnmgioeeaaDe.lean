/- The document's dyadic numbers: Shift. And more of the kind. No conditions. -/
import Derived.Test.YtdhlmbnmgioeeaaDd
/- The document's dyadic numbers: Shift. No conditions. -/
namespace Go.Proofs.Ytdhlmbnmgioeeaa
set_option linter.unusedVariables false
set_option linter.unusedSimpArgs false
set_option linter.unusedSectionVars false
open Go.RowKit

/-- x / 2^d times 2^n, n held within 65536. -/
def dyShift (x : Int) (d : Nat) (n : Int) : Int × Nat :=
  if max (-65536) (min n 65536) < 0 then nf x (d + (-(max (-65536) (min n 65536))).toNat) else nf (x * 2 ^ (max (-65536) (min n 65536)).toNat) d
theorem res_Shift {tmps : Array Value} {w : World} {b : Nat} {v0 v1 v2 : Value} (h2 : tmps.getD 4 undef = .pointer (some ⟨b, 0, none⟩)) (hB : RowD w b [v0, v1, v2] 75) :
    (results Try.f51 tmps).run Try.prog w = .ok (.agg #[v0, v1, v2]) w := by
  have k0 := hB.cell 0
  have k1 := hB.cell 1
  have k2 := hB.cell 2
  simp at k0 k1 k2
  simp at h2
  simp [results, Try.results51, go_sem, h2, k0, k1, k2]
set_option maxRecDepth 100000 in
set_option maxHeartbeats 4000000 in
theorem dshift_any {v : Value} {x : Int} {d lo m : Nat} {n : Int} {w : World} (D : DyR w lo m v x d) (hm : m ≤ w.heap.size) (hl : (canon x.natAbs).length ≤ 50000) (hd : (d : Int) - max (-65536) (min n 65536) ≤ 65536) :
    Calls Try.prog 51 #[v, .int .i64 n] w fun e w' => ∃ v', e = .returned v' ∧ DyR w' w.heap.size w'.heap.size v' (dyShift x d n).1 (dyShift x d n).2 ∧ Below w.heap.size w w' := by
  obtain ⟨nn, hnn⟩ : ∃ nn : Int, max (-65536) (min n 65536) = nn := ⟨_, rfl⟩
  have hb1 : -65536 ≤ nn := by omega
  have hb2 : nn ≤ 65536 := by omega
  rw [hnn] at hd
  by_cases hneg : nn < 0
  · as_aux_lemma =>
    obtain ⟨p, hp⟩ : ∃ p : Nat, p = d + (-nn).toNat := ⟨_, rfl⟩
    have HV := Lib.hid (show dyShift x d n = nf x p by unfold dyShift; rw [hnn, if_pos hneg, ← hp])
    have hpp : (d : Int) - nn = (p : Int) := by omega
    have hp6 : p ≤ 65536 := by omega
    clear hp
    obtain ⟨nb, A, L, c, rfl, HD⟩ := D.form
    have D' := Lib.hid D
    clear D
    have b0 : Below w.heap.size w ((w.alloc (.cells #[.bool nb, .slice A L c, .int .i64 (d : Int)] 75)).alloc (.cells #[.bool false, .slice none 0 0, .int .i64 0] 75)) := ext_alloc (ext_alloc (Below.refl _ _) _) _
    have r0 := (RowD.new_ w [.bool nb, .slice A L c, .int .i64 (d : Int)] 75).call ((Below.refl _ _).alloc (Nat.le_refl _) (.cells #[.bool false, .slice none 0 0, .int .i64 0] 75))
    have r1 := (RowD.new_ (w.alloc (.cells #[.bool nb, .slice A L c, .int .i64 (d : Int)] 75)) [.bool false, .slice none 0 0, .int .i64 0] 75)
    rw [show (w.alloc (.cells #[.bool nb, .slice A L c, .int .i64 (d : Int)] 75)).heap.size = w.heap.size + 1 by simp] at r1
    go_enter Try.func51, Try.ntmps51
    go_wp2_with fail
    go_at_call 49
    refine (norm_w (D'.out.below b0 hm) (by simp; omega) (by omega)).mono ?_
    rintro e w1 ⟨rfl, hb⟩
    have s0 := r0.below hb (by simp; omega)
    have s1 := r1.below hb (by simp)
    have b1 := b0.trans (hb.mono (by simp; omega))
    have D1 := Lib.hid (D'.out.below b1 hm)
    have hz1 : w.heap.size + 2 ≤ w1.heap.size := by simpa using hb.size
    clear hb r0 r1 b0
    have k0 : w1.cell? ⟨w.heap.size, 0, none⟩ = some (.bool nb) := s0.cell 0
    have k1 : w1.cell? ⟨w.heap.size, 1, none⟩ = some (.slice A L c) := s0.cell 1
    have k2 : w1.cell? ⟨w.heap.size, 2, none⟩ = some (.int .i64 (d : Int)) := s0.cell 2
    have kf := s0.free
    go_wp2_with fail
    go_at_call 48
    obtain ⟨W, hW⟩ : ∃ W, W = ((w1.setCell ⟨w.heap.size, 0, none⟩ (.bool nb)).setCell ⟨w.heap.size, 1, none⟩ (.slice A L c)).setCell ⟨w.heap.size, 2, none⟩ (.int .i64 (d : Int)) := ⟨_, rfl⟩
    have hWs : w.heap.size + 2 ≤ W.heap.size := by rw [hW]; simpa using hz1
    have b2 : Below w.heap.size w W := by rw [hW]; exact ((b1.setCell (by simp) _).setCell (by simp) _).setCell (by simp) _
    have t0 : RowD W w.heap.size [.bool nb, .slice A L c, .int .i64 (d : Int)] 75 := by
      rw [hW]
      exact ((s0.set_ 0 _).set_ 1 _).set_ 2 _
    have t1 : RowD W (w.heap.size + 1) [.bool false, .slice none 0 0, .int .i64 0] 75 := by
      rw [hW]
      exact ((s1.other_ (by omega) _ _).other_ (by omega) _ _).other_ (by omega) _ _
    have X : WdR W m (.slice A L c) x.natAbs := (D'.out.below b2 hm).words
    rw [← hW]
    clear hW s0 s1 b1 k0 k1 k2 kf hz1 D1
    have k0 : W.cell? ⟨w.heap.size, 0, none⟩ = some (.bool nb) := t0.cell 0
    have k1 : W.cell? ⟨w.heap.size, 1, none⟩ = some (.slice A L c) := t0.cell 1
    have k2 : W.cell? ⟨w.heap.size, 2, none⟩ = some (.int .i64 (d : Int)) := t0.cell 2
    refine (number_v X (by omega) (by omega) hp6).mono ?_
    rintro e w3 ⟨v', rfl, D3, hb3⟩
    rw [HD.out.1, sg_back, ← HV.out] at D3
    have b3 := b2.trans (hb3.mono (by omega))
    have u1 := t1.call hb3
    have hu1 := u1.lt
    obtain ⟨nb3, A3, L3, c3, rfl, _⟩ := D3.form
    have D3' := Lib.hid D3
    have q0 : w3.cell? ⟨w.heap.size + 1, 0, none⟩ = some (.bool false) := u1.cell 0
    have q1 : w3.cell? ⟨w.heap.size + 1, 1, none⟩ = some (.slice none 0 0) := u1.cell 1
    have q2 : w3.cell? ⟨w.heap.size + 1, 2, none⟩ = some (.int .i64 0) := u1.cell 2
    have qf := u1.free
    clear D3 hb3 t0 t1 b2 X
    go_wp2_with fail
    refine bodyPost_ret (res_Shift rfl (((u1.set_ 0 _).set_ 1 _).set_ 2 _)) rfl ⟨_, rfl, ?_, ((b3.setCell (by simp) _).setCell (by simp) _).setCell (by simp) _⟩
    exact ((((D3'.out.set_ (by omega) 0 _).set_ (by omega) 1 _).set_ (by omega) 2 _).low (by omega)).more (by simp)
  · as_aux_lemma =>
    obtain ⟨p, hp⟩ : ∃ p : Nat, nn = (p : Int) := ⟨nn.toNat, by omega⟩
    subst hp
    have HV := Lib.hid (show dyShift x d n = nf (x * 2 ^ p) d by unfold dyShift; rw [hnn, if_neg hneg]; rfl)
    have hneg' : ¬ (p : Int) < 0 := by omega
    have hn2 : decide ((p : Int) < 0) = false := decide_eq_false hneg'
    have hp6 : p ≤ 1000000 := by omega
    clear hneg
    obtain ⟨nb, A, L, c, rfl, HD⟩ := D.form
    have D' := Lib.hid D
    clear D
    have b0 : Below w.heap.size w ((w.alloc (.cells #[.bool nb, .slice A L c, .int .i64 (d : Int)] 75)).alloc (.cells #[.bool false, .slice none 0 0, .int .i64 0] 75)) := ext_alloc (ext_alloc (Below.refl _ _) _) _
    have r0 := (RowD.new_ w [.bool nb, .slice A L c, .int .i64 (d : Int)] 75).call ((Below.refl _ _).alloc (Nat.le_refl _) (.cells #[.bool false, .slice none 0 0, .int .i64 0] 75))
    have r1 := (RowD.new_ (w.alloc (.cells #[.bool nb, .slice A L c, .int .i64 (d : Int)] 75)) [.bool false, .slice none 0 0, .int .i64 0] 75)
    rw [show (w.alloc (.cells #[.bool nb, .slice A L c, .int .i64 (d : Int)] 75)).heap.size = w.heap.size + 1 by simp] at r1
    go_enter Try.func51, Try.ntmps51
    go_wp2_with fail
    go_at_call 49
    refine (norm_w (D'.out.below b0 hm) (by simp; omega) (by omega)).mono ?_
    rintro e w1 ⟨rfl, hb⟩
    have s0 := r0.below hb (by simp; omega)
    have s1 := r1.below hb (by simp)
    have b1 := b0.trans (hb.mono (by simp; omega))
    have D1 := Lib.hid (D'.out.below b1 hm)
    have hz1 : w.heap.size + 2 ≤ w1.heap.size := by simpa using hb.size
    clear hb r0 r1 b0
    have k0 : w1.cell? ⟨w.heap.size, 0, none⟩ = some (.bool nb) := s0.cell 0
    have k1 : w1.cell? ⟨w.heap.size, 1, none⟩ = some (.slice A L c) := s0.cell 1
    have k2 : w1.cell? ⟨w.heap.size, 2, none⟩ = some (.int .i64 (d : Int)) := s0.cell 2
    have kf := s0.free
    have hd6 := HD.out.2.2.2.2.2.1
    have hval : nf (sg nb (x.natAbs * 2 ^ p)) d = dyShift x d n := by rw [HD.out.1, sg_mul, HV.out]
    have HVAL := Lib.hid hval
    have hlen : (canon (x.natAbs * 2 ^ p)).length ≤ 100000 := by
      have := canon_len_shift x.natAbs p
      omega
    clear hval
    go_wp2_with fail
    obtain ⟨W, hW⟩ : ∃ W, W = ((w1.setCell ⟨w.heap.size, 0, none⟩ (.bool nb)).setCell ⟨w.heap.size, 1, none⟩ (.slice A L c)).setCell ⟨w.heap.size, 2, none⟩ (.int .i64 (d : Int)) := ⟨_, rfl⟩
    have hWs : w.heap.size + 2 ≤ W.heap.size := by rw [hW]; simpa using hz1
    have b2 : Below w.heap.size w W := by rw [hW]; exact ((b1.setCell (by simp) _).setCell (by simp) _).setCell (by simp) _
    have t0 : RowD W w.heap.size [.bool nb, .slice A L c, .int .i64 (d : Int)] 75 := by
      rw [hW]
      exact ((s0.set_ 0 _).set_ 1 _).set_ 2 _
    have t1 : RowD W (w.heap.size + 1) [.bool false, .slice none 0 0, .int .i64 0] 75 := by
      rw [hW]
      exact ((s1.other_ (by omega) _ _).other_ (by omega) _ _).other_ (by omega) _ _
    have X : WdR W m (.slice A L c) x.natAbs := (D'.out.below b2 hm).words
    rw [← hW]
    clear hW s0 s1 b1 k0 k1 k2 kf hz1 D1
    have k0 : W.cell? ⟨w.heap.size, 0, none⟩ = some (.bool nb) := t0.cell 0
    have k1 : W.cell? ⟨w.heap.size, 1, none⟩ = some (.slice A L c) := t0.cell 1
    have k2 : W.cell? ⟨w.heap.size, 2, none⟩ = some (.int .i64 (d : Int)) := t0.cell 2
    have hle : m ≤ w.heap.size + 1 := by omega
    have hk : SK W (w.heap.size + 1) (w.heap.size + 1) W := SK.refl (by omega) ⟨_, _, _, t1⟩
    go_region_held3 (fun w' => (∀ b o, b < w.heap.size + 1 → w'.cell? ⟨b, o, none⟩ = W.cell? ⟨b, o, none⟩) ∧ SK W (w.heap.size + 1) (w.heap.size + 1) w')
      (first
      | (refine SK.all ?_
         first
           | assumption
           | exact hk
           | exact hk.drew
           | exact ((SK.set (by assumption) (by omega) _ _).set (by omega) _ _).set (by omega) _ _))
      (first
        | (go_at_call 52; refine (left_w (X.below (Below.refl m W).drew (Nat.le_refl _)) (by simp; omega) (by omega) hp6).mono ?_; (rintro e w5 ⟨v5, rfl, D5, hb5⟩; have hk5 := SK.call hk.drew hb5; have hf5 := hk5.lt; obtain ⟨A5, L5, c5, rfl⟩ := D5.form))
        | (go_at_call 48; refine (number_v D5 (Nat.le_refl _) hlen hd6).mono ?_; (rintro e w6 ⟨v6, rfl, D6, hb6⟩; have hk6 := SK.call hk5 hb6; have hf6 := hk6.lt; rw [HVAL.out] at D6; obtain ⟨nb6, A9, L9, c9, rfl, _⟩ := D6.form; obtain ⟨z0, z1, z2, rz, k0, k1, k2, kf⟩ := SK.cells hk6)))
    go_wp2_with fail
    refine bodyPost_ret (res_Shift rfl (((rz.set_ 0 _).set_ 1 _).set_ 2 _)) rfl ⟨_, rfl, ?_, (((b2.trans (hk6.is.mono (by omega))).setCell (by simp) _).setCell (by simp) _).setCell (by simp) _⟩
    exact ((((D6.set_ (by omega) 0 _).set_ (by omega) 1 _).set_ (by omega) 2 _).low (by omega)).more (by simp)
end Go.Proofs.Ytdhlmbnmgioeeaa

/- The document's dyadic numbers: Floor. No conditions. -/
namespace Go.Proofs.Ytdhlmbnmgioeeaa
set_option linter.unusedVariables false
set_option linter.unusedSimpArgs false
set_option linter.unusedSectionVars false
open Go.RowKit

theorem res_Floor {tmps : Array Value} {w : World} {b : Nat} {v0 v1 v2 v5 : Value} (h2 : tmps.getD 4 undef = .pointer (some ⟨b, 0, none⟩)) (h5 : tmps.getD 5 undef = v5) (hB : RowD w b [v0, v1, v2] 75) :
    (results Try.f50 tmps).run Try.prog w = .ok (.tuple #[.agg #[v0, v1, v2], v5]) w := by
  have k0 := hB.cell 0
  have k1 := hB.cell 1
  have k2 := hB.cell 2
  simp at k0 k1 k2
  simp at h2 h5
  simp [results, Try.results50, go_sem, h2, h5, k0, k1, k2]
/-- The greatest multiple of 2^-den that is at most x / 2^d. -/
def dyFloor (x : Int) (d den : Nat) : Int × Nat := if d ≤ den then (x, d) else nf (x / 2 ^ (d - den)) den
theorem fl_pos {x : Int} {k : Nat} (h : 0 ≤ x) : sg false (x.natAbs / 2 ^ k) = x / 2 ^ k := by
  obtain ⟨a, rfl⟩ := Int.eq_ofNat_of_zero_le h
  show ((a / 2 ^ k : Nat) : Int) = (a : Int) / 2 ^ k
  simp
theorem fl_neg_cut {x : Int} {k : Nat} (h : x < 0) (hc : cutB x.natAbs k = true) : sg true (x.natAbs / 2 ^ k + 1) = x / 2 ^ k := by
  obtain ⟨a, ha⟩ : ∃ a : Nat, x = -(a : Int) := ⟨x.natAbs, by omega⟩
  subst ha
  rw [show (-(a : Int)).natAbs = a by omega] at hc ⊢
  unfold cutB at hc
  simp only [decide_eq_true_eq] at hc
  have hp := Nat.two_pow_pos k
  have e := Nat.div_add_mod a (2 ^ k)
  have hm := Nat.mod_lt a hp
  show -((a / 2 ^ k + 1 : Nat) : Int) = -(a : Int) / 2 ^ k
  have ec : ((2 ^ k : Nat) : Int) = 2 ^ k := by simp
  rw [← ec]
  generalize 2 ^ k = P at *
  have h1 : -(a : Int) = (P : Int) * (-((a / P + 1 : Nat) : Int)) + ((P - a % P : Nat) : Int) := by
    have e3 : ((P - a % P : Nat) : Int) = (P : Int) - ((a % P : Nat) : Int) := by omega
    have e4 : (a : Int) = (P : Int) * ((a / P : Nat) : Int) + ((a % P : Nat) : Int) := by exact_mod_cast e.symm
    rw [e3]
    generalize a / P = u at *
    generalize a % P = v at *
    rw [e4, Int.mul_neg, show ((u + 1 : Nat) : Int) = (u : Int) + 1 by omega, Int.mul_add]
    omega
  rw [h1, Int.mul_add_ediv_left _ _ (by omega)]
  rw [Int.ediv_eq_zero_of_lt (by omega) (by omega)]
  omega
theorem fl_neg {x : Int} {k : Nat} (h : x < 0) (hc : cutB x.natAbs k = false) : sg true (x.natAbs / 2 ^ k) = x / 2 ^ k := by
  obtain ⟨a, ha⟩ : ∃ a : Nat, x = -(a : Int) := ⟨x.natAbs, by omega⟩
  subst ha
  rw [show (-(a : Int)).natAbs = a by omega] at hc ⊢
  unfold cutB at hc
  simp only [decide_eq_false_iff_not, Decidable.not_not] at hc
  have e := Nat.div_add_mod a (2 ^ k)
  rw [hc, Nat.add_zero] at e
  show -((a / 2 ^ k : Nat) : Int) = -(a : Int) / 2 ^ k
  have ec : ((2 ^ k : Nat) : Int) = 2 ^ k := by simp
  rw [← ec]
  have hp := Nat.two_pow_pos k
  generalize 2 ^ k = P at *
  have e4 : -(a : Int) = (P : Int) * (-((a / P : Nat) : Int)) := by
    have : (a : Int) = (P : Int) * ((a / P : Nat) : Int) := by exact_mod_cast e.symm
    rw [Int.mul_neg, ← this]
  rw [e4, Int.mul_ediv_cancel_left _ (by omega)]
theorem right_w {v : Value} {n k m : Nat} {w : World} (h : WdR w m v n) (hm : m ≤ w.heap.size) (hl : (canon n).length ≤ 100000) (hk : k ≤ 1000000) :
    Calls Try.prog 57 #[v, .int .i64 (k : Int)] w fun e w' => ∃ v', e = .returned (.tuple #[v', .bool (cutB n k)]) ∧ WdR w' w'.heap.size v' (n / 2 ^ k) ∧ Below w.heap.size w w' := by
  obtain ⟨A, c, rfl, h1, h2, h3⟩ := h
  refine (right_any A (canon n) c k m w hm h3 (canon_ok n) hl hk).mono ?_
  rintro e w' ⟨G, g, rfl, g1, g2, g3, hb⟩
  rw [wval_canon] at g2 g3 ⊢
  exact ⟨_, rfl, ⟨G, g, rfl, g1, g2, g3⟩, hb⟩
set_option maxRecDepth 100000 in
set_option maxHeartbeats 4000000 in
theorem floor_any {v : Value} {x : Int} {d lo m den : Nat} {w : World} (D : DyR w lo m v x d) (hm : m ≤ w.heap.size) (hl : (canon x.natAbs).length ≤ 50000) (hden : den ≤ 65536) :
    Calls Try.prog 50 #[v, .int .i64 (den : Int)] w fun e w' => ∃ v', e = .returned (.tuple #[v', .int .i64 0]) ∧ DyR w' w.heap.size w'.heap.size v' (dyFloor x d den).1 (dyFloor x d den).2 ∧ Below w.heap.size w w' := by
  have n1 : decide ((den : Int) < 0) = false := decide_eq_false (by omega)
  have n2 : decide ((65536 : Int) < (den : Int)) = false := decide_eq_false (by omega)
  have n3 : ¬ (den : Int) < 0 := by omega
  have n4 : ¬ (65536 : Int) < (den : Int) := by omega
  have hdr := D.bound
  by_cases hle : d ≤ den
  · as_aux_lemma =>
    have HV := Lib.hid (show dyFloor x d den = (x, d) from if_pos hle)
    have n5 : (d : Int) ≤ (den : Int) := by omega
    obtain ⟨nb, A, L, c, rfl, HD⟩ := D.form
    have D' := Lib.hid D
    clear D
    have b0 : Below w.heap.size w ((w.alloc (.cells #[.bool nb, .slice A L c, .int .i64 (d : Int)] 75)).alloc (.cells #[.bool false, .slice none 0 0, .int .i64 0] 75)) := ext_alloc (ext_alloc (Below.refl _ _) _) _
    have r0 := (RowD.new_ w [.bool nb, .slice A L c, .int .i64 (d : Int)] 75).call ((Below.refl _ _).alloc (Nat.le_refl _) (.cells #[.bool false, .slice none 0 0, .int .i64 0] 75))
    have r1 := (RowD.new_ (w.alloc (.cells #[.bool nb, .slice A L c, .int .i64 (d : Int)] 75)) [.bool false, .slice none 0 0, .int .i64 0] 75)
    rw [show (w.alloc (.cells #[.bool nb, .slice A L c, .int .i64 (d : Int)] 75)).heap.size = w.heap.size + 1 by simp] at r1
    go_enter Try.func50, Try.ntmps50
    go_wp2_with fail
    go_at_call 49
    refine (norm_w (D'.out.below b0 hm) (by simp; omega) (by omega)).mono ?_
    rintro e w1 ⟨rfl, hb⟩
    have s0 := r0.below hb (by simp; omega)
    have s1 := r1.below hb (by simp)
    have b1 := b0.trans (hb.mono (by simp; omega))
    have D1 := Lib.hid (D'.out.below b1 hm)
    have hz1 : w.heap.size + 2 ≤ w1.heap.size := by simpa using hb.size
    clear hb r0 r1 b0
    have k0 : w1.cell? ⟨w.heap.size, 0, none⟩ = some (.bool nb) := s0.cell 0
    have k1 : w1.cell? ⟨w.heap.size, 1, none⟩ = some (.slice A L c) := s0.cell 1
    have k2 : w1.cell? ⟨w.heap.size, 2, none⟩ = some (.int .i64 (d : Int)) := s0.cell 2
    have kf := s0.free
    go_wp2_with fail
    go_at_call 48
    obtain ⟨W, hW⟩ : ∃ W, W = ((w1.setCell ⟨w.heap.size, 0, none⟩ (.bool nb)).setCell ⟨w.heap.size, 1, none⟩ (.slice A L c)).setCell ⟨w.heap.size, 2, none⟩ (.int .i64 (d : Int)) := ⟨_, rfl⟩
    have hWs : w.heap.size + 2 ≤ W.heap.size := by rw [hW]; simpa using hz1
    have b2 : Below w.heap.size w W := by rw [hW]; exact ((b1.setCell (by simp) _).setCell (by simp) _).setCell (by simp) _
    have t0 : RowD W w.heap.size [.bool nb, .slice A L c, .int .i64 (d : Int)] 75 := by
      rw [hW]
      exact ((s0.set_ 0 _).set_ 1 _).set_ 2 _
    have t1 : RowD W (w.heap.size + 1) [.bool false, .slice none 0 0, .int .i64 0] 75 := by
      rw [hW]
      exact ((s1.other_ (by omega) _ _).other_ (by omega) _ _).other_ (by omega) _ _
    have X : WdR W m (.slice A L c) x.natAbs := (D'.out.below b2 hm).words
    rw [← hW]
    clear hW s0 s1 b1 k0 k1 k2 kf hz1 D1
    have k0 : W.cell? ⟨w.heap.size, 0, none⟩ = some (.bool nb) := t0.cell 0
    have k1 : W.cell? ⟨w.heap.size, 1, none⟩ = some (.slice A L c) := t0.cell 1
    have k2 : W.cell? ⟨w.heap.size, 2, none⟩ = some (.int .i64 (d : Int)) := t0.cell 2
    refine (number_v X (by omega) (by omega) hdr.1).mono ?_
    rintro e w3 ⟨v', rfl, D3, hb3⟩
    rw [HD.out.1, sg_back, nf_done hdr.2, ← HV.out] at D3
    have b3 := b2.trans (hb3.mono (by omega))
    have u1 := t1.call hb3
    have hu1 := u1.lt
    obtain ⟨nb3, A3, L3, c3, rfl, _⟩ := D3.form
    have D3' := Lib.hid D3
    have q0 : w3.cell? ⟨w.heap.size + 1, 0, none⟩ = some (.bool false) := u1.cell 0
    have q1 : w3.cell? ⟨w.heap.size + 1, 1, none⟩ = some (.slice none 0 0) := u1.cell 1
    have q2 : w3.cell? ⟨w.heap.size + 1, 2, none⟩ = some (.int .i64 0) := u1.cell 2
    have qf := u1.free
    clear D3 hb3
    go_wp2_with fail
    refine bodyPost_ret (res_Floor rfl  rfl (((u1.set_ 0 _).set_ 1 _).set_ 2 _)) rfl ⟨_, rfl, ?_, ((b3.setCell (by simp) _).setCell (by simp) _).setCell (by simp) _⟩
    exact ((((D3'.out.set_ (by omega) 0 _).set_ (by omega) 1 _).set_ (by omega) 2 _).low (by omega)).more (by simp)
  · as_aux_lemma =>
    have n5 : ¬ (d : Int) ≤ (den : Int) := by omega
    obtain ⟨k, hk⟩ : ∃ k : Nat, k = d - den := ⟨_, rfl⟩
    have HV := Lib.hid (show dyFloor x d den = nf (x / 2 ^ k) den by rw [hk]; exact if_neg hle)
    have n6 : (d : Int) - (den : Int) = (k : Int) := by omega
    have hk6 : k ≤ 1000000 := by omega
    have hln : (canon (x.natAbs / 2 ^ k)).length ≤ 50000 := Nat.le_trans (canon_len_mono (Nat.div_le_self _ _)) hl
    clear hk
    obtain ⟨nb, A, L, c, rfl, HD⟩ := D.form
    have D' := Lib.hid D
    clear D
    have b0 : Below w.heap.size w ((w.alloc (.cells #[.bool nb, .slice A L c, .int .i64 (d : Int)] 75)).alloc (.cells #[.bool false, .slice none 0 0, .int .i64 0] 75)) := ext_alloc (ext_alloc (Below.refl _ _) _) _
    have r0 := (RowD.new_ w [.bool nb, .slice A L c, .int .i64 (d : Int)] 75).call ((Below.refl _ _).alloc (Nat.le_refl _) (.cells #[.bool false, .slice none 0 0, .int .i64 0] 75))
    have r1 := (RowD.new_ (w.alloc (.cells #[.bool nb, .slice A L c, .int .i64 (d : Int)] 75)) [.bool false, .slice none 0 0, .int .i64 0] 75)
    rw [show (w.alloc (.cells #[.bool nb, .slice A L c, .int .i64 (d : Int)] 75)).heap.size = w.heap.size + 1 by simp] at r1
    go_enter Try.func50, Try.ntmps50
    go_wp2_with fail
    go_at_call 49
    refine (norm_w (D'.out.below b0 hm) (by simp; omega) (by omega)).mono ?_
    rintro e w1 ⟨rfl, hb⟩
    have s0 := r0.below hb (by simp; omega)
    have s1 := r1.below hb (by simp)
    have b1 := b0.trans (hb.mono (by simp; omega))
    have D1 := Lib.hid (D'.out.below b1 hm)
    have hz1 : w.heap.size + 2 ≤ w1.heap.size := by simpa using hb.size
    clear hb r0 r1 b0
    have k0 : w1.cell? ⟨w.heap.size, 0, none⟩ = some (.bool nb) := s0.cell 0
    have k1 : w1.cell? ⟨w.heap.size, 1, none⟩ = some (.slice A L c) := s0.cell 1
    have k2 : w1.cell? ⟨w.heap.size, 2, none⟩ = some (.int .i64 (d : Int)) := s0.cell 2
    have kf := s0.free
    go_wp2_with fail
    go_at_call 57
    obtain ⟨W, hW⟩ : ∃ W, W = ((w1.setCell ⟨w.heap.size, 0, none⟩ (.bool nb)).setCell ⟨w.heap.size, 1, none⟩ (.slice A L c)).setCell ⟨w.heap.size, 2, none⟩ (.int .i64 (d : Int)) := ⟨_, rfl⟩
    have hWs : w.heap.size + 2 ≤ W.heap.size := by rw [hW]; simpa using hz1
    have b2 : Below w.heap.size w W := by rw [hW]; exact ((b1.setCell (by simp) _).setCell (by simp) _).setCell (by simp) _
    have t0 : RowD W w.heap.size [.bool nb, .slice A L c, .int .i64 (d : Int)] 75 := by
      rw [hW]
      exact ((s0.set_ 0 _).set_ 1 _).set_ 2 _
    have t1 : RowD W (w.heap.size + 1) [.bool false, .slice none 0 0, .int .i64 0] 75 := by
      rw [hW]
      exact ((s1.other_ (by omega) _ _).other_ (by omega) _ _).other_ (by omega) _ _
    have X : WdR W m (.slice A L c) x.natAbs := (D'.out.below b2 hm).words
    rw [← hW]
    clear hW s0 s1 b1 k0 k1 k2 kf hz1 D1
    have k0 : W.cell? ⟨w.heap.size, 0, none⟩ = some (.bool nb) := t0.cell 0
    have k1 : W.cell? ⟨w.heap.size, 1, none⟩ = some (.slice A L c) := t0.cell 1
    have k2 : W.cell? ⟨w.heap.size, 2, none⟩ = some (.int .i64 (d : Int)) := t0.cell 2
    refine (right_w X (by omega) (by omega) hk6).mono ?_
    rintro e w4 ⟨v4, rfl, Y, hb4⟩
    obtain ⟨A4, L4, c4, rfl⟩ := Y.form
    have t1' := t1.call hb4
    have t0' := t0.call hb4
    have hz4 : w.heap.size + 2 ≤ w4.heap.size := by have := hb4.size; omega
    have b4 := b2.trans (hb4.mono (by omega))
    clear t0 t1 b2 k0 k1 k2 hb4
    have k0 : w4.cell? ⟨w.heap.size, 0, none⟩ = some (.bool nb) := t0'.cell 0
    obtain ⟨cb, hcb⟩ : ∃ cb, cb = cutB x.natAbs k := ⟨_, rfl⟩
    rw [← hcb]
    have HC := Lib.hid hcb
    clear hcb
    have hnb := HD.out.1
    cases nb with
    | false =>
      as_aux_lemma =>
      have hx : 0 ≤ x := by simpa using hnb.symm
      have HX := Lib.hid hx
      clear hnb hx
      have t1 := t1'
      have b2 := b4
      have hWs := hz4
      clear t1' t0' b4 hz4
      go_wp2_with fail
      go_at_call 48
      refine (number_v Y (by omega) (by omega) hden).mono ?_
      rintro e w3 ⟨v', rfl, D3, hb3⟩
      rw [fl_pos HX.out, ← HV.out] at D3
      have b3 := b2.trans (hb3.mono (by omega))
      have u1 := t1.call hb3
      have hu1 := u1.lt
      obtain ⟨nb3, A3, L3, c3, rfl, _⟩ := D3.form
      have D3' := Lib.hid D3
      have q0 : w3.cell? ⟨w.heap.size + 1, 0, none⟩ = some (.bool false) := u1.cell 0
      have q1 : w3.cell? ⟨w.heap.size + 1, 1, none⟩ = some (.slice none 0 0) := u1.cell 1
      have q2 : w3.cell? ⟨w.heap.size + 1, 2, none⟩ = some (.int .i64 0) := u1.cell 2
      have qf := u1.free
      clear D3 hb3
      go_wp2_with fail
      refine bodyPost_ret (res_Floor rfl  rfl (((u1.set_ 0 _).set_ 1 _).set_ 2 _)) rfl ⟨_, rfl, ?_, ((b3.setCell (by simp) _).setCell (by simp) _).setCell (by simp) _⟩
      exact ((((D3'.out.set_ (by omega) 0 _).set_ (by omega) 1 _).set_ (by omega) 2 _).low (by omega)).more (by simp)
    | true =>
      have hx : x < 0 := by simpa using hnb.symm
      have HX := Lib.hid hx
      clear hnb hx
      cases cb with
      | false =>
        as_aux_lemma =>
        have t1 := t1'
        have b2 := b4
        have hWs := hz4
        clear t1' t0' b4 hz4
        go_wp2_with fail
        go_at_call 48
        refine (number_v Y (by omega) (by omega) hden).mono ?_
        rintro e w3 ⟨v', rfl, D3, hb3⟩
        rw [fl_neg HX.out HC.out.symm, ← HV.out] at D3
        have b3 := b2.trans (hb3.mono (by omega))
        have u1 := t1.call hb3
        have hu1 := u1.lt
        obtain ⟨nb3, A3, L3, c3, rfl, _⟩ := D3.form
        have D3' := Lib.hid D3
        have q0 : w3.cell? ⟨w.heap.size + 1, 0, none⟩ = some (.bool false) := u1.cell 0
        have q1 : w3.cell? ⟨w.heap.size + 1, 1, none⟩ = some (.slice none 0 0) := u1.cell 1
        have q2 : w3.cell? ⟨w.heap.size + 1, 2, none⟩ = some (.int .i64 0) := u1.cell 2
        have qf := u1.free
        clear D3 hb3
        go_wp2_with fail
        refine bodyPost_ret (res_Floor rfl  rfl (((u1.set_ 0 _).set_ 1 _).set_ 2 _)) rfl ⟨_, rfl, ?_, ((b3.setCell (by simp) _).setCell (by simp) _).setCell (by simp) _⟩
        exact ((((D3'.out.set_ (by omega) 0 _).set_ (by omega) 1 _).set_ (by omega) 2 _).low (by omega)).more (by simp)
      | true =>
        as_aux_lemma =>
        have hln2 : (canon (x.natAbs / 2 ^ k + 1)).length ≤ 100000 := by
          have := canon_len_add (x.natAbs / 2 ^ k) 1
          have e1 : (canon 1).length = 1 := by rw [canon_pos (by decide), show 1 / 4294967296 = 0 by decide, canon_zero]; rfl
          omega
        go_wp2_with fail
        go_at_call 53
        have c1 : WdR (w4.alloc (.cells #[.int .u32 1] 91)) (w4.heap.size + 1) (.slice (some ⟨w4.heap.size, 0, none⟩) 1 1) 1 := by
          have e1 : canon 1 = [1] := by rw [canon_pos (by decide), show 1 / 4294967296 = 0 by decide, canon_zero]
          refine ⟨some ⟨w4.heap.size, 0, none⟩, 1, by rw [e1]; rfl, by simp, by rw [e1]; exact Nat.le_refl _, ?_⟩
          rw [e1]
          exact (RowD.new_ w4 (w32 [1]) 91).cells_ (by omega)
        refine (plus_w (Y.below ((Below.refl _ w4).alloc (Nat.le_refl _) _) (Nat.le_refl _)) c1 (by simp) (by simp) (by omega) (by rw [canon_pos (by decide), show 1 / 4294967296 = 0 by decide, canon_zero]; simp)).mono ?_
        rintro e w5 ⟨v5, rfl, Z, hb5⟩
        obtain ⟨A5, L5, c5, rfl⟩ := Z.form
        have ba := (Below.refl w4.heap.size w4).alloc (Nat.le_refl _) (.cells #[.int .u32 1] 91)
        have bb := ba.trans (hb5.mono (by simp))
        have t1 := t1'.call bb
        have t0 := t0'.call bb
        have b2 := b4.trans (bb.mono (by omega))
        have hWs : w.heap.size + 2 ≤ w5.heap.size := by have := bb.size; omega
        have m0 : w5.cell? ⟨w.heap.size, 0, none⟩ = some (.bool true) := t0.cell 0
        clear t1' t0' b4 hz4 ba bb hb5 k0
        go_wp2_with fail
        go_at_call 48
        refine (number_v Z (by omega) hln2 hden).mono ?_
        rintro e w3 ⟨v', rfl, D3, hb3⟩
        rw [fl_neg_cut HX.out HC.out.symm, ← HV.out] at D3
        have b3 := b2.trans (hb3.mono (by omega))
        have u1 := t1.call hb3
        have hu1 := u1.lt
        obtain ⟨nb3, A3, L3, c3, rfl, _⟩ := D3.form
        have D3' := Lib.hid D3
        have q0 : w3.cell? ⟨w.heap.size + 1, 0, none⟩ = some (.bool false) := u1.cell 0
        have q1 : w3.cell? ⟨w.heap.size + 1, 1, none⟩ = some (.slice none 0 0) := u1.cell 1
        have q2 : w3.cell? ⟨w.heap.size + 1, 2, none⟩ = some (.int .i64 0) := u1.cell 2
        have qf := u1.free
        clear D3 hb3
        go_wp2_with fail
        refine bodyPost_ret (res_Floor rfl  rfl (((u1.set_ 0 _).set_ 1 _).set_ 2 _)) rfl ⟨_, rfl, ?_, ((b3.setCell (by simp) _).setCell (by simp) _).setCell (by simp) _⟩
        exact ((((D3'.out.set_ (by omega) 0 _).set_ (by omega) 1 _).set_ (by omega) 2 _).low (by omega)).more (by simp)
end Go.Proofs.Ytdhlmbnmgioeeaa

/- The document's dyadic numbers: Int of an integer of 64 bits. No conditions. -/
namespace Go.Proofs.Ytdhlmbnmgioeeaa
set_option linter.unusedVariables false
set_option linter.unusedSimpArgs false
set_option linter.unusedSectionVars false
open Go.RowKit

def itRel (a : List Nat) (w : World) (mv i : Value) (wr : World) : Prop :=
  ∃ k mm : Nat, k ≤ a.length ∧ i = .int .i64 ((k : Int) - 1) ∧ mv = .int .u64 (mm : Int) ∧ mm = wval (a.drop k) ∧ w = wr
theorem it_or {mm x : Nat} (hm : mm < 4294967296) (hx : x < 4294967296) : bits .or .u64 ((mm : Int) * 4294967296) (x : Int) = ((x + 4294967296 * mm : Nat) : Int) := by
  have h := or_low (c := x) (x := mm) (s := 32) (by omega) hm (by omega)
  rw [show x + 4294967296 * mm = x + mm * 2 ^ 32 by omega, ← h]
  have e : ((mm : Int) * 4294967296) = ((mm * 2 ^ 32 : Nat) : Int) := by simp
  rw [e, bits_or_u64_nat _ _ (by omega) (by omega), bits_or_u64_nat _ _ (by omega) (by omega), Nat.or_comm]
theorem drop_small {a : List Nat} (h : wordsOk a) (hl : a.length ≤ 2) (j : Nat) : wval (a.drop (j + 1)) < 4294967296 := by
  have h1 := wval_lt (ws := a.drop (j + 1)) (fun x hx => h x (List.mem_of_mem_drop hx))
  rw [List.length_drop] at h1
  exact Nat.lt_of_lt_of_le h1 (Nat.le_trans (Nat.pow_le_pow_right (by decide) (show a.length - (j + 1) ≤ 1 by omega)) (by decide))
set_option maxRecDepth 100000 in
set_option maxHeartbeats 4000000 in
theorem int_any {v : Value} {x : Int} {lo m : Nat} {w : World} (D : DyR w lo m v x 0) (hm : m ≤ w.heap.size) (h1 : -9223372036854775808 ≤ x) (h2 : x < 9223372036854775808) :
    Calls Try.prog 37 #[v] w fun e w' => e = .returned (.tuple #[.int .i64 x, .bool true]) ∧ Below w.heap.size w w' := by
  have hl : (canon x.natAbs).length ≤ 2 := canon_len_le (by omega)
  obtain ⟨nb, A, L, c, rfl, HD⟩ := D.form
  have D' := Lib.hid D
  have b0 : Below w.heap.size w (w.alloc (.cells #[.bool nb, .slice A L c, .int .i64 0] 75)) := ext_alloc (Below.refl _ _) _
  have r0 := RowD.new_ w [.bool nb, .slice A L c, .int .i64 0] 75
  have hL : L = (canon x.natAbs).length := HD.out.2.1
  have hL2 : (L : Int) ≤ 2 := by omega
  have hL3 : ¬ (2 : Int) < (L : Int) := by omega
  have hL4 : decide ((2 : Int) < (L : Int)) = false := decide_eq_false hL3
  have HL := Lib.hid hL
  clear D hL
  go_enter Try.func37, Try.ntmps37
  go_wp2_with fail
  go_at_call 49
  refine (norm_w (D'.out.below b0 hm) (by simp; omega) (by omega)).mono ?_
  rintro e w1 ⟨rfl, hb⟩
  have s0 := r0.below hb (by simp)
  have b1 := b0.trans (hb.mono (by simp))
  clear hb r0 b0
  have k0 : w1.cell? ⟨w.heap.size, 0, none⟩ = some (.bool nb) := s0.cell 0
  have k1 : w1.cell? ⟨w.heap.size, 1, none⟩ = some (.slice A L c) := s0.cell 1
  have k2 : w1.cell? ⟨w.heap.size, 2, none⟩ = some (.int .i64 0) := s0.cell 2
  have kf := s0.free
  go_wp2_with fail
  obtain ⟨W, hW⟩ : ∃ W, W = ((w1.setCell ⟨w.heap.size, 0, none⟩ (.bool nb)).setCell ⟨w.heap.size, 1, none⟩ (.slice A L c)).setCell ⟨w.heap.size, 2, none⟩ (.int .i64 0) := ⟨_, rfl⟩
  have b2 : Below w.heap.size w W := by rw [hW]; exact ((b1.setCell (by simp) _).setCell (by simp) _).setCell (by simp) _
  have t0 : RowD W w.heap.size [.bool nb, .slice A L c, .int .i64 0] 75 := by
    rw [hW]
    exact ((s0.set_ 0 _).set_ 1 _).set_ 2 _
  have X := HD.out.2.2.2.2.1.below b2 hm
  have hnb := Lib.hid HD.out.1
  rw [← hW]
  clear hW s0 b1 k0 k1 k2 kf HD D'
  have k0 : W.cell? ⟨w.heap.size, 0, none⟩ = some (.bool nb) := t0.cell 0
  have k1 : W.cell? ⟨w.heap.size, 1, none⟩ = some (.slice A L c) := t0.cell 1
  obtain ⟨n, hn⟩ : ∃ n, n = x.natAbs := ⟨_, rfl⟩
  rw [← hn] at HL hl X
  have HX := Lib.hid X
  have HN := Lib.hid hn
  have hn63 : n ≤ 9223372036854775808 := by omega
  clear X hn t0
  go_loopw [4, 5] (fun mv i wr => itRel (canon n) W mv i wr) (fun _ i _ => ((intOf i) + 1).toNat)
  case atStart => exact ⟨(canon n).length, 0, Nat.le_refl _, by rw [HL.out], rfl, by rw [List.drop_length]; rfl, rfl⟩
  case round =>
    obtain ⟨k, mm, hk, rfl, rfl, hmm, rfl⟩ := hrel
    have HM := Lib.hid hmm
    clear hmm
    by_cases h0 : k = 0
    · subst h0
      have hmn : mm = n := by rw [HM.out, List.drop_zero, wval_canon]
      subst hmn
      have HNB := Lib.hid (hnb.out)
      cases nb with
      | true =>
        have hx : x < 0 := by simpa using hnb.out.symm
        have hxe : x = -(mm : Int) := by have := HN.out; omega
        have hmp : (1 : Int) ≤ (mm : Int) := by omega
        have hm1 : ¬ (9223372036854775808 : Int) < (mm : Int) := by omega
        have hm2 : decide ((9223372036854775808 : Int) < (mm : Int)) = false := decide_eq_false hm1
        have HXE := Lib.hid hxe
        clear hxe hx
        go_wp2_with fail
        exact bodyPost_ret (v := .tuple #[.int .i64 x, .bool true]) (by simp [results, Try.results37, go_sem]; rw [HXE.out]; omega) rfl ⟨rfl, b2⟩
      | false =>
        have hx : 0 ≤ x := by simpa using hnb.out.symm
        have hxe : x = (mm : Int) := by have := HN.out; omega
        have hm1 : (mm : Int) < 9223372036854775808 := by omega
        have HXE := Lib.hid hxe
        clear hxe hx
        go_wp2_with fail
        exact bodyPost_ret (v := .tuple #[.int .i64 x, .bool true]) (by simp [results, Try.results37, go_sem]; rw [HXE.out]) rfl ⟨rfl, b2⟩
    · obtain ⟨j, rfl⟩ := Nat.exists_eq_succ_of_ne_zero h0
      obtain ⟨b, off, y, rfl, hbm, hbs, hy, hcc⟩ := HX.out.w32_ (k := j) (by omega)
      have by' := canon_ok n y (List.mem_of_getElem? hy)
      have hms : mm < 4294967296 := by rw [HM.out]; exact drop_small (canon_ok n) hl j
      have HY := Lib.hid (show wval ((canon n).drop j) = y + 4294967296 * mm by rw [wval_drop_get, hy, HM.out]; rfl)
      obtain ⟨m2, hm2⟩ : ∃ m2, m2 = y + 4294967296 * mm := ⟨_, rfl⟩
      have hor : bits .or .u64 ((mm : Int) * 4294967296) (y : Int) = (m2 : Int) := by rw [hm2]; exact it_or hms by'
      rw [← hm2] at HY
      have hjl : (j : Int) < (L : Int) := by have := HL.out; omega
      have ej : ((j + 1 : Nat) : Int) - 1 = (j : Int) := by omega
      rw [show Nat.succ j = j + 1 by rfl, ej]
      clear hm2 hy h0 ej
      go_wp2_with fail
      exact ⟨⟨j, m2, by omega, by go_num, rfl, HY.out.symm, rfl⟩, by simp [intOf]; try omega⟩
end Go.Proofs.Ytdhlmbnmgioeeaa
