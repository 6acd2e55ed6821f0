/- The program's numbers: align, Cmp. No conditions. -/
import Derived.Test.YtjlocofimlgaoaaDoorPdI
namespace Go.Proofs.YtjlocofimlgaoaaDoor
set_option linter.unusedVariables false
set_option linter.unusedSimpArgs false
set_option linter.unusedSectionVars false
open Go.RowKit

/-- The comparison of x / 2^dx and y / 2^dy. -/
def pCmp (x : Int) (dx : Nat) (y : Int) (dy : Nat) : Int := sgI (x * 2 ^ (max dx dy - dx) - y * 2 ^ (max dx dy - dy))
theorem sgI_mul (x : Int) (k : Nat) : sgI (x * 2 ^ k) = sgI x := by
  have hp : (0 : Int) < 2 ^ k := Int.pow_pos (by decide)
  unfold sgI
  by_cases h : x = 0
  · subst h; simp
  · have h1 : ¬ x * 2 ^ k = 0 := by
      intro h0
      rcases Int.mul_eq_zero.1 h0 with h2 | h2
      · exact h h2
      · omega
    rw [if_neg h, if_neg h1]
    by_cases h2 : x < 0
    · rw [if_pos h2, if_pos (Int.mul_neg_of_neg_of_pos h2 hp)]
    · have := Int.mul_nonneg (show 0 ≤ x by omega) (Int.le_of_lt hp)
      rw [if_neg h2, if_neg (by omega)]
theorem sgI_lt {x y : Int} (h : sgI x < sgI y) : sgI (x - y) = -1 := by
  have : x < y := by
    unfold sgI at h
    split at h <;> split at h <;> (try split at h) <;> (try split at h) <;> omega
  unfold sgI
  rw [if_neg (by omega), if_pos (by omega)]
theorem sgI_gt {x y : Int} (h : sgI y < sgI x) : sgI (x - y) = 1 := by
  have := sgI_lt h
  have h2 : y < x := by
    unfold sgI at h
    split at h <;> split at h <;> (try split at h) <;> (try split at h) <;> omega
  unfold sgI
  rw [if_neg (by omega), if_neg (by omega)]
theorem sgI_negv (x : Int) : sgI (-x) = -sgI x := by
  unfold sgI
  by_cases h : x = 0
  · subst h; rfl
  · by_cases h2 : x < 0
    · rw [if_neg (by omega), if_neg (by omega), if_neg h, if_pos h2]; rfl
    · rw [if_neg (by omega), if_pos (by omega), if_neg h, if_neg h2]
theorem abs_mul_ (x : Int) (k : Nat) : ((x.natAbs * 2 ^ k : Nat) : Int) = (if x < 0 then -(x * 2 ^ k) else x * 2 ^ k) := by
  have e : ((x.natAbs * 2 ^ k : Nat) : Int) = (x.natAbs : Int) * 2 ^ k := by simp
  rw [e]
  by_cases h : x < 0
  · rw [if_pos h, show (x.natAbs : Int) = -x by omega, Int.neg_mul]
  · rw [if_neg h, show (x.natAbs : Int) = x by omega]
theorem sgI_range (x : Int) : -1 ≤ sgI x ∧ sgI x ≤ 1 := by
  unfold sgI
  split
  · omega
  · split <;> omega
set_option maxRecDepth 100000 in
set_option maxHeartbeats 4000000 in
theorem align_w {v v2 : Value} {x y : Int} {dx dy lo1 lo2 m : Nat} {w : World} (D1 : DyR w lo1 m v x dx) (D2 : DyR w lo2 m v2 y dy) (hm : m ≤ w.heap.size) (l1 : (canon x.natAbs).length ≤ 50000) (l2 : (canon y.natAbs).length ≤ 50000) :
    Calls Tryd.prog 75 #[v, v2] w fun e w' => ∃ u1 u2 D, e = .returned (.tuple #[.bool (decide (x < 0)), u1, .bool (decide (y < 0)), u2, .int .i64 (D : Int)]) ∧
      WdR w' w'.heap.size u1 (x.natAbs * 2 ^ (max dx dy - dx)) ∧ WdR w' w'.heap.size u2 (y.natAbs * 2 ^ (max dx dy - dy)) ∧ Below w.heap.size w w' := by
  have hd1 := D1.bound.1
  have hd2 := D2.bound.1
  obtain ⟨nb1, A1, L1, c1, rfl, HD1⟩ := D1.form
  obtain ⟨nb2, A2, L2, c2, rfl, HD2⟩ := D2.form
  have b0 : Below w.heap.size w ((w.alloc (.cells #[.bool nb1, .slice A1 L1 c1, .int .i64 (dx : Int)] 37)).alloc (.cells #[.bool nb2, .slice A2 L2 c2, .int .i64 (dy : Int)] 37)) := ext_alloc (ext_alloc (Below.refl _ _) _) _
  have r0 := (RowD.new_ w [.bool nb1, .slice A1 L1 c1, .int .i64 (dx : Int)] 37).call (al_ _ (.cells #[.bool nb2, .slice A2 L2 c2, .int .i64 (dy : Int)] 37))
  have r1 := RowD.new_ (w.alloc (.cells #[.bool nb1, .slice A1 L1 c1, .int .i64 (dx : Int)] 37)) [.bool nb2, .slice A2 L2 c2, .int .i64 (dy : Int)] 37
  rw [show (w.alloc (.cells #[.bool nb1, .slice A1 L1 c1, .int .i64 (dx : Int)] 37)).heap.size = w.heap.size + 1 by simp] at r1
  have D1' := Lib.hid D1
  have D2' := Lib.hid D2
  obtain ⟨D, hD⟩ : ∃ D : Nat, D = max dx dy := ⟨_, rfl⟩
  have hDD : max (dx : Int) (dy : Int) = (D : Int) := by omega
  obtain ⟨p, hp⟩ : ∃ p : Nat, p = D - dx := ⟨_, rfl⟩
  obtain ⟨q, hq⟩ : ∃ q : Nat, q = D - dy := ⟨_, rfl⟩
  have hpp : (D : Int) - (dx : Int) = (p : Int) := by omega
  have hqq : (D : Int) - (dy : Int) = (q : Int) := by omega
  have hp6 : p ≤ 1000000 := by omega
  have hq6 : q ≤ 1000000 := by omega
  rw [← hD, ← hp, ← hq]
  clear D1 D2 hD hp hq
  go_enter Tryd.func75, Tryd.ntmps75
  go_wp2_with fail
  go_at_call 79
  refine (parts_w (D1'.out.below b0 hm) (by simp; omega) (by omega)).mono ?_
  rintro e w1 ⟨nb', A', L', c', he, rfl, hb1⟩
  cases he
  have s1 := r1.below hb1 (by simp)
  have b1 := b0.trans (hb1.mono (by simp; omega))
  have k0 : w1.cell? ⟨w.heap.size + 1, 0, none⟩ = some (.bool nb2) := s1.cell 0
  have k1 : w1.cell? ⟨w.heap.size + 1, 1, none⟩ = some (.slice A2 L2 c2) := s1.cell 1
  have k2 : w1.cell? ⟨w.heap.size + 1, 2, none⟩ = some (.int .i64 (dy : Int)) := s1.cell 2
  clear hb1 r0 r1 b0
  go_wp2_with fail
  go_at_call 79
  have hs1 := b1.size
  refine (parts_w (D2'.out.below b1 hm) (by omega) (by omega)).mono ?_
  rintro e w2 ⟨nb', A', L', c', he, rfl, hb2⟩
  cases he
  have b2 := b1.trans (hb2.mono hs1)
  have X1 := (D1'.out.below b2 hm).words
  have X2 := Lib.hid (D2'.out.below b2 hm).words
  clear hb2 b1 k0 k1 k2 s1
  go_wp2_with fail
  go_at_call 82
  have hs2 := b2.size
  refine (pleft_w X1 (by omega) (by omega) hp6).mono ?_
  rintro e w3 ⟨v3, rfl, Y1, hb3⟩
  have b3 := b2.trans (hb3.mono hs2)
  have X2' := X2.out.below hb3 (by omega)
  obtain ⟨A3, L3, c3, rfl⟩ := Y1.form
  clear hb3 b2 X1 X2 hs2 hs1
  go_wp2_with fail
  go_at_call 82
  have hs3 := b3.size
  refine (pleft_w X2' (by omega) (by omega) hq6).mono ?_
  rintro e w4 ⟨v4, rfl, Y2, hb4⟩
  obtain ⟨A4, L4, c4, rfl⟩ := Y2.form
  go_wp2_with fail
  refine bodyPost_ret (v := .tuple #[.bool nb1, .slice A3 L3 c3, .bool nb2, .slice A4 L4 c4, .int .i64 (D : Int)]) (by simp [results, Tryd.results75, go_sem]) rfl ⟨.slice A3 L3 c3, .slice A4 L4 c4, D, by rw [HD1.out.1, HD2.out.1], (Y1.below hb4 (Nat.le_refl _)).more hb4.size, Y2, b3.trans (hb4.mono hs3)⟩
set_option maxRecDepth 100000 in
set_option maxHeartbeats 4000000 in
theorem pcmp_any {v v2 : Value} {x y : Int} {dx dy lo1 lo2 m : Nat} {w : World} (D1 : DyR w lo1 m v x dx) (D2 : DyR w lo2 m v2 y dy) (hm : m ≤ w.heap.size) (l1 : (canon x.natAbs).length ≤ 50000) (l2 : (canon y.natAbs).length ≤ 50000) :
    Calls Tryd.prog 37 #[v, v2] w fun e w' => e = .returned (.int .i64 (pCmp x dx y dy)) ∧ Below w.heap.size w w' := by
  have hd1 := D1.bound.1
  have hd2 := D2.bound.1
  obtain ⟨nb1, A1, L1, c1, rfl, HD1⟩ := D1.form
  obtain ⟨nb2, A2, L2, c2, rfl, HD2⟩ := D2.form
  have b0 : Below w.heap.size w ((w.alloc (.cells #[.bool nb1, .slice A1 L1 c1, .int .i64 (dx : Int)] 37)).alloc (.cells #[.bool nb2, .slice A2 L2 c2, .int .i64 (dy : Int)] 37)) := ext_alloc (ext_alloc (Below.refl _ _) _) _
  have r0 := (RowD.new_ w [.bool nb1, .slice A1 L1 c1, .int .i64 (dx : Int)] 37).call (al_ _ (.cells #[.bool nb2, .slice A2 L2 c2, .int .i64 (dy : Int)] 37))
  have r1 := RowD.new_ (w.alloc (.cells #[.bool nb1, .slice A1 L1 c1, .int .i64 (dx : Int)] 37)) [.bool nb2, .slice A2 L2 c2, .int .i64 (dy : Int)] 37
  rw [show (w.alloc (.cells #[.bool nb1, .slice A1 L1 c1, .int .i64 (dx : Int)] 37)).heap.size = w.heap.size + 1 by simp] at r1
  have D1' := D1.below b0 hm
  have D2' := D2.below b0 hm
  clear D1 D2
  go_enter Tryd.func37, Tryd.ntmps37
  go_wp2_with fail
  obtain ⟨W, hW⟩ : ∃ W, W = ((w.alloc (.cells #[.bool nb1, .slice A1 L1 c1, .int .i64 (dx : Int)] 37)).alloc (.cells #[.bool nb2, .slice A2 L2 c2, .int .i64 (dy : Int)] 37)) := ⟨_, rfl⟩
  have hWs : W.heap.size = w.heap.size + 2 := by rw [hW]; simp
  rw [← hW]
  rw [← hW] at b0 D1' D2' r0 r1
  clear hW
  have a0 : W.cell? ⟨w.heap.size, 0, none⟩ = some (.bool nb1) := r0.cell 0
  have a1 : W.cell? ⟨w.heap.size, 1, none⟩ = some (.slice A1 L1 c1) := r0.cell 1
  have a2 : W.cell? ⟨w.heap.size, 2, none⟩ = some (.int .i64 (dx : Int)) := r0.cell 2
  have e0 : W.cell? ⟨w.heap.size + 1, 0, none⟩ = some (.bool nb2) := r1.cell 0
  have e1 : W.cell? ⟨w.heap.size + 1, 1, none⟩ = some (.slice A2 L2 c2) := r1.cell 1
  have e2 : W.cell? ⟨w.heap.size + 1, 2, none⟩ = some (.int .i64 (dy : Int)) := r1.cell 2
  have hz : w.heap.size + 2 ≤ W.heap.size := by omega
  have hle : m ≤ w.heap.size + 2 := by omega
  obtain ⟨sx, hsx⟩ : ∃ sx, sx = sgI x := ⟨_, rfl⟩
  obtain ⟨sy, hsy⟩ : ∃ sy, sy = sgI y := ⟨_, rfl⟩
  have HSX := Lib.hid hsx
  have HSY := Lib.hid hsy
  have hrx := sgI_range x
  have hry := sgI_range y
  rw [← hsx] at hrx
  rw [← hsy] at hry
  have hc1 : ∀ u : ExtW W (w.heap.size + 2), Calls Tryd.prog 74 #[.agg #[.bool nb1, .slice A1 L1 c1, .int .i64 (dx : Int)]] u.val fun e w' => e = .returned (.int .i64 sx) ∧ Below u.val.heap.size u.val w' := fun u => by
    rw [hsx]; exact psign_w (D1'.below u.is hle) (Nat.le_trans hle u.fits) (by omega)
  have hc2 : ∀ u : ExtW W (w.heap.size + 2), Calls Tryd.prog 74 #[.agg #[.bool nb2, .slice A2 L2 c2, .int .i64 (dy : Int)]] u.val fun e w' => e = .returned (.int .i64 sy) ∧ Below u.val.heap.size u.val w' := fun u => by
    rw [hsy]; exact psign_w (D2'.below u.is hle) (Nat.le_trans hle u.fits) (by omega)
  have HC1 := Lib.hid hc1
  have HC2 := Lib.hid hc2
  clear hsx hsy hc1 hc2 hWs
  refine wp_region_qext (w.heap.size + 2) hz (by kernel_rfl) (by kernel_rfl) ?_
  intro _
  repeat (go_big_quiet_step ((first
    | (go_at_call_of 74 (Value.agg #[.bool nb1, .slice A1 L1 c1, .int .i64 (dx : Int)]); exact qext_call (HC1.out _))
    | (go_at_call_of 74 (Value.agg #[.bool nb2, .slice A2 L2 c2, .int .i64 (dy : Int)]); exact qext_call (HC2.out _)))))
  refine wpQuiet_nil ?_
  intro w2 hw'
  obtain ⟨⟨_, hb2, hz2⟩, rfl⟩ := hw'
  have s0 := r0.below hb2 (by omega)
  have s1 := r1.below hb2 (by omega)
  have b2 := b0.trans (hb2.mono (by omega))
  replace D1' := D1'.below hb2 hle
  replace D2' := D2'.below hb2 hle
  clear r0 r1 b0 a0 a1 a2 e0 e1 e2 hz hb2 HC1 HC2
  have a0 : w2.cell? ⟨w.heap.size, 0, none⟩ = some (.bool nb1) := s0.cell 0
  have a1 : w2.cell? ⟨w.heap.size, 1, none⟩ = some (.slice A1 L1 c1) := s0.cell 1
  have a2 : w2.cell? ⟨w.heap.size, 2, none⟩ = some (.int .i64 (dx : Int)) := s0.cell 2
  have e0 : w2.cell? ⟨w.heap.size + 1, 0, none⟩ = some (.bool nb2) := s1.cell 0
  have e1 : w2.cell? ⟨w.heap.size + 1, 1, none⟩ = some (.slice A2 L2 c2) := s1.cell 1
  have e2 : w2.cell? ⟨w.heap.size + 1, 2, none⟩ = some (.int .i64 (dy : Int)) := s1.cell 2
  by_cases hne : sx = sy
  · have hnb : (sx != sy) = false := by rw [hne]; simp
    have HNE := Lib.hid hne
    clear hne
    go_wp2_with fail
    go_at_call 75
    refine (align_w D1' D2' (by omega) l1 l2).mono ?_
    rintro e w3 ⟨u1, u2, D, rfl, Y1, Y2, hb3⟩
    have b3 := b2.trans (hb3.mono (by omega))
    obtain ⟨A3, L3, c3, rfl⟩ := Y1.form
    obtain ⟨A4, L4, c4, rfl⟩ := Y2.form
    have hla : (canon (x.natAbs * 2 ^ (max dx dy - dx))).length ≤ 100000 := by
      have := canon_len_shift x.natAbs (max dx dy - dx)
      omega
    have hlb : (canon (y.natAbs * 2 ^ (max dx dy - dy))).length ≤ 100000 := by
      have := canon_len_shift y.natAbs (max dx dy - dy)
      omega
    have HLA := Lib.hid hla
    have HLB := Lib.hid hlb
    have Y1' := Lib.hid Y1
    have Y2' := Lib.hid Y2
    obtain ⟨cv, hcv⟩ : ∃ cv, cv = sgI (((x.natAbs * 2 ^ (max dx dy - dx) : Nat) : Int) - ((y.natAbs * 2 ^ (max dx dy - dy) : Nat) : Int)) := ⟨_, rfl⟩
    have hcr := sgI_range (((x.natAbs * 2 ^ (max dx dy - dx) : Nat) : Int) - ((y.natAbs * 2 ^ (max dx dy - dy) : Nat) : Int))
    rw [← hcv] at hcr
    have HCV := Lib.hid hcv
    have hres : pCmp x dx y dy = if x < 0 then -cv else cv := by
      have hs : (x < 0) ↔ (y < 0) := by
        have h5 := HNE.out
        rw [HSX.out, HSY.out] at h5
        unfold sgI at h5
        constructor <;> intro h6 <;> (repeat (first | split at h5 | omega))
      have hz : (x = 0) ↔ (y = 0) := by
        have h5 := HNE.out
        rw [HSX.out, HSY.out] at h5
        unfold sgI at h5
        constructor <;> intro h6 <;> (repeat (first | split at h5 | omega))
      rw [hcv, abs_mul_, abs_mul_]
      unfold pCmp
      by_cases h : x < 0
      · rw [if_pos h, if_pos h, if_pos (hs.1 h), ← sgI_negv]
        congr 1
        omega
      · rw [if_neg h, if_neg h, if_neg (fun h2 => h (hs.2 h2))]
    have HRES := Lib.hid hres
    clear hla hlb Y1 Y2 hcv hres hb3 b2
    cases hdx : decide (x < 0) with
    | true =>
      have HXN := Lib.hid (show x < 0 by simpa using hdx)
      clear hdx
      go_wp2_with (go_at_call 76; refine (pcompare_w Y1'.out Y2'.out HLA.out HLB.out).mono ?_; rintro e w4 ⟨rfl, hb4⟩; rw [← HCV.out])
      go_ret
      exact ⟨by rw [HRES.out, if_pos HXN.out]; rfl, b3.trans (hb4.mono (by have := b3.size; omega))⟩
    | false =>
      have HXN := Lib.hid (show ¬ x < 0 by simpa using hdx)
      clear hdx
      go_wp2_with (go_at_call 76; refine (pcompare_w Y1'.out Y2'.out HLA.out HLB.out).mono ?_; rintro e w4 ⟨rfl, hb4⟩; rw [← HCV.out])
      go_ret
      exact ⟨by rw [HRES.out, if_neg (by have := HXN.out; omega)]; rfl, b3.trans (hb4.mono (by have := b3.size; omega))⟩
  · have hnb : (sx != sy) = true := by simpa using hne
    by_cases hlt : sx < sy
    · have HV := Lib.hid (show pCmp x dx y dy = -1 by unfold pCmp; refine sgI_lt ?_; rw [sgI_mul, sgI_mul, ← HSX.out, ← HSY.out]; exact hlt)
      have hltb : decide (sx < sy) = true := decide_eq_true hlt
      clear hne
      go_wp2_with fail
      go_ret
      exact ⟨by rw [HV.out]; rfl, b2⟩
    · have HV := Lib.hid (show pCmp x dx y dy = 1 by unfold pCmp; refine sgI_gt ?_; rw [sgI_mul, sgI_mul, ← HSX.out, ← HSY.out]; omega)
      have hltb : decide (sx < sy) = false := decide_eq_false hlt
      clear hne
      go_wp2_with fail
      go_ret
      exact ⟨by rw [HV.out]; rfl, b2⟩
end Go.Proofs.YtjlocofimlgaoaaDoor
