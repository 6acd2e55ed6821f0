/- Twice as wide ranges get one bit less: as plain data. No conditions. -/
import Derived.Test.YtejnnljjmafjaaaDoorScO
namespace Go.Proofs.YtejnnljjmafjaaaDoor
set_option linter.unusedVariables false
set_option linter.unusedSimpArgs false
set_option linter.unusedSectionVars false
open Go.RowKit

theorem pick_at {a : Iv} {n : Int} : ∀ N : Nat, 0 ≤ n → n < (N : Int) → roomB a n 1073741824 = true → (∀ j : Int, n < j → j < (N : Int) → roomB a j 1073741824 = false) → pick a N = n
  | 0, h0, h1, _, _ => by omega
  | N + 1, h0, h1, hr, hn => by
    unfold pick
    by_cases he : n = (N : Int)
    · rw [← he, if_pos hr]
    · have := hn (N : Int) (by omega) (by omega)
      rw [if_neg (by rw [this]; decide)]
      exact pick_at N h0 (by omega) hr (fun j h2 h3 => hn j h2 (by omega))
theorem pick_not {a : Iv} : ∀ N : Nat, (∀ j : Int, 0 ≤ j → j < (N : Int) → roomB a j 1073741824 = false) → pick a N = -1
  | 0, _ => rfl
  | N + 1, hn => by
    unfold pick
    have := hn (N : Int) (by omega) (by omega)
    rw [if_neg (by rw [this]; decide)]
    exact pick_not N (fun j h2 h3 => hn j h2 (by omega))
theorem chS_31 (a : Iv) : chS a = pick a 31 := rfl
theorem no_more {a : Iv} {n j : Int} (h0 : 0 ≤ n) (h : roomB a n 1073741824 = false) (hj : n ≤ j) (h1 : j ≤ 65536) : roomB a j 1073741824 = false := by
  cases hr : roomB a j 1073741824 with
  | false => rfl
  | true => rw [room_less h0 hj h1 hr] at h; cases h
/-- y' is y, with both ends shifted by one. -/
structure Wide (y y' : Iv) : Prop where
  lo : (y'.lo.x, y'.lo.d) = dyShift y.lo.x y.lo.d 1
  hi : (y'.hi.x, y'.hi.d) = dyShift y.hi.x y.hi.d 1
  vlo : vdB y'.lo = true
  vhi : vdB y'.hi = true
theorem shl1 {x : Int} {d : Nat} : dyShift x d 1 = nf (x * 2) d := by
  rw [shl_eq (by decide) (by decide)]
  rfl
theorem nf_abs_room {z m : Int} {d : Nat} {p : Int} (hp : 0 < p) : ((nf z d).1.natAbs : Int) * p ≤ m * 2 ^ (nf z d).2 ↔ (z.natAbs : Int) * p ≤ m * 2 ^ d := by
  have h := nf_eq z d
  have p1 := p2pos d
  have p2 := p2pos (nf z d).2
  have ha : ((nf z d).1.natAbs : Int) * 2 ^ d = (z.natAbs : Int) * 2 ^ (nf z d).2 := by
    have := congrArg Int.natAbs h
    rw [Int.natAbs_mul, Int.natAbs_mul, Int.natAbs_pow, Int.natAbs_pow] at this
    have h2 : (2 : Int).natAbs = 2 := rfl
    rw [h2] at this
    have h3 := congrArg (fun n : Nat => (n : Int)) this
    simpa using h3
  constructor
  · intro hh
    have := Int.mul_le_mul_of_nonneg_right hh (Int.le_of_lt p1)
    refine Int.le_of_mul_le_mul_right (a := 2 ^ (nf z d).2) ?_ p2
    rw [show (z.natAbs : Int) * p * 2 ^ (nf z d).2 = (z.natAbs : Int) * 2 ^ (nf z d).2 * p by ac_rfl, ← ha]
    rw [show ((nf z d).1.natAbs : Int) * 2 ^ d * p = ((nf z d).1.natAbs : Int) * p * 2 ^ d by ac_rfl, show m * 2 ^ d * 2 ^ (nf z d).2 = m * 2 ^ (nf z d).2 * 2 ^ d by ac_rfl]
    exact this
  · intro hh
    have := Int.mul_le_mul_of_nonneg_right hh (Int.le_of_lt p2)
    refine Int.le_of_mul_le_mul_right (a := 2 ^ d) ?_ p1
    rw [show ((nf z d).1.natAbs : Int) * p * 2 ^ d = ((nf z d).1.natAbs : Int) * 2 ^ d * p by ac_rfl, ha]
    rw [show (z.natAbs : Int) * 2 ^ (nf z d).2 * p = (z.natAbs : Int) * p * 2 ^ (nf z d).2 by ac_rfl, show m * 2 ^ (nf z d).2 * 2 ^ d = m * 2 ^ d * 2 ^ (nf z d).2 by ac_rfl]
    exact this
theorem end_wide {x : Int} {d : Nat} {x' : Int} {d' : Nat} {f : Nat} {m : Int} (h : (x', d') = dyShift x d 1) : (x'.natAbs : Int) * 2 ^ f ≤ m * 2 ^ d' ↔ (x.natAbs : Int) * 2 ^ (f + 1) ≤ m * 2 ^ d := by
  rw [shl1] at h
  have h1 : x' = (nf (x * 2) d).1 := congrArg Prod.fst h
  have h2 : d' = (nf (x * 2) d).2 := congrArg Prod.snd h
  rw [h1, h2, nf_abs_room (p2pos f), Int.natAbs_mul]
  have e : ((x.natAbs * (2 : Int).natAbs : Nat) : Int) * 2 ^ f = (x.natAbs : Int) * 2 ^ (f + 1) := by
    rw [show (2 : Int).natAbs = 2 from rfl, Int.natCast_mul, Int.pow_succ]
    show (x.natAbs : Int) * 2 * 2 ^ f = _
    ac_rfl
  rw [e]
theorem Wide.room {y y' : Iv} (h : Wide y y') {f : Int} (h0 : 0 ≤ f) (h1 : f < 65536) : roomB y' f 1073741824 = roomB y (f + 1) 1073741824 := by
  rw [Bool.eq_iff_iff, room_iff h0 (by omega), room_iff (by omega) (by omega)]
  unfold RoomP
  rw [show (f + 1).toNat = f.toNat + 1 by omega, end_wide h.lo, end_wide h.hi]
theorem nf_lt {z y : Int} {d e : Nat} : (nf y e).1 * 2 ^ (nf z d).2 < (nf z d).1 * 2 ^ (nf y e).2 ↔ y * 2 ^ d < z * 2 ^ e := by
  have h1 := nf_eq z d
  have h2 := nf_eq y e
  have p1 := p2pos d
  have p2 := p2pos e
  have q1 := p2pos (nf z d).2
  have q2 := p2pos (nf y e).2
  have hp : (0 : Int) < 2 ^ d * 2 ^ e := Int.mul_pos p1 p2
  have hq : (0 : Int) < 2 ^ (nf z d).2 * 2 ^ (nf y e).2 := Int.mul_pos q1 q2
  have e1 : (nf y e).1 * 2 ^ (nf z d).2 * (2 ^ d * 2 ^ e) = y * 2 ^ d * (2 ^ (nf z d).2 * 2 ^ (nf y e).2) := by
    rw [show (nf y e).1 * 2 ^ (nf z d).2 * (2 ^ d * 2 ^ e) = (nf y e).1 * 2 ^ e * (2 ^ d * 2 ^ (nf z d).2) by ac_rfl, h2]; ac_rfl
  have e2 : (nf z d).1 * 2 ^ (nf y e).2 * (2 ^ d * 2 ^ e) = z * 2 ^ e * (2 ^ (nf z d).2 * 2 ^ (nf y e).2) := by
    rw [show (nf z d).1 * 2 ^ (nf y e).2 * (2 ^ d * 2 ^ e) = (nf z d).1 * 2 ^ d * (2 ^ e * 2 ^ (nf y e).2) by ac_rfl, h1]; ac_rfl
  constructor
  · intro h
    have := Int.mul_lt_mul_of_pos_right h hp
    rw [e1, e2] at this
    exact Int.lt_of_mul_lt_mul_right this (Int.le_of_lt hq)
  · intro h
    have := Int.mul_lt_mul_of_pos_right h hq
    rw [← e1, ← e2] at this
    exact Int.lt_of_mul_lt_mul_right this (Int.le_of_lt hp)
theorem pCmp_flip {x : Int} {dx : Nat} {y : Int} {dy : Nat} : pCmp x dx y dy ≤ 0 ↔ ¬ (y * 2 ^ dx < x * 2 ^ dy) := by
  rw [← pCmp_lt]
  have h : pCmp y dy x dx = - pCmp x dx y dy := by
    unfold pCmp
    rw [← sgI_negv, Nat.max_comm dy dx]
    congr 1
    omega
  omega
theorem Wide.ok {y y' : Iv} (h : Wide y y') (hy : ivB y = true) : ivB y' = true := by
  have hp : ivP y := of_decide_eq_true hy
  refine decide_eq_true ⟨h.vlo, h.vhi, ?_⟩
  have h1 := h.lo
  have h2 := h.hi
  rw [shl1] at h1 h2
  have a1 : y'.lo.x = (nf (y.lo.x * 2) y.lo.d).1 := congrArg Prod.fst h1
  have a2 : y'.lo.d = (nf (y.lo.x * 2) y.lo.d).2 := congrArg Prod.snd h1
  have a3 : y'.hi.x = (nf (y.hi.x * 2) y.hi.d).1 := congrArg Prod.fst h2
  have a4 : y'.hi.d = (nf (y.hi.x * 2) y.hi.d).2 := congrArg Prod.snd h2
  have h3 := hp.2.2
  rw [pCmp_flip] at h3
  rw [pCmp_flip, a1, a2, a3, a4, nf_lt]
  intro hh
  apply h3
  rw [show y.hi.x * 2 * 2 ^ y.lo.d = y.hi.x * 2 ^ y.lo.d * 2 by ac_rfl, show y.lo.x * 2 * 2 ^ y.hi.d = y.lo.x * 2 ^ y.hi.d * 2 by ac_rfl] at hh
  omega
/-- One bit less, or none. -/
theorem Wide.less {y y' : Iv} (h : Wide y y') (hc : 0 ≤ chS y) : (chS y = 0 → chS y' = -1) ∧ (1 ≤ chS y → chS y < 30 → chS y' = chS y - 1) ∧ (chS y = 30 → 29 ≤ chS y' ∧ chS y' ≤ 30) := by
  have hr := chS_room hc
  have h30 := (chS_range y).2
  refine ⟨fun h0 => ?_, fun h1 h2 => ?_, fun h3 => ?_⟩
  · have hn := chS_next hc (by omega)
    rw [chS_31 y']
    refine pick_not 31 fun j hj0 hj1 => ?_
    rw [h.room hj0 (by omega)]
    exact no_more (by omega) hn (by omega) (by omega)
  · have hn := chS_next hc h2
    rw [chS_31 y']
    refine pick_at 31 (by omega) (by omega) ?_ fun j hj0 hj1 => ?_
    · rw [h.room (by omega) (by omega), show chS y - 1 + 1 = chS y by omega]; exact hr
    · rw [h.room (by omega) (by omega)]
      exact no_more (by omega) hn (by omega) (by omega)
  · have hr2 : roomB y' 29 1073741824 = true := by rw [h.room (by omega) (by omega), show (29 : Int) + 1 = chS y by omega]; exact hr
    have e : pick y' 31 = if roomB y' 30 1073741824 = true then 30 else pick y' 30 := rfl
    have e2 : pick y' 30 = if roomB y' 29 1073741824 = true then 29 else pick y' 29 := rfl
    rw [chS_31 y', e, e2, if_pos hr2]
    split <;> omega
theorem Wide.chs {y y' : Iv} (h : Wide y y') (hc : 0 ≤ chS y) : (chS y = 0 ∧ chS y' = -1) ∨ (1 ≤ chS y ∧ chS y' ≤ chS y ∧ chS y - 1 ≤ chS y' ∧ (chS y < 30 → chS y' = chS y - 1)) := by
  have := h.less hc
  have h30 := (chS_range y).2
  by_cases h0 : chS y = 0
  · exact .inl ⟨h0, this.1 h0⟩
  · right
    by_cases h3 : chS y = 30
    · have := this.2.2 h3; omega
    · have := this.2.1 (by omega) (by omega); omega
end Go.Proofs.YtejnnljjmafjaaaDoor
