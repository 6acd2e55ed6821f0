/- Room and least scales, as plain data. No conditions. -/
import Derived.Test.YtejnnljjmafjaaaDoorScN
namespace Go.Proofs.YtejnnljjmafjaaaDoor
set_option linter.unusedVariables false
set_option linter.unusedSimpArgs false
set_option linter.unusedSectionVars false
open Go.RowKit

theorem shl_eq {x : Int} {d : Nat} {f : Int} (h0 : 0 ≤ f) (h1 : f ≤ 65536) : dyShift x d f = nf (x * 2 ^ f.toNat) d := by
  have h : max (-65536) (min f 65536) = f := by omega
  unfold dyShift
  rw [h, if_neg (by omega)]
theorem p2pos (n : Nat) : (0 : Int) < 2 ^ n := Int.pow_pos (by decide)
theorem nf_room {z m : Int} {d : Nat} : pCmp (nf z d).1 (nf z d).2 m 0 ≤ 0 ↔ z ≤ m * 2 ^ d := by
  rw [pCmp_le]
  have h := nf_eq z d
  have p1 := p2pos d
  have p2 := p2pos (nf z d).2
  constructor
  · intro hh
    have := Int.mul_le_mul_of_nonneg_right hh (Int.le_of_lt p1)
    rw [h, Int.mul_assoc, Int.mul_comm (2 ^ (nf z d).2), ← Int.mul_assoc] at this
    exact Int.le_of_mul_le_mul_right this p2
  · intro hh
    have := Int.mul_le_mul_of_nonneg_right hh (Int.le_of_lt p2)
    rw [← h, Int.mul_assoc, Int.mul_comm (2 ^ d), ← Int.mul_assoc] at this
    exact Int.le_of_mul_le_mul_right this p1
theorem sgI_neg_iff {x : Int} : sgI x < 0 ↔ x < 0 := by
  unfold sgI
  split
  · omega
  · split <;> omega
theorem pCmp_lt {x : Int} {dx : Nat} {y : Int} {dy : Nat} : pCmp x dx y dy < 0 ↔ x * 2 ^ dy < y * 2 ^ dx := by
  unfold pCmp
  rw [sgI_neg_iff]
  by_cases h : dx ≤ dy
  · rw [show max dx dy = dy by omega, Nat.sub_self, Int.pow_zero, Int.mul_one]
    have e : (2 : Int) ^ dy = 2 ^ (dy - dx) * 2 ^ dx := by rw [← Int.pow_add]; congr 1; omega
    rw [e, ← Int.mul_assoc]
    exact ⟨fun hh => Int.mul_lt_mul_of_pos_right (by omega) (p2pos dx), fun hh => by have := Int.lt_of_mul_lt_mul_right hh (Int.le_of_lt (p2pos dx)); omega⟩
  · rw [show max dx dy = dx by omega, Nat.sub_self, Int.pow_zero, Int.mul_one]
    have e : (2 : Int) ^ dx = 2 ^ (dx - dy) * 2 ^ dy := by rw [← Int.pow_add]; congr 1; omega
    rw [e, ← Int.mul_assoc]
    exact ⟨fun hh => Int.mul_lt_mul_of_pos_right (by omega) (p2pos dy), fun hh => by have := Int.lt_of_mul_lt_mul_right hh (Int.le_of_lt (p2pos dy)); omega⟩
theorem le_cross {x y m : Int} {dx dy : Nat} {p : Int} (hp : 0 < p) (h : x * 2 ^ dy ≤ y * 2 ^ dx) (hy : y * p ≤ m * 2 ^ dy) : x * p ≤ m * 2 ^ dx := by
  have a1 := Int.mul_le_mul_of_nonneg_right h (Int.le_of_lt hp)
  have a2 := Int.mul_le_mul_of_nonneg_right hy (Int.le_of_lt (p2pos dx))
  refine Int.le_of_mul_le_mul_right (a := 2 ^ dy) ?_ (p2pos dy)
  rw [show x * p * 2 ^ dy = x * 2 ^ dy * p by ac_rfl, show m * 2 ^ dx * 2 ^ dy = m * 2 ^ dy * 2 ^ dx by ac_rfl]
  refine Int.le_trans a1 ?_
  rw [show y * 2 ^ dx * p = y * p * 2 ^ dx by ac_rfl]
  exact a2
theorem max_room {x y m : Int} {dx dy : Nat} {p : Int} (hp : 0 < p) : (dyMax x dx y dy).1 * p ≤ m * 2 ^ (dyMax x dx y dy).2 ↔ x * p ≤ m * 2 ^ dx ∧ y * p ≤ m * 2 ^ dy := by
  unfold dyMax
  by_cases h : dyCmp x dx y dy < 0
  · rw [if_pos h]
    rw [dyCmp_eq, pCmp_lt] at h
    exact ⟨fun hy => ⟨le_cross hp (Int.le_of_lt h) hy, hy⟩, fun hh => hh.2⟩
  · rw [if_neg h]
    rw [dyCmp_eq, pCmp_lt] at h
    exact ⟨fun hx => ⟨hx, le_cross hp (Int.not_lt.1 h) hx⟩, fun hh => hh.1⟩
/-- Room, as numbers. -/
def RoomP (a : Iv) (f : Nat) (m : Int) : Prop := (a.lo.x.natAbs : Int) * 2 ^ f ≤ m * 2 ^ a.lo.d ∧ (a.hi.x.natAbs : Int) * 2 ^ f ≤ m * 2 ^ a.hi.d
theorem room_iff {a : Iv} {f m : Int} (h0 : 0 ≤ f) (h1 : f ≤ 65536) : roomB a f m = true ↔ RoomP a f.toNat m := by
  unfold roomB RoomP
  rw [decide_eq_true_iff, shl_eq h0 h1, nf_room]
  unfold magI iabsHi
  exact max_room (p2pos _)
theorem mul_pow_le {x m : Int} {f f' : Nat} (hx : 0 ≤ x) (h : f' ≤ f) (hr : x * 2 ^ f ≤ m) : x * 2 ^ f' ≤ m := by
  refine Int.le_trans ?_ hr
  refine Int.mul_le_mul_of_nonneg_left ?_ hx
  have e : (2 : Int) ^ f = 2 ^ (f - f') * 2 ^ f' := by rw [← Int.pow_add]; congr 1; omega
  rw [e]
  have := p2pos (f - f')
  have h2 := Int.mul_le_mul_of_nonneg_right (show (1 : Int) ≤ 2 ^ (f - f') by omega) (Int.le_of_lt (p2pos f'))
  omega
theorem room_less {a : Iv} {f f' m : Int} (h0 : 0 ≤ f') (h : f' ≤ f) (h1 : f ≤ 65536) (hr : roomB a f m = true) : roomB a f' m = true := by
  rw [room_iff (by omega) (by omega)] at hr ⊢
  exact ⟨mul_pow_le (Int.natCast_nonneg _) (by omega) hr.1, mul_pow_le (Int.natCast_nonneg _) (by omega) hr.2⟩
theorem fold_le : ∀ (l : List Int) (z : Int), l.foldl min z ≤ z ∧ (∀ x ∈ l, l.foldl min z ≤ x) ∧ (l.foldl min z = z ∨ l.foldl min z ∈ l)
  | [], z => ⟨Int.le_refl _, by simp, .inl rfl⟩
  | x :: l, z => by
    have ih := fold_le l (min z x)
    simp only [List.foldl_cons]
    refine ⟨by omega, fun y hy => ?_, ?_⟩
    · rcases List.mem_cons.1 hy with rfl | hy
      · omega
      · exact ih.2.1 y hy
    · rcases ih.2.2 with h | h
      · by_cases hz : z ≤ x
        · left; omega
        · right; rw [h]; exact List.mem_cons.2 (.inl (by omega))
      · right; exact List.mem_cons_of_mem _ h
theorem least_le {l : List Int} {x : Int} (h : x ∈ l) : leastI l ≤ x := (fold_le l 30).2.1 x h
theorem least_30 (l : List Int) : leastI l ≤ 30 := (fold_le l 30).1
theorem least_nn {l : List Int} (h : ∀ x ∈ l, 0 ≤ x) : 0 ≤ leastI l := by
  rcases (fold_le l 30).2.2 with h2 | h2
  · unfold leastI; omega
  · exact h _ h2
theorem least_some {l : List Int} (h : ∀ x ∈ l, x ≤ 30) : (((l.length : Int) == 0) || l.any (fun x => x == leastI l)) = true := by
  cases l with
  | nil => rfl
  | cons x l =>
    rw [Bool.or_eq_true]
    right
    rw [List.any_eq_true]
    rcases (fold_le (x :: l) 30).2.2 with h2 | h2
    · have := least_le (l := x :: l) (List.mem_cons_self)
      have := h x (List.mem_cons_self)
      exact ⟨x, List.mem_cons_self, by unfold leastI at *; rw [beq_iff_eq]; omega⟩
    · exact ⟨_, h2, by simp [leastI]⟩
theorem chs_nn {R : List Iv} (h : ∀ y ∈ R, ivB y = true ∧ 0 ≤ chS y) : ∀ x ∈ R.map chS, 0 ≤ x := by
  intro x hx
  obtain ⟨y, hy, rfl⟩ := List.mem_map.1 hx
  exact (h y hy).2
theorem chs_30 (R : List Iv) : ∀ x ∈ R.map chS, x ≤ 30 := by
  intro x hx
  obtain ⟨y, hy, rfl⟩ := List.mem_map.1 hx
  exact (chS_range y).2
theorem fit_un {R : List Iv} (h : ∀ y ∈ R, ivB y = true ∧ 0 ≤ chS y) : (R.zip (List.replicate R.length (leastI (R.map chS)))).all fit1 = true := by
  rw [List.all_eq_true]
  intro p hp
  obtain ⟨y, n⟩ := p
  have h1 : y ∈ R := (List.of_mem_zip hp).1
  have h2 := List.eq_of_mem_replicate (List.of_mem_zip hp).2
  subst h2
  have hl := least_le (List.mem_map_of_mem (f := chS) h1)
  have hn := least_nn (chs_nn h)
  have h30 := least_30 (R.map chS)
  exact fit_yes hn h30 (room_less hn hl (by have := (chS_range y).2; omega) (room_more (chS_room (h y h1).2) (by decide)))
/-- How many blocks are inputs. -/
def cntI (bs : List Bk) (k : Nat) : Nat := ((bs.take k).filter (fun b => b.kind == 0)).length
theorem cntI_yes {bs : List Bk} {k : Nat} {b : Bk} (h : bs[k]? = some b) (hb : (b.kind == 0) = true) : cntI bs (k + 1) = cntI bs k + 1 := by
  unfold cntI
  rw [List.take_add_one, h]
  simp [List.filter_append, hb]
theorem cntI_no {bs : List Bk} {k : Nat} {b : Bk} (h : bs[k]? = some b) (hb : (b.kind == 0) = false) : cntI bs (k + 1) = cntI bs k := by
  unfold cntI
  rw [List.take_add_one, h]
  simp [List.filter_append, hb]
theorem cntI_le (bs : List Bk) (k : Nat) : cntI bs k ≤ k := Nat.le_trans (List.length_filter_le _ _) (List.length_take_le _ _)
theorem shK_un {ps : List Prt} {bs : List Bk} {os : List Int} {L : Int} (h : dgErr ps bs os = 0) : ∀ k, k ≤ bs.length → shK ps bs (List.replicate bs.length L) k ≤ cntI bs k
  | 0, _ => Nat.zero_le _
  | k + 1, hk => by
    have ih := shK_un h (L := L) k (by omega)
    have hb : bs[k]? = some bs[k] := List.getElem?_eq_getElem (by omega)
    obtain ⟨b, hbe⟩ : ∃ b, b = bs[k] := ⟨_, rfl⟩
    rw [← hbe] at hb
    have ha := blk_args (dgb h hb)
    rw [shK_succ hb]
    by_cases hk0 : b.kind = 0
    · rw [cntI_yes hb (by simpa using hk0)]
      have : shB ps (List.replicate bs.length L) k b ≤ 1 := by
        unfold shB
        refine Nat.le_trans (List.length_filter_le _ _) ?_
        have := ha.2.1
        rw [hk0] at this
        have h1 : arityM 0 = 1 := by decide
        omega
      omega
    · rw [cntI_no hb (by simpa using hk0)]
      have : shB ps (List.replicate bs.length L) k b = 0 := by
        unfold shB
        rw [List.length_eq_zero_iff, List.filter_eq_nil_iff]
        intro a hm
        have har := ha.2.2 a hm
        unfold mostM at har
        rw [if_neg hk0] at har
        obtain ⟨n, rfl⟩ := Int.eq_ofNat_of_zero_le har.1
        have h1 : (List.replicate bs.length L)[n]? = some L := by rw [List.getElem?_replicate]; exact if_pos (by omega)
        have h2 : (List.replicate bs.length L)[k]? = some L := by rw [List.getElem?_replicate]; exact if_pos (by omega)
        rw [sh1_n hk0 h1, h2]
        simp
      omega
theorem any_succ {l : List Int} {k : Nat} {n L : Int} (h : l[k]? = some n) : (l.take (k + 1)).any (fun x => x == L) = ((l.take k).any (fun x => x == L) || (n == L)) := by
  rw [List.take_add_one, h]
  simp
end Go.Proofs.YtejnnljjmafjaaaDoor
