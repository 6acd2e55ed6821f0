/- What a block uses, told by its arguments, as plain data. No conditions. -/
import Derived.Test.YtaheedieingpiaaDoorDhF
namespace Go.Proofs.YtaheedieingpiaaDoor
set_option linter.unusedVariables false
set_option linter.unusedSimpArgs false
set_option linter.unusedSectionVars false
open Go.RowKit

theorem reach_front {bs : List Bk} {o : Bool} {i j : Nat} (h : Reach bs o i j) : i = j ∨ ∃ a ∈ succs bs o i, Reach bs o a.toNat j := by
  induction h with
  | refl => exact .inl rfl
  | step _ ha ih =>
    rcases ih with rfl | ⟨a', ha', hr⟩
    · exact .inr ⟨_, ha, Reach.refl _⟩
    · exact .inr ⟨a', ha', hr.step ha⟩
theorem Reach.front {bs : List Bk} {o : Bool} {i j : Nat} {a : Int} (ha : a ∈ succs bs o i) (h : Reach bs o a.toNat j) : Reach bs o i j := (Reach.step (Reach.refl i) ha).trans h
def usesM (bs : List Bk) (i : Nat) : List Bool := passes bs false bs.length (mark0 bs i)
theorem usesM_len (bs : List Bk) (i : Nat) : (usesM bs i).length = bs.length := by unfold usesM; rw [passes_len]; simp [mark0]
theorem mark0_is {bs : List Bk} {i : Nat} (hi : i < bs.length) (j : Nat) : isM (mark0 bs i) j = true ↔ i = j := by
  unfold mark0
  rw [isM_set (by simpa using hi), isM_rep]
  simp
theorem usesM_is {bs : List Bk} {i : Nat} (hok : SuccOk bs) (hi : i < bs.length) (j : Nat) : isM (usesM bs i) j = true ↔ Reach bs false i j := by
  unfold usesM
  rw [passes_reach hok (by simp [mark0])]
  constructor
  · rintro ⟨s, hs, hr⟩
    rw [mark0_is hi] at hs
    subst hs
    exact hr
  · intro hr
    exact ⟨i, (mark0_is hi i).2 rfl, hr⟩
theorem usesL_is {bs : List Bk} {i : Nat} (hok : SuccOk bs) (hi : i < bs.length) (z : Int) : z ∈ usesL bs i ↔ ∃ j : Nat, z = (j : Int) ∧ Reach bs false i j := by
  unfold usesL
  constructor
  · intro h
    unfold natI at h
    obtain ⟨j, hj, rfl⟩ := List.mem_map.1 h
    exact ⟨j, rfl, (usesM_is hok hi j).1 (markL_mem.1 hj)⟩
  · rintro ⟨j, rfl, hr⟩
    exact natI_mem.2 (markL_mem.2 ((usesM_is hok hi j).2 hr))
theorem usesL_in {bs : List Bk} {i : Nat} {z : Int} (h : z ∈ usesL bs i) : 0 ≤ z ∧ z < (bs.length : Int) := by
  unfold usesL natI at h
  obtain ⟨j, hj, rfl⟩ := List.mem_map.1 h
  have h1 := isM_lt (markL_mem.1 hj)
  have h2 : (passes bs false bs.length (mark0 bs i)).length = bs.length := usesM_len bs i
  rw [h2] at h1
  omega
/-- The wanted marks when the uses of the first t arguments are in. -/
def dpF (bs : List Bk) (m0 : List Bool) (xs : List Int) : Nat → List Bool
  | 0 => m0
  | t + 1 => setsT (usesL bs (xs[t]?.getD 0).toNat) (dpF bs m0 xs t) (usesL bs (xs[t]?.getD 0).toNat).length
theorem dpF_len (bs : List Bk) (m0 : List Bool) (xs : List Int) : ∀ t, (dpF bs m0 xs t).length = m0.length
  | 0 => rfl
  | t + 1 => (setsT_len _ _ _).trans (dpF_len bs m0 xs t)
theorem setsT_is {xs : List Int} {c : List Bool} (h : ∀ a ∈ xs, a.toNat < c.length) (j : Nat) : isM (setsT xs c xs.length) j = true ↔ isM c j = true ∨ ∃ a ∈ xs, a.toNat = j := by
  unfold setsT
  rw [List.take_length]
  constructor
  · exact foldSet_from xs c j
  · rintro (h1 | ⟨a, ha, rfl⟩)
    · exact foldSet_mono _ _ _ h1
    · exact foldSet_mem xs c a ha (h a ha)
theorem dpF_is {bs : List Bk} {m0 : List Bool} {xs : List Int} (hok : SuccOk bs) (hm : m0.length = bs.length) (hx : ∀ a ∈ xs, 0 ≤ a ∧ a < (bs.length : Int)) : ∀ t, t ≤ xs.length → ∀ j, isM (dpF bs m0 xs t) j = true ↔ isM m0 j = true ∨ ∃ a ∈ xs.take t, Reach bs false a.toNat j
  | 0, _, j => by simp [dpF]
  | t + 1, ht, j => by
    have hxt := List.getElem?_eq_getElem (show t < xs.length by omega)
    have hb := hx _ (List.mem_of_getElem? hxt)
    have ih := dpF_is hok hm hx t (by omega) j
    have e : dpF bs m0 xs (t + 1) = setsT (usesL bs (xs[t]'(by omega)).toNat) (dpF bs m0 xs t) (usesL bs (xs[t]'(by omega)).toNat).length := by
      show setsT (usesL bs (xs[t]?.getD 0).toNat) (dpF bs m0 xs t) _ = _
      rw [hxt]
      rfl
    rw [e, setsT_is (fun a ha => by rw [dpF_len, hm]; have := usesL_in ha; omega), ih, List.take_add_one, hxt]
    constructor
    · rintro ((h | ⟨a, ha, hr⟩) | ⟨a, ha, rfl⟩)
      · exact .inl h
      · exact .inr ⟨a, List.mem_append.2 (.inl ha), hr⟩
      · obtain ⟨j', rfl, hr⟩ := (usesL_is hok (by omega) a).1 ha
        exact .inr ⟨xs[t], List.mem_append.2 (.inr (by simp)), by simpa using hr⟩
    · rintro (h | ⟨a, ha, hr⟩)
      · exact .inl (.inl h)
      · rcases List.mem_append.1 ha with ha | ha
        · exact .inl (.inr ⟨a, ha, hr⟩)
        · simp at ha
          subst ha
          exact .inr ⟨(j : Int), (usesL_is hok (by omega) _).2 ⟨j, rfl, hr⟩, by simp⟩
theorem dp_end {bs : List Bk} {i : Nat} (hok : SuccOk bs) (hi : i < bs.length) : dpF bs (mark0 bs i) (succs bs false i) (succs bs false i).length = usesM bs i := by
  have hl : (mark0 bs i).length = bs.length := by simp [mark0]
  refine marks_eq (by rw [dpF_len, usesM_len, hl]) fun j _ => ?_
  show isM (dpF bs (mark0 bs i) (succs bs false i) (succs bs false i).length) j = true ↔ isM (usesM bs i) j = true
  rw [dpF_is hok hl (fun a ha => hok i hi a (succs_preds ha)) _ (Nat.le_refl _), usesM_is hok hi, mark0_is hi, List.take_length]
  constructor
  · rintro (rfl | ⟨a, ha, hr⟩)
    · exact Reach.refl _
    · exact Reach.front ha hr
  · exact reach_front
theorem fl_at {p : Nat → Bool} {k : Nat} (h : p k = true) : ∀ n, k < n → (fl p n)[(fl p k).length]? = some k
  | 0, hk => by omega
  | n + 1, hk => by
    by_cases e : k = n
    · subst e
      rw [fl_hit h]
      simp
    · have ih := fl_at h n (by omega)
      have hlt := (List.getElem?_eq_some_iff.1 ih).1
      cases hp : p n with
      | true => rw [fl_hit hp, List.getElem?_append_left hlt]; exact ih
      | false => rw [fl_no hp]; exact ih
end Go.Proofs.YtaheedieingpiaaDoor
