/- Which blocks vary, and whether a diagram is affine, as plain data. No conditions. -/
import Derived.Test.YtaheedieingpiaaDoorDgS
namespace Go.Proofs.YtaheedieingpiaaDoor
set_option linter.unusedVariables false
set_option linter.unusedSimpArgs false
set_option linter.unusedSectionVars false
open Go.RowKit

theorem isM_setV {m : List Bool} {i j : Nat} {b : Bool} (hi : i < m.length) : isM (m.set i b) j = if i = j then b else isM m j := by
  unfold isM
  rw [List.getElem?_set]
  by_cases h : i = j
  · subst h; simp [hi]
  · simp [h]
theorem succs_true (bs : List Bk) (i : Nat) : succs bs true i = preds bs i := by simp [succs]
/-- A block that varies by itself: an input or a delay. -/
def srcB (bs : List Bk) (i : Nat) : Bool := kindAt bs i == 0 || kindAt bs i == 2
def vT (bs : List Bk) (m : List Bool) (i t : Nat) : List Bool := m.set i (isM m i || srcB bs i || ((preds bs i).take t).any fun a => isM m a.toNat)
def vStep (bs : List Bk) (m : List Bool) (i : Nat) : List Bool := vT bs m i (preds bs i).length
def vFold (bs : List Bk) (m : List Bool) (i : Nat) : List Bool := (List.range i).foldl (vStep bs) m
def vPass (bs : List Bk) (m : List Bool) : Nat → List Bool
  | 0 => m
  | k + 1 => vFold bs (vPass bs m k) bs.length
def varyM (bs : List Bk) : List Bool := vPass bs (List.replicate bs.length false) bs.length
theorem vT_len (bs : List Bk) (m : List Bool) (i t : Nat) : (vT bs m i t).length = m.length := by simp [vT]
theorem vStep_len (bs : List Bk) (m : List Bool) (i : Nat) : (vStep bs m i).length = m.length := vT_len _ _ _ _
theorem vFold_succ (bs : List Bk) (m : List Bool) (i : Nat) : vFold bs m (i + 1) = vStep bs (vFold bs m i) i := by unfold vFold; rw [List.range_succ, List.foldl_append]; rfl
theorem vFold_len (bs : List Bk) (m : List Bool) : ∀ i, (vFold bs m i).length = m.length
  | 0 => rfl
  | i + 1 => by rw [vFold_succ]; exact (vStep_len _ _ _).trans (vFold_len bs m i)
theorem vPass_len (bs : List Bk) (m : List Bool) : ∀ k, (vPass bs m k).length = m.length
  | 0 => rfl
  | k + 1 => (vFold_len _ _ _).trans (vPass_len bs m k)
theorem vT_get {bs : List Bk} {m : List Bool} {i t j : Nat} (hi : i < m.length) : isM (vT bs m i t) j = if i = j then (isM m i || srcB bs i || ((preds bs i).take t).any fun a => isM m a.toNat) else isM m j := isM_setV hi
theorem vT_zero {bs : List Bk} {m : List Bool} {i : Nat} : vT bs m i 0 = m.set i (isM m i || srcB bs i) := by simp [vT]
theorem vT_done {bs : List Bk} {m : List Bool} {i t : Nat} (h : (preds bs i).length ≤ t) : vT bs m i t = vStep bs m i := by unfold vStep vT; rw [List.take_of_length_le h, List.take_length]
theorem vT_succ {bs : List Bk} {m : List Bool} {i t : Nat} {a : Int} (hi : i < m.length) (ha : (preds bs i)[t]? = some a) : (vT bs m i t).set i (isM (vT bs m i t) i || isM (vT bs m i t) a.toNat) = vT bs m i (t + 1) := by
  rw [vT_get hi, vT_get hi, if_pos rfl]
  have e : ((preds bs i).take (t + 1)).any (fun a => isM m a.toNat) = (((preds bs i).take t).any (fun a => isM m a.toNat) || isM m a.toNat) := by
    rw [List.take_add_one, ha, List.any_append]; simp
  unfold vT
  rw [e, List.set_set]
  congr 1
  by_cases h : i = a.toNat
  · subst h
    rw [if_pos rfl]
    cases isM m a.toNat <;> simp
  · rw [if_neg h]
    simp only [Bool.or_assoc]
theorem vT_true {bs : List Bk} {m : List Bool} {i t : Nat} {a : Int} (hi : i < m.length) (ha : (preds bs i)[t]? = some a) (h : isM (vT bs m i t) i = true) : vT bs m i t = vT bs m i (t + 1) := by
  rw [← vT_succ hi ha, h, Bool.true_or, ← h]
  refine (List.ext_getElem (by simp) fun k h1 h2 => ?_)
  rw [List.getElem_set]
  split
  · rename_i he
    subst he
    unfold isM
    rw [List.getElem?_eq_getElem h1]
    rfl
  · rfl
theorem vStep_mono {bs : List Bk} {m : List Bool} {i j : Nat} (hi : i < m.length) (h : isM m j = true) : isM (vStep bs m i) j = true := by
  unfold vStep
  rw [vT_get hi]
  split
  · rename_i e; subst e; rw [h]; simp
  · exact h
theorem vFold_mono {bs : List Bk} {m : List Bool} : ∀ {i j : Nat}, i ≤ m.length → isM m j = true → isM (vFold bs m i) j = true
  | 0, _, _, h => h
  | i + 1, j, hi, h => by
    rw [vFold_succ]
    exact vStep_mono (by rw [vFold_len]; omega) (vFold_mono (by omega) h)
theorem vFold_more {bs : List Bk} {m : List Bool} {i : Nat} : ∀ {k j : Nat}, i ≤ k → k ≤ m.length → isM (vFold bs m i) j = true → isM (vFold bs m k) j = true
  | 0, j, hk, _, h => by
    have : i = 0 := by omega
    subst this
    exact h
  | k + 1, j, hk, hl, h => by
    by_cases e : i = k + 1
    · subst e; exact h
    · rw [vFold_succ]
      exact vStep_mono (by rw [vFold_len]; omega) (vFold_more (by omega) (by omega) h)
theorem vFold_fix {bs : List Bk} {m : List Bool} {n : Nat} (hn : n ≤ m.length) (h : vFold bs m n = m) : ∀ i, i < n → vStep bs m i = m := by
  have key : ∀ i, i ≤ n → vFold bs m i = m := fun i hi => by
    refine marks_eq (vFold_len _ _ _) fun j _ => ⟨fun hj => ?_, fun hj => vFold_mono (by omega) hj⟩
    have := vFold_more (bs := bs) hi hn hj
    rw [h] at this
    exact this
  intro i hi
  have h1 := key (i + 1) (by omega)
  rw [vFold_succ, key i (by omega)] at h1
  exact h1
theorem unM_zero {m : List Bool} {j : Nat} (h : unM m = 0) (hj : j < m.length) : isM m j = true := by
  cases hm : isM m j with
  | true => rfl
  | false => have := unM_set hj hm; omega
theorem vary_fix (bs : List Bk) : vFold bs (varyM bs) bs.length = varyM bs := by
  have hl : ∀ k, (vPass bs (List.replicate bs.length false) k).length = bs.length := fun k => by rw [vPass_len]; simp
  have key : ∀ k, vFold bs (vPass bs (List.replicate bs.length false) k) bs.length = vPass bs (List.replicate bs.length false) k ∨ unM (vPass bs (List.replicate bs.length false) k) + k ≤ bs.length := by
    intro k
    induction k with
    | zero => right; have := unM_le (vPass bs (List.replicate bs.length false) 0); rw [hl 0] at this; omega
    | succ k ih =>
      by_cases hf : vFold bs (vPass bs (List.replicate bs.length false) k) bs.length = vPass bs (List.replicate bs.length false) k
      · left
        show vFold bs (vFold bs (vPass bs (List.replicate bs.length false) k) bs.length) bs.length = vFold bs (vPass bs (List.replicate bs.length false) k) bs.length
        rw [hf]; exact hf
      · rcases ih with ih | ih
        · exact absurd ih hf
        · right
          have := unM_lt (m := vPass bs (List.replicate bs.length false) k) (m' := vFold bs (vPass bs (List.replicate bs.length false) k) bs.length) (vFold_len _ _ _) (fun j hj => vFold_mono (by rw [hl]; exact Nat.le_refl _) hj) hf
          show unM (vFold bs (vPass bs (List.replicate bs.length false) k) bs.length) + (k + 1) ≤ bs.length
          omega
  rcases key bs.length with h | h
  · exact h
  · have h0 : unM (varyM bs) = 0 := by unfold varyM; omega
    refine marks_eq (vFold_len _ _ _) fun j hj => ⟨fun _ => unM_zero h0 (by rw [vFold_len] at hj; exact hj), fun h => vFold_mono (by unfold varyM; rw [hl]; exact Nat.le_refl _) h⟩
def VarP (bs : List Bk) (i : Nat) : Prop := ∃ t, Reach bs true i t ∧ srcB bs t = true
theorem vPass_from {bs : List Bk} : ∀ k j, isM (vPass bs (List.replicate bs.length false) k) j = true → VarP bs j := by
  have hstep : ∀ {m : List Bool} {i : Nat}, i < m.length → (∀ j, isM m j = true → VarP bs j) → ∀ j, isM (vStep bs m i) j = true → VarP bs j := by
    intro m i hi h j hj
    unfold vStep at hj
    rw [vT_get hi] at hj
    split at hj
    · rename_i e
      subst e
      simp only [Bool.or_eq_true, List.any_eq_true] at hj
      rcases hj with (hj | hj) | ⟨a, ha, hj⟩
      · exact h _ hj
      · exact ⟨i, Reach.refl _, hj⟩
      · obtain ⟨t, ht, hs⟩ := h _ hj
        have ha' : a ∈ succs bs true i := by rw [succs_true]; exact List.mem_of_mem_take ha
        exact ⟨t, (Reach.step (Reach.refl i) ha').trans ht, hs⟩
    · exact h _ hj
  have hfold : ∀ {m : List Bool}, (∀ j, isM m j = true → VarP bs j) → ∀ i, i ≤ m.length → ∀ j, isM (vFold bs m i) j = true → VarP bs j := by
    intro m h i
    induction i with
    | zero => intro _ j hj; exact h j hj
    | succ i ih =>
      intro hi j hj
      rw [vFold_succ] at hj
      exact hstep (by rw [vFold_len]; omega) (ih (by omega)) j hj
  intro k
  induction k with
  | zero => intro j hj; rw [show vPass bs (List.replicate bs.length false) 0 = List.replicate bs.length false from rfl, isM_rep] at hj; cases hj
  | succ k ih => exact hfold ih bs.length (by rw [vPass_len]; simp)
theorem preds_lt {bs : List Bk} {i : Nat} {a : Int} (h : a ∈ preds bs i) : i < bs.length := by
  rcases Nat.lt_or_ge i bs.length with h1 | h1
  · exact h1
  · have e : bs[i]?.getD bk0 = bk0 := by rw [List.getElem?_eq_none h1]; rfl
    unfold preds argsAt kindAt at h
    rw [e] at h
    simp [bk0] at h
theorem vary_is {bs : List Bk} {i : Nat} (hi : i < bs.length) (hok : SuccOk bs) : isM (varyM bs) i = true ↔ VarP bs i := by
  refine ⟨fun h => vPass_from _ _ h, fun ⟨t, ht, hs⟩ => ?_⟩
  have hl : (varyM bs).length = bs.length := by unfold varyM; rw [vPass_len]; simp
  have hfix := vFold_fix (bs := bs) (m := varyM bs) (n := bs.length) (by rw [hl]; exact Nat.le_refl _) (vary_fix bs)
  have hget : ∀ j, j < bs.length → isM (varyM bs) j = (isM (varyM bs) j || srcB bs j || (preds bs j).any fun a => isM (varyM bs) a.toNat) := fun j hj => by
    have h1 := vT_get (bs := bs) (m := varyM bs) (i := j) (t := (preds bs j).length) (j := j) (by rw [hl]; exact hj)
    rw [if_pos rfl, List.take_length] at h1
    have h2 : isM (vStep bs (varyM bs) j) j = isM (varyM bs) j := by rw [hfix j hj]
    exact h2.symm.trans h1
  have hback : ∀ {a b : Nat}, Reach bs true a b → a < bs.length → (b < bs.length ∧ (isM (varyM bs) b = true → isM (varyM bs) a = true)) := by
    intro a b hr
    induction hr with
    | refl => exact fun h => ⟨h, id⟩
    | step _ ha ih =>
      intro h
      obtain ⟨h1, h2⟩ := ih h
      rw [succs_true] at ha
      have hb := hok _ h1 _ ha
      refine ⟨by omega, fun h3 => h2 ?_⟩
      rw [hget _ h1]
      simp only [Bool.or_eq_true, List.any_eq_true]
      exact .inr ⟨_, ha, h3⟩
  obtain ⟨h1, h2⟩ := hback ht hi
  refine h2 ?_
  rw [hget _ h1, hs]
  simp
def markOv (bs : List Bk) (i : Nat) : List Bool := passes bs true bs.length (mark0 bs i)
theorem mark_isT {bs : List Bk} {i : Nat} {l' : List Bool} (hok : SuccOk bs) (hi : i < bs.length) (h : MarkPost bs true (List.replicate bs.length false) i l') : l' = markOv bs i := by
  have hl : (mark0 bs i).length = bs.length := by simp [mark0]
  refine marks_eq (by rw [h.len]; unfold markOv; rw [passes_len, hl]; simp) fun j _ => ?_
  show isM l' j = true ↔ isM (passes bs true bs.length (mark0 bs i)) j = true
  rw [h.reach (isM_rep _), passes_reach hok hl]
  constructor
  · intro hr
    exact ⟨i, by unfold mark0; rw [isM_set (by simpa using hi)]; simp, hr⟩
  · rintro ⟨s, hs, hr⟩
    unfold mark0 at hs
    rw [isM_set (by simpa using hi), isM_rep] at hs
    have e : i = s := by simpa using hs
    subst e
    exact hr
def variesB (bs : List Bk) (i : Nat) : Bool := (markL (markOv bs i)).any (srcB bs)
theorem markL_mem {m : List Bool} {j : Nat} : j ∈ markL m ↔ isM m j = true := by
  unfold markL
  simp only [List.mem_filter, List.mem_range]
  exact ⟨fun h => h.2, fun h => ⟨isM_lt h, h⟩⟩
theorem varies_is {bs : List Bk} {i : Nat} (hi : i < bs.length) (hok : SuccOk bs) : variesB bs i = isM (varyM bs) i := by
  have h1 : variesB bs i = true ↔ VarP bs i := by
    unfold variesB VarP
    rw [List.any_eq_true]
    have hr : ∀ j, isM (markOv bs i) j = true ↔ Reach bs true i j := fun j => by
      unfold markOv
      rw [passes_reach hok (by simp [mark0])]
      constructor
      · rintro ⟨s, hs, hr⟩
        unfold mark0 at hs
        rw [isM_set (by simpa using hi), isM_rep] at hs
        have e : i = s := by simpa using hs
        subst e
        exact hr
      · intro hr
        exact ⟨i, by unfold mark0; rw [isM_set (by simpa using hi)]; simp, hr⟩
    constructor
    · rintro ⟨t, ht, hs⟩
      exact ⟨t, (hr t).1 (markL_mem.1 ht), hs⟩
    · rintro ⟨t, ht, hs⟩
      exact ⟨t, markL_mem.2 ((hr t).2 ht), hs⟩
  have h2 := vary_is hi hok
  cases ha : variesB bs i <;> cases hb : isM (varyM bs) i <;> simp_all
/-- A block that makes a diagram not affine. -/
def nonAff (bs : List Bk) (i : Nat) : Bool := kindAt bs i == 8 || kindAt bs i == 9 || kindAt bs i == 10 || kindAt bs i == 11 || (kindAt bs i == 7 && (isM (varyM bs) ((argsAt bs i)[0]?.getD 0).toNat && isM (varyM bs) ((argsAt bs i)[1]?.getD 0).toNat))
def affB (bs : List Bk) : Bool := !((List.range bs.length).any (nonAff bs))
theorem affB_hit {bs : List Bk} {k : Nat} (hk : k < bs.length) (h : nonAff bs k = true) : affB bs = false := by
  unfold affB
  rw [Bool.not_eq_false', List.any_eq_true]
  exact ⟨k, by simpa using hk, h⟩
def NoAff (bs : List Bk) (k : Nat) : Prop := ∀ j, j < k → nonAff bs j = false
theorem NoAff.zero (bs : List Bk) : NoAff bs 0 := fun j h => absurd h (Nat.not_lt_zero j)
theorem NoAff.succ {bs : List Bk} {k : Nat} (h : NoAff bs k) (h2 : nonAff bs k = false) : NoAff bs (k + 1) := fun j hj => by
  by_cases e : j = k
  · subst e; exact h2
  · exact h j (by omega)
theorem affB_all {bs : List Bk} (h : NoAff bs bs.length) : affB bs = true := by
  unfold affB
  rw [Bool.not_eq_true', List.any_eq_false]
  intro j hj
  rw [h j (by simpa using hj)]
  decide
end Go.Proofs.YtaheedieingpiaaDoor
