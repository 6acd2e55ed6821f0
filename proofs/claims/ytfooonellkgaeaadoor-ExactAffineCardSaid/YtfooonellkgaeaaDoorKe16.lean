/- What the proofs of this claim share, part 16. No conditions. -/
import Derived.Test.YtfooonellkgaeaaDoorKe15
import Derived.Test.YtfooonellkgaeaaDoorKe10
import Derived.Deep.RegionHeld3
set_option linter.unusedVariables false
set_option linter.unusedSimpArgs false
set_option linter.unusedSectionVars false
namespace Go.Proofs.YtfooonellkgaeaaDoor
open Go.RowKit
def cStep (bs : List Bk) (m : List Bool) (i : Nat) : List Bool := m.set i (isM m i && (preds bs i).any fun a => isM m a.toNat)
def cFold (bs : List Bk) (m : List Bool) (i : Nat) : List Bool := (List.range i).foldl (cStep bs) m
def cPass (bs : List Bk) (m : List Bool) : Nat → List Bool
  | 0 => m
  | k + 1 => cFold bs (cPass bs m k) bs.length
def leftK (bs : List Bk) (k : Nat) : List Bool := (List.range bs.length).map fun j => decide (j < k) && notDel bs j
def leftM (bs : List Bk) : List Bool := cPass bs (leftK bs bs.length) bs.length
def OpenAt (bs : List Bk) (m : List Bool) (l : List Bk) : Prop := ∀ i x, l[i]? = some x → ∃ b, bs[i]? = some b ∧
  if isM m i = true then x.kind = 2 ∧ x.args = b.args.take 1 ∧ x.vn = 0 ∧ x.ve = 0 ∧ x.un = 0 ∧ x.ue = 0 else x.kind = b.kind ∧ x.args = b.args ∧ x.vn = b.vn ∧ x.ve = b.ve ∧ x.un = b.un ∧ x.ue = b.ue
def anyK (m : List Bool) (k : Nat) : Bool := (List.range k).any (isM m)
def anyT (m : List Bool) (xs : List Int) (t : Nat) : Bool := (xs.take t).any fun a => isM m a.toNat
end Go.Proofs.YtfooonellkgaeaaDoor
namespace Go.Proofs.YtfooonellkgaeaaDoor
open Go.RowKit
theorem isM_setV {m : List Bool} {i j : Nat} {b : Bool} (hi : i < m.length) : isM (m.set i b) j = if i = j then b else isM m j := by
  unfold isM
  rw [List.getElem?_set]
  by_cases h : i = j
  · subst h; simp [hi]
  · simp [h]
theorem succs_true (bs : List Bk) (i : Nat) : succs bs true i = preds bs i := by simp [succs]
def srcB (bs : List Bk) (i : Nat) : Bool := kindAt bs i == 0 || kindAt bs i == 2
def vT (bs : List Bk) (m : List Bool) (i t : Nat) : List Bool := m.set i (isM m i || srcB bs i || ((preds bs i).take t).any fun a => isM m a.toNat)
def vStep (bs : List Bk) (m : List Bool) (i : Nat) : List Bool := vT bs m i (preds bs i).length
def vFold (bs : List Bk) (m : List Bool) (i : Nat) : List Bool := (List.range i).foldl (vStep bs) m
def vPass (bs : List Bk) (m : List Bool) : Nat → List Bool
  | 0 => m
  | k + 1 => vFold bs (vPass bs m k) bs.length
def varyM (bs : List Bk) : List Bool := vPass bs (List.replicate bs.length false) bs.length
theorem vT_len (bs : List Bk) (m : List Bool) (i t : Nat) : (vT bs m i t).length = m.length := by simp [vT]
theorem vStep_len (bs : List Bk) (m : List Bool) (i : Nat) : (vStep bs m i).length = m.length := vT_len _ _ _ _
theorem vFold_succ (bs : List Bk) (m : List Bool) (i : Nat) : vFold bs m (i + 1) = vStep bs (vFold bs m i) i := by unfold vFold; rw [List.range_succ, List.foldl_append]; rfl
theorem vFold_len (bs : List Bk) (m : List Bool) : ∀ i, (vFold bs m i).length = m.length
  | 0 => rfl
  | i + 1 => by rw [vFold_succ]; exact (vStep_len _ _ _).trans (vFold_len bs m i)
theorem vPass_len (bs : List Bk) (m : List Bool) : ∀ k, (vPass bs m k).length = m.length
  | 0 => rfl
  | k + 1 => (vFold_len _ _ _).trans (vPass_len bs m k)
theorem vT_get {bs : List Bk} {m : List Bool} {i t j : Nat} (hi : i < m.length) : isM (vT bs m i t) j = if i = j then (isM m i || srcB bs i || ((preds bs i).take t).any fun a => isM m a.toNat) else isM m j := isM_setV hi
theorem vStep_mono {bs : List Bk} {m : List Bool} {i j : Nat} (hi : i < m.length) (h : isM m j = true) : isM (vStep bs m i) j = true := by
  unfold vStep
  rw [vT_get hi]
  split
  · rename_i e; subst e; rw [h]; simp
  · exact h
theorem vFold_mono {bs : List Bk} {m : List Bool} : ∀ {i j : Nat}, i ≤ m.length → isM m j = true → isM (vFold bs m i) j = true
  | 0, _, _, h => h
  | i + 1, j, hi, h => by
    rw [vFold_succ]
    exact vStep_mono (by rw [vFold_len]; omega) (vFold_mono (by omega) h)
theorem vFold_more {bs : List Bk} {m : List Bool} {i : Nat} : ∀ {k j : Nat}, i ≤ k → k ≤ m.length → isM (vFold bs m i) j = true → isM (vFold bs m k) j = true
  | 0, j, hk, _, h => by
    have : i = 0 := by omega
    subst this
    exact h
  | k + 1, j, hk, hl, h => by
    by_cases e : i = k + 1
    · subst e; exact h
    · rw [vFold_succ]
      exact vStep_mono (by rw [vFold_len]; omega) (vFold_more (by omega) (by omega) h)
theorem vFold_fix {bs : List Bk} {m : List Bool} {n : Nat} (hn : n ≤ m.length) (h : vFold bs m n = m) : ∀ i, i < n → vStep bs m i = m := by
  have key : ∀ i, i ≤ n → vFold bs m i = m := fun i hi => by
    refine marks_eq (vFold_len _ _ _) fun j _ => ⟨fun hj => ?_, fun hj => vFold_mono (by omega) hj⟩
    have := vFold_more (bs := bs) hi hn hj
    rw [h] at this
    exact this
  intro i hi
  have h1 := key (i + 1) (by omega)
  rw [vFold_succ, key i (by omega)] at h1
  exact h1
theorem unM_zero {m : List Bool} {j : Nat} (h : unM m = 0) (hj : j < m.length) : isM m j = true := by
  cases hm : isM m j with
  | true => rfl
  | false => have := unM_set hj hm; omega
theorem vary_fix (bs : List Bk) : vFold bs (varyM bs) bs.length = varyM bs := by
  have hl : ∀ k, (vPass bs (List.replicate bs.length false) k).length = bs.length := fun k => by rw [vPass_len]; simp
  have key : ∀ k, vFold bs (vPass bs (List.replicate bs.length false) k) bs.length = vPass bs (List.replicate bs.length false) k ∨ unM (vPass bs (List.replicate bs.length false) k) + k ≤ bs.length := by
    intro k
    induction k with
    | zero => right; have := unM_le (vPass bs (List.replicate bs.length false) 0); rw [hl 0] at this; omega
    | succ k ih =>
      by_cases hf : vFold bs (vPass bs (List.replicate bs.length false) k) bs.length = vPass bs (List.replicate bs.length false) k
      · left
        show vFold bs (vFold bs (vPass bs (List.replicate bs.length false) k) bs.length) bs.length = vFold bs (vPass bs (List.replicate bs.length false) k) bs.length
        rw [hf]; exact hf
      · rcases ih with ih | ih
        · exact absurd ih hf
        · right
          have := unM_lt (m := vPass bs (List.replicate bs.length false) k) (m' := vFold bs (vPass bs (List.replicate bs.length false) k) bs.length) (vFold_len _ _ _) (fun j hj => vFold_mono (by rw [hl]; exact Nat.le_refl _) hj) hf
          show unM (vFold bs (vPass bs (List.replicate bs.length false) k) bs.length) + (k + 1) ≤ bs.length
          omega
  rcases key bs.length with h | h
  · exact h
  · have h0 : unM (varyM bs) = 0 := by unfold varyM; omega
    refine marks_eq (vFold_len _ _ _) fun j hj => ⟨fun _ => unM_zero h0 (by rw [vFold_len] at hj; exact hj), fun h => vFold_mono (by unfold varyM; rw [hl]; exact Nat.le_refl _) h⟩
def VarP (bs : List Bk) (i : Nat) : Prop := ∃ t, Reach bs true i t ∧ srcB bs t = true
theorem vPass_from {bs : List Bk} : ∀ k j, isM (vPass bs (List.replicate bs.length false) k) j = true → VarP bs j := by
  have hstep : ∀ {m : List Bool} {i : Nat}, i < m.length → (∀ j, isM m j = true → VarP bs j) → ∀ j, isM (vStep bs m i) j = true → VarP bs j := by
    intro m i hi h j hj
    unfold vStep at hj
    rw [vT_get hi] at hj
    split at hj
    · rename_i e
      subst e
      simp only [Bool.or_eq_true, List.any_eq_true] at hj
      rcases hj with (hj | hj) | ⟨a, ha, hj⟩
      · exact h _ hj
      · exact ⟨i, Reach.refl _, hj⟩
      · obtain ⟨t, ht, hs⟩ := h _ hj
        have ha' : a ∈ succs bs true i := by rw [succs_true]; exact List.mem_of_mem_take ha
        exact ⟨t, (Reach.step (Reach.refl i) ha').trans ht, hs⟩
    · exact h _ hj
  have hfold : ∀ {m : List Bool}, (∀ j, isM m j = true → VarP bs j) → ∀ i, i ≤ m.length → ∀ j, isM (vFold bs m i) j = true → VarP bs j := by
    intro m h i
    induction i with
    | zero => intro _ j hj; exact h j hj
    | succ i ih =>
      intro hi j hj
      rw [vFold_succ] at hj
      exact hstep (by rw [vFold_len]; omega) (ih (by omega)) j hj
  intro k
  induction k with
  | zero => intro j hj; rw [show vPass bs (List.replicate bs.length false) 0 = List.replicate bs.length false from rfl, isM_rep] at hj; cases hj
  | succ k ih => exact hfold ih bs.length (by rw [vPass_len]; simp)
theorem vary_is {bs : List Bk} {i : Nat} (hi : i < bs.length) (hok : SuccOk bs) : isM (varyM bs) i = true ↔ VarP bs i := by
  refine ⟨fun h => vPass_from _ _ h, fun ⟨t, ht, hs⟩ => ?_⟩
  have hl : (varyM bs).length = bs.length := by unfold varyM; rw [vPass_len]; simp
  have hfix := vFold_fix (bs := bs) (m := varyM bs) (n := bs.length) (by rw [hl]; exact Nat.le_refl _) (vary_fix bs)
  have hget : ∀ j, j < bs.length → isM (varyM bs) j = (isM (varyM bs) j || srcB bs j || (preds bs j).any fun a => isM (varyM bs) a.toNat) := fun j hj => by
    have h1 := vT_get (bs := bs) (m := varyM bs) (i := j) (t := (preds bs j).length) (j := j) (by rw [hl]; exact hj)
    rw [if_pos rfl, List.take_length] at h1
    have h2 : isM (vStep bs (varyM bs) j) j = isM (varyM bs) j := by rw [hfix j hj]
    exact h2.symm.trans h1
  have hback : ∀ {a b : Nat}, Reach bs true a b → a < bs.length → (b < bs.length ∧ (isM (varyM bs) b = true → isM (varyM bs) a = true)) := by
    intro a b hr
    induction hr with
    | refl => exact fun h => ⟨h, id⟩
    | step _ ha ih =>
      intro h
      obtain ⟨h1, h2⟩ := ih h
      rw [succs_true] at ha
      have hb := hok _ h1 _ ha
      refine ⟨by omega, fun h3 => h2 ?_⟩
      rw [hget _ h1]
      simp only [Bool.or_eq_true, List.any_eq_true]
      exact .inr ⟨_, ha, h3⟩
  obtain ⟨h1, h2⟩ := hback ht hi
  refine h2 ?_
  rw [hget _ h1, hs]
  simp
def markOv (bs : List Bk) (i : Nat) : List Bool := passes bs true bs.length (mark0 bs i)
theorem mark_isT {bs : List Bk} {i : Nat} {l' : List Bool} (hok : SuccOk bs) (hi : i < bs.length) (h : MarkPost bs true (List.replicate bs.length false) i l') : l' = markOv bs i := by
  have hl : (mark0 bs i).length = bs.length := by simp [mark0]
  refine marks_eq (by rw [h.len]; unfold markOv; rw [passes_len, hl]; simp) fun j _ => ?_
  show isM l' j = true ↔ isM (passes bs true bs.length (mark0 bs i)) j = true
  rw [h.reach (isM_rep _), passes_reach hok hl]
  constructor
  · intro hr
    exact ⟨i, by unfold mark0; rw [isM_set (by simpa using hi)]; simp, hr⟩
  · rintro ⟨s, hs, hr⟩
    unfold mark0 at hs
    rw [isM_set (by simpa using hi), isM_rep] at hs
    have e : i = s := by simpa using hs
    subst e
    exact hr
def variesB (bs : List Bk) (i : Nat) : Bool := (markL (markOv bs i)).any (srcB bs)
theorem markL_mem {m : List Bool} {j : Nat} : j ∈ markL m ↔ isM m j = true := by
  unfold markL
  simp only [List.mem_filter, List.mem_range]
  exact ⟨fun h => h.2, fun h => ⟨isM_lt h, h⟩⟩
theorem varies_is {bs : List Bk} {i : Nat} (hi : i < bs.length) (hok : SuccOk bs) : variesB bs i = isM (varyM bs) i := by
  have h1 : variesB bs i = true ↔ VarP bs i := by
    unfold variesB VarP
    rw [List.any_eq_true]
    have hr : ∀ j, isM (markOv bs i) j = true ↔ Reach bs true i j := fun j => by
      unfold markOv
      rw [passes_reach hok (by simp [mark0])]
      constructor
      · rintro ⟨s, hs, hr⟩
        unfold mark0 at hs
        rw [isM_set (by simpa using hi), isM_rep] at hs
        have e : i = s := by simpa using hs
        subst e
        exact hr
      · intro hr
        exact ⟨i, by unfold mark0; rw [isM_set (by simpa using hi)]; simp, hr⟩
    constructor
    · rintro ⟨t, ht, hs⟩
      exact ⟨t, (hr t).1 (markL_mem.1 ht), hs⟩
    · rintro ⟨t, ht, hs⟩
      exact ⟨t, markL_mem.2 ((hr t).2 ht), hs⟩
  have h2 := vary_is hi hok
  cases ha : variesB bs i <;> cases hb : isM (varyM bs) i <;> simp_all
def nonAff (bs : List Bk) (i : Nat) : Bool := kindAt bs i == 8 || kindAt bs i == 9 || kindAt bs i == 10 || kindAt bs i == 11 || (kindAt bs i == 7 && (isM (varyM bs) ((argsAt bs i)[0]?.getD 0).toNat && isM (varyM bs) ((argsAt bs i)[1]?.getD 0).toNat))
def affB (bs : List Bk) : Bool := !((List.range bs.length).any (nonAff bs))
theorem affB_hit {bs : List Bk} {k : Nat} (hk : k < bs.length) (h : nonAff bs k = true) : affB bs = false := by
  unfold affB
  rw [Bool.not_eq_false', List.any_eq_true]
  exact ⟨k, by simpa using hk, h⟩
def NoAff (bs : List Bk) (k : Nat) : Prop := ∀ j, j < k → nonAff bs j = false
theorem NoAff.zero (bs : List Bk) : NoAff bs 0 := fun j h => absurd h (Nat.not_lt_zero j)
theorem NoAff.succ {bs : List Bk} {k : Nat} (h : NoAff bs k) (h2 : nonAff bs k = false) : NoAff bs (k + 1) := fun j hj => by
  by_cases e : j = k
  · subst e; exact h2
  · exact h j (by omega)
theorem affB_all {bs : List Bk} (h : NoAff bs bs.length) : affB bs = true := by
  unfold affB
  rw [Bool.not_eq_true', List.any_eq_false]
  intro j hj
  rw [h j (by simpa using hj)]
  decide
end Go.Proofs.YtfooonellkgaeaaDoor
namespace Go.Proofs.YtfooonellkgaeaaDoor
open Go.RowKit
abbrev Pq := Int × Nat
def Lin4 (s n a b : Pq) : Prop := gv s + gv n = gv a + gv b
def Con4 (s n a b : Pq) : Prop := s = a ∧ n = a ∧ b = a
theorem mul_lin {c s n a b : Pq} (hc : Sm c LB LB) (hs : Sm s LB LB) (hn : Sm n LB LB) (ha : Sm a LB LB) (hb : Sm b LB LB) (h : Lin4 s n a b) : Lin4 (dyMul c.1 c.2 s.1 s.2) (dyMul c.1 c.2 n.1 n.2) (dyMul c.1 c.2 a.1 a.2) (dyMul c.1 c.2 b.1 b.2) := by
  have m : ∀ {p : Pq}, Sm p LB LB → gv (dyMul c.1 c.2 p.1 p.2) * 2 ^ GQ = gv c * gv p := fun {p} hp => gv_mul (Nat.le_trans (Nat.add_le_add hc.d hp.d) (by decide))
  have e1 := m hs
  have e2 := m hn
  have e3 := m ha
  have e4 := m hb
  unfold Lin4 at h ⊢
  refine Int.eq_of_mul_eq_mul_right (Int.ne_of_gt (two_pos GQ)) ?_
  rw [Int.add_mul, Int.add_mul, e1, e2, e3, e4, ← Int.mul_add, ← Int.mul_add, h]
theorem mul_lin2 {c s n a b : Pq} (hc : Sm c LB LB) (hs : Sm s LB LB) (hn : Sm n LB LB) (ha : Sm a LB LB) (hb : Sm b LB LB) (h : Lin4 s n a b) : Lin4 (dyMul s.1 s.2 c.1 c.2) (dyMul n.1 n.2 c.1 c.2) (dyMul a.1 a.2 c.1 c.2) (dyMul b.1 b.2 c.1 c.2) := by
  have m : ∀ {p : Pq}, Sm p LB LB → gv (dyMul p.1 p.2 c.1 c.2) * 2 ^ GQ = gv p * gv c := fun {p} hp => gv_mul (Nat.le_trans (Nat.add_le_add hp.d hc.d) (by decide))
  have e1 := m hs
  have e2 := m hn
  have e3 := m ha
  have e4 := m hb
  unfold Lin4 at h ⊢
  refine Int.eq_of_mul_eq_mul_right (Int.ne_of_gt (two_pos GQ)) ?_
  rw [Int.add_mul, Int.add_mul, e1, e2, e3, e4, ← Int.add_mul, ← Int.add_mul, h]
theorem sum_lin {s n a b s' n' a' b' : Pq} (hs : Sm s LB LB) (hn : Sm n LB LB) (ha : Sm a LB LB) (hb : Sm b LB LB) (hs' : Sm s' LB LB) (hn' : Sm n' LB LB) (ha' : Sm a' LB LB) (hb' : Sm b' LB LB) (h : Lin4 s n a b) (h' : Lin4 s' n' a' b') : Lin4 (dySum s.1 s.2 s'.1 s'.2) (dySum n.1 n.2 n'.1 n'.2) (dySum a.1 a.2 a'.1 a'.2) (dySum b.1 b.2 b'.1 b'.2) := by
  unfold Lin4 at h h' ⊢
  rw [gv_sum hs.ok.le hs'.ok.le, gv_sum hn.ok.le hn'.ok.le, gv_sum ha.ok.le ha'.ok.le, gv_sum hb.ok.le hb'.ok.le]
  omega
theorem neg_lin {s n a b : Pq} (h : Lin4 s n a b) : Lin4 (-s.1, s.2) (-n.1, n.2) (-a.1, a.2) (-b.1, b.2) := by
  unfold Lin4 at h ⊢
  rw [gv_neg, gv_neg, gv_neg, gv_neg]
  omega
theorem sc_lbq {n e : Int} (h : scOk n e) : Sm (dyShift n 0 e) LB LB := by
  obtain ⟨h1, h2, h3, h4⟩ := h
  exact (Sm.shift (n := 32) (by omega) (by omega) (by omega)).more (by decide) (by decide)
theorem blk_lin {y : Bk} {lS lN lA lB : List Pq} (hS : ∀ p ∈ lS, Sm p LB LB) (hN : ∀ p ∈ lN, Sm p LB LB) (hA : ∀ p ∈ lA, Sm p LB LB) (hB : ∀ p ∈ lB, Sm p LB LB) (hv : (y.kind = 1 ∨ y.kind = 6) → scOk y.vn y.ve) (hk : y.kind = 1 ∨ y.kind = 3 ∨ y.kind = 4 ∨ y.kind = 5 ∨ y.kind = 6 ∨ y.kind = 7)
    (h0 : Lin4 (lS[0]?.getD (0, 0)) (lN[0]?.getD (0, 0)) (lA[0]?.getD (0, 0)) (lB[0]?.getD (0, 0))) (h1 : Lin4 (lS[1]?.getD (0, 0)) (lN[1]?.getD (0, 0)) (lA[1]?.getD (0, 0)) (lB[1]?.getD (0, 0)))
    (h7 : y.kind = 7 → Con4 (lS[0]?.getD (0, 0)) (lN[0]?.getD (0, 0)) (lA[0]?.getD (0, 0)) (lB[0]?.getD (0, 0)) ∨ Con4 (lS[1]?.getD (0, 0)) (lN[1]?.getD (0, 0)) (lA[1]?.getD (0, 0)) (lB[1]?.getD (0, 0))) : Lin4 (blkD y lS) (blkD y lN) (blkD y lA) (blkD y lB) := by
  have s0 := getD_sm hS 0
  have s1 := getD_sm hS 1
  have n0 := getD_sm hN 0
  have n1 := getD_sm hN 1
  have a0 := getD_sm hA 0
  have a1 := getD_sm hA 1
  have b0 := getD_sm hB 0
  have b1 := getD_sm hB 1
  unfold blkD
  generalize lS[0]?.getD (0, 0) = s at *
  generalize lS[1]?.getD (0, 0) = s' at *
  generalize lN[0]?.getD (0, 0) = n at *
  generalize lN[1]?.getD (0, 0) = n' at *
  generalize lA[0]?.getD (0, 0) = a at *
  generalize lA[1]?.getD (0, 0) = a' at *
  generalize lB[0]?.getD (0, 0) = b at *
  generalize lB[1]?.getD (0, 0) = b' at *
  rcases hk with h | h | h | h | h | h <;> simp only [h, Int.reduceEq, if_true, if_false, reduceIte]
  · rfl
  · exact sum_lin s0 n0 a0 b0 s1 n1 a1 b1 h0 h1
  · exact sum_lin s0 n0 a0 b0 s1.neg n1.neg a1.neg b1.neg h0 (neg_lin h1)
  · exact neg_lin h0
  · exact mul_lin (sc_lbq (hv (.inr h))) s0 n0 a0 b0 h0
  · rcases h7 h with ⟨rfl, rfl, rfl⟩ | ⟨rfl, rfl, rfl⟩
    · exact mul_lin a0 s1 n1 a1 b1 h1
    · exact mul_lin2 a1 s0 n0 a0 b0 h0
theorem vary_src {bs : List Bk} {i : Nat} (hi : i < bs.length) (hok : SuccOk bs) (h : isM (varyM bs) i = false) : kindAt bs i ≠ 0 ∧ kindAt bs i ≠ 2 := by
  have hn : ¬ VarP bs i := fun hv => by rw [(vary_is hi hok).2 hv] at h; cases h
  constructor
  · intro hk
    exact hn ⟨i, .refl _, by unfold srcB; rw [hk]; rfl⟩
  · intro hk
    exact hn ⟨i, .refl _, by unfold srcB; rw [hk]; rfl⟩
theorem vary_arg {bs : List Bk} {i : Nat} (hi : i < bs.length) (hok : SuccOk bs) (h : isM (varyM bs) i = false) {a : Int} (ha : a ∈ preds bs i) : isM (varyM bs) a.toNat = false := by
  cases hv : isM (varyM bs) a.toNat with
  | false => rfl
  | true =>
    have hb := hok i hi a ha
    obtain ⟨t, ht, hs⟩ := (vary_is (by omega) hok).1 hv
    rw [(vary_is hi hok).2 ⟨t, (Reach.step (.refl i) (by rw [succs_true]; exact ha)).trans ht, hs⟩] at h
    cases h
section
variable {ps : List Prt} {bs : List Bk} {os : List Int} {sS sN sA sB : List Pq} {iS iN iA iB : List Int}
theorem aff_kind {i : Nat} (haff : affB bs = true) (hi : i < bs.length) : nonAff bs i = false := by
  cases h : nonAff bs i with
  | false => rfl
  | true => rw [affB_hit hi h] at haff; cases haff
theorem in_lin {f zS zN zA zB : Int} (f0 : 0 ≤ f) (f1 : f ≤ 30) (h : zS + zN = zA + zB) : Lin4 (dyShift zS 0 (-f)) (dyShift zN 0 (-f)) (dyShift zA 0 (-f)) (dyShift zB 0 (-f)) := by
  have e : ∀ z : Int, gv (dyShift z 0 (-f)) * 2 ^ f.toNat = z * 2 ^ GQ := fun z => by
    have := gv_shiftD (p := (z, 0)) (n := f.toNat) (by show 0 + f.toNat ≤ 65536; omega) (by omega)
    rwa [show (-(f.toNat : Int)) = -f by omega, gv_int] at this
  unfold Lin4
  refine Int.eq_of_mul_eq_mul_right (Int.ne_of_gt (two_pos f.toNat)) ?_
  rw [Int.add_mul, Int.add_mul, e, e, e, e, ← Int.add_mul, ← Int.add_mul, h]
theorem lin_tick (he : dgErr ps bs os = 0) (hok : SuccOk bs) (haff : affB bs = true) (hS : StOk bs sS) (hN : StOk bs sN) (hA : StOk bs sA) (hB : StOk bs sB) (tS : tickE ps bs sS iS = 0) (tN : tickE ps bs sN iN = 0) (tA : tickE ps bs sA iA = 0) (tB : tickE ps bs sB iB = 0)
    (hst : ∀ k, k < (delL bs).length → Lin4 (sS[k]?.getD (0, 0)) (sN[k]?.getD (0, 0)) (sA[k]?.getD (0, 0)) (sB[k]?.getD (0, 0))) (hin : ∀ k : Nat, k < ps.length → iS[k]?.getD 0 + iN[k]?.getD 0 = iA[k]?.getD 0 + iB[k]?.getD 0) :
    ∀ t, t ≤ (ordM bs).length → ∀ i, stdS bs t i → i < bs.length → Lin4 ((valE ps bs sS iS)[i]?.getD (0, 0)) ((valE ps bs sN iN)[i]?.getD (0, 0)) ((valE ps bs sA iA)[i]?.getD (0, 0)) ((valE ps bs sB iB)[i]?.getD (0, 0)) ∧ (isM (varyM bs) i = false → Con4 ((valE ps bs sS iS)[i]?.getD (0, 0)) ((valE ps bs sN iN)[i]?.getD (0, 0)) ((valE ps bs sA iA)[i]?.getD (0, 0)) ((valE ps bs sB iB)[i]?.getD (0, 0))) := fun t => by
  have mS := val_sm he hS.len hS.nf tS
  have mN := val_sm he hN.len hN.nf tN
  have mA := val_sm he hA.len hA.nf tA
  have mB := val_sm he hB.len hB.nf tB
  induction t with
  | zero =>
    intro _ i hi hil
    rcases hi with ⟨_, hk⟩ | h1
    · obtain ⟨k, hd⟩ : ∃ k, (delL bs)[k]? = some i := List.mem_iff_getElem?.1 (by unfold delL; rw [List.mem_filter, List.mem_range, hk]; exact ⟨hil, rfl⟩)
      have hkl := (List.getElem?_eq_some_iff.1 hd).1
      rw [val_delay hS.len hd, val_delay hN.len hd, val_delay hA.len hd, val_delay hB.len hd]
      exact ⟨hst k hkl, fun hv => absurd hk (vary_src hil hok hv).2⟩
    · simp at h1
  | succ t ih =>
    intro ht i hi hil
    obtain ⟨j, hj⟩ : ∃ j, (ordM bs)[t]? = some j := ⟨_, List.getElem?_eq_getElem ht⟩
    have hold : stdS bs t i ∨ i = j := by
      rcases hi with h1 | h1
      · exact .inl (.inl h1)
      · rw [List.take_add_one, hj] at h1
        rcases List.mem_append.1 h1 with h1 | h1
        · exact .inl (.inr h1)
        · exact .inr (by simpa using h1)
    rcases hold with h | rfl
    · exact ih (by omega) i h hil
    obtain ⟨y, hy⟩ : ∃ y, bs[i]? = some y := ⟨_, List.getElem?_eq_getElem hil⟩
    have hk2 := (ord_at hj).2
    rw [kind_at hy] at hk2
    have hna := aff_kind haff hil
    unfold nonAff at hna
    rw [kind_at hy] at hna
    simp only [Bool.or_eq_false_iff, beq_eq_false_iff_ne] at hna
    rw [val_block he hS.len hS.nf tS hy hk2, val_block he hN.len hN.nf tN hy hk2, val_block he hA.len hA.nf tA hy hk2, val_block he hB.len hB.nf tB hy hk2]
    simp only [Option.getD_some]
    have hK := acc_kind he hy
    have hAr := acc_args he hy
    by_cases h0 : y.kind = 0
    · refine ⟨?_, fun hv => absurd h0 (by rw [← kind_at hy]; exact (vary_src hil hok hv).1)⟩
      unfold tickV
      rw [if_pos h0, if_pos h0, if_pos h0, if_pos h0]
      have h1 := hAr.2.1
      rw [h0] at h1
      have hl1 : y.args.length = 1 := by unfold arityM at h1; (repeat' split at h1) <;> omega
      obtain ⟨a, ha⟩ : ∃ a, y.args[0]? = some a := ⟨_, List.getElem?_eq_getElem (by omega)⟩
      have hb := hAr.2.2 a (List.mem_of_getElem? ha)
      rw [show mostM ps.length bs.length y.kind = ps.length from if_pos h0] at hb
      obtain ⟨p, hp⟩ : ∃ p, ps[a.toNat]? = some p := ⟨_, List.getElem?_eq_getElem (by omega)⟩
      have hpp := acc_port he hp
      have h3 : -2147483648 ≤ p.lo ∧ p.lo ≤ p.hi ∧ p.hi < 2147483648 ∧ 0 ≤ p.fr ∧ p.fr ≤ 30 := Classical.byContradiction fun hn => by unfold portE at hpp; rw [if_neg hn] at hpp; cases hpp
      rw [ha]
      simp only [Option.getD_some, hp, Option.map_some]
      exact in_lin h3.2.2.2.1 h3.2.2.2.2 (hin a.toNat (by omega))
    · have hmo : mostM ps.length bs.length y.kind = bs.length := if_neg h0
      rw [hmo] at hAr
      unfold tickV
      rw [if_neg h0, if_neg h0, if_neg h0, if_neg h0]
      have hargs : ∀ a ∈ y.args, a.toNat < bs.length ∧ stdS bs t a.toNat := fun a ha => by
        have hb := hAr.2.2 a ha
        have hsplit : ordM bs = (ordM bs).take t ++ i :: (ordM bs).drop (t + 1) := by
          obtain ⟨hlt, he⟩ := List.getElem?_eq_some_iff.1 hj
          rw [← he, ← List.drop_eq_getElem_cons hlt, List.take_append_drop]
        exact ⟨by omega, (ord_done hsplit (a := a) (by rw [preds_at hy h0]; exact ha)).imp (fun q => ⟨by omega, q⟩) id⟩
      have sm : ∀ {V : List Pq}, (∀ p ∈ V, Sm p LB LB) → ∀ p ∈ argsE V y, Sm p LB LB := fun {V} hV p hp => by
        unfold argsE at hp
        rw [if_neg h0] at hp
        obtain ⟨a, _, rfl⟩ := List.mem_map.1 hp
        exact getD_sm hV _
      have at_ : ∀ (V : List Pq) (k : Nat), (argsE V y)[k]?.getD (0, 0) = match y.args[k]? with | some a => V[a.toNat]?.getD (0, 0) | none => (0, 0) := fun V k => by
        unfold argsE
        rw [if_neg h0, List.getElem?_map]
        cases y.args[k]? <;> rfl
      have L : ∀ k : Nat, Lin4 ((argsE (valE ps bs sS iS) y)[k]?.getD (0, 0)) ((argsE (valE ps bs sN iN) y)[k]?.getD (0, 0)) ((argsE (valE ps bs sA iA) y)[k]?.getD (0, 0)) ((argsE (valE ps bs sB iB) y)[k]?.getD (0, 0)) := fun k => by
        rw [at_, at_, at_, at_]
        cases ha : y.args[k]? with
        | none => exact rfl
        | some a =>
          obtain ⟨q1, q2⟩ := hargs a (List.mem_of_getElem? ha)
          exact (ih (by omega) a.toNat q2 q1).1
      have Cn : ∀ (k : Nat) (a : Int), y.args[k]? = some a → isM (varyM bs) a.toNat = false → Con4 ((argsE (valE ps bs sS iS) y)[k]?.getD (0, 0)) ((argsE (valE ps bs sN iN) y)[k]?.getD (0, 0)) ((argsE (valE ps bs sA iA) y)[k]?.getD (0, 0)) ((argsE (valE ps bs sB iB) y)[k]?.getD (0, 0)) := fun k a ha hv => by
        rw [at_, at_, at_, at_, ha]
        obtain ⟨q1, q2⟩ := hargs a (List.mem_of_getElem? ha)
        exact (ih (by omega) a.toNat q2 q1).2 hv
      have hvk : (y.kind = 1 ∨ y.kind = 6) → scOk y.vn y.ve := fun h => acc_sc he hy (by unfold valU; rcases h with h | h <;> rw [h] <;> rfl)
      constructor
      · refine blk_lin (sm mS) (sm mN) (sm mA) (sm mB) hvk (by clear L Cn at_ sm hargs; omega) (L 0) (L 1) fun h7 => ?_
        have h1 := hAr.2.1
        rw [h7] at h1
        have hl2 : y.args.length = 2 := by unfold arityM at h1; (repeat' split at h1) <;> omega
        obtain ⟨a, ha⟩ : ∃ a, y.args[0]? = some a := ⟨_, List.getElem?_eq_getElem (by omega)⟩
        obtain ⟨b, hb⟩ : ∃ b, y.args[1]? = some b := ⟨_, List.getElem?_eq_getElem (by omega)⟩
        have hm := hna.2
        rw [show argsAt bs i = y.args by unfold argsAt; rw [hy]; rfl, ha, hb] at hm
        simp only [Option.getD_some, h7, beq_self_eq_true, Bool.true_and, Bool.and_eq_false_iff] at hm
        rcases hm with hm | hm
        · exact .inl (Cn 0 a ha hm)
        · exact .inr (Cn 1 b hb hm)
      · intro hv
        have E : ∀ k : Nat, Con4 ((argsE (valE ps bs sS iS) y)[k]?.getD (0, 0)) ((argsE (valE ps bs sN iN) y)[k]?.getD (0, 0)) ((argsE (valE ps bs sA iA) y)[k]?.getD (0, 0)) ((argsE (valE ps bs sB iB) y)[k]?.getD (0, 0)) := fun k => by
          cases ha : y.args[k]? with
          | none => rw [at_, at_, at_, at_, ha]; exact ⟨rfl, rfl, rfl⟩
          | some a => exact Cn k a ha (vary_arg hil hok hv (by rw [preds_at hy h0]; exact List.mem_of_getElem? ha))
        unfold blkD
        obtain ⟨e1, e2, e3⟩ := E 0
        obtain ⟨f1, f2, f3⟩ := E 1
        rw [e1, e2, e3, f1, f2, f3]
        exact ⟨rfl, rfl, rfl⟩
theorem std_all (he : dgErr ps bs os = 0) {i : Nat} (hi : i < bs.length) : stdS bs (ordM bs).length i := by
  by_cases hk : kindAt bs i = 2
  · exact .inl ⟨hi, hk⟩
  · refine .inr ?_
    rw [List.take_length]
    exact ord_all (pre_of he).2.2 hi hk
theorem lin_run (he : dgErr ps bs os = 0) (hok : SuccOk bs) (haff : affB bs = true) : ∀ {lS lN lA lB : List (List Int)} {sS sN sA sB : List Pq}, lN.length = lS.length → lA.length = lS.length → lB.length = lS.length → StOk bs sS → StOk bs sN → StOk bs sA → StOk bs sB →
    AllT ps bs sS lS → AllT ps bs sN lN → AllT ps bs sA lA → AllT ps bs sB lB → (∀ k, k < (delL bs).length → Lin4 (sS[k]?.getD (0, 0)) (sN[k]?.getD (0, 0)) (sA[k]?.getD (0, 0)) (sB[k]?.getD (0, 0))) →
    (∀ (r k : Nat), k < ps.length → (lS[r]?.getD [])[k]?.getD 0 + (lN[r]?.getD [])[k]?.getD 0 = (lA[r]?.getD [])[k]?.getD 0 + (lB[r]?.getD [])[k]?.getD 0) →
    ∀ (r j : Nat), r < lS.length → j < os.length → Lin4 (((runO ps bs os sS lS)[r]?.getD [])[j]?.getD (0, 0)) (((runO ps bs os sN lN)[r]?.getD [])[j]?.getD (0, 0)) (((runO ps bs os sA lA)[r]?.getD [])[j]?.getD (0, 0)) (((runO ps bs os sB lB)[r]?.getD [])[j]?.getD (0, 0))
  | [], _, _, _, _, _, _, _, _, _, _, _, _, _, _, _, _, _, _, _, _, r, j, hr, _ => absurd hr (Nat.not_lt_zero r)
  | iS :: lS, [], _, _, _, _, _, _, h, _, _, _, _, _, _, _, _, _, _, _, _, _, _, _, _ => by simp at h
  | iS :: lS, _ :: _, [], _, _, _, _, _, _, h, _, _, _, _, _, _, _, _, _, _, _, _, _, _, _ => by simp at h
  | iS :: lS, _ :: _, _ :: _, [], _, _, _, _, _, _, h, _, _, _, _, _, _, _, _, _, _, _, _, _, _ => by simp at h
  | iS :: lS, iN :: lN, iA :: lA, iB :: lB, sS, sN, sA, sB, e1, e2, e3, oS, oN, oA, oB, aS, aN, aA, aB, hst, hin, r, j, hr, hj => by
    obtain ⟨tS, aS⟩ := aS.head
    obtain ⟨tN, aN⟩ := aN.head
    obtain ⟨tA, aA⟩ := aA.head
    obtain ⟨tB, aB⟩ := aB.head
    have L := fun (i : Nat) (hi : i < bs.length) => (lin_tick he hok haff oS oN oA oB tS tN tA tB hst (fun k hk => hin 0 k hk) _ (Nat.le_refl _) i (std_all he hi) hi).1
    cases r with
    | zero =>
      obtain ⟨o, ho⟩ : ∃ o, os[j]? = some o := ⟨_, List.getElem?_eq_getElem hj⟩
      have hb := acc_out he (List.mem_of_getElem? ho)
      have e : ∀ (s : List Pq) (i : List Int) (l : List (List Int)), ((runO ps bs os s (i :: l))[0]?.getD [])[j]?.getD (0, 0) = (valE ps bs s i)[o.toNat]?.getD (0, 0) := fun s i l => by
        show ((outV ps bs os s i))[j]?.getD (0, 0) = _
        unfold outV
        rw [List.getElem?_map, ho]
        rfl
      rw [e, e, e, e]
      exact L o.toNat (by omega)
    | succ r =>
      have nx : ∀ k, k < (delL bs).length → Lin4 ((nextE ps bs sS iS)[k]?.getD (0, 0)) ((nextE ps bs sN iN)[k]?.getD (0, 0)) ((nextE ps bs sA iA)[k]?.getD (0, 0)) ((nextE ps bs sB iB)[k]?.getD (0, 0)) := fun k hk => by
        obtain ⟨i, hd⟩ : ∃ i, (delL bs)[k]? = some i := ⟨_, List.getElem?_eq_getElem hk⟩
        have hid := del_at hd
        obtain ⟨y, hy⟩ : ∃ y, bs[i]? = some y := ⟨_, List.getElem?_eq_getElem hid.1⟩
        obtain ⟨b, hA0, hbl⟩ := del_arg he hy (by rw [← kind_at hy]; exact hid.2)
        rw [next_at hd, next_at hd, next_at hd, next_at hd, argZ_at hy hA0]
        exact L b hbl
      exact lin_run he hok haff (lS := lS) (lN := lN) (lA := lA) (lB := lB) (by simpa using e1) (by simpa using e2) (by simpa using e3) (next_ok he oS.len oS.nf tS) (next_ok he oN.len oN.nf tN) (next_ok he oA.len oA.nf tA) (next_ok he oB.len oB.nf tB) aS aN aA aB nx (fun r k hk => hin (r + 1) k hk) r j (by simpa using hr) hj
theorem lin_cmp {s n a b : Pq} (hs : Sm s LB LB) (hn : Sm n LB LB) (ha : Sm a LB LB) (hb : Sm b LB LB) (h : Lin4 s n a b) : dyCmp (dySum s.1 s.2 (-a.1) a.2).1 (dySum s.1 s.2 (-a.1) a.2).2 (dySum b.1 b.2 (-n.1) n.2).1 (dySum b.1 b.2 (-n.1) n.2).2 = 0 := by
  have m1 := Sm.sum hs ha.neg (by decide : LB ≤ 65536)
  have m2 := Sm.sum hb hn.neg (by decide : LB ≤ 65536)
  refine (cmp_eq m1.ok.le m2.ok.le).2 ?_
  have e1 : gv (dySum s.1 s.2 (-a.1) a.2) = gv s + gv (-a.1, a.2) := gv_sum hs.ok.le ha.neg.ok.le
  have e2 : gv (dySum b.1 b.2 (-n.1) n.2) = gv b + gv (-n.1, n.2) := gv_sum hb.ok.le hn.neg.ok.le
  rw [gv_neg] at e1 e2
  rw [e1, e2]
  unfold Lin4 at h
  omega
end
def wideP (ps : List Prt) : List Prt := ps.map fun p => ⟨-2147483648, 2147483647, p.fr⟩
theorem wideP_len (ps : List Prt) : (wideP ps).length = ps.length := List.length_map ..
theorem firstErr_none {l : List Int} (h : ∀ x ∈ l, x = 0) : firstErr l = 0 := by
  induction l with
  | nil => rfl
  | cons x l ih =>
    unfold firstErr
    rw [if_pos (h x (List.mem_cons_self ..))]
    exact ih fun y hy => h y (List.mem_cons_of_mem _ hy)
theorem wide_err {ps : List Prt} {bs : List Bk} {os : List Int} (h : dgErr ps bs os = 0) : dgErr (wideP ps) bs os = 0 := by
  obtain ⟨h1, h2, h3⟩ := pre_of h
  have hp : preErr (wideP ps) bs os = 0 := by
    unfold preErr at h2 ⊢
    have hz := firstErr_zero h2
    refine firstErr_none fun x hx => ?_
    rcases List.mem_append.1 hx with hx | hx
    · obtain ⟨q, hq, rfl⟩ := List.mem_map.1 hx
      obtain ⟨p, hp, rfl⟩ := List.mem_map.1 hq
      have := hz _ (List.mem_append_left _ (List.mem_map_of_mem hp))
      have hf : 0 ≤ p.fr ∧ p.fr ≤ 30 := Classical.byContradiction fun hn => by
        unfold portE at this
        rw [if_neg (by omega)] at this
        cases this
      unfold portE
      rw [if_pos ⟨by show (-2147483648 : Int) ≤ -2147483648; omega, by show (-2147483648 : Int) ≤ 2147483647; omega, by show (2147483647 : Int) < 2147483648; omega, hf.1, hf.2⟩]
    · rw [wideP_len] at hx
      exact hz x (List.mem_append_right _ hx)
  unfold dgErr
  have hs : sizeOk (wideP ps) bs os := by unfold sizeOk at h1 ⊢; rw [wideP_len]; exact h1
  rw [if_neg (not_not_intro hs), if_neg (not_not_intro hp)]
  exact h3
theorem half_fit {z w : Int} (h0 : -2147483648 ≤ z ∧ z ≤ 2147483647) (h1 : -2147483648 ≤ w ∧ w ≤ 2147483647) : -1073741824 ≤ z.tdiv 2 ∧ z.tdiv 2 ≤ 1073741823 ∧ -2147483648 ≤ z.tdiv 2 + w.tdiv 2 ∧ z.tdiv 2 + w.tdiv 2 ≤ 2147483647 := by
  have e : ∀ x : Int, -2147483648 ≤ x ∧ x ≤ 2147483647 → -1073741824 ≤ x.tdiv 2 ∧ x.tdiv 2 ≤ 1073741823 := fun x hx => by
    by_cases h : 0 ≤ x
    · rw [Int.tdiv_eq_ediv_of_nonneg h]; omega
    · have h2 : x.tdiv 2 = -((-x).tdiv 2) := by rw [Int.neg_tdiv, Int.neg_neg]
      rw [h2, Int.tdiv_eq_ediv_of_nonneg (by omega)]; omega
  have a := e z h0
  have b := e w h1
  omega
end Go.Proofs.YtfooonellkgaeaaDoor
