/- Circles as plain data: what is left when all that has no argument left is taken away; with these as delays no circle is left. No conditions. Which blocks vary, and whether a diagram is affine, as plain data. No conditions. -/
import Derived.Test.YtaheedieingpiaaDoorDgY
import Derived.Test.YtaheedieingpiaaDoorDgS
namespace Go.Proofs.YtaheedieingpiaaDoor
set_option linter.unusedVariables false
set_option linter.unusedSimpArgs false
set_option linter.unusedSectionVars false
open Go.RowKit

def cStep (bs : List Bk) (m : List Bool) (i : Nat) : List Bool := m.set i (isM m i && (preds bs i).any fun a => isM m a.toNat)
def cFold (bs : List Bk) (m : List Bool) (i : Nat) : List Bool := (List.range i).foldl (cStep bs) m
def cPass (bs : List Bk) (m : List Bool) : Nat → List Bool
  | 0 => m
  | k + 1 => cFold bs (cPass bs m k) bs.length
def leftK (bs : List Bk) (k : Nat) : List Bool := (List.range bs.length).map fun j => decide (j < k) && notDel bs j
def leftM (bs : List Bk) : List Bool := cPass bs (leftK bs bs.length) bs.length
theorem leftK_len (bs : List Bk) (k : Nat) : (leftK bs k).length = bs.length := by simp [leftK]
theorem leftK_zero (bs : List Bk) : leftK bs 0 = List.replicate bs.length false := by
  refine List.ext_getElem (by simp [leftK]) fun i h1 h2 => ?_
  simp [leftK]
theorem leftK_set (bs : List Bk) (k : Nat) : (leftK bs k).set k (notDel bs k) = leftK bs (k + 1) := by
  refine List.ext_getElem (by simp [leftK]) fun i h1 h2 => ?_
  rw [List.getElem_set]
  simp only [leftK, List.getElem_map, List.getElem_range]
  by_cases h : k = i
  · subst h; simp
  · rw [if_neg h]
    congr 1
    exact decide_eq_decide.2 (by omega)
theorem leftK_get {bs : List Bk} {j : Nat} (h : j < bs.length) : isM (leftK bs bs.length) j = notDel bs j := by simp [isM, leftK, h]
theorem cStep_len (bs : List Bk) (m : List Bool) (i : Nat) : (cStep bs m i).length = m.length := by simp [cStep]
theorem cFold_len (bs : List Bk) (m : List Bool) : ∀ i, (cFold bs m i).length = m.length
  | 0 => rfl
  | i + 1 => by unfold cFold; rw [List.range_succ, List.foldl_append]; exact (cStep_len _ _ _).trans (cFold_len bs m i)
theorem cFold_succ (bs : List Bk) (m : List Bool) (i : Nat) : cFold bs m (i + 1) = cStep bs (cFold bs m i) i := by unfold cFold; rw [List.range_succ, List.foldl_append]; rfl
theorem cPass_len (bs : List Bk) (m : List Bool) : ∀ k, (cPass bs m k).length = m.length
  | 0 => rfl
  | k + 1 => (cFold_len _ _ _).trans (cPass_len bs m k)
theorem isM_setB {m : List Bool} {i j : Nat} {b : Bool} (hi : i < m.length) : isM (m.set i b) j = if i = j then b else isM m j := by
  unfold isM
  rw [List.getElem?_set]
  by_cases h : i = j
  · subst h; simp [hi]
  · simp [h]
theorem cStep_get {bs : List Bk} {m : List Bool} {i j : Nat} (hi : i < m.length) : isM (cStep bs m i) j = if i = j then (isM m i && (preds bs i).any fun a => isM m a.toNat) else isM m j := isM_setB hi
theorem cStep_le {bs : List Bk} {m : List Bool} {i j : Nat} (hi : i < m.length) (h : isM (cStep bs m i) j = true) : isM m j = true := by
  rw [cStep_get hi] at h
  by_cases e : i = j
  · subst e
    rw [if_pos rfl] at h
    simp at h
    exact h.1
  · rw [if_neg e] at h; exact h
theorem cFold_le {bs : List Bk} {m : List Bool} : ∀ {i j : Nat}, i ≤ m.length → isM (cFold bs m i) j = true → isM m j = true
  | 0, _, _, h => h
  | i + 1, j, hi, h => by
    rw [cFold_succ] at h
    exact cFold_le (by omega) (cStep_le (by rw [cFold_len]; omega) h)
theorem cPass_le {bs : List Bk} {m : List Bool} (hm : m.length = bs.length) : ∀ {k j : Nat}, isM (cPass bs m k) j = true → isM m j = true
  | 0, _, h => h
  | k + 1, j, h => cPass_le hm (k := k) (cFold_le (by rw [cPass_len, hm]; exact Nat.le_refl _) h)
/-- What supports itself stays. -/
theorem cStep_sup {bs : List Bk} {m : List Bool} {U : Nat → Prop} (hs : Sup bs U) (hU : ∀ u, U u → isM m u = true) {i : Nat} (hi : i < m.length) : ∀ u, U u → isM (cStep bs m i) u = true := by
  intro u hu
  rw [cStep_get hi]
  by_cases e : i = u
  · subst e
    rw [if_pos rfl, hU _ hu]
    obtain ⟨_, _, a, ha, hUa⟩ := hs _ hu
    rw [Bool.true_and, List.any_eq_true]
    exact ⟨a, ha, hU _ hUa⟩
  · rw [if_neg e]; exact hU u hu
theorem cFold_sup {bs : List Bk} {m : List Bool} {U : Nat → Prop} (hs : Sup bs U) (hU : ∀ u, U u → isM m u = true) : ∀ {i : Nat}, i ≤ m.length → ∀ u, U u → isM (cFold bs m i) u = true
  | 0, _ => hU
  | i + 1, hi => by
    rw [cFold_succ]
    exact cStep_sup hs (cFold_sup hs hU (by omega)) (by rw [cFold_len]; omega)
theorem leftM_sup {bs : List Bk} {U : Nat → Prop} (hs : Sup bs U) : ∀ u, U u → isM (leftM bs) u = true := by
  have key : ∀ k u, U u → isM (cPass bs (leftK bs bs.length) k) u = true := by
    intro k
    induction k with
    | zero =>
      intro u hu
      obtain ⟨h1, h2, _⟩ := hs u hu
      show isM (leftK bs bs.length) u = true
      rw [leftK_get h1]
      simpa [notDel] using h2
    | succ k ih => exact cFold_sup hs ih (by rw [cPass_len, leftK_len]; exact Nat.le_refl _)
  exact key bs.length
theorem leftM_in {bs : List Bk} {j : Nat} (h : isM (leftM bs) j = true) : j < bs.length ∧ kindAt bs j ≠ 2 := by
  have h1 := cPass_le (leftK_len bs _) h
  have hj := isM_lt h1
  rw [leftK_len] at hj
  rw [leftK_get hj] at h1
  exact ⟨hj, by simpa [notDel] using h1⟩
theorem cFold_any {bs : List Bk} {m : List Bool} : ∀ {i j : Nat}, i ≤ m.length → j < i → isM (cFold bs m i) j = true → preds bs j ≠ []
  | i + 1, j, hi, hj, h => by
    rw [cFold_succ] at h
    have hl : i < (cFold bs m i).length := by rw [cFold_len]; omega
    by_cases e : i = j
    · subst e
      rw [cStep_get hl, if_pos rfl] at h
      simp only [Bool.and_eq_true, List.any_eq_true] at h
      obtain ⟨_, a, ha, _⟩ := h
      intro h0
      rw [h0] at ha
      cases ha
    · exact cFold_any (by omega) (by omega) (cStep_le hl h)
/-- What is left has an argument. -/
theorem leftM_arg {bs : List Bk} {j : Nat} (h : isM (leftM bs) j = true) : preds bs j ≠ [] := by
  have hj := (leftM_in h).1
  unfold leftM at h
  obtain ⟨n, hn⟩ : ∃ n, bs.length = n + 1 := ⟨bs.length - 1, by omega⟩
  have h2 : isM (cFold bs (cPass bs (leftK bs bs.length) n) bs.length) j = true := by
    have e : cPass bs (leftK bs bs.length) bs.length = cFold bs (cPass bs (leftK bs bs.length) n) bs.length := by
      rw [show cPass bs (leftK bs bs.length) bs.length = cPass bs (leftK bs bs.length) (n + 1) by rw [← hn]]
      rfl
    rw [← e]
    exact h
  exact cFold_any (by rw [cPass_len, leftK_len]; exact Nat.le_refl _) hj h2
/-- The diagram with these as delays. -/
def OpenAt (bs : List Bk) (m : List Bool) (l : List Bk) : Prop := ∀ i x, l[i]? = some x → ∃ b, bs[i]? = some b ∧
  if isM m i = true then x.kind = 2 ∧ x.args = b.args.take 1 ∧ x.vn = 0 ∧ x.ve = 0 ∧ x.un = 0 ∧ x.ue = 0 else x.kind = b.kind ∧ x.args = b.args ∧ x.vn = b.vn ∧ x.ve = b.ve ∧ x.un = b.un ∧ x.ue = b.ue
theorem blkErr_core {np nb : Nat} {x b : Bk} (h : x.kind = b.kind ∧ x.args = b.args ∧ x.vn = b.vn ∧ x.ve = b.ve ∧ x.un = b.un ∧ x.ue = b.ue) : blkErr np nb x = blkErr np nb b := by
  obtain ⟨h1, h2, h3, h4, h5, h6⟩ := h
  unfold blkErr
  rw [h1, h2, h3, h4, h5, h6]
theorem firstErr_all {l : List Int} (h : ∀ x ∈ l, x = 0) : firstErr l = 0 := by
  induction l with
  | nil => rfl
  | cons y l ih =>
    have := h y (by simp)
    subst this
    exact ih fun x hx => h x (by simp [hx])
theorem blkErr_delay {np nb : Nat} {x : Bk} {a : Int} (hk : x.kind = 2) (ha : x.args = [a]) (h1 : 0 ≤ a ∧ a < (nb : Int)) (h2 : x.vn = 0 ∧ x.ve = 0 ∧ x.un = 0 ∧ x.ue = 0) : blkErr np nb x = 0 := by
  obtain ⟨kind, A, args, cap, vn, ve, un, ue⟩ := x
  dsimp only at hk ha h2
  obtain ⟨rfl, rfl, rfl, rfl⟩ := h2
  subst hk ha
  refine be7 (M := nb) (vu := true) (cu := false) (by show ¬ arityM 2 < 0; decide) (by show (([a].length : Nat) : Int) = arityM 2; rfl) rfl ?_ rfl (show scalE 0 0 true = 0 by decide) rfl (show scalE 0 0 false = 0 by decide) (by simp)
  show firstErr [outE nb a] = 0
  unfold outE
  rw [if_pos h1]
  rfl
theorem pre_parts {ps : List Prt} {bs : List Bk} {os : List Int} (h : preErr ps bs os = 0) : firstErr (ps.map portE) = 0 ∧ firstErr (bs.map (blkErr ps.length bs.length)) = 0 ∧ firstErr (os.map (outE bs.length)) = 0 := by
  have hb := pre_blk h
  unfold preErr at h
  rw [firstErr_append] at h
  by_cases h1 : firstErr (ps.map portE) = 0
  · rw [if_pos h1, firstErr_append, if_pos hb] at h
    exact ⟨h1, hb, h⟩
  · rw [if_neg h1] at h; exact absurd h h1
theorem blkErr_lt {np : Nat} {bs : List Bk} {i : Nat} {b : Bk} (h : firstErr (bs.map (blkErr np bs.length)) = 0) (hb : bs[i]? = some b) : blkErr np bs.length b = 0 := firstErr_zero h _ (List.mem_map_of_mem (List.mem_of_getElem? hb))
theorem cyc_parts {ps : List Prt} {bs : List Bk} {os : List Int} (h : dgErr ps bs os = 24) : sizeOk ps bs os ∧ (preErr ps bs os = 0 → (ordM bs).length ≠ nonDel bs) := by
  unfold dgErr at h
  by_cases h1 : sizeOk ps bs os
  · refine ⟨h1, fun h2 => ?_⟩
    rw [if_neg (not_not_intro h1), if_neg (not_not_intro h2)] at h
    unfold ordErr at h
    intro h3
    rw [if_pos h3] at h
    cases h
  · rw [if_pos h1] at h; cases h
theorem scalE_cases (n e : Int) (b : Bool) : scalE n e b = 0 ∨ scalE n e b = 2 ∨ scalE n e b = 3 := by
  unfold scalE
  split
  · split <;> simp
  · split <;> simp
theorem blkErr_ne (np nb : Nat) (b : Bk) : blkErr np nb b ≠ 24 := by
  unfold blkErr
  split
  · decide
  split
  · decide
  split
  · decide
  split
  · rcases scalE_cases b.vn b.ve (valU b.kind) with h | h | h <;> rw [h] <;> decide
  split
  · rcases scalE_cases b.un b.ue (clipU b.kind) with h | h | h <;> rw [h] <;> decide
  split <;> decide
theorem firstErr_ne {l : List Int} {n : Int} (hn : n ≠ 0) (h : ∀ x ∈ l, x ≠ n) : firstErr l ≠ n := by
  induction l with
  | nil => exact fun h => hn h.symm
  | cons y l ih =>
    unfold firstErr
    split
    · exact ih fun x hx => h x (by simp [hx])
    · exact h y (by simp)
theorem preErr_ne (ps : List Prt) (bs : List Bk) (os : List Int) : preErr ps bs os ≠ 24 := by
  unfold preErr
  refine firstErr_ne (by decide) fun x hx => ?_
  rcases List.mem_append.1 hx with hx | hx
  · obtain ⟨p, _, rfl⟩ := List.mem_map.1 hx
    unfold portE; split <;> decide
  · rcases List.mem_append.1 hx with hx | hx
    · obtain ⟨b, _, rfl⟩ := List.mem_map.1 hx
      exact blkErr_ne _ _ _
    · obtain ⟨o, _, rfl⟩ := List.mem_map.1 hx
      unfold outE; split <;> decide
/-- A circle: all else is well. -/
theorem cyc_of {ps : List Prt} {bs : List Bk} {os : List Int} (h : dgErr ps bs os = 24) : sizeOk ps bs os ∧ preErr ps bs os = 0 ∧ (ordM bs).length ≠ nonDel bs := by
  obtain ⟨h1, h2⟩ := cyc_parts h
  have h3 : preErr ps bs os = 0 := by
    unfold dgErr at h
    rw [if_neg (not_not_intro h1)] at h
    apply Classical.byContradiction
    intro h4
    rw [if_pos h4] at h
    exact preErr_ne ps bs os h
  exact ⟨h1, h3, h2 h3⟩
theorem circles_some {bs : List Bk} (hok : SuccOk bs) (h : (ordM bs).length ≠ nonDel bs) : ∃ i, i < bs.length ∧ isM (leftM bs) i = true := by
  obtain ⟨U, hs, u, hu⟩ := sup_of_stuck hok h
  exact ⟨u, (hs u hu).1, leftM_sup hs u hu⟩
theorem circles_ok {ps : List Prt} {bs l : List Bk} {os : List Int} (h1 : sizeOk ps bs os) (h2 : preErr ps bs os = 0) (hl : l.length = bs.length) (ho : OpenAt bs (leftM bs) l) : dgErr ps l os = 0 := by
  obtain ⟨q1, q2, q3⟩ := pre_parts h2
  have hok := succ_ok q2
  have hpre : preErr ps l os = 0 := by
    refine pe4 q1 (firstErr_all fun x hx => ?_) (by rw [hl]; exact q3)
    obtain ⟨y, hy, rfl⟩ := List.mem_map.1 hx
    obtain ⟨i, hi⟩ := List.getElem?_of_mem hy
    obtain ⟨b, hb, hc⟩ := ho i y hi
    by_cases hm : isM (leftM bs) i = true
    · rw [if_pos hm] at hc
      obtain ⟨c1, c2, c3⟩ := hc
      obtain ⟨hin, _⟩ := leftM_in hm
      have hp := leftM_arg hm
      rw [preds_of hb] at hp
      by_cases hk : b.kind = 0
      · rw [if_pos hk] at hp; exact absurd rfl hp
      · rw [if_neg hk] at hp
        match hba : b.args, hp with
        | a :: rest, _ =>
          rw [hba] at c2
          have ha := hok i hin a (by rw [preds_of hb, if_neg hk, hba]; simp)
          rw [hl]
          exact blkErr_delay c1 (by simpa using c2) ha c3
    · rw [if_neg hm] at hc
      rw [hl, blkErr_core hc]
      exact blkErr_lt q2 hb
  have hsz : sizeOk ps l os := by
    unfold sizeOk at h1 ⊢
    rw [hl]
    exact h1
  rw [de2 hsz hpre]
  unfold ordErr
  refine if_pos ?_
  apply Classical.byContradiction
  intro hst
  obtain ⟨U, hs, u, hu⟩ := sup_of_stuck (succ_ok (pre_parts hpre).2.1) hst
  have hnot : ∀ u, U u → isM (leftM bs) u ≠ true ∧ ∃ b x, bs[u]? = some b ∧ l[u]? = some x ∧ x.kind = b.kind ∧ x.args = b.args := by
    intro u hu
    obtain ⟨r1, r2, _⟩ := hs u hu
    have hx := List.getElem?_eq_getElem r1
    obtain ⟨b, hb, hc⟩ := ho u l[u] hx
    by_cases hm : isM (leftM bs) u = true
    · rw [if_pos hm] at hc
      exact absurd ((kind_of hx).trans hc.1) r2
    · rw [if_neg hm] at hc
      exact ⟨hm, b, l[u], hb, hx, hc.1, hc.2.1⟩
  have hs2 : Sup bs U := by
    intro v hv
    obtain ⟨r1, r2, a, ha, hUa⟩ := hs v hv
    obtain ⟨_, b, x, hb, hx, e1, e2⟩ := hnot v hv
    refine ⟨by omega, by rw [kind_of hb, ← e1, ← kind_of hx]; exact r2, a, ?_, hUa⟩
    rw [preds_of hb, ← e1, ← e2, ← preds_of hx]
    exact ha
  exact (hnot u hu).1 (leftM_sup hs2 u hu)
def anyK (m : List Bool) (k : Nat) : Bool := (List.range k).any (isM m)
theorem anyK_succ (m : List Bool) (k : Nat) : anyK m (k + 1) = (anyK m k || isM m k) := by unfold anyK; rw [List.range_succ, List.any_append]; simp
theorem anyK_true {m : List Bool} {k i : Nat} (hi : i < k) (h : isM m i = true) : anyK m k = true := by unfold anyK; rw [List.any_eq_true]; exact ⟨i, by simpa using hi, h⟩
def anyT (m : List Bool) (xs : List Int) (t : Nat) : Bool := (xs.take t).any fun a => isM m a.toNat
theorem anyT_succ {m : List Bool} {xs : List Int} {t : Nat} {a : Int} (h : xs[t]? = some a) : anyT m xs (t + 1) = (anyT m xs t || isM m a.toNat) := by
  unfold anyT
  rw [List.take_add_one, h, List.any_append]
  simp
theorem anyT_all {m : List Bool} {xs : List Int} {t : Nat} (h : xs.length ≤ t) : anyT m xs t = xs.any fun a => isM m a.toNat := by unfold anyT; rw [List.take_of_length_le h]
theorem OpenAt.nil (bs : List Bk) (m : List Bool) : OpenAt bs m [] := fun i x h => by simp at h
theorem OpenAt.push {bs l : List Bk} {m : List Bool} (h : OpenAt bs m l) {b x : Bk} (hb : bs[l.length]? = some b)
    (hx : if isM m l.length = true then x.kind = 2 ∧ x.args = b.args.take 1 ∧ x.vn = 0 ∧ x.ve = 0 ∧ x.un = 0 ∧ x.ue = 0 else x.kind = b.kind ∧ x.args = b.args ∧ x.vn = b.vn ∧ x.ve = b.ve ∧ x.un = b.un ∧ x.ue = b.ue) : OpenAt bs m (l ++ [x]) := by
  intro i y hy
  rcases Nat.lt_trichotomy i l.length with hi | hi | hi
  · rw [List.getElem?_append_left hi] at hy
    exact h i y hy
  · subst hi
    rw [List.getElem?_append_right (Nat.le_refl _)] at hy
    simp at hy
    subst hy
    exact ⟨b, hb, hx⟩
  · rw [List.getElem?_append_right (by omega)] at hy
    have : i - l.length ≠ 0 := by omega
    rw [List.getElem?_eq_none (by simp; omega)] at hy
    cases hy
end Go.Proofs.YtaheedieingpiaaDoor
namespace Go.Proofs.YtaheedieingpiaaDoor
set_option linter.unusedVariables false
set_option linter.unusedSimpArgs false
set_option linter.unusedSectionVars false
open Go.RowKit

theorem isM_setV {m : List Bool} {i j : Nat} {b : Bool} (hi : i < m.length) : isM (m.set i b) j = if i = j then b else isM m j := by
  unfold isM
  rw [List.getElem?_set]
  by_cases h : i = j
  · subst h; simp [hi]
  · simp [h]
theorem succs_true (bs : List Bk) (i : Nat) : succs bs true i = preds bs i := by simp [succs]
/-- A block that varies by itself: an input or a delay. -/
def srcB (bs : List Bk) (i : Nat) : Bool := kindAt bs i == 0 || kindAt bs i == 2
def vT (bs : List Bk) (m : List Bool) (i t : Nat) : List Bool := m.set i (isM m i || srcB bs i || ((preds bs i).take t).any fun a => isM m a.toNat)
def vStep (bs : List Bk) (m : List Bool) (i : Nat) : List Bool := vT bs m i (preds bs i).length
def vFold (bs : List Bk) (m : List Bool) (i : Nat) : List Bool := (List.range i).foldl (vStep bs) m
def vPass (bs : List Bk) (m : List Bool) : Nat → List Bool
  | 0 => m
  | k + 1 => vFold bs (vPass bs m k) bs.length
def varyM (bs : List Bk) : List Bool := vPass bs (List.replicate bs.length false) bs.length
theorem vT_len (bs : List Bk) (m : List Bool) (i t : Nat) : (vT bs m i t).length = m.length := by simp [vT]
theorem vStep_len (bs : List Bk) (m : List Bool) (i : Nat) : (vStep bs m i).length = m.length := vT_len _ _ _ _
theorem vFold_succ (bs : List Bk) (m : List Bool) (i : Nat) : vFold bs m (i + 1) = vStep bs (vFold bs m i) i := by unfold vFold; rw [List.range_succ, List.foldl_append]; rfl
theorem vFold_len (bs : List Bk) (m : List Bool) : ∀ i, (vFold bs m i).length = m.length
  | 0 => rfl
  | i + 1 => by rw [vFold_succ]; exact (vStep_len _ _ _).trans (vFold_len bs m i)
theorem vPass_len (bs : List Bk) (m : List Bool) : ∀ k, (vPass bs m k).length = m.length
  | 0 => rfl
  | k + 1 => (vFold_len _ _ _).trans (vPass_len bs m k)
theorem vT_get {bs : List Bk} {m : List Bool} {i t j : Nat} (hi : i < m.length) : isM (vT bs m i t) j = if i = j then (isM m i || srcB bs i || ((preds bs i).take t).any fun a => isM m a.toNat) else isM m j := isM_setV hi
theorem vT_zero {bs : List Bk} {m : List Bool} {i : Nat} : vT bs m i 0 = m.set i (isM m i || srcB bs i) := by simp [vT]
theorem vT_done {bs : List Bk} {m : List Bool} {i t : Nat} (h : (preds bs i).length ≤ t) : vT bs m i t = vStep bs m i := by unfold vStep vT; rw [List.take_of_length_le h, List.take_length]
theorem vT_succ {bs : List Bk} {m : List Bool} {i t : Nat} {a : Int} (hi : i < m.length) (ha : (preds bs i)[t]? = some a) : (vT bs m i t).set i (isM (vT bs m i t) i || isM (vT bs m i t) a.toNat) = vT bs m i (t + 1) := by
  rw [vT_get hi, vT_get hi, if_pos rfl]
  have e : ((preds bs i).take (t + 1)).any (fun a => isM m a.toNat) = (((preds bs i).take t).any (fun a => isM m a.toNat) || isM m a.toNat) := by
    rw [List.take_add_one, ha, List.any_append]; simp
  unfold vT
  rw [e, List.set_set]
  congr 1
  by_cases h : i = a.toNat
  · subst h
    rw [if_pos rfl]
    cases isM m a.toNat <;> simp
  · rw [if_neg h]
    simp only [Bool.or_assoc]
theorem vT_true {bs : List Bk} {m : List Bool} {i t : Nat} {a : Int} (hi : i < m.length) (ha : (preds bs i)[t]? = some a) (h : isM (vT bs m i t) i = true) : vT bs m i t = vT bs m i (t + 1) := by
  rw [← vT_succ hi ha, h, Bool.true_or, ← h]
  refine (List.ext_getElem (by simp) fun k h1 h2 => ?_)
  rw [List.getElem_set]
  split
  · rename_i he
    subst he
    unfold isM
    rw [List.getElem?_eq_getElem h1]
    rfl
  · rfl
theorem vStep_mono {bs : List Bk} {m : List Bool} {i j : Nat} (hi : i < m.length) (h : isM m j = true) : isM (vStep bs m i) j = true := by
  unfold vStep
  rw [vT_get hi]
  split
  · rename_i e; subst e; rw [h]; simp
  · exact h
theorem vFold_mono {bs : List Bk} {m : List Bool} : ∀ {i j : Nat}, i ≤ m.length → isM m j = true → isM (vFold bs m i) j = true
  | 0, _, _, h => h
  | i + 1, j, hi, h => by
    rw [vFold_succ]
    exact vStep_mono (by rw [vFold_len]; omega) (vFold_mono (by omega) h)
theorem vFold_more {bs : List Bk} {m : List Bool} {i : Nat} : ∀ {k j : Nat}, i ≤ k → k ≤ m.length → isM (vFold bs m i) j = true → isM (vFold bs m k) j = true
  | 0, j, hk, _, h => by
    have : i = 0 := by omega
    subst this
    exact h
  | k + 1, j, hk, hl, h => by
    by_cases e : i = k + 1
    · subst e; exact h
    · rw [vFold_succ]
      exact vStep_mono (by rw [vFold_len]; omega) (vFold_more (by omega) (by omega) h)
theorem vFold_fix {bs : List Bk} {m : List Bool} {n : Nat} (hn : n ≤ m.length) (h : vFold bs m n = m) : ∀ i, i < n → vStep bs m i = m := by
  have key : ∀ i, i ≤ n → vFold bs m i = m := fun i hi => by
    refine marks_eq (vFold_len _ _ _) fun j _ => ⟨fun hj => ?_, fun hj => vFold_mono (by omega) hj⟩
    have := vFold_more (bs := bs) hi hn hj
    rw [h] at this
    exact this
  intro i hi
  have h1 := key (i + 1) (by omega)
  rw [vFold_succ, key i (by omega)] at h1
  exact h1
theorem unM_zero {m : List Bool} {j : Nat} (h : unM m = 0) (hj : j < m.length) : isM m j = true := by
  cases hm : isM m j with
  | true => rfl
  | false => have := unM_set hj hm; omega
theorem vary_fix (bs : List Bk) : vFold bs (varyM bs) bs.length = varyM bs := by
  have hl : ∀ k, (vPass bs (List.replicate bs.length false) k).length = bs.length := fun k => by rw [vPass_len]; simp
  have key : ∀ k, vFold bs (vPass bs (List.replicate bs.length false) k) bs.length = vPass bs (List.replicate bs.length false) k ∨ unM (vPass bs (List.replicate bs.length false) k) + k ≤ bs.length := by
    intro k
    induction k with
    | zero => right; have := unM_le (vPass bs (List.replicate bs.length false) 0); rw [hl 0] at this; omega
    | succ k ih =>
      by_cases hf : vFold bs (vPass bs (List.replicate bs.length false) k) bs.length = vPass bs (List.replicate bs.length false) k
      · left
        show vFold bs (vFold bs (vPass bs (List.replicate bs.length false) k) bs.length) bs.length = vFold bs (vPass bs (List.replicate bs.length false) k) bs.length
        rw [hf]; exact hf
      · rcases ih with ih | ih
        · exact absurd ih hf
        · right
          have := unM_lt (m := vPass bs (List.replicate bs.length false) k) (m' := vFold bs (vPass bs (List.replicate bs.length false) k) bs.length) (vFold_len _ _ _) (fun j hj => vFold_mono (by rw [hl]; exact Nat.le_refl _) hj) hf
          show unM (vFold bs (vPass bs (List.replicate bs.length false) k) bs.length) + (k + 1) ≤ bs.length
          omega
  rcases key bs.length with h | h
  · exact h
  · have h0 : unM (varyM bs) = 0 := by unfold varyM; omega
    refine marks_eq (vFold_len _ _ _) fun j hj => ⟨fun _ => unM_zero h0 (by rw [vFold_len] at hj; exact hj), fun h => vFold_mono (by unfold varyM; rw [hl]; exact Nat.le_refl _) h⟩
def VarP (bs : List Bk) (i : Nat) : Prop := ∃ t, Reach bs true i t ∧ srcB bs t = true
theorem vPass_from {bs : List Bk} : ∀ k j, isM (vPass bs (List.replicate bs.length false) k) j = true → VarP bs j := by
  have hstep : ∀ {m : List Bool} {i : Nat}, i < m.length → (∀ j, isM m j = true → VarP bs j) → ∀ j, isM (vStep bs m i) j = true → VarP bs j := by
    intro m i hi h j hj
    unfold vStep at hj
    rw [vT_get hi] at hj
    split at hj
    · rename_i e
      subst e
      simp only [Bool.or_eq_true, List.any_eq_true] at hj
      rcases hj with (hj | hj) | ⟨a, ha, hj⟩
      · exact h _ hj
      · exact ⟨i, Reach.refl _, hj⟩
      · obtain ⟨t, ht, hs⟩ := h _ hj
        have ha' : a ∈ succs bs true i := by rw [succs_true]; exact List.mem_of_mem_take ha
        exact ⟨t, (Reach.step (Reach.refl i) ha').trans ht, hs⟩
    · exact h _ hj
  have hfold : ∀ {m : List Bool}, (∀ j, isM m j = true → VarP bs j) → ∀ i, i ≤ m.length → ∀ j, isM (vFold bs m i) j = true → VarP bs j := by
    intro m h i
    induction i with
    | zero => intro _ j hj; exact h j hj
    | succ i ih =>
      intro hi j hj
      rw [vFold_succ] at hj
      exact hstep (by rw [vFold_len]; omega) (ih (by omega)) j hj
  intro k
  induction k with
  | zero => intro j hj; rw [show vPass bs (List.replicate bs.length false) 0 = List.replicate bs.length false from rfl, isM_rep] at hj; cases hj
  | succ k ih => exact hfold ih bs.length (by rw [vPass_len]; simp)
theorem preds_lt {bs : List Bk} {i : Nat} {a : Int} (h : a ∈ preds bs i) : i < bs.length := by
  rcases Nat.lt_or_ge i bs.length with h1 | h1
  · exact h1
  · have e : bs[i]?.getD bk0 = bk0 := by rw [List.getElem?_eq_none h1]; rfl
    unfold preds argsAt kindAt at h
    rw [e] at h
    simp [bk0] at h
theorem vary_is {bs : List Bk} {i : Nat} (hi : i < bs.length) (hok : SuccOk bs) : isM (varyM bs) i = true ↔ VarP bs i := by
  refine ⟨fun h => vPass_from _ _ h, fun ⟨t, ht, hs⟩ => ?_⟩
  have hl : (varyM bs).length = bs.length := by unfold varyM; rw [vPass_len]; simp
  have hfix := vFold_fix (bs := bs) (m := varyM bs) (n := bs.length) (by rw [hl]; exact Nat.le_refl _) (vary_fix bs)
  have hget : ∀ j, j < bs.length → isM (varyM bs) j = (isM (varyM bs) j || srcB bs j || (preds bs j).any fun a => isM (varyM bs) a.toNat) := fun j hj => by
    have h1 := vT_get (bs := bs) (m := varyM bs) (i := j) (t := (preds bs j).length) (j := j) (by rw [hl]; exact hj)
    rw [if_pos rfl, List.take_length] at h1
    have h2 : isM (vStep bs (varyM bs) j) j = isM (varyM bs) j := by rw [hfix j hj]
    exact h2.symm.trans h1
  have hback : ∀ {a b : Nat}, Reach bs true a b → a < bs.length → (b < bs.length ∧ (isM (varyM bs) b = true → isM (varyM bs) a = true)) := by
    intro a b hr
    induction hr with
    | refl => exact fun h => ⟨h, id⟩
    | step _ ha ih =>
      intro h
      obtain ⟨h1, h2⟩ := ih h
      rw [succs_true] at ha
      have hb := hok _ h1 _ ha
      refine ⟨by omega, fun h3 => h2 ?_⟩
      rw [hget _ h1]
      simp only [Bool.or_eq_true, List.any_eq_true]
      exact .inr ⟨_, ha, h3⟩
  obtain ⟨h1, h2⟩ := hback ht hi
  refine h2 ?_
  rw [hget _ h1, hs]
  simp
def markOv (bs : List Bk) (i : Nat) : List Bool := passes bs true bs.length (mark0 bs i)
theorem mark_isT {bs : List Bk} {i : Nat} {l' : List Bool} (hok : SuccOk bs) (hi : i < bs.length) (h : MarkPost bs true (List.replicate bs.length false) i l') : l' = markOv bs i := by
  have hl : (mark0 bs i).length = bs.length := by simp [mark0]
  refine marks_eq (by rw [h.len]; unfold markOv; rw [passes_len, hl]; simp) fun j _ => ?_
  show isM l' j = true ↔ isM (passes bs true bs.length (mark0 bs i)) j = true
  rw [h.reach (isM_rep _), passes_reach hok hl]
  constructor
  · intro hr
    exact ⟨i, by unfold mark0; rw [isM_set (by simpa using hi)]; simp, hr⟩
  · rintro ⟨s, hs, hr⟩
    unfold mark0 at hs
    rw [isM_set (by simpa using hi), isM_rep] at hs
    have e : i = s := by simpa using hs
    subst e
    exact hr
def variesB (bs : List Bk) (i : Nat) : Bool := (markL (markOv bs i)).any (srcB bs)
theorem markL_mem {m : List Bool} {j : Nat} : j ∈ markL m ↔ isM m j = true := by
  unfold markL
  simp only [List.mem_filter, List.mem_range]
  exact ⟨fun h => h.2, fun h => ⟨isM_lt h, h⟩⟩
theorem varies_is {bs : List Bk} {i : Nat} (hi : i < bs.length) (hok : SuccOk bs) : variesB bs i = isM (varyM bs) i := by
  have h1 : variesB bs i = true ↔ VarP bs i := by
    unfold variesB VarP
    rw [List.any_eq_true]
    have hr : ∀ j, isM (markOv bs i) j = true ↔ Reach bs true i j := fun j => by
      unfold markOv
      rw [passes_reach hok (by simp [mark0])]
      constructor
      · rintro ⟨s, hs, hr⟩
        unfold mark0 at hs
        rw [isM_set (by simpa using hi), isM_rep] at hs
        have e : i = s := by simpa using hs
        subst e
        exact hr
      · intro hr
        exact ⟨i, by unfold mark0; rw [isM_set (by simpa using hi)]; simp, hr⟩
    constructor
    · rintro ⟨t, ht, hs⟩
      exact ⟨t, (hr t).1 (markL_mem.1 ht), hs⟩
    · rintro ⟨t, ht, hs⟩
      exact ⟨t, markL_mem.2 ((hr t).2 ht), hs⟩
  have h2 := vary_is hi hok
  cases ha : variesB bs i <;> cases hb : isM (varyM bs) i <;> simp_all
/-- A block that makes a diagram not affine. -/
def nonAff (bs : List Bk) (i : Nat) : Bool := kindAt bs i == 8 || kindAt bs i == 9 || kindAt bs i == 10 || kindAt bs i == 11 || (kindAt bs i == 7 && (isM (varyM bs) ((argsAt bs i)[0]?.getD 0).toNat && isM (varyM bs) ((argsAt bs i)[1]?.getD 0).toNat))
def affB (bs : List Bk) : Bool := !((List.range bs.length).any (nonAff bs))
theorem affB_hit {bs : List Bk} {k : Nat} (hk : k < bs.length) (h : nonAff bs k = true) : affB bs = false := by
  unfold affB
  rw [Bool.not_eq_false', List.any_eq_true]
  exact ⟨k, by simpa using hk, h⟩
def NoAff (bs : List Bk) (k : Nat) : Prop := ∀ j, j < k → nonAff bs j = false
theorem NoAff.zero (bs : List Bk) : NoAff bs 0 := fun j h => absurd h (Nat.not_lt_zero j)
theorem NoAff.succ {bs : List Bk} {k : Nat} (h : NoAff bs k) (h2 : nonAff bs k = false) : NoAff bs (k + 1) := fun j hj => by
  by_cases e : j = k
  · subst e; exact h2
  · exact h j (by omega)
theorem affB_all {bs : List Bk} (h : NoAff bs bs.length) : affB bs = true := by
  unfold affB
  rw [Bool.not_eq_true', List.any_eq_false]
  intro j hj
  rw [h j (by simpa using hj)]
  decide
end Go.Proofs.YtaheedieingpiaaDoor
