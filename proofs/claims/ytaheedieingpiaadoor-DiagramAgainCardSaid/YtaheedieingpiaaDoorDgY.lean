/- Diagrams as plain data: what the order is like; circles. No conditions. -/
import Derived.Test.YtaheedieingpiaaDoorDgP
namespace Go.Proofs.YtaheedieingpiaaDoor
set_option linter.unusedVariables false
set_option linter.unusedSimpArgs false
set_option linter.unusedSectionVars false
open Go.RowKit

theorem nxt_first {bs : List Bk} {out : List Nat} {i j : Nat} (h : nxt bs out = some i) (hj : j < i) : rdy bs out j = false := by
  unfold nxt at h
  rw [List.find?_eq_some_iff_append] at h
  obtain ⟨_, l1, l2, he, hall⟩ := h
  have hil : i < bs.length := by
    have : i ∈ List.range bs.length := by rw [he]; simp
    simpa using this
  have hlen : l1.length = i := by
    have h1 : (List.range bs.length)[l1.length]? = some i := by rw [he]; simp
    rw [List.getElem?_range] at h1
    · simpa using h1
    · have := congrArg List.length he
      simp at this
      omega
  have hm : j ∈ l1 := by
    have h1 : l1[j]? = some j := by
      have h2 : (List.range bs.length)[j]? = some j := List.getElem?_range (by omega)
      rw [he, List.getElem?_append_left (by omega)] at h2
      exact h2
    exact List.mem_of_getElem? h1
  have := hall j hm
  simpa using this
/-- Each listed block was the first that was ready behind those ahead of it. -/
theorem ordN_ext (bs : List Bk) : ∀ (f : Nat) (out : List Nat), ∃ ext, ordN bs f out = out ++ ext ∧ (ext.length < f → nxt bs (out ++ ext) = none) ∧ ∀ t x, ext[t]? = some x → nxt bs (out ++ ext.take t) = some x
  | 0, out => ⟨[], by simp [ordN], by simp, by simp⟩
  | f + 1, out => by
    show ∃ ext, (match nxt bs out with | none => out | some i => ordN bs f (out ++ [i])) = out ++ ext ∧ _
    cases hn : nxt bs out with
    | none => exact ⟨[], by simp, by simp [hn], by simp⟩
    | some i =>
      obtain ⟨ext, h1, h2, h3⟩ := ordN_ext bs f (out ++ [i])
      refine ⟨i :: ext, by simp [h1], fun h => ?_, fun t x ht => ?_⟩
      · have := h2 (by simpa using h)
        simpa using this
      · cases t with
        | zero =>
          simp at ht
          subst ht
          simpa using hn
        | succ t =>
          have := h3 t x (by simpa using ht)
          simpa using this
theorem ord_at {bs : List Bk} {t x : Nat} (h : (ordM bs)[t]? = some x) : nxt bs ((ordM bs).take t) = some x := by
  obtain ⟨ext, h1, _, h3⟩ := ordN_ext bs bs.length []
  unfold ordM at h ⊢
  rw [h1] at h ⊢
  exact h3 t x h
theorem ordM_ok (bs : List Bk) : OutOk bs (ordM bs) := ordN_ok bs.length (OutOk.nil bs)
theorem ord_stop {bs : List Bk} (h : (ordM bs).length ≠ nonDel bs) : nxt bs (ordM bs) = none := by
  obtain ⟨ext, h1, h2, _⟩ := ordN_ext bs bs.length []
  have hle := (ordM_ok bs).le
  have hnd := nonDel_le bs
  have he : ordM bs = ext := h1
  have := h2 (by rw [← he]; omega)
  rw [he]
  exact this
theorem nd_full : ∀ {l1 l2 : List Nat}, l1.Nodup → (∀ x ∈ l1, x ∈ l2) → l2.length ≤ l1.length → ∀ x ∈ l2, x ∈ l1 := by
  intro l1 l2 hn hs hl x hx
  apply Classical.byContradiction
  intro hx1
  have := nd_le (l1 := x :: l1) (l2 := l2) (List.nodup_cons.2 ⟨hx1, hn⟩) (fun y hy => by
    rcases List.mem_cons.1 hy with rfl | hy
    · exact hx
    · exact hs y hy)
  simp at this
  omega
theorem ord_mem {bs : List Bk} (hf : (ordM bs).length = nonDel bs) {i : Nat} (hi : i < bs.length) (hk : kindAt bs i ≠ 2) : i ∈ ordM bs := by
  have ho := ordM_ok bs
  refine nd_full (l2 := (List.range bs.length).filter fun i => kindAt bs i != 2) ho.nodup (fun x hx => ?_) (by rw [hf]; exact Nat.le_refl _) i (by simp [hi, hk])
  have := ho.mem x hx
  simp [this.1, this.2]
/- Places. -/
def placeF : List Int → Int → Nat → Int
  | [], _, _ => -1
  | x :: l, n, k => if x = n then (k : Int) else placeF l n (k + 1)
def placeI (xs : List Int) (n : Int) : Int := placeF xs n 0
theorem placeF_some : ∀ (l : List Int) (n : Int) (s k : Nat), l[k]? = some n → n ∉ l.take k → placeF l n s = ((s + k : Nat) : Int)
  | [], _, _, _, h, _ => by simp at h
  | x :: l, n, s, 0, h, _ => by
    have e : x = n := by simpa using h
    simp [placeF, e]
  | x :: l, n, s, k + 1, h, hn => by
    have hx : ¬ x = n := fun e => hn (by simp [e])
    simp only [placeF, if_neg hx]
    rw [placeF_some l n (s + 1) k (by simpa using h) (fun hm => hn (by simp [hm]))]
    congr 1
    omega
theorem placeF_none : ∀ (l : List Int) (n : Int) (s : Nat), n ∉ l → placeF l n s = -1
  | [], _, _, _ => rfl
  | x :: l, n, s, h => by
    have hx : ¬ x = n := fun e => h (by simp [e])
    simp only [placeF, if_neg hx]
    exact placeF_none l n (s + 1) (fun hm => h (by simp [hm]))
theorem placeI_some {l : List Int} {n : Int} {k : Nat} (h : l[k]? = some n) (hn : n ∉ l.take k) : placeI l n = (k : Int) := by
  have := placeF_some l n 0 k h hn
  simpa [placeI] using this
theorem placeI_none {l : List Int} {n : Int} (h : n ∉ l) : placeI l n = -1 := placeF_none l n 0 h
theorem natI_mem {l : List Nat} {i : Nat} : (i : Int) ∈ natI l ↔ i ∈ l := by
  unfold natI
  rw [List.mem_map]
  constructor
  · rintro ⟨j, hj, h⟩
    have : j = i := by omega
    subst this
    exact hj
  · intro h
    exact ⟨i, h, rfl⟩
theorem natI_get (l : List Nat) (k : Nat) : (natI l)[k]? = (l[k]?).map fun n : Nat => (n : Int) := by simp [natI]
theorem natI_take (l : List Nat) (k : Nat) : (natI l).take k = natI (l.take k) := by simp [natI]
theorem natI_drop (l : List Nat) (k : Nat) : (natI l).drop k = natI (l.drop k) := by simp [natI]
/-- In a list without repetition each member has its place. -/
theorem place_at {l : List Nat} (hn : l.Nodup) {k i : Nat} (h : l[k]? = some i) : i ∉ l.take k ∧ i ∉ l.drop (k + 1) ∧ placeI (natI l) (i : Int) = (k : Int) := by
  obtain ⟨hk, he⟩ := List.getElem?_eq_some_iff.1 h
  have hsp : l = l.take k ++ i :: l.drop (k + 1) := by
    rw [← he, List.getElem_cons_drop, List.take_append_drop]
  rw [hsp, List.nodup_append] at hn
  obtain ⟨_, h2, h3⟩ := hn
  have h4 : i ∉ l.take k := fun hm => h3 i hm i (by simp) rfl
  exact ⟨h4, (List.nodup_cons.1 h2).1, placeI_some (by rw [natI_get, h]; rfl) (by rw [natI_take, natI_mem]; exact h4)⟩
/- What the law on the order asks. -/
def lastT (bs : List Bk) (L : List Nat) (xs : List Int) (t : Nat) : Int := (xs.take t).foldl (fun m a => if kindAt bs a.toNat = 2 then m else max m (placeI (natI L) a)) (-1)
theorem lastT_succ {bs : List Bk} {L : List Nat} {xs : List Int} {t : Nat} {a : Int} (h : xs[t]? = some a) : lastT bs L xs (t + 1) = if kindAt bs a.toNat = 2 then lastT bs L xs t else max (lastT bs L xs t) (placeI (natI L) a) := by
  unfold lastT
  rw [List.take_add_one, h, List.foldl_append]
  rfl
theorem foldMax {bs : List Bk} {L : List Nat} : ∀ (xs : List Int) (m0 : Int), m0 ≤ xs.foldl (fun m a => if kindAt bs a.toNat = 2 then m else max m (placeI (natI L) a)) m0 ∧ ∀ a ∈ xs, kindAt bs a.toNat ≠ 2 → placeI (natI L) a ≤ xs.foldl (fun m a => if kindAt bs a.toNat = 2 then m else max m (placeI (natI L) a)) m0
  | [], m0 => ⟨Int.le_refl _, by simp⟩
  | b :: xs, m0 => by
    have ih := foldMax (bs := bs) (L := L) xs (if kindAt bs b.toNat = 2 then m0 else max m0 (placeI (natI L) b))
    rw [List.foldl_cons]
    constructor
    · refine Int.le_trans ?_ ih.1
      split <;> omega
    · intro a ha hk
      rcases List.mem_cons.1 ha with rfl | ha
      · refine Int.le_trans ?_ ih.1
        rw [if_neg hk]
        omega
      · exact ih.2 a ha hk
theorem foldMax_lt {bs : List Bk} {L : List Nat} {B : Int} : ∀ (xs : List Int) (m0 : Int), m0 < B → (∀ a ∈ xs, kindAt bs a.toNat ≠ 2 → placeI (natI L) a < B) → xs.foldl (fun m a => if kindAt bs a.toNat = 2 then m else max m (placeI (natI L) a)) m0 < B
  | [], m0, h, _ => h
  | b :: xs, m0, h, hall => by
    rw [List.foldl_cons]
    refine foldMax_lt xs _ ?_ (fun a ha => hall a (by simp [ha]))
    split
    · exact h
    · rename_i hk
      have := hall b (by simp) hk
      omega
theorem lastT_all {bs : List Bk} {L : List Nat} {xs : List Int} {t : Nat} (h : xs.length ≤ t) : lastT bs L xs t = lastT bs L xs xs.length := by unfold lastT; rw [List.take_of_length_le h, List.take_of_length_le (Nat.le_refl _)]
theorem lastT_ge (bs : List Bk) (L : List Nat) (xs : List Int) (t : Nat) : -1 ≤ lastT bs L xs t := (foldMax (xs.take t) (-1)).1
theorem placeF_range : ∀ (l : List Int) (n : Int) (s : Nat), -1 ≤ placeF l n s ∧ placeF l n s < ((s + l.length : Nat) : Int) ∨ l = []
  | [], _, _ => .inr rfl
  | x :: l, n, s => by
    left
    simp only [placeF]
    split
    · simp only [List.length_cons]; omega
    · rcases placeF_range l n (s + 1) with h | h
      · simp only [List.length_cons]; omega
      · subst h
        simp [placeF]
        omega
theorem placeI_range (l : List Int) (n : Int) : -1 ≤ placeI l n ∧ placeI l n ≤ (l.length : Int) := by
  rcases placeF_range l n 0 with h | h
  · unfold placeI; omega
  · subst h; simp [placeI, placeF]
/-- A block that is no delay, at its place. -/
structure FolAt (bs : List Bk) (i k : Nat) : Prop where
  at_ : (ordM bs)[k]? = some i
  place : placeI (natI (ordM bs)) (i : Int) = (k : Int)
  once : placeI (natI ((ordM bs).drop (k + 1))) (i : Int) = -1
  last : lastT bs (ordM bs) (preds bs i) (preds bs i).length < (k : Int)
  least : ∀ (t x : Nat), lastT bs (ordM bs) (preds bs i) (preds bs i).length < (t : Int) → t < k → (ordM bs)[t]? = some x → x ≤ i
theorem fol_del {bs : List Bk} {i : Nat} (hk : kindAt bs i = 2) : placeI (natI (ordM bs)) (i : Int) = -1 :=
  placeI_none (by rw [natI_mem]; intro h; exact ((ordM_ok bs).mem i h).2 hk)
theorem fol_at {bs : List Bk} (hok : SuccOk bs) (hf : (ordM bs).length = nonDel bs) {i : Nat} (hi : i < bs.length) (hk : kindAt bs i ≠ 2) : ∃ k, FolAt bs i k := by
  have ho := ordM_ok bs
  obtain ⟨k, hk1⟩ := List.getElem?_of_mem (ord_mem hf hi hk)
  obtain ⟨p1, p2, p3⟩ := place_at ho.nodup hk1
  have hp : ∀ a ∈ preds bs i, kindAt bs a.toNat ≠ 2 → ∃ t, t < k ∧ placeI (natI (ordM bs)) a = (t : Int) ∧ (ordM bs)[t]? = some a.toNat := by
    intro a ha hka
    have hr := (nxt_some (ord_at hk1)).2
    simp only [rdy, Bool.and_eq_true, List.all_eq_true] at hr
    have hd := hr.2 a ha
    simp only [doneB, Bool.or_eq_true, beq_iff_eq, List.contains_iff_mem] at hd
    rcases hd with hd | hd
    · exact absurd hd hka
    · obtain ⟨t, ht⟩ := List.getElem?_of_mem hd
      have htl := (List.getElem?_eq_some_iff.1 ht).1
      simp at htl
      rw [List.getElem?_take_of_lt (by omega)] at ht
      have hb := hok i hi a ha
      obtain ⟨q1, q2, q3⟩ := place_at ho.nodup ht
      refine ⟨t, by omega, ?_, ht⟩
      rw [← q3]
      congr 1
      omega
  have hl : lastT bs (ordM bs) (preds bs i) (preds bs i).length < (k : Int) := by
    unfold lastT
    refine foldMax_lt _ _ (by omega) fun a ha hka => ?_
    obtain ⟨t, ht, he, _⟩ := hp a (List.mem_of_mem_take ha) hka
    omega
  refine ⟨k, hk1, p3, placeI_none (by rw [natI_mem]; exact p2), hl, fun t x hlt htk hx => ?_⟩
  rcases Nat.lt_or_ge i x with hix | hix
  · exfalso
    have hr := nxt_first (ord_at hx) hix
    have hrt : rdy bs ((ordM bs).take t) i = true := by
      simp only [rdy, Bool.and_eq_true, List.all_eq_true, Bool.not_eq_true']
      constructor
      · have h1 : i ∉ (ordM bs).take t := fun hm => p1 (by
          have : (ordM bs).take t = ((ordM bs).take k).take t := by rw [List.take_take]; congr 1; omega
          rw [this] at hm
          exact List.mem_of_mem_take hm)
        have h2 : ((ordM bs).take t).contains i = false := by
          rw [← Bool.not_eq_true, List.contains_iff_mem]
          exact h1
        simp only [doneB, h2, Bool.or_false, beq_eq_false_iff_ne]
        exact hk
      · intro a ha
        simp only [doneB, Bool.or_eq_true, beq_iff_eq, List.contains_iff_mem]
        by_cases hka : kindAt bs a.toNat = 2
        · exact .inl hka
        · right
          obtain ⟨q, hq, hpl, hqa⟩ := hp a ha hka
          have h1 := (foldMax (bs := bs) (L := ordM bs) ((preds bs i).take (preds bs i).length) (-1)).2 a (by rw [List.take_length]; exact ha) hka
          have h2 : placeI (natI (ordM bs)) a ≤ lastT bs (ordM bs) (preds bs i) (preds bs i).length := h1
          have h3 : q < t := by omega
          exact List.mem_of_getElem? (i := q) (by rw [List.getElem?_take_of_lt h3]; exact hqa)
    rw [hr] at hrt
    cases hrt
  · exact hix
theorem fol_le {bs : List Bk} {i k s t : Nat} {L D : List Int} {z : Int} (h : FolAt bs i k) (hL : L = natI (ordM bs)) (hs : (s : Int) - 1 = lastT bs (ordM bs) (preds bs i) (preds bs i).length) (hD : D = (L.take k).drop s) (hz : D[t]? = some z) : z ≤ (i : Int) := by
  subst hL
  rw [hD, List.getElem?_drop] at hz
  have hlt : s + t < k := by
    have := (List.getElem?_eq_some_iff.1 hz).1
    simp at this
    omega
  rw [List.getElem?_take_of_lt hlt, natI_get] at hz
  obtain ⟨x, hx, rfl⟩ := Option.map_eq_some_iff.1 hz
  have := h.least (s + t) x (by omega) hlt hx
  omega
/- Circles. -/
/-- Blocks that are no delays, each with an argument among them. -/
def Sup (bs : List Bk) (U : Nat → Prop) : Prop := ∀ u, U u → u < bs.length ∧ kindAt bs u ≠ 2 ∧ ∃ a ∈ preds bs u, U a.toNat
theorem sup_of_stuck {bs : List Bk} (hok : SuccOk bs) (h : (ordM bs).length ≠ nonDel bs) : ∃ U, Sup bs U ∧ ∃ u, U u := by
  have hs := ord_stop h
  have ho := ordM_ok bs
  refine ⟨fun u => u < bs.length ∧ kindAt bs u ≠ 2 ∧ u ∉ ordM bs, fun u ⟨h1, h2, h3⟩ => ⟨h1, h2, ?_⟩, ?_⟩
  · have hr : rdy bs (ordM bs) u = false := by
      unfold nxt at hs
      rw [List.find?_eq_none] at hs
      simpa using hs u (by simpa using h1)
    simp only [rdy] at hr
    have hd : doneB bs (ordM bs) u = false := by
      have h4 : (ordM bs).contains u = false := by
        rw [← Bool.not_eq_true, List.contains_iff_mem]
        exact h3
      simp only [doneB, h4, Bool.or_false, beq_eq_false_iff_ne]
      exact h2
    rw [hd] at hr
    simp only [Bool.not_false, Bool.true_and] at hr
    rw [List.all_eq_false] at hr
    obtain ⟨a, ha, hda⟩ := hr
    have hb := hok u h1 a ha
    simp only [doneB, Bool.or_eq_true, beq_iff_eq, List.contains_iff_mem, not_or] at hda
    exact ⟨a, ha, by omega, hda.1, hda.2⟩
  · apply Classical.byContradiction
    intro hn
    apply h
    refine Nat.le_antisymm ho.le ?_
    unfold nonDel
    refine nd_le (List.nodup_range.filter _) fun x hx => ?_
    simp only [List.mem_filter, List.mem_range, bne_iff_ne, ne_eq] at hx
    apply Classical.byContradiction
    intro hx2
    exact hn ⟨x, hx.1, hx.2, hx2⟩
theorem stuck_of_sup {bs : List Bk} {U : Nat → Prop} (hs : Sup bs U) {u : Nat} (hu : U u) : (ordM bs).length ≠ nonDel bs := by
  intro hf
  have key : ∀ (t x : Nat), (ordM bs)[t]? = some x → ¬ U x := by
    intro t
    induction t using Nat.strongRecOn with
    | ind t ih =>
      intro x hx hU
      obtain ⟨_, _, a, ha, hUa⟩ := hs x hU
      have hr := (nxt_some (ord_at hx)).2
      simp only [rdy, Bool.and_eq_true, List.all_eq_true] at hr
      have hd := hr.2 a ha
      simp only [doneB, Bool.or_eq_true, beq_iff_eq, List.contains_iff_mem] at hd
      rcases hd with hd | hd
      · exact (hs _ hUa).2.1 hd
      · obtain ⟨q, hq⟩ := List.getElem?_of_mem hd
        have hql := (List.getElem?_eq_some_iff.1 hq).1
        simp at hql
        rw [List.getElem?_take_of_lt (by omega)] at hq
        exact ih q (by omega) _ hq hUa
  obtain ⟨h1, h2, _⟩ := hs u hu
  obtain ⟨t, ht⟩ := List.getElem?_of_mem (ord_mem hf h1 h2)
  exact key t u ht hu
end Go.Proofs.YtaheedieingpiaaDoor
