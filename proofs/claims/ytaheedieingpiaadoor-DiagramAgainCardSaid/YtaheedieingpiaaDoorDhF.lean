/- A diagram without the blocks that no output needs, as plain data. No conditions. -/
import Derived.Test.YtaheedieingpiaaDoorDhC
import Derived.Test.YtaheedieingpiaaDoorDgX
namespace Go.Proofs.YtaheedieingpiaaDoor
set_option linter.unusedVariables false
set_option linter.unusedSimpArgs false
set_option linter.unusedSectionVars false
open Go.RowKit

/-- What a block says, wherever its arguments lie. -/
def core (b : Bk) : Int × List Int × Int × Int × Int × Int := (b.kind, b.args, b.vn, b.ve, b.un, b.ue)
theorem core_parts {x b : Bk} (h : core x = core b) : x.kind = b.kind ∧ x.args = b.args ∧ x.vn = b.vn ∧ x.ve = b.ve ∧ x.un = b.un ∧ x.ue = b.ue := by
  simp only [core, Prod.mk.injEq] at h
  exact h
theorem core_get {l l' : List Bk} (h : l.map core = l'.map core) (i : Nat) : (l[i]?).map core = (l'[i]?).map core := by
  rw [← List.getElem?_map, ← List.getElem?_map, h]
theorem core_len {l l' : List Bk} (h : l.map core = l'.map core) : l.length = l'.length := by
  have := congrArg List.length h
  simpa using this
theorem core_getD {l l' : List Bk} (h : l.map core = l'.map core) (i : Nat) : core (l[i]?.getD bk0) = core (l'[i]?.getD bk0) := by
  have := core_get h i
  cases h1 : l[i]? <;> cases h2 : l'[i]? <;> rw [h1, h2] at this <;> simp_all
theorem core_kind {l l' : List Bk} (h : l.map core = l'.map core) : kindAt l = kindAt l' := funext fun i => (core_parts (core_getD h i)).1
theorem core_args {l l' : List Bk} (h : l.map core = l'.map core) : argsAt l = argsAt l' := funext fun i => (core_parts (core_getD h i)).2.1
theorem core_preds {l l' : List Bk} (h : l.map core = l'.map core) : preds l = preds l' := funext fun i => by unfold preds; rw [core_kind h, core_args h]
theorem core_done {l l' : List Bk} (h : l.map core = l'.map core) : doneB l = doneB l' := by funext out j; unfold doneB; rw [core_kind h]
theorem core_rdy {l l' : List Bk} (h : l.map core = l'.map core) : rdy l = rdy l' := by funext out j; unfold rdy; rw [core_done h, core_preds h]
theorem core_nxt {l l' : List Bk} (h : l.map core = l'.map core) : nxt l = nxt l' := by funext out; unfold nxt; rw [core_rdy h, core_len h]
theorem core_ordN {l l' : List Bk} (h : l.map core = l'.map core) : ∀ f out, ordN l f out = ordN l' f out
  | 0, out => rfl
  | f + 1, out => by
    unfold ordN
    rw [core_nxt h]
    cases nxt l' out with
    | none => rfl
    | some i => exact core_ordN h f _
theorem core_ordM {l l' : List Bk} (h : l.map core = l'.map core) : ordM l = ordM l' := by unfold ordM; rw [core_len h]; exact core_ordN h _ _
theorem core_nonDel {l l' : List Bk} (h : l.map core = l'.map core) : nonDel l = nonDel l' := by unfold nonDel; rw [core_len h, core_kind h]
theorem core_blk {l l' : List Bk} (h : l.map core = l'.map core) (np nb : Nat) : l.map (blkErr np nb) = l'.map (blkErr np nb) := by
  refine List.ext_getElem? fun i => ?_
  rw [List.getElem?_map, List.getElem?_map]
  have := core_get h i
  cases h1 : l[i]? with
  | none =>
    cases h2 : l'[i]? with
    | none => rfl
    | some y => rw [h1, h2] at this; simp at this
  | some x =>
    cases h2 : l'[i]? with
    | none => rw [h1, h2] at this; simp at this
    | some y =>
      rw [h1, h2] at this
      simp only [Option.map_some, Option.some.injEq] at this ⊢
      exact blkErr_core (core_parts this)
theorem core_pre {l l' : List Bk} (h : l.map core = l'.map core) (ps : List Prt) (os : List Int) : preErr ps l os = preErr ps l' os := by
  unfold preErr
  rw [core_len h, core_blk h]
theorem core_err {l l' : List Bk} (h : l.map core = l'.map core) (ps : List Prt) (os : List Int) : dgErr ps l os = dgErr ps l' os := by
  have hs : sizeOk ps l os = sizeOk ps l' os := by unfold sizeOk; rw [core_len h]
  have ho : ordErr l = ordErr l' := by unfold ordErr; rw [core_ordM h, core_nonDel h]
  unfold dgErr
  simp only [hs, ho, core_pre h]
theorem core_succs {l l' : List Bk} (h : l.map core = l'.map core) : succs l = succs l' := by funext o i; unfold succs; rw [core_kind h, core_preds h]
theorem core_pass1 {l l' : List Bk} (h : l.map core = l'.map core) : pass1 l = pass1 l' := by funext o m i; unfold pass1; rw [core_succs h]
theorem core_passes {l l' : List Bk} (h : l.map core = l'.map core) (o : Bool) : ∀ k m, passes l o k m = passes l' o k m
  | 0, m => rfl
  | k + 1, m => by
    unfold passes passM
    rw [core_pass1 h, core_len h]
    exact core_passes h o k _

/-- What the outputs need. -/
def markO (n : Nat) (os : List Int) : List Bool := os.foldl (fun m o => m.set o.toNat true) (List.replicate n false)
def keptM (bs : List Bk) (os : List Int) : List Bool := passes bs true bs.length (markO bs.length os)
def keptL (bs : List Bk) (os : List Int) : List Nat := markL (keptM bs os)
def OutsOk (n : Nat) (os : List Int) : Prop := ∀ o ∈ os, 0 ≤ o ∧ o < (n : Int)
theorem markO_len (n : Nat) (os : List Int) : (markO n os).length = n := by unfold markO; rw [foldSet_len]; simp
theorem keptM_len (bs : List Bk) (os : List Int) : (keptM bs os).length = bs.length := by unfold keptM; rw [passes_len, markO_len]
theorem markO_is {n : Nat} {os : List Int} (h : OutsOk n os) (j : Nat) : isM (markO n os) j = true ↔ ∃ o ∈ os, o.toNat = j := by
  unfold markO
  constructor
  · intro hj
    rcases foldSet_from os _ j hj with h1 | h1
    · rw [isM_rep] at h1; cases h1
    · exact h1
  · rintro ⟨o, ho, rfl⟩
    have := h o ho
    exact foldSet_mem os _ o ho (by simp; omega)
theorem keptM_is {bs : List Bk} {os : List Int} (hok : SuccOk bs) (h : OutsOk bs.length os) (j : Nat) : isM (keptM bs os) j = true ↔ ∃ o ∈ os, Reach bs true o.toNat j := by
  unfold keptM
  rw [passes_reach hok (markO_len _ _)]
  constructor
  · rintro ⟨i, hi, hr⟩
    obtain ⟨o, ho, rfl⟩ := (markO_is h i).1 hi
    exact ⟨o, ho, hr⟩
  · rintro ⟨o, ho, hr⟩
    exact ⟨o.toNat, (markO_is h _).2 ⟨o, ho, rfl⟩, hr⟩
/-- The program's marks when the first t outputs are done. -/
structure PrI (bs : List Bk) (os : List Int) (t : Nat) (m : List Bool) : Prop where
  len : m.length = bs.length
  is : ∀ j, isM m j = true ↔ ∃ o ∈ os.take t, Reach bs true o.toNat j
theorem PrI.start (bs : List Bk) (os : List Int) : PrI bs os 0 (List.replicate bs.length false) := ⟨by simp, fun j => by rw [isM_rep]; simp⟩
theorem PrI.step {bs : List Bk} {os : List Int} {t : Nat} {m m' : List Bool} {o : Int} (h : PrI bs os t m) (ho : os[t]? = some o) (hp : MarkPost bs true m o.toNat m') : PrI bs os (t + 1) m' := by
  refine ⟨hp.len.trans h.len, fun j => ?_⟩
  rw [List.take_add_one, ho]
  constructor
  · intro hj
    rcases hp.from_ j hj with h1 | h1
    · obtain ⟨s, hs, hr⟩ := (h.is j).1 h1
      exact ⟨s, by simp [hs], hr⟩
    · exact ⟨o, by simp, h1⟩
  · rintro ⟨s, hs, hr⟩
    rcases List.mem_append.1 hs with hs | hs
    · exact hp.mono j ((h.is j).2 ⟨s, hs, hr⟩)
    · simp at hs
      subst hs
      induction hr with
      | refl => exact hp.self
      | step hr1 ha ih =>
        rename_i j' a
        cases hm : isM m j' with
        | true =>
          obtain ⟨q, hq, hr2⟩ := (h.is j').1 hm
          exact hp.mono _ ((h.is _).2 ⟨q, hq, hr2.step ha⟩)
        | false => exact hp.closed _ ih hm _ ha
theorem PrI.done {bs : List Bk} {os : List Int} {t : Nat} {m : List Bool} (h : PrI bs os t m) (hok : SuccOk bs) (ho : OutsOk bs.length os) (ht : os.length ≤ t) : m = keptM bs os := by
  refine marks_eq (h.len.trans (keptM_len _ _).symm) fun j _ => ?_
  show isM m j = true ↔ isM (keptM bs os) j = true
  rw [h.is, keptM_is hok ho, List.take_of_length_le ht]
theorem markL_nodup (m : List Bool) : (markL m).Nodup := (List.nodup_range).filter _
theorem markL_sorted (m : List Bool) : (markL m).Pairwise (· < ·) := (List.pairwise_lt_range).filter _
theorem keptL_lt {bs : List Bk} {os : List Int} {i : Nat} (h : i ∈ keptL bs os) : i < bs.length := by
  have := isM_lt (markL_mem.1 h)
  rwa [keptM_len] at this
theorem keptL_len (bs : List Bk) (os : List Int) : (keptL bs os).length ≤ bs.length := by
  have := markL_len (keptM bs os)
  rwa [keptM_len] at this
/- New numbers. -/
def renA (L : List Nat) (a : Int) : Int := if a.toNat ∈ L then ((L.idxOf a.toNat : Nat) : Int) else 0
def numT (n : Nat) (L : List Nat) (t : Nat) : List Int := (List.range n).map fun j => if j ∈ L.take t then ((L.idxOf j : Nat) : Int) else 0
theorem numT_len (n : Nat) (L : List Nat) (t : Nat) : (numT n L t).length = n := by simp [numT]
theorem numT_zero (n : Nat) (L : List Nat) : numT n L 0 = List.replicate n 0 := by
  refine List.ext_getElem (by simp [numT]) fun i h1 h2 => ?_
  simp [numT]
theorem idx_at {L : List Nat} (hn : L.Nodup) {t i : Nat} (h : L[t]? = some i) : L.idxOf i = t := by
  obtain ⟨ht, rfl⟩ := List.getElem?_eq_some_iff.1 h
  exact hn.idxOf_getElem t ht
theorem numT_set {n : Nat} {L : List Nat} {t i : Nat} (hn : L.Nodup) (h : L[t]? = some i) : (numT n L t).set i (t : Int) = numT n L (t + 1) := by
  refine List.ext_getElem (by simp [numT]) fun j h1 h2 => ?_
  rw [List.getElem_set]
  simp only [numT, List.getElem_map, List.getElem_range]
  rw [List.take_add_one, h]
  by_cases e : i = j
  · subst e
    rw [if_pos rfl, if_pos (by simp), idx_at hn h]
  · rw [if_neg e]
    have : (j ∈ L.take t ++ (some i).toList) ↔ j ∈ L.take t := by simp; intro h; exact absurd h.symm e
    simp only [this]
theorem numT_get {n : Nat} {L : List Nat} {j : Nat} (hj : j < n) : (numT n L L.length)[j]? = some (renA L (j : Int)) := by
  simp [numT, renA, hj]
def prB (L : List Nat) (b : Bk) : Bk := ⟨b.kind, none, if b.kind = 0 then b.args else b.args.map (renA L), 0, b.vn, b.ve, b.un, b.ue⟩
def prBs (bs : List Bk) (os : List Int) : List Bk := (keptL bs os).map fun i => prB (keptL bs os) (bs[i]?.getD bk0)
def prOs (bs : List Bk) (os : List Int) : List Int := os.map (renA (keptL bs os))
theorem prBs_len (bs : List Bk) (os : List Int) : (prBs bs os).length = (keptL bs os).length := by simp [prBs]
theorem prBs_get {bs : List Bk} {os : List Int} {k i : Nat} {b : Bk} (h : (keptL bs os)[k]? = some i) (hb : bs[i]? = some b) : (prBs bs os)[k]? = some (prB (keptL bs os) b) := by
  simp [prBs, h, hb]
theorem ren_in {L : List Nat} {a : Int} (h : a.toNat ∈ L) : 0 ≤ renA L a ∧ renA L a < (L.length : Int) ∧ L[(renA L a).toNat]? = some a.toNat := by
  unfold renA
  rw [if_pos h]
  have h1 := List.idxOf_lt_length_iff.2 h
  refine ⟨by omega, by omega, ?_⟩
  rw [Int.toNat_natCast, List.getElem?_eq_getElem h1, List.getElem_idxOf h1]
section
variable {ps : List Prt} {bs : List Bk} {os : List Int} (hd : dgErr ps bs os = 0)
include hd
theorem dg_outs : OutsOk bs.length os := by
  intro o ho
  have := firstErr_zero (pre_parts (pre_of hd).2.1).2.2 _ (List.mem_map_of_mem (f := outE bs.length) ho)
  unfold outE at this
  by_cases h : 0 ≤ o ∧ o < (bs.length : Int)
  · exact h
  · rw [if_neg h] at this; cases this
theorem kept_is (j : Nat) : j ∈ keptL bs os ↔ ∃ o ∈ os, Reach bs true o.toNat j := by
  unfold keptL
  rw [markL_mem, keptM_is (dg_succ hd) (dg_outs hd)]
theorem kept_out {o : Int} (ho : o ∈ os) : o.toNat ∈ keptL bs os := (kept_is hd _).2 ⟨o, ho, Reach.refl _⟩
theorem kept_arg {i : Nat} (hi : i ∈ keptL bs os) {a : Int} (ha : a ∈ preds bs i) : a.toNat ∈ keptL bs os := by
  obtain ⟨o, ho, hr⟩ := (kept_is hd _).1 hi
  exact (kept_is hd _).2 ⟨o, ho, hr.step (by rw [succs_true]; exact ha)⟩
theorem kept_blk {k i : Nat} (h : (keptL bs os)[k]? = some i) : ∃ b, bs[i]? = some b ∧ (prBs bs os)[k]? = some (prB (keptL bs os) b) := by
  have hi := keptL_lt (List.mem_of_getElem? h)
  exact ⟨bs[i], List.getElem?_eq_getElem hi, prBs_get h (List.getElem?_eq_getElem hi)⟩
theorem pr_kind {k i : Nat} (h : (keptL bs os)[k]? = some i) : kindAt (prBs bs os) k = kindAt bs i := by
  obtain ⟨b, hb, hp⟩ := kept_blk hd h
  rw [kind_of hb, kind_of hp]
  rfl
theorem pr_preds {k i : Nat} (h : (keptL bs os)[k]? = some i) : preds (prBs bs os) k = (preds bs i).map (renA (keptL bs os)) := by
  obtain ⟨b, hb, hp⟩ := kept_blk hd h
  rw [preds_of hb, preds_of hp]
  show (if b.kind = 0 then [] else if b.kind = 0 then b.args else b.args.map (renA (keptL bs os))) = _
  by_cases hk : b.kind = 0
  · rw [if_pos hk, if_pos hk]; rfl
  · rw [if_neg hk, if_neg hk, if_neg hk]
theorem pr_blkErr {k i : Nat} (h : (keptL bs os)[k]? = some i) {b : Bk} (hb : bs[i]? = some b) : blkErr ps.length (prBs bs os).length (prB (keptL bs os) b) = 0 := by
  have h0 : blkErr ps.length bs.length b = 0 := blkErr_lt (pre_blk (pre_of hd).2.1) hb
  have hargs : firstErr ((prB (keptL bs os) b).args.map (outE (mostM ps.length (prBs bs os).length b.kind))) = 0 := by
    by_cases hk : b.kind = 0
    · have ha := (blk_args h0).2.2
      show firstErr ((if b.kind = 0 then b.args else b.args.map (renA (keptL bs os))).map _) = 0
      rw [if_pos hk]
      refine firstErr_all fun x hx => ?_
      obtain ⟨a, hm, rfl⟩ := List.mem_map.1 hx
      have := ha a hm
      unfold mostM at this ⊢
      rw [if_pos hk] at this ⊢
      exact if_pos this
    · show firstErr ((if b.kind = 0 then b.args else b.args.map (renA (keptL bs os))).map _) = 0
      rw [if_neg hk]
      refine firstErr_all fun x hx => ?_
      obtain ⟨a', hm', rfl⟩ := List.mem_map.1 hx
      obtain ⟨a, hm, rfl⟩ := List.mem_map.1 hm'
      unfold mostM
      rw [if_neg hk]
      have hin := kept_arg hd (List.mem_of_getElem? h) (a := a) (by rw [preds_of hb, if_neg hk]; exact hm)
      obtain ⟨q1, q2, _⟩ := ren_in hin
      exact if_pos ⟨q1, by rw [prBs_len]; exact q2⟩
  have hlen : (prB (keptL bs os) b).args.length = b.args.length := by
    show (if b.kind = 0 then b.args else b.args.map (renA (keptL bs os))).length = _
    split
    · rfl
    · simp
  unfold blkErr at h0 ⊢
  rw [hlen]
  show (if arityM b.kind < 0 then 7 else if ¬ ((b.args.length : Nat) : Int) = arityM b.kind then 11 else if ¬ firstErr ((prB (keptL bs os) b).args.map (outE (mostM ps.length (prBs bs os).length b.kind))) = 0 then 10 else _) = (0 : Int)
  rw [if_neg (not_not_intro hargs)]
  split at h0
  · cases h0
  · rename_i n1
    rw [if_neg n1]
    split at h0
    · cases h0
    · rename_i n2
      rw [if_neg n2]
      split at h0
      · cases h0
      · exact h0
theorem pr_err : dgErr ps (prBs bs os) (prOs bs os) = 0 := by
  obtain ⟨q1, q2, q3⟩ := pre_parts (pre_of hd).2.1
  have hs := (pre_of hd).1
  have hsz : sizeOk ps (prBs bs os) (prOs bs os) := by
    unfold sizeOk at hs ⊢
    have := keptL_len bs os
    rw [prBs_len, prOs, List.length_map]
    exact ⟨hs.1, by omega, hs.2.2⟩
  have hpre : preErr ps (prBs bs os) (prOs bs os) = 0 := by
    refine pe4 q1 (firstErr_all fun x hx => ?_) (firstErr_all fun x hx => ?_)
    · obtain ⟨y, hy, rfl⟩ := List.mem_map.1 hx
      obtain ⟨k, hk⟩ := List.getElem?_of_mem hy
      have hkl := (List.getElem?_eq_some_iff.1 hk).1
      rw [prBs_len] at hkl
      have hL := List.getElem?_eq_getElem hkl
      obtain ⟨b, hb, hp⟩ := kept_blk hd hL
      rw [hp] at hk
      cases hk
      exact pr_blkErr hd hL hb
    · obtain ⟨y, hy, rfl⟩ := List.mem_map.1 hx
      unfold prOs at hy
      obtain ⟨o, ho, rfl⟩ := List.mem_map.1 hy
      obtain ⟨p1, p2, _⟩ := ren_in (kept_out hd ho)
      exact if_pos ⟨p1, by rw [prBs_len]; exact p2⟩
  rw [de2 hsz hpre]
  unfold ordErr
  refine if_pos ?_
  apply Classical.byContradiction
  intro hst
  obtain ⟨U, hU, u, hu⟩ := sup_of_stuck (succ_ok (pre_parts hpre).2.1) hst
  have hs2 : Sup bs (fun v => ∃ k, (keptL bs os)[k]? = some v ∧ U k) := by
    rintro v ⟨k, hk, hUk⟩
    obtain ⟨r1, r2, a, ha, hUa⟩ := hU k hUk
    rw [pr_kind hd hk] at r2
    rw [pr_preds hd hk] at ha
    obtain ⟨a0, ha0, rfl⟩ := List.mem_map.1 ha
    have hm := List.mem_of_getElem? hk
    exact ⟨keptL_lt hm, r2, a0, ha0, _, (ren_in (kept_arg hd hm ha0)).2.2, hUa⟩
  obtain ⟨r1, _, _⟩ := hU u hu
  rw [prBs_len] at r1
  have := stuck_of_sup hs2 (u := (keptL bs os)[u]) ⟨u, List.getElem?_eq_getElem r1, hu⟩
  apply this
  have ho := (pre_of hd).2.2
  unfold ordErr at ho
  by_cases h : (ordM bs).length = nonDel bs
  · exact h
  · rw [if_neg h] at ho; cases ho
theorem kept_nodup : (keptL bs os).Nodup := markL_nodup _
theorem pr_reach {i j : Nat} (hr : Reach bs true i j) : ∀ ki, (keptL bs os)[ki]? = some i → ∃ kj, (keptL bs os)[kj]? = some j ∧ Reach (prBs bs os) true ki kj := by
  induction hr with
  | refl => exact fun ki h => ⟨ki, h, Reach.refl _⟩
  | step _ ha ih =>
    intro ki h
    obtain ⟨kj, hkj, hr⟩ := ih ki h
    rw [succs_true] at ha
    have hin := ren_in (kept_arg hd (List.mem_of_getElem? hkj) ha)
    refine ⟨_, hin.2.2, hr.step ?_⟩
    rw [succs_true, pr_preds hd hkj]
    exact List.mem_map_of_mem ha
theorem pr_kept : keptL (prBs bs os) (prOs bs os) = List.range (keptL bs os).length := by
  have hd' := pr_err hd
  have hall : ∀ k, k < (keptL bs os).length → isM (keptM (prBs bs os) (prOs bs os)) k = true := by
    intro k hk
    have hL := List.getElem?_eq_getElem hk
    obtain ⟨o, ho, hr⟩ := (kept_is hd _).1 (List.mem_of_getElem? hL)
    obtain ⟨p1, p2, p3⟩ := ren_in (kept_out hd ho)
    obtain ⟨kj, hkj, hr2⟩ := pr_reach hd hr _ p3
    have e : kj = k := (idx_at (kept_nodup hd) hkj).symm.trans (idx_at (kept_nodup hd) hL)
    subst e
    refine (keptM_is (dg_succ hd') (dg_outs hd') _).2 ⟨renA (keptL bs os) o, ?_, hr2⟩
    unfold prOs
    exact List.mem_map_of_mem ho
  unfold keptL markL
  rw [keptM_len, prBs_len]
  refine List.filter_eq_self.2 fun k hk => ?_
  exact hall k (by simpa using hk)
omit hd in
theorem ren_range {n : Nat} {a : Int} (h : 0 ≤ a ∧ a < (n : Int)) : renA (List.range n) a = a := by
  have hm : a.toNat < n := by omega
  unfold renA
  rw [if_pos (by simpa using hm), idx_at List.nodup_range (t := a.toNat) (i := a.toNat) (by simp [hm])]
  omega
theorem pr_pr_os : prOs (prBs bs os) (prOs bs os) = prOs bs os := by
  rw [prOs, pr_kept hd]
  refine (List.map_congr_left fun a ha => ?_).trans (List.map_id _)
  have := dg_outs (pr_err hd) a ha
  rw [prBs_len] at this
  exact ren_range this
theorem pr_pr_bs : (prBs (prBs bs os) (prOs bs os)).map core = (prBs bs os).map core := by
  have hd' := pr_err hd
  refine List.ext_getElem? fun k => ?_
  rw [List.getElem?_map, List.getElem?_map]
  rcases Nat.lt_or_ge k (keptL bs os).length with hk | hk
  · have hL : (keptL (prBs bs os) (prOs bs os))[k]? = some k := by rw [pr_kept hd]; simp [hk]
    have hb := List.getElem?_eq_getElem (l := prBs bs os) (i := k) (by rw [prBs_len]; exact hk)
    rw [prBs_get hL hb, hb]
    generalize hx : (prBs bs os)[k]'_ = x at hb
    simp only [Option.map_some, Option.some.injEq]
    have h0 := dg_succ hd' k (by rw [prBs_len]; exact hk)
    rw [preds_of hb] at h0
    have ha : (if x.kind = 0 then x.args else x.args.map (renA (keptL (prBs bs os) (prOs bs os)))) = x.args := by
      by_cases hk0 : x.kind = 0
      · rw [if_pos hk0]
      · rw [if_neg hk0, pr_kept hd]
        rw [if_neg hk0] at h0
        refine (List.map_congr_left fun a ha => ?_).trans (List.map_id _)
        have := h0 a ha
        rw [prBs_len] at this
        exact ren_range this
    unfold core prB
    rw [ha]
  · rw [List.getElem?_eq_none (by rw [prBs_len, pr_kept hd]; simpa using hk), List.getElem?_eq_none (by rw [prBs_len]; exact hk)]
end
end Go.Proofs.YtaheedieingpiaaDoor
