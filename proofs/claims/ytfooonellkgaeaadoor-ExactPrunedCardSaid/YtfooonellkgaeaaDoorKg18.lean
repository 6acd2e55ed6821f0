/- What the proofs of this claim share, part 18. No conditions. -/
import Derived.Test.YtfooonellkgaeaaDoorKg17
import Derived.Test.YtfooonellkgaeaaDoorKg10
import Derived.Test.YtfooonellkgaeaaDoorKg16
import Derived.Test.YtfooonellkgaeaaDoorKg13
import Derived.Deep.AppendLies
import Derived.Deep.RegionLaw
set_option linter.unusedVariables false
set_option linter.unusedSimpArgs false
set_option linter.unusedSectionVars false
namespace Go.Proofs.YtfooonellkgaeaaDoor
open Go.RowKit Go.Deep
def zBlk : Value := .agg #[.int .i64 0, .slice none 0 0, .int .i64 0, .int .i64 0, .int .i64 0, .int .i64 0]
theorem info_blk : (Tryd.prog.info? 66).map (fun i => (i.zero, i.size, i.bytes)) = some (some zBlk, 6, 64) := by kernel_rfl
theorem under_blks : Tryd.prog.underlying 38 = some (.slice 66) := by kernel_rfl
def OwnB (w : World) (base : Nat) (v : Value) (l : List Bk) : Prop := w.ownsRow base 66 6 v l.length (flat Bk.cells l)
theorem OwnB.nil_ (w : World) (base : Nat) : OwnB w base (.slice none 0 0) [] := World.ownsRow_nil w base _ _
theorem OwnB.view {w : World} {base : Nat} {v : Value} {l : List Bk} (h : OwnB w base v l) : ∃ A c, v = .slice A l.length c ∧ (A = none → c = 0) ∧ CellsAt w w.heap.size A (flat Bk.cells l) := by
  rcases h.2 with ⟨rfl, h0⟩ | ⟨g, cap, cur, rfl, hb, hg, hn, hm, hs, ht⟩
  · have : l = [] := List.eq_nil_of_length_eq_zero h0
    subst this
    exact ⟨none, 0, rfl, fun _ => rfl, CellsAt.nil_⟩
  · have hlt := (World.ownsRow.lt h g rfl).2
    refine ⟨some ⟨g, 0, none⟩, cap, rfl, by simp, fun _ => ⟨g, 0, rfl, hlt, hlt, fun j u hu => ?_⟩⟩
    have := World.ownsRow.cells h (g := g) rfl j u hu
    rcases j with _ | j
    · simpa [Addr.add] using this
    · simpa [Addr.add] using this
theorem OwnB.alloc {w : World} {base : Nat} {v : Value} {l : List Bk} (h : OwnB w base v l) (o : Obj) : OwnB (w.alloc o) base v l := World.ownsRow.alloc h o
theorem OwnB.drew {w : World} {base : Nat} {v : Value} {l : List Bk} (h : OwnB w base v l) : OwnB w.drew base v l := h
theorem OwnB.drewN {w : World} {base : Nat} {v : Value} {l : List Bk} (h : OwnB w base v l) (n : Nat) : OwnB (w.drewN n) base v l := by
  induction n generalizing w with
  | zero => exact h
  | succ n ih => exact ih (w := w.drew) h.drew
theorem OwnB.base_ {w : World} {base : Nat} {v : Value} {l : List Bk} (h : OwnB w base v l) {base' : Nat} (hb : base' ≤ base) : OwnB w base' v l := by
  refine ⟨h.1, ?_⟩
  rcases h.2 with hn | ⟨g, cap, cur, rfl, hbg, rest⟩
  · exact .inl hn
  · exact .inr ⟨g, cap, cur, rfl, Nat.le_trans hb hbg, rest⟩
theorem OwnB.below {w w' : World} {base B : Nat} {v : Value} {l : List Bk} (h : OwnB w base v l) (hb : Below B w w') (hv : ∀ g, v.ownBlock = some g → g < B) : OwnB w' base v l := by
  refine ⟨h.1, ?_⟩
  rcases h.2 with hn | ⟨g, cap, cur, rfl, hbg, hg, rest⟩
  · exact .inl hn
  · refine .inr ⟨g, cap, cur, rfl, hbg, ?_, rest⟩
    rw [hb.block g (hv g rfl)]
    exact hg
theorem OwnB.call {w w' : World} {base : Nat} {v : Value} {l : List Bk} (h : OwnB w base v l) (hb : Below w.heap.size w w') : OwnB w' base v l := h.below hb (fun g hg => (World.ownsRow.lt h g hg).2)
theorem OwnB.set_below {w : World} {base : Nat} {v : Value} {l : List Bk} (h : OwnB w base v l) {b j : Nat} (u : Value) (hb : b < base) : OwnB (w.setCell ⟨b, j, none⟩ u) base v l := by
  refine ⟨h.1, ?_⟩
  rcases h.2 with hn | ⟨g, cap, cur, rfl, hbg, hg, rest⟩
  · exact .inl hn
  · refine .inr ⟨g, cap, cur, rfl, hbg, ?_, rest⟩
    rw [heap_setCell_other _ ⟨b, j, none⟩ g _ (by simp; omega)]
    exact hg
theorem push_bk {w : World} {ops : Array Oper} {rest : List Oper} {o : Oper} {a : Act} {Q : Exit → Act → World → Prop} (hgd : o.guard = none) (s x : Operand)
    (ho : o.op = .call { callee := .builtin .append, args := #[s, x], argTypes := #[38, 38] })
    (base : Nat) (v : Value) (l : List Bk) (b : Bk) (g : Nat) (hs : a.eval s = v) (hown : OwnB w base v l) (hx : a.eval x = .slice (some ⟨g, 0, none⟩) 1 1) (hg : ∀ j u, b.cells[j]? = some u → w.cell? ⟨g, j, none⟩ = some u)
    (hlen : l.length < 1000000) (hbase : base ≤ w.heap.size)
    (h : ∀ v' w', OwnB w' base v' (l ++ [b]) → w.grownBy w' v.ownBlock → Below base w w' → wpList Tryd.prog ops Q rest (a.put o.dst v') w') : wpList Tryd.prog ops Q (o :: rest) a w := by
  obtain ⟨i0, hi, hz0, hz1, hz2⟩ := info_parts info_blk
  refine wpList_append_own w hgd s x 38 ho base 66 i0 zBlk 6 64 under_blks hi hz0 hz1 hz2 rfl (by decide) v l.length (flat Bk.cells l) hs hown ⟨g, 0, none⟩ 1 1 b.cells hx rfl ?_ (by simp [Bk.cells, Value.oneCell']) (by unfold maxLen; omega) (by omega) hbase (fun v' w' h1 h2 _ => h v' w' ?_ h2 ((Below.refl base w).grown h2 hbase (fun g hg => (World.ownsRow.lt hown g hg).1)))
  · intro j u hu
    have := hg j u hu
    rwa [Go.WideShapes.add_plain, Nat.zero_add]
  · have e : flat Bk.cells (l ++ [b]) = flat Bk.cells l ++ b.cells := by simp [flat]
    unfold OwnB
    rw [e, List.length_append]
    exact h1
end Go.Proofs.YtfooonellkgaeaaDoor
namespace Go.Proofs.YtfooonellkgaeaaDoor
open Go.RowKit
def cStep (bs : List Bk) (m : List Bool) (i : Nat) : List Bool := m.set i (isM m i && (preds bs i).any fun a => isM m a.toNat)
def cFold (bs : List Bk) (m : List Bool) (i : Nat) : List Bool := (List.range i).foldl (cStep bs) m
def cPass (bs : List Bk) (m : List Bool) : Nat → List Bool
  | 0 => m
  | k + 1 => cFold bs (cPass bs m k) bs.length
def leftK (bs : List Bk) (k : Nat) : List Bool := (List.range bs.length).map fun j => decide (j < k) && notDel bs j
def leftM (bs : List Bk) : List Bool := cPass bs (leftK bs bs.length) bs.length
def OpenAt (bs : List Bk) (m : List Bool) (l : List Bk) : Prop := ∀ i x, l[i]? = some x → ∃ b, bs[i]? = some b ∧
  if isM m i = true then x.kind = 2 ∧ x.args = b.args.take 1 ∧ x.vn = 0 ∧ x.ve = 0 ∧ x.un = 0 ∧ x.ue = 0 else x.kind = b.kind ∧ x.args = b.args ∧ x.vn = b.vn ∧ x.ve = b.ve ∧ x.un = b.un ∧ x.ue = b.ue
theorem firstErr_all {l : List Int} (h : ∀ x ∈ l, x = 0) : firstErr l = 0 := by
  induction l with
  | nil => rfl
  | cons y l ih =>
    have := h y (by simp)
    subst this
    exact ih fun x hx => h x (by simp [hx])
theorem pre_parts {ps : List Prt} {bs : List Bk} {os : List Int} (h : preErr ps bs os = 0) : firstErr (ps.map portE) = 0 ∧ firstErr (bs.map (blkErr ps.length bs.length)) = 0 ∧ firstErr (os.map (outE bs.length)) = 0 := by
  have hb := pre_blk h
  unfold preErr at h
  rw [firstErr_append] at h
  by_cases h1 : firstErr (ps.map portE) = 0
  · rw [if_pos h1, firstErr_append, if_pos hb] at h
    exact ⟨h1, hb, h⟩
  · rw [if_neg h1] at h; exact absurd h h1
theorem blkErr_lt {np : Nat} {bs : List Bk} {i : Nat} {b : Bk} (h : firstErr (bs.map (blkErr np bs.length)) = 0) (hb : bs[i]? = some b) : blkErr np bs.length b = 0 := firstErr_zero h _ (List.mem_map_of_mem (List.mem_of_getElem? hb))
def anyK (m : List Bool) (k : Nat) : Bool := (List.range k).any (isM m)
def anyT (m : List Bool) (xs : List Int) (t : Nat) : Bool := (xs.take t).any fun a => isM m a.toNat
theorem OpenAt.nil (bs : List Bk) (m : List Bool) : OpenAt bs m [] := fun i x h => by simp at h
theorem OpenAt.push {bs l : List Bk} {m : List Bool} (h : OpenAt bs m l) {b x : Bk} (hb : bs[l.length]? = some b)
    (hx : if isM m l.length = true then x.kind = 2 ∧ x.args = b.args.take 1 ∧ x.vn = 0 ∧ x.ve = 0 ∧ x.un = 0 ∧ x.ue = 0 else x.kind = b.kind ∧ x.args = b.args ∧ x.vn = b.vn ∧ x.ve = b.ve ∧ x.un = b.un ∧ x.ue = b.ue) : OpenAt bs m (l ++ [x]) := by
  intro i y hy
  rcases Nat.lt_trichotomy i l.length with hi | hi | hi
  · rw [List.getElem?_append_left hi] at hy
    exact h i y hy
  · subst hi
    rw [List.getElem?_append_right (Nat.le_refl _)] at hy
    simp at hy
    subst hy
    exact ⟨b, hb, hx⟩
  · rw [List.getElem?_append_right (by omega)] at hy
    have : i - l.length ≠ 0 := by omega
    rw [List.getElem?_eq_none (by simp; omega)] at hy
    cases hy
end Go.Proofs.YtfooonellkgaeaaDoor
namespace Go.Proofs.YtfooonellkgaeaaDoor
open Go.RowKit
theorem succs_true (bs : List Bk) (i : Nat) : succs bs true i = preds bs i := by simp [succs]
def srcB (bs : List Bk) (i : Nat) : Bool := kindAt bs i == 0 || kindAt bs i == 2
def vT (bs : List Bk) (m : List Bool) (i t : Nat) : List Bool := m.set i (isM m i || srcB bs i || ((preds bs i).take t).any fun a => isM m a.toNat)
def vStep (bs : List Bk) (m : List Bool) (i : Nat) : List Bool := vT bs m i (preds bs i).length
def vFold (bs : List Bk) (m : List Bool) (i : Nat) : List Bool := (List.range i).foldl (vStep bs) m
def vPass (bs : List Bk) (m : List Bool) : Nat → List Bool
  | 0 => m
  | k + 1 => vFold bs (vPass bs m k) bs.length
def varyM (bs : List Bk) : List Bool := vPass bs (List.replicate bs.length false) bs.length
def VarP (bs : List Bk) (i : Nat) : Prop := ∃ t, Reach bs true i t ∧ srcB bs t = true
def markOv (bs : List Bk) (i : Nat) : List Bool := passes bs true bs.length (mark0 bs i)
def variesB (bs : List Bk) (i : Nat) : Bool := (markL (markOv bs i)).any (srcB bs)
theorem markL_mem {m : List Bool} {j : Nat} : j ∈ markL m ↔ isM m j = true := by
  unfold markL
  simp only [List.mem_filter, List.mem_range]
  exact ⟨fun h => h.2, fun h => ⟨isM_lt h, h⟩⟩
def nonAff (bs : List Bk) (i : Nat) : Bool := kindAt bs i == 8 || kindAt bs i == 9 || kindAt bs i == 10 || kindAt bs i == 11 || (kindAt bs i == 7 && (isM (varyM bs) ((argsAt bs i)[0]?.getD 0).toNat && isM (varyM bs) ((argsAt bs i)[1]?.getD 0).toNat))
def affB (bs : List Bk) : Bool := !((List.range bs.length).any (nonAff bs))
def NoAff (bs : List Bk) (k : Nat) : Prop := ∀ j, j < k → nonAff bs j = false
theorem NoAff.zero (bs : List Bk) : NoAff bs 0 := fun j h => absurd h (Nat.not_lt_zero j)
theorem NoAff.succ {bs : List Bk} {k : Nat} (h : NoAff bs k) (h2 : nonAff bs k = false) : NoAff bs (k + 1) := fun j hj => by
  by_cases e : j = k
  · subst e; exact h2
  · exact h j (by omega)
end Go.Proofs.YtfooonellkgaeaaDoor
namespace Go.Proofs.YtfooonellkgaeaaDoor
open Go.RowKit
def core (b : Bk) : Int × List Int × Int × Int × Int × Int := (b.kind, b.args, b.vn, b.ve, b.un, b.ue)
theorem core_parts {x b : Bk} (h : core x = core b) : x.kind = b.kind ∧ x.args = b.args ∧ x.vn = b.vn ∧ x.ve = b.ve ∧ x.un = b.un ∧ x.ue = b.ue := by
  simp only [core, Prod.mk.injEq] at h
  exact h
theorem core_len {l l' : List Bk} (h : l.map core = l'.map core) : l.length = l'.length := by
  have := congrArg List.length h
  simpa using this
def markO (n : Nat) (os : List Int) : List Bool := os.foldl (fun m o => m.set o.toNat true) (List.replicate n false)
def keptM (bs : List Bk) (os : List Int) : List Bool := passes bs true bs.length (markO bs.length os)
def keptL (bs : List Bk) (os : List Int) : List Nat := markL (keptM bs os)
def OutsOk (n : Nat) (os : List Int) : Prop := ∀ o ∈ os, 0 ≤ o ∧ o < (n : Int)
theorem markO_len (n : Nat) (os : List Int) : (markO n os).length = n := by unfold markO; rw [foldSet_len]; simp
theorem keptM_len (bs : List Bk) (os : List Int) : (keptM bs os).length = bs.length := by unfold keptM; rw [passes_len, markO_len]
theorem markO_is {n : Nat} {os : List Int} (h : OutsOk n os) (j : Nat) : isM (markO n os) j = true ↔ ∃ o ∈ os, o.toNat = j := by
  unfold markO
  constructor
  · intro hj
    rcases foldSet_from os _ j hj with h1 | h1
    · rw [isM_rep] at h1; cases h1
    · exact h1
  · rintro ⟨o, ho, rfl⟩
    have := h o ho
    exact foldSet_mem os _ o ho (by simp; omega)
theorem keptM_is {bs : List Bk} {os : List Int} (hok : SuccOk bs) (h : OutsOk bs.length os) (j : Nat) : isM (keptM bs os) j = true ↔ ∃ o ∈ os, Reach bs true o.toNat j := by
  unfold keptM
  rw [passes_reach hok (markO_len _ _)]
  constructor
  · rintro ⟨i, hi, hr⟩
    obtain ⟨o, ho, rfl⟩ := (markO_is h i).1 hi
    exact ⟨o, ho, hr⟩
  · rintro ⟨o, ho, hr⟩
    exact ⟨o.toNat, (markO_is h _).2 ⟨o, ho, rfl⟩, hr⟩
structure PrI (bs : List Bk) (os : List Int) (t : Nat) (m : List Bool) : Prop where
  len : m.length = bs.length
  is : ∀ j, isM m j = true ↔ ∃ o ∈ os.take t, Reach bs true o.toNat j
theorem PrI.start (bs : List Bk) (os : List Int) : PrI bs os 0 (List.replicate bs.length false) := ⟨by simp, fun j => by rw [isM_rep]; simp⟩
theorem PrI.step {bs : List Bk} {os : List Int} {t : Nat} {m m' : List Bool} {o : Int} (h : PrI bs os t m) (ho : os[t]? = some o) (hp : MarkPost bs true m o.toNat m') : PrI bs os (t + 1) m' := by
  refine ⟨hp.len.trans h.len, fun j => ?_⟩
  rw [List.take_add_one, ho]
  constructor
  · intro hj
    rcases hp.from_ j hj with h1 | h1
    · obtain ⟨s, hs, hr⟩ := (h.is j).1 h1
      exact ⟨s, by simp [hs], hr⟩
    · exact ⟨o, by simp, h1⟩
  · rintro ⟨s, hs, hr⟩
    rcases List.mem_append.1 hs with hs | hs
    · exact hp.mono j ((h.is j).2 ⟨s, hs, hr⟩)
    · simp at hs
      subst hs
      induction hr with
      | refl => exact hp.self
      | step hr1 ha ih =>
        rename_i j' a
        cases hm : isM m j' with
        | true =>
          obtain ⟨q, hq, hr2⟩ := (h.is j').1 hm
          exact hp.mono _ ((h.is _).2 ⟨q, hq, hr2.step ha⟩)
        | false => exact hp.closed _ ih hm _ ha
theorem PrI.done {bs : List Bk} {os : List Int} {t : Nat} {m : List Bool} (h : PrI bs os t m) (hok : SuccOk bs) (ho : OutsOk bs.length os) (ht : os.length ≤ t) : m = keptM bs os := by
  refine marks_eq (h.len.trans (keptM_len _ _).symm) fun j _ => ?_
  show isM m j = true ↔ isM (keptM bs os) j = true
  rw [h.is, keptM_is hok ho, List.take_of_length_le ht]
theorem markL_nodup (m : List Bool) : (markL m).Nodup := (List.nodup_range).filter _
theorem keptL_lt {bs : List Bk} {os : List Int} {i : Nat} (h : i ∈ keptL bs os) : i < bs.length := by
  have := isM_lt (markL_mem.1 h)
  rwa [keptM_len] at this
theorem keptL_len (bs : List Bk) (os : List Int) : (keptL bs os).length ≤ bs.length := by
  have := markL_len (keptM bs os)
  rwa [keptM_len] at this
/- New numbers. -/
def renA (L : List Nat) (a : Int) : Int := if a.toNat ∈ L then ((L.idxOf a.toNat : Nat) : Int) else 0
def numT (n : Nat) (L : List Nat) (t : Nat) : List Int := (List.range n).map fun j => if j ∈ L.take t then ((L.idxOf j : Nat) : Int) else 0
theorem numT_len (n : Nat) (L : List Nat) (t : Nat) : (numT n L t).length = n := by simp [numT]
theorem numT_zero (n : Nat) (L : List Nat) : numT n L 0 = List.replicate n 0 := by
  refine List.ext_getElem (by simp [numT]) fun i h1 h2 => ?_
  simp [numT]
theorem idx_at {L : List Nat} (hn : L.Nodup) {t i : Nat} (h : L[t]? = some i) : L.idxOf i = t := by
  obtain ⟨ht, rfl⟩ := List.getElem?_eq_some_iff.1 h
  exact hn.idxOf_getElem t ht
theorem numT_set {n : Nat} {L : List Nat} {t i : Nat} (hn : L.Nodup) (h : L[t]? = some i) : (numT n L t).set i (t : Int) = numT n L (t + 1) := by
  refine List.ext_getElem (by simp [numT]) fun j h1 h2 => ?_
  rw [List.getElem_set]
  simp only [numT, List.getElem_map, List.getElem_range]
  rw [List.take_add_one, h]
  by_cases e : i = j
  · subst e
    rw [if_pos rfl, if_pos (by simp), idx_at hn h]
  · rw [if_neg e]
    have : (j ∈ L.take t ++ (some i).toList) ↔ j ∈ L.take t := by simp; intro h; exact absurd h.symm e
    simp only [this]
theorem numT_get {n : Nat} {L : List Nat} {j : Nat} (hj : j < n) : (numT n L L.length)[j]? = some (renA L (j : Int)) := by
  simp [numT, renA, hj]
def prB (L : List Nat) (b : Bk) : Bk := ⟨b.kind, none, if b.kind = 0 then b.args else b.args.map (renA L), 0, b.vn, b.ve, b.un, b.ue⟩
def prBs (bs : List Bk) (os : List Int) : List Bk := (keptL bs os).map fun i => prB (keptL bs os) (bs[i]?.getD bk0)
def prOs (bs : List Bk) (os : List Int) : List Int := os.map (renA (keptL bs os))
theorem prBs_len (bs : List Bk) (os : List Int) : (prBs bs os).length = (keptL bs os).length := by simp [prBs]
theorem prBs_get {bs : List Bk} {os : List Int} {k i : Nat} {b : Bk} (h : (keptL bs os)[k]? = some i) (hb : bs[i]? = some b) : (prBs bs os)[k]? = some (prB (keptL bs os) b) := by
  simp [prBs, h, hb]
theorem ren_in {L : List Nat} {a : Int} (h : a.toNat ∈ L) : 0 ≤ renA L a ∧ renA L a < (L.length : Int) ∧ L[(renA L a).toNat]? = some a.toNat := by
  unfold renA
  rw [if_pos h]
  have h1 := List.idxOf_lt_length_iff.2 h
  refine ⟨by omega, by omega, ?_⟩
  rw [Int.toNat_natCast, List.getElem?_eq_getElem h1, List.getElem_idxOf h1]
section
variable {ps : List Prt} {bs : List Bk} {os : List Int} (hd : dgErr ps bs os = 0)
include hd
theorem dg_outs : OutsOk bs.length os := by
  intro o ho
  have := firstErr_zero (pre_parts (pre_of hd).2.1).2.2 _ (List.mem_map_of_mem (f := outE bs.length) ho)
  unfold outE at this
  by_cases h : 0 ≤ o ∧ o < (bs.length : Int)
  · exact h
  · rw [if_neg h] at this; cases this
theorem kept_is (j : Nat) : j ∈ keptL bs os ↔ ∃ o ∈ os, Reach bs true o.toNat j := by
  unfold keptL
  rw [markL_mem, keptM_is (dg_succ hd) (dg_outs hd)]
theorem kept_out {o : Int} (ho : o ∈ os) : o.toNat ∈ keptL bs os := (kept_is hd _).2 ⟨o, ho, Reach.refl _⟩
theorem kept_arg {i : Nat} (hi : i ∈ keptL bs os) {a : Int} (ha : a ∈ preds bs i) : a.toNat ∈ keptL bs os := by
  obtain ⟨o, ho, hr⟩ := (kept_is hd _).1 hi
  exact (kept_is hd _).2 ⟨o, ho, hr.step (by rw [succs_true]; exact ha)⟩
theorem kept_blk {k i : Nat} (h : (keptL bs os)[k]? = some i) : ∃ b, bs[i]? = some b ∧ (prBs bs os)[k]? = some (prB (keptL bs os) b) := by
  have hi := keptL_lt (List.mem_of_getElem? h)
  exact ⟨bs[i], List.getElem?_eq_getElem hi, prBs_get h (List.getElem?_eq_getElem hi)⟩
theorem pr_kind {k i : Nat} (h : (keptL bs os)[k]? = some i) : kindAt (prBs bs os) k = kindAt bs i := by
  obtain ⟨b, hb, hp⟩ := kept_blk hd h
  rw [kind_of hb, kind_of hp]
  rfl
theorem pr_preds {k i : Nat} (h : (keptL bs os)[k]? = some i) : preds (prBs bs os) k = (preds bs i).map (renA (keptL bs os)) := by
  obtain ⟨b, hb, hp⟩ := kept_blk hd h
  rw [preds_of hb, preds_of hp]
  show (if b.kind = 0 then [] else if b.kind = 0 then b.args else b.args.map (renA (keptL bs os))) = _
  by_cases hk : b.kind = 0
  · rw [if_pos hk, if_pos hk]; rfl
  · rw [if_neg hk, if_neg hk, if_neg hk]
theorem pr_blkErr {k i : Nat} (h : (keptL bs os)[k]? = some i) {b : Bk} (hb : bs[i]? = some b) : blkErr ps.length (prBs bs os).length (prB (keptL bs os) b) = 0 := by
  have h0 : blkErr ps.length bs.length b = 0 := blkErr_lt (pre_blk (pre_of hd).2.1) hb
  have hargs : firstErr ((prB (keptL bs os) b).args.map (outE (mostM ps.length (prBs bs os).length b.kind))) = 0 := by
    by_cases hk : b.kind = 0
    · have ha := (blk_args h0).2.2
      show firstErr ((if b.kind = 0 then b.args else b.args.map (renA (keptL bs os))).map _) = 0
      rw [if_pos hk]
      refine firstErr_all fun x hx => ?_
      obtain ⟨a, hm, rfl⟩ := List.mem_map.1 hx
      have := ha a hm
      unfold mostM at this ⊢
      rw [if_pos hk] at this ⊢
      exact if_pos this
    · show firstErr ((if b.kind = 0 then b.args else b.args.map (renA (keptL bs os))).map _) = 0
      rw [if_neg hk]
      refine firstErr_all fun x hx => ?_
      obtain ⟨a', hm', rfl⟩ := List.mem_map.1 hx
      obtain ⟨a, hm, rfl⟩ := List.mem_map.1 hm'
      unfold mostM
      rw [if_neg hk]
      have hin := kept_arg hd (List.mem_of_getElem? h) (a := a) (by rw [preds_of hb, if_neg hk]; exact hm)
      obtain ⟨q1, q2, _⟩ := ren_in hin
      exact if_pos ⟨q1, by rw [prBs_len]; exact q2⟩
  have hlen : (prB (keptL bs os) b).args.length = b.args.length := by
    show (if b.kind = 0 then b.args else b.args.map (renA (keptL bs os))).length = _
    split
    · rfl
    · simp
  unfold blkErr at h0 ⊢
  rw [hlen]
  show (if arityM b.kind < 0 then 7 else if ¬ ((b.args.length : Nat) : Int) = arityM b.kind then 11 else if ¬ firstErr ((prB (keptL bs os) b).args.map (outE (mostM ps.length (prBs bs os).length b.kind))) = 0 then 10 else _) = (0 : Int)
  rw [if_neg (not_not_intro hargs)]
  split at h0
  · cases h0
  · rename_i n1
    rw [if_neg n1]
    split at h0
    · cases h0
    · rename_i n2
      rw [if_neg n2]
      split at h0
      · cases h0
      · exact h0
theorem pr_err : dgErr ps (prBs bs os) (prOs bs os) = 0 := by
  obtain ⟨q1, q2, q3⟩ := pre_parts (pre_of hd).2.1
  have hs := (pre_of hd).1
  have hsz : sizeOk ps (prBs bs os) (prOs bs os) := by
    unfold sizeOk at hs ⊢
    have := keptL_len bs os
    rw [prBs_len, prOs, List.length_map]
    exact ⟨hs.1, by omega, hs.2.2⟩
  have hpre : preErr ps (prBs bs os) (prOs bs os) = 0 := by
    refine pe4 q1 (firstErr_all fun x hx => ?_) (firstErr_all fun x hx => ?_)
    · obtain ⟨y, hy, rfl⟩ := List.mem_map.1 hx
      obtain ⟨k, hk⟩ := List.getElem?_of_mem hy
      have hkl := (List.getElem?_eq_some_iff.1 hk).1
      rw [prBs_len] at hkl
      have hL := List.getElem?_eq_getElem hkl
      obtain ⟨b, hb, hp⟩ := kept_blk hd hL
      rw [hp] at hk
      cases hk
      exact pr_blkErr hd hL hb
    · obtain ⟨y, hy, rfl⟩ := List.mem_map.1 hx
      unfold prOs at hy
      obtain ⟨o, ho, rfl⟩ := List.mem_map.1 hy
      obtain ⟨p1, p2, _⟩ := ren_in (kept_out hd ho)
      exact if_pos ⟨p1, by rw [prBs_len]; exact p2⟩
  rw [de2 hsz hpre]
  unfold ordErr
  refine if_pos ?_
  apply Classical.byContradiction
  intro hst
  obtain ⟨U, hU, u, hu⟩ := sup_of_stuck (succ_ok (pre_parts hpre).2.1) hst
  have hs2 : Sup bs (fun v => ∃ k, (keptL bs os)[k]? = some v ∧ U k) := by
    rintro v ⟨k, hk, hUk⟩
    obtain ⟨r1, r2, a, ha, hUa⟩ := hU k hUk
    rw [pr_kind hd hk] at r2
    rw [pr_preds hd hk] at ha
    obtain ⟨a0, ha0, rfl⟩ := List.mem_map.1 ha
    have hm := List.mem_of_getElem? hk
    exact ⟨keptL_lt hm, r2, a0, ha0, _, (ren_in (kept_arg hd hm ha0)).2.2, hUa⟩
  obtain ⟨r1, _, _⟩ := hU u hu
  rw [prBs_len] at r1
  have := stuck_of_sup hs2 (u := (keptL bs os)[u]) ⟨u, List.getElem?_eq_getElem r1, hu⟩
  apply this
  have ho := (pre_of hd).2.2
  unfold ordErr at ho
  by_cases h : (ordM bs).length = nonDel bs
  · exact h
  · rw [if_neg h] at ho; cases ho
theorem kept_nodup : (keptL bs os).Nodup := markL_nodup _
end
end Go.Proofs.YtfooonellkgaeaaDoor
namespace Go.Proofs.YtfooonellkgaeaaDoor
open Go.RowKit Go.Deep
def zPrt : Value := .agg #[.int .i64 0, .int .i64 0, .int .i64 0]
theorem info_prt : (Tryd.prog.info? 69).map (fun i => (i.zero, i.size, i.bytes)) = some (some zPrt, 3, 24) := by kernel_rfl
theorem under_prts : Tryd.prog.underlying 37 = some (.slice 69) := by kernel_rfl
def OwnP (w : World) (base : Nat) (v : Value) (l : List Prt) : Prop := w.ownsRow base 69 3 v l.length (flat Prt.cells l)
theorem OwnP.lit0 {w : World} {base : Nat} (h : base ≤ w.heap.size) : OwnP (w.alloc (.cells #[] 69)) base (.slice (some ⟨w.heap.size, 0, none⟩) 0 0) [] := World.ownsRow_made w #[] 0 h (Nat.zero_le _) rfl
theorem OwnP.view {w : World} {base : Nat} {v : Value} {l : List Prt} (h : OwnP w base v l) : ∃ A c, v = .slice A l.length c ∧ (A = none → c = 0) ∧ CellsAt w w.heap.size A (flat Prt.cells l) := by
  rcases h.2 with ⟨rfl, h0⟩ | ⟨g, cap, cur, rfl, hb, hg, hn, hm, hs, ht⟩
  · have : l = [] := List.eq_nil_of_length_eq_zero h0
    subst this
    exact ⟨none, 0, rfl, fun _ => rfl, CellsAt.nil_⟩
  · have hlt := (World.ownsRow.lt h g rfl).2
    refine ⟨some ⟨g, 0, none⟩, cap, rfl, by simp, fun _ => ⟨g, 0, rfl, hlt, hlt, fun j u hu => ?_⟩⟩
    have := World.ownsRow.cells h (g := g) rfl j u hu
    rcases j with _ | j
    · simpa [Addr.add] using this
    · simpa [Addr.add] using this
theorem prt_oneC {ys : List Prt} : ∀ u ∈ flat Prt.cells ys, u.oneCell' = true := by
  intro u hu
  obtain ⟨l, hl, hu⟩ := List.mem_flatten.1 hu
  obtain ⟨p, _, rfl⟩ := List.mem_map.1 hl
  simp [Prt.cells] at hu
  rcases hu with rfl | rfl | rfl <;> rfl
theorem app_ports {w : World} {ops : Array Oper} {rest : List Oper} {o : Oper} {a : Act} {Q : Exit → Act → World → Prop} (hgd : o.guard = none) (s x : Operand)
    (ho : o.op = .call { callee := .builtin .append, args := #[s, x], argTypes := #[37, 37] })
    (base : Nat) (v : Value) (xs ys : List Prt) (A : Option Addr) (c m : Nat) (hs : a.eval s = v) (hown : OwnP w base v xs) (hx : a.eval x = .slice A ys.length c) (hn : A = none → c = 0) (hc : CellsAt w m A (flat Prt.cells ys))
    (hlen : xs.length + ys.length ≤ 1000000) (hbase : base ≤ w.heap.size)
    (h : ∀ v' w', OwnP w' base v' (xs ++ ys) → w.grownBy w' v.ownBlock → Below base w w' → wpList Tryd.prog ops Q rest (a.put o.dst v') w') : wpList Tryd.prog ops Q (o :: rest) a w := by
  obtain ⟨i0, hi, hz0, hz1, hz2⟩ := info_parts info_prt
  rcases A with _ | ⟨b, off, l⟩
  · have hy : ys = [] := by
      rcases ys with _ | ⟨y, ys⟩
      · rfl
      · obtain ⟨b, off, hA, _⟩ := hc (by simp [flat, Prt.cells])
        cases hA
    subst hy
    have hc0 := hn rfl
    subst hc0
    exact wpList_append_own_none hgd s x 37 ho base 69 i0 3 under_prts hi v xs.length (flat Prt.cells xs) hs hown hx (h v w (by rw [List.append_nil]; exact hown) ⟨rfl, rfl, rfl, Nat.le_refl _, fun _ _ _ => rfl⟩ (Below.refl _ _))
  · refine wpList_append_own w hgd s x 37 ho base 69 i0 zPrt 3 24 under_prts hi hz0 hz1 hz2 rfl (by decide) v xs.length (flat Prt.cells xs) hs hown ⟨b, off, l⟩ ys.length c (flat Prt.cells ys) hx (by rw [flat_len (f := Prt.cells) (s := 3) (fun _ => rfl)]) ?_ prt_oneC (by unfold maxLen; omega) (by omega) hbase (fun v' w' h1 h2 _ => h v' w' ?_ h2 ((Below.refl base w).grown h2 hbase (fun g hg => (World.ownsRow.lt hown g hg).1)))
    · intro j u hu
      obtain ⟨b', off', hA, _, _, hcc⟩ := hc (fun h0 => by rw [h0] at hu; simp at hu)
      cases hA
      have hu' := hcc j u hu
      rcases j with _ | j
      · simpa [Addr.add] using hu'
      · simpa [Addr.add] using hu'
    · have e : flat Prt.cells (xs ++ ys) = flat Prt.cells xs ++ flat Prt.cells ys := by simp [flat]
      unfold OwnP
      rw [e, List.length_append]
      exact h1
theorem made_ints (n : Nat) : (madeCells (Value.int .i64 0).cells (n * 1)).toList = ints (List.replicate n 0) := by
  simp only [Value.cells, Nat.mul_one, ints, List.map_replicate]
  exact toList_madeCells_one _ _
theorem OwnI.byB {w w' : World} {base b0 : Nat} {v V : Value} {xs : List Int} {l : List Bk} (h : OwnI w base v xs) (hV : OwnB w b0 V l) (hg : w.grownBy w' V.ownBlock) : OwnI w' base v xs := by
  refine World.ownsRow.kept h hg ?_
  rcases h.2 with ⟨rfl, _⟩ | ⟨g, cap, cur, rfl, _, hh, _⟩
  · exact .inl rfl
  · refine .inr fun he => ?_
    rcases hV.2 with ⟨rfl, _⟩ | ⟨g', cap', cur', rfl, _, hh', _⟩
    · cases he
    · have : g = g' := by simpa [Value.ownBlock] using he
      subst this
      rw [hh] at hh'
      simp at hh'
theorem OwnB.setLow {w : World} {base g : Nat} {v : Value} {l : List Bk} (h : OwnB w base v l) (hg : g < base) (j : Nat) (u : Value) : OwnB (w.setCell ⟨g, j, none⟩ u) base v l := h.set_below u hg
theorem OwnI.apart {w w' : World} {g base : Nat} {v : Value} {xs : List Int} (h : OwnI w base v xs) (ha : Apart g w w') (hg : g < base) : OwnI w' base v xs := by
  refine ⟨h.1, ?_⟩
  rcases h.2 with hn | ⟨g', cap, cur, rfl, hbg, hg', rest⟩
  · exact .inl hn
  · refine .inr ⟨g', cap, cur, rfl, hbg, ?_, rest⟩
    rw [ha.block g' (Array.getElem?_eq_some_iff.1 hg').1 (by omega)]
    exact hg'
theorem OwnB.apart {w w' : World} {g base : Nat} {v : Value} {l : List Bk} (h : OwnB w base v l) (ha : Apart g w w') (hg : g < base) : OwnB w' base v l := by
  refine ⟨h.1, ?_⟩
  rcases h.2 with hn | ⟨g', cap, cur, rfl, hbg, hg', rest⟩
  · exact .inl hn
  · refine .inr ⟨g', cap, cur, rfl, hbg, ?_, rest⟩
    rw [ha.block g' (Array.getElem?_eq_some_iff.1 hg').1 (by omega)]
    exact hg'
theorem Apart.more {g B : Nat} {W w w' : World} (h : Apart g W w) (hb : Below B w w') (hB : W.heap.size ≤ B) : Apart g W w' :=
  ⟨hb.os.trans h.os, hb.tape.trans h.tape, hb.output.trans h.output, Nat.le_trans h.size hb.size, fun k hk hkg => (hb.block k (Nat.lt_of_lt_of_le hk hB)).trans (h.block k hk hkg)⟩
theorem step_pushI {w : World} {ops : Array Oper} {o : Oper} {a : Act} {K : Act → World → Prop} {Q : Exit → Act → World → Prop} {E : Prop} (hgd : o.guard = none) (s x : Operand)
    (ho : o.op = .call { callee := .builtin .append, args := #[s, x], argTypes := #[39, 39] })
    (base : Nat) (v : Value) (xs : List Int) (z : Int) (g : Nat) (hs : a.eval s = v) (hown : OwnI w base v xs) (hx : a.eval x = .slice (some ⟨g, 0, none⟩) 1 1) (hg : w.cell? ⟨g, 0, none⟩ = some (.int .i64 z))
    (hlen : xs.length < 1000000) (hbase : base ≤ w.heap.size)
    (h : ∀ v' w', OwnI w' base v' (xs ++ [z]) → w.grownBy w' v.ownBlock → Below base w w' → K (a.put o.dst v') w') : if Region.wanted o (yielded ops a.tmps) = true then Oper.wp Tryd.prog o a w K Q else E := by
  obtain ⟨i0, hi, hz0, hz1, hz2⟩ := info_parts info_int
  refine step_append_lies w hgd s x 39 ho base 3 i0 (.int .i64 0) 1 8 under_ints hi hz0 hz1 hz2 rfl (by decide) v xs.length (ints xs) hs hown ⟨g, 0, none⟩ 1 1 [.int .i64 z] hx rfl ?_ (by simp [Value.oneCell']) (by decide) (by unfold maxLen; omega) (by omega) hbase _ rfl (fun g' cap w' h1 h2 _ _ => h _ w' ?_ h2 ((Below.refl base w).grown h2 hbase (fun g hg => (World.ownsRow.lt hown g hg).1)))
  · intro j u hu
    rcases j with _ | j
    · simp at hu; subst hu; simpa [Addr.add] using hg
    · simp at hu
  · have e : ints (xs ++ [z]) = ints xs ++ [.int .i64 z] := by simp [ints]
    unfold OwnI
    rw [e, List.length_append]
    exact h1
end Go.Proofs.YtfooonellkgaeaaDoor
namespace Go.Proofs.YtfooonellkgaeaaDoor
open Go.RowKit
def NoneT {α : Type} (p : α → Bool) (l : List α) (t : Nat) : Prop := (l.take t).any p = false
theorem NoneT.zero {α : Type} (p : α → Bool) (l : List α) : NoneT p l 0 := by simp [NoneT]
theorem NoneT.succ {α : Type} {p : α → Bool} {l : List α} {t : Nat} {x : α} (h : NoneT p l t) (hx : l[t]? = some x) (hp : p x = false) : NoneT p l (t + 1) := by
  unfold NoneT at h ⊢
  rw [List.take_add_one, hx, List.any_append, h]
  simp [hp]
theorem NoneT.all {α : Type} {p : α → Bool} {l : List α} {t : Nat} (h : NoneT p l t) (ht : l.length ≤ t) : l.any p = false := by
  unfold NoneT at h
  rwa [List.take_of_length_le ht] at h
def vaRel (bs : List Bk) (L : List Nat) (w4 : World) (i : Value) (wr : World) : Prop := ∃ t : Nat, t ≤ L.length ∧ i = .int .i64 (t : Int) ∧ NoneT (srcB bs) L t ∧ wr = w4
def affO (d : Dg) : Bool := if dgE d = 0 then affB d.bs else false
def AffP (d : Dg) (w : World) (e : Ending) (w' : World) : Prop := e = .returned (.tuple #[.bool (affO d), errV (dgE d)]) ∧ Below w.heap.size w w'
def afRel (w : World) (vs : List Value) (bs : List Bk) (i : Value) (wr : World) : Prop := ∃ k : Nat, k ≤ bs.length ∧ i = .int .i64 (k : Int) ∧ NoAff bs k ∧ RowD wr w.heap.size vs 41 ∧ Below w.heap.size w wr
theorem dg_blk {ps : List Prt} {bs : List Bk} {os : List Int} {k : Nat} {b : Bk} (h : dgErr ps bs os = 0) (hb : bs[k]? = some b) : blkErr ps.length bs.length b = 0 :=
  firstErr_zero (pre_blk (pre_of h).2.1) _ (List.mem_map_of_mem (List.mem_of_getElem? hb))
end Go.Proofs.YtfooonellkgaeaaDoor
namespace Go.Proofs.YtfooonellkgaeaaDoor
open Go.RowKit
def vr1 (w : World) (vs : List Value) (n : Nat) (f : Nat → List Bool) (v : Value) (wr : World) : Prop := ∃ k : Nat, k ≤ n ∧ v = .int .i64 (k : Int) ∧ RowD wr (w.heap.size + 1) (bools (f k)) 4 ∧ RowD wr w.heap.size vs 41 ∧ Below w.heap.size w wr
def vr4 (w : World) (vs : List Value) (bs : List Bk) (v : Value) (wr : World) : Prop := ∃ k : Nat, k ≤ bs.length ∧ v = .int .i64 (k : Int) ∧ NoAff bs k ∧ RowD wr (w.heap.size + 1) (bools (varyM bs)) 4 ∧ RowD wr w.heap.size vs 41 ∧ Below w.heap.size w wr
end Go.Proofs.YtfooonellkgaeaaDoor
namespace Go.Proofs.YtfooonellkgaeaaDoor
open Go.RowKit
structure Nz (d : Dg) : Prop where
  n1 : d.A1 = none → d.c1 = 0
  n4 : ∀ b ∈ d.bs, b.A = none → b.cap = 0
def PruneP (ps : List Prt) (l : List Bk) (os : List Int) (kept : List Int) (er : Int) (w : World) (e : Ending) (w' : World) : Prop :=
  ∃ (d' : Dg) (v : Value), e = .returned (.tuple #[d'.val, v, errV er]) ∧ DgAt w' w'.heap.size d' ∧ Nz d' ∧ d'.ps = ps ∧ d'.bs.map core = l.map core ∧ d'.os = os ∧ OwnI w' w.heap.size v kept ∧ Below w.heap.size w w'
theorem res_prune {tmps : Array Value} {w : World} {b : Nat} {v0 v1 v2 v3 v4 : Value} (h2 : tmps.getD 2 undef = .pointer (some ⟨b, 0, none⟩)) (h3 : tmps.getD 3 undef = v3) (h4 : tmps.getD 4 undef = v4) (hB : RowD w b [v0, v1, v2] 41) :
    (results Tryd.f33 tmps).run Tryd.prog w = .ok (.tuple #[.agg #[v0, v1, v2], v3, v4]) w := by
  have k0 := hB.cell 0
  have k1 := hB.cell 1
  have k2 := hB.cell 2
  simp at k0 k1 k2
  simp at h2 h3 h4
  simp [results, Tryd.results33, go_sem, h2, h3, h4, k0, k1, k2]
def pg1 (w : World) (bs : List Bk) (os : List Int) (g : Nat) (w2 : World) (v : Value) (wr : World) : Prop :=
  ∃ (t : Nat) (m : List Bool), t ≤ os.length ∧ v = .int .i64 (t : Int) ∧ PrI bs os t m ∧ RowD wr g (bools m) 4 ∧ Apart g w2 wr
def pg2 (n : Nat) (L : List Nat) (gi : Nat) (w5 : World) (v : Value) (wr : World) : Prop :=
  ∃ t : Nat, t ≤ L.length ∧ v = .int .i64 (t : Int) ∧ RowD wr gi (ints (numT n L t)) 3 ∧ Apart gi w5 wr
structure BkOwn (w : World) (base : Nat) (l : List Bk) : Prop where
  args : ∀ x ∈ l, OwnI w base (.slice x.A x.args.length x.cap) x.args ∧ x.args.length ≤ 1000000
def wantK (bs : List Bk) (L : List Nat) (k : Nat) : List Bk := (L.take k).map fun i => prB L (bs[i]?.getD bk0)
def pg3 (bs : List Bk) (L : List Nat) (PV : Value) (OB : Nat) (w17 : World) (v : Value) (wr : World) : Prop :=
  ∃ (k : Nat) (V : Value) (l : List Bk), k ≤ L.length ∧ v = .int .i64 (k : Int) ∧ RowD wr OB [PV, V, .slice none 0 0] 41 ∧ OwnB wr (OB + 1) V l ∧ l.map core = (wantK bs L k).map core ∧ BkOwn wr (OB + 1) l ∧ Below OB w17 wr
def pg4 (S : Nat) (box : List Value) (zs : List Int) (wr : World) (v17 v81 : Value) (w9 : World) : Prop :=
  ∃ (t : Nat) (v : Value), t ≤ zs.length ∧ v81 = .int .i64 (t : Int) ∧ v17 = v ∧ OwnI w9 (S + 1) v (zs.take t) ∧ RowD w9 S box 66 ∧ Below S wr w9
def pg5 (os' : List Int) (PV V : Value) (OB : Nat) (w33 : World) (v : Value) (wr : World) : Prop :=
  ∃ (t : Nat) (V5 : Value), t ≤ os'.length ∧ v = .int .i64 (t : Int) ∧ RowD wr OB [PV, V, V5] 41 ∧ OwnI wr w33.heap.size V5 (os'.take t) ∧ Apart OB w33 wr
theorem wantK_len {bs : List Bk} {L : List Nat} {k : Nat} (h : k ≤ L.length) : (wantK bs L k).length = k := by simp [wantK]; omega
theorem wantK_succ {bs : List Bk} {L : List Nat} {k i : Nat} {b : Bk} (h : L[k]? = some i) (hb : bs[i]? = some b) : wantK bs L (k + 1) = wantK bs L k ++ [prB L b] := by
  unfold wantK
  rw [List.take_add_one, h]
  simp [hb]
theorem pg3_low {bs l : List Bk} {L : List Nat} {PV V v17 v' : Value} {OB k i : Nat} {w17 wr w9 w5 : World} {b x : Bk} (o : Obj) (HO : RowD wr OB [PV, V, .slice none 0 0] 41) (HV : OwnB wr (OB + 1) V l) (hl : l.map core = (wantK bs L k).map core) (HA : BkOwn wr (OB + 1) l) (hb : Below OB w17 wr)
    (hk : L[k]? = some i) (hbi : bs[i]? = some b) (h9 : Below wr.heap.size wr w9) (hO9 : OwnI w9 (wr.heap.size + 1) v17 x.args) (hx : core x = core (prB L b)) (hxl : x.args.length ≤ 1000000) (hv : v17 = .slice x.A x.args.length x.cap)
    (hg : ((w9.setCell ⟨wr.heap.size, 1, none⟩ v17).alloc o).grownBy w5 V.ownBlock) (hb5 : Below (OB + 1) ((w9.setCell ⟨wr.heap.size, 1, none⟩ v17).alloc o) w5) (hown : OwnB w5 (OB + 1) v' (l ++ [x])) :
    pg3 bs L PV OB w17 (.int .i64 ((k : Int) + 1)) (w5.setCell ⟨OB, 1, none⟩ v') := by
  have hOB := HO.lt
  have hkl := (List.getElem?_eq_some_iff.1 hk).1
  have hbb : Below wr.heap.size wr ((w9.setCell ⟨wr.heap.size, 1, none⟩ v17).alloc o) := (h9.setCell (p := ⟨wr.heap.size, 1, none⟩) (Nat.le_refl _) v17).alloc (by have := h9.size; simpa using this) o
  have HVb : OwnB ((w9.setCell ⟨wr.heap.size, 1, none⟩ v17).alloc o) (OB + 1) V l := HV.call hbb
  refine ⟨k + 1, v', l ++ [x], by omega, by go_num, ((HO.below hbb hOB).below hb5 (by omega)).set_ 1 v', hown.setLow (by omega) 1 v', ?_, ⟨fun y hy => ?_⟩, ?_⟩
  · rw [wantK_succ hk hbi, List.map_append, List.map_append, hl]
    simp [hx]
  · rcases List.mem_append.1 hy with hy | hy
    · obtain ⟨h1, h2⟩ := HA.args y hy
      exact ⟨(OwnI.byB (h1.call hbb) HVb hg).setLow (by omega) 1 v', h2⟩
    · simp at hy
      subst hy
      subst hv
      exact ⟨(OwnI.byB (((hO9.setLow (by omega) 1 _).alloc o).base_ (by omega)) HVb hg).setLow (by omega) 1 v', hxl⟩
  · exact ((hb.trans (hbb.mono (by omega))).trans (hb5.mono (by omega))).setCell (p := ⟨OB, 1, none⟩) (Nat.le_refl _) v'
theorem pg5_low {zs : List Int} {PV V V5 v' : Value} {OB t : Nat} {z : Int} {w33 wr w5 : World} {o : Obj} (HO : RowD wr OB [PV, V, V5] 41) (hap : Apart OB w33 wr) (hown : OwnI w5 w33.heap.size v' (zs.take t ++ [z])) (hz : zs[t]? = some z) (hb : Below w33.heap.size ((wr.drew).alloc o) w5) (hOB : OB < w33.heap.size) :
    pg5 zs PV V OB w33 (.int .i64 ((t : Int) + 1)) (w5.setCell ⟨OB, 2, none⟩ v') := by
  have hlt := (List.getElem?_eq_some_iff.1 hz).1
  have h1 : Below wr.heap.size wr ((wr.drew).alloc o) := (Below.refl _ wr).drew.alloc (Nat.le_refl _) o
  refine ⟨t + 1, v', by omega, by go_num, ((HO.call h1).below hb hOB).set_ 2 v', ?_, ?_⟩
  · rw [List.take_add_one, hz]
    exact hown.setLow hOB 2 v'
  · exact ((hap.trans (Apart.of h1)).more hb (Nat.le_refl _)).trans (Apart.set _)
theorem DgAt.made {w : World} {base : Nat} {PA BA OA : Option Addr} {ps : List Prt} {l : List Bk} {os : List Int} {c1 c2 c3 : Nat} (hP : CellsAt w w.heap.size PA (flat Prt.cells ps)) (hB : CellsAt w w.heap.size BA (flat Bk.cells l)) (hO : CellsAt w w.heap.size OA (ints os)) (HA : BkOwn w base l) (l1 : ps.length ≤ 1000000) (l2 : l.length ≤ 1000000) (l3 : os.length ≤ 1000000) (n1 : PA = none → c1 = 0) :
    DgAt w w.heap.size ⟨PA, ps, c1, BA, l, c2, OA, os, c3⟩ ∧ Nz ⟨PA, ps, c1, BA, l, c2, OA, os, c3⟩ := by
  refine ⟨⟨hP, hB, hO, fun b hb => ?_, l1, l2, l3⟩, ⟨n1, fun b hb => ?_⟩⟩
  · obtain ⟨h1, h2⟩ := HA.args b hb
    exact ⟨h1.cells, h2⟩
  · obtain ⟨h1, h2⟩ := HA.args b hb
    obtain ⟨A, c, he, hn, _⟩ := h1.view
    simp only [Value.slice.injEq] at he
    obtain ⟨rfl, _, rfl⟩ := he
    exact hn
theorem OwnI.apart' {w w' : World} {g base : Nat} {v : Value} {xs : List Int} (h : OwnI w base v xs) (ha : Apart g w w') (hg : ∀ q, v.ownBlock = some q → q ≠ g) : OwnI w' base v xs := by
  refine ⟨h.1, ?_⟩
  rcases h.2 with hn | ⟨g', cap, cur, rfl, hbg, hg', rest⟩
  · exact .inl hn
  · refine .inr ⟨g', cap, cur, rfl, hbg, ?_, rest⟩
    rw [ha.block g' (Array.getElem?_eq_some_iff.1 hg').1 (hg g' rfl)]
    exact hg'
theorem OwnB.cells_ {w : World} {base n c : Nat} {A : Option Addr} {l : List Bk} (h : OwnB w base (.slice A n c) l) : CellsAt w w.heap.size A (flat Bk.cells l) := by
  obtain ⟨A', c', he, _, hc⟩ := h.view
  simp only [Value.slice.injEq] at he
  obtain ⟨rfl, _, _⟩ := he
  exact hc
theorem OwnI.set3 {w : World} {base g : Nat} {v : Value} {xs : List Int} (h : OwnI w base v xs) (hg : g < base) (a b c : Value) : OwnI (((w.setCell ⟨g, 0, none⟩ a).setCell ⟨g, 1, none⟩ b).setCell ⟨g, 2, none⟩ c) base v xs := ((h.setLow hg 0 a).setLow hg 1 b).setLow hg 2 c
theorem OwnB.set3 {w : World} {base g : Nat} {v : Value} {xs : List Bk} (h : OwnB w base v xs) (hg : g < base) (a b c : Value) : OwnB (((w.setCell ⟨g, 0, none⟩ a).setCell ⟨g, 1, none⟩ b).setCell ⟨g, 2, none⟩ c) base v xs := ((h.setLow hg 0 a).setLow hg 1 b).setLow hg 2 c
theorem CellsAt.set3 {w : World} {m g : Nat} {A : Option Addr} {xs : List Value} (h : CellsAt w m A xs) (hA : ∀ a : Addr, A = some a → a.block ≠ g) (a b c : Value) : CellsAt (((w.setCell ⟨g, 0, none⟩ a).setCell ⟨g, 1, none⟩ b).setCell ⟨g, 2, none⟩ c) m A xs := ((h.setD a hA).setD b hA).setD c hA
theorem size3 (w : World) (g : Nat) (a b c : Value) : (((w.setCell ⟨g, 0, none⟩ a).setCell ⟨g, 1, none⟩ b).setCell ⟨g, 2, none⟩ c).heap.size = w.heap.size := by simp
theorem CellsAt.ap {w w' : World} {g m : Nat} {A : Option Addr} {xs : List Value} (h : CellsAt w m A xs) (ha : Apart g w w') (hg : m ≤ g) (hm : m ≤ w.heap.size) : CellsAt w' m A xs := h.below (ha.below hg hm) (Nat.le_refl _)
end Go.Proofs.YtfooonellkgaeaaDoor
namespace Go.Proofs.YtfooonellkgaeaaDoor
open Go.RowKit
def RPruneP (ps : List Prt) (l : List Bk) (os : List Int) (kept : List Int) (w : World) (e : Ending) (w' : World) : Prop :=
  ∃ (d' : Dg) (v : Value), e = .returned (.tuple #[d'.val, v]) ∧ DgAt w' w'.heap.size d' ∧ Nz d' ∧ d'.ps = ps ∧ d'.bs.map core = l.map core ∧ d'.os = os ∧ OwnI w' w.heap.size v kept ∧ Below w.heap.size w w'
def pd1 (bs : List Bk) (os : List Int) (g : Nat) (w2 : World) (v : Value) (wr : World) : Prop :=
  ∃ t : Nat, t ≤ os.length ∧ v = .int .i64 (t : Int) ∧ RowD wr g (bools (setsT os (List.replicate bs.length false) t)) 4 ∧ Apart g w2 wr
def pd4 (S : Nat) (box : List Value) (zs args : List Int) (wo : World) (A17 : Option Addr) (c17 : Nat) (v80 : Value) (w9 : World) : Prop :=
  ∃ t : Nat, t ≤ args.length ∧ v80 = .int .i64 (t : Int) ∧ OwnI w9 (S + 1) (.slice A17 args.length c17) (mix zs args t) ∧ RowD w9 S box 66 ∧ Below S wo w9
end Go.Proofs.YtfooonellkgaeaaDoor
namespace Go.Proofs.YtfooonellkgaeaaDoor
open Go.ChangeShapes Go.WideShapes Go.ChangeAt Go.RowKit Go.Joins Go.Deep
def AllS (w : World) : Sets := fun t b => t = true ∧ b < w.heap.size
theorem row_in {w : World} {A : Option Addr} {s n c : Nat} {cs : List D} {xs : List Value} (h : CellsAt w w.heap.size A xs) (hc : n ≤ c) (hA : A = none → c = 0) (hl : cs.length = n * s) (hr : LRel (DRel w (AllS w)) cs xs) : DRel w (AllS w) (.row true s n cs) (.slice A n c) := by
  refine .row xs hc hA hl hr.1 (fun hne => ?_) hr.2
  obtain ⟨b, off, h1, _, h2, h3⟩ := h (fun h0 => hne (by have := hr.1; rw [h0] at this; exact List.eq_nil_of_length_eq_zero (by simpa using this)))
  exact ⟨b, off, h1, ⟨rfl, h2⟩, h3⟩
theorem ints_one {zs : List Int} : ∀ v ∈ ints zs, v.oneCell' = true := fun v hv => by
  obtain ⟨z, _, rfl⟩ := List.mem_map.1 hv
  rfl
theorem rowI_in {w : World} {A : Option Addr} {zs : List Int} {c : Nat} (h : CellsAt w w.heap.size A (ints zs)) (hc : zs.length ≤ c) (hA : A = none → c = 0) : DRel w (AllS w) (rowI true zs) (.slice A zs.length c) := by
  unfold rowI
  rw [dI_map]
  exact row_in h hc hA (by simp [ints]) (rel_vals ints_one)
theorem prt_one {ps : List Prt} : ∀ v ∈ flat Prt.cells ps, v.oneCell' = true := fun v hv => by
  obtain ⟨l, hl, hv⟩ := List.mem_flatten.1 hv
  obtain ⟨p, _, rfl⟩ := List.mem_map.1 hl
  simp only [Prt.cells, List.mem_cons, List.not_mem_nil, or_false] at hv
  rcases hv with rfl | rfl | rfl <;> rfl
theorem flat_lenV {α : Type} {f : α → List Value} {s : Nat} (hf : ∀ x, (f x).length = s) : ∀ l : List α, (flat f l).length = l.length * s
  | [] => by simp [flat]
  | x :: l => by
    have ih := flat_lenV hf l
    unfold flat at ih ⊢
    rw [List.map_cons, List.flatten_cons, List.length_append, ih, hf, List.length_cons, Nat.add_mul]
    omega
theorem rowP_in {w : World} {A : Option Addr} {ps : List Prt} {c : Nat} (h : CellsAt w w.heap.size A (flat Prt.cells ps)) (hc : ps.length ≤ c) (hA : A = none → c = 0) : DRel w (AllS w) (rowP true ps) (.slice A ps.length c) := by
  unfold rowP
  rw [flatD_vals dPrt_vals]
  exact row_in h hc hA (by rw [List.length_map]; exact flat_lenV (f := Prt.cells) (s := 3) (fun _ => rfl) ps) (rel_vals prt_one)
theorem bks_in {w : World} : ∀ {bs : List Bk}, (∀ b ∈ bs, CellsAt w w.heap.size b.A (ints b.args) ∧ b.args.length ≤ b.cap ∧ (b.A = none → b.cap = 0)) → LRel (DRel w (AllS w)) (flatD (dBk true) bs) (flat Bk.cells bs)
  | [], _ => .nil_
  | b :: bs, h => by
    have ih := bks_in (w := w) (bs := bs) fun x hx => h x (by simp [hx])
    obtain ⟨h1, h2, h3⟩ := h b (by simp)
    exact .cons_ (.val rfl) (.cons_ (rowI_in h1 h2 h3) (.cons_ (.val rfl) (.cons_ (.val rfl) (.cons_ (.val rfl) (.cons_ (.val rfl) ih)))))
theorem bks_len (t : Bool) : ∀ bs : List Bk, (flatD (dBk t) bs).length = bs.length * 6
  | [] => rfl
  | b :: bs => by
    have ih := bks_len t bs
    show (flatD (dBk t) ([b] ++ bs)).length = _
    rw [flatD_app, List.length_append, ih, List.length_cons, Nat.add_mul]
    show 6 + bs.length * 6 = _
    omega
section
variable {H : Type} {enc : TypeId × Value → H} {w : World} {spare : Nat → Bool} {held : Bool}
set_option maxRecDepth 100000 in
theorem open_dgA {r : Go.Reach} {b0 : Nat} {v : Value} {d : DataW H} {p : List MemPlace} (hv : Value.okWide Tryd.prog w r b0 41 v) (h : DataW.Trod enc Tryd.prog w 0 spare held 41 v d p) :
    ∃ (ps : List Prt) (bs : List Bk) (os : List Int), ARel w (AllS w) (aDg true ps bs os) v := by
  obtain ⟨v0, v1, v2, y0, y1, y2, m, rfl, rfl, rfl, g0, g1, g2⟩ := open_agg3 Tryd.underlying41 (by kernel_rfl) (by kernel_rfl) hv h
  obtain ⟨A1, c1, ps, rfl, n1, k1, l1, h1, b1⟩ := rows_of_cell prtOf prtOf_cells (fun _ => rfl) (by decide) Tryd.underlying37 Tryd.underlying69 (by kernel_rfl) (fields_int (by kernel_rfl)) (by kernel_rfl) rfl g0
  obtain ⟨A2, c2, bs, e2, l2, h2, b2⟩ := blks_of_cell g1
  obtain ⟨A3, c3, os, rfl, n3, k3, l3, h3, b3⟩ := ints_of_cell' Tryd.underlying39 Tryd.underlying3 (by kernel_rfl) g2
  have hs : (A2 = none → c2 = 0) ∧ bs.length ≤ c2 := by
    rcases open_slice Tryd.underlying38 g1 with ⟨hcs, _⟩ | ⟨a, len, cap, m, n, D, Pl, hcs, _, hl, hm, hmm, _, hx⟩
    · have e3 : v1 = .slice none 0 0 := by simpa using hcs
      rw [e2] at e3
      simp only [Value.slice.injEq] at e3
      exact ⟨fun _ => e3.2.2, by omega⟩
    · have e3 : v1 = .slice (some a) len cap := by simpa using hcs
      rw [e2] at e3
      simp only [Value.slice.injEq] at e3
      exact ⟨fun h0 => (by rw [e3.1] at h0; cases h0), by omega⟩
  refine ⟨ps, bs, os, [.slice A1 ps.length c1, v1, .slice A3 os.length c3], rfl, ?_⟩
  rw [e2]
  exact .cons_ (rowP_in h1 k1 n1) (.cons_ (row_in h2 hs.2 hs.1 (bks_len true bs) (bks_in fun b hb => ⟨(b2 b hb).2.2.2.1, (b2 b hb).2.1, (b2 b hb).1⟩)) (.cons_ (rowI_in h3 k3 n3) .nil_))
end
end Go.Proofs.YtfooonellkgaeaaDoor
namespace Go.Proofs.YtfooonellkgaeaaDoor
open Go.RowKit
theorem own_cap {w : World} {base e s n c : Nat} {A : Option Addr} {xs : List Value} {k : Nat} (h : w.ownsRow base e s (.slice A n c) k xs) : n ≤ c := by
  rcases h.2 with ⟨h', h0⟩ | ⟨g, cap, cur, h', _, _, hnc, _⟩
  · simp only [Value.slice.injEq] at h'
    omega
  · simp only [Value.slice.injEq] at h'
    omega
def PruneF (ps : List Prt) (l0 : List Bk) (os : List Int) (kept : List Int) (w : World) (e : Ending) (w' : World) : Prop :=
  ∃ (v1 v2 v3 v : Value) (l : List Bk), e = .returned (.tuple #[.agg #[v1, v2, v3], v, .nilIface]) ∧ (∃ A c, v1 = .slice A ps.length c ∧ (A = none → c = 0) ∧ ps.length ≤ c ∧ (∀ a : Addr, A = some a → w.heap.size ≤ a.block) ∧ CellsAt w' w'.heap.size A (flat Prt.cells ps)) ∧ OwnB w' w.heap.size v2 l ∧ BkOwn w' w.heap.size l ∧ l.map core = l0.map core ∧ OwnI w' w.heap.size v3 os ∧ OwnI w' w.heap.size v kept ∧ Below w.heap.size w w'
set_option maxRecDepth 100000 in
set_option maxHeartbeats 8000000 in
theorem prune_okF (d : Dg) (m : Nat) (w : World) (hm : m ≤ w.heap.size) (hd : DgAt w m d) (ht : TabAt w) (hnz : Nz d) (he : dgErr d.ps d.bs d.os = 0) :
    Calls Tryd.prog 33 #[d.val] w (PruneF d.ps (prBs d.bs d.os) (prOs d.bs d.os) (natI (keptL d.bs d.os)) w) := by
  have hl1 := hd.l1
  have hl2 := hd.l2
  have hl3 := hd.l3
  have HD := Lib.hid hd
  have HT := Lib.hid ht
  clear hd ht
  obtain ⟨A1, ps, c1, A2, bs, c2, A3, os, c3⟩ := d
  dsimp only at hl1 hl2 hl3
  simp only [Dg.val]
  have b0 := ext_alloc (al_ w (.cells #[.slice A1 ps.length c1, .slice A2 bs.length c2, .slice A3 os.length c3] 41)) (.cells #[.slice none 0 0, .slice none 0 0, .slice none 0 0] 41)
  have r0 := (RowD.new_ w [.slice A1 ps.length c1, .slice A2 bs.length c2, .slice A3 os.length c3] 41).al (.cells #[.slice none 0 0, .slice none 0 0, .slice none 0 0] 41)
  have rr := RowD.new_ (w.alloc (.cells #[.slice A1 ps.length c1, .slice A2 bs.length c2, .slice A3 os.length c3] 41)) [.slice none 0 0, .slice none 0 0, .slice none 0 0] 41
  rw [size_al1] at rr
  have HB0 := Lib.hid b0
  have R0 := Lib.hid r0
  have RR := Lib.hid rr
  clear b0 r0 rr
  go_enter Tryd.func33, Tryd.ntmps33
  go_wp2_with fail
  go_at_call 25
  refine (Check_any ⟨A1, ps, c1, A2, bs, c2, A3, os, c3⟩ m _ (by simp; omega) (HD.out.below HB0.out hm) (HT.out.below HB0.out HT.out.1)).mono ?_
  rintro e w1 ⟨rfl, hb1⟩
  dsimp only
  have R1 := Lib.hid (R0.out.call hb1)
  have RR1 := Lib.hid (RR.out.call hb1)
  have N1 := Lib.hid (HB0.out.trans (hb1.mono HB0.out.size))
  have z1 : w.heap.size + 1 < w1.heap.size := RR1.out.lt
  clear hb1
  try dsimp only at he
  try dsimp only
  rw [he, errV_0]
  have HE := Lib.hid he
  have HOK := Lib.hid (dg_succ he)
  have HOO := Lib.hid (dg_outs he)
  have HN1 := Lib.hid hnz.n1
  obtain ⟨i0, hi, hz0, hz1, hz2⟩ := info_parts info_bool
  obtain ⟨j0, hj, hy0, hy1, hy2⟩ := info_parts info_int
  have q1 : w1.cell? ⟨w.heap.size, 1, none⟩ = some (.slice A2 bs.length c2) := R1.out.cell 1
  have q2 : w1.cell? ⟨w.heap.size, 2, none⟩ = some (.slice A3 os.length c3) := R1.out.cell 2
  have z1' : w.heap.size + 2 ≤ w1.heap.size := by omega
  clear he hnz
  go_wp2_with (at_make; (with_reducible refine wpList_make_full _ rfl (.tmp 30) (.tmp 30) 102 rfl (w.heap.size + 2) 4 i0 (.bool false) 1 under_bools hi hz0 hz1 .i64 .i64 bs.length bs.length bs.length rfl rfl rfl rfl (by rw [hz2]; omega) (by unfold maxLen; omega) (by first | assumption | (simp; done) | (simp; omega)) ?_; intro w2 hown hg); have hst : Below (w.heap.size + 2) w1 w2 := (Below.refl _ _).grown hg z1' (fun k h => by simp at h); have hrow := rowD_of hown; rw [made_bools] at hrow; have R2 := Lib.hid (R1.out.below hst (by omega)); have RR2 := Lib.hid (RR1.out.below hst (by omega)); have HROW := Lib.hid hrow; have hzg := hrow.lt; have q1' : w2.cell? ⟨w.heap.size, 1, none⟩ = some (.slice A2 bs.length c2) := R2.out.cell 1; have q2' : w2.cell? ⟨w.heap.size, 2, none⟩ = some (.slice A3 os.length c3) := R2.out.cell 2; have z2 : w.heap.size < w2.heap.size := (by omega); have N2 := Lib.hid (N1.out.trans (hst.mono (by omega))); clear hown hrow hst hg q1 q2)
  obtain ⟨g, hg⟩ : ∃ g, g = w1.heap.size := ⟨_, rfl⟩
  rw [← hg] at HROW hzg
  rw [← hg]
  have hgw : w.heap.size + 2 ≤ g := by omega
  clear hg q1' q2' R1 RR1 N1 z1 z1'
  go_loopw [35] (fun v wr => pg1 w bs os g w2 v wr) (fun v _ => os.length - (intOf v).toNat)
  case atStart => exact ⟨0, _, Nat.zero_le _, rfl, PrI.start _ _, HROW.out, Apart.refl _ _⟩
  case round =>
    obtain ⟨t, mm, ht, rfl, hpr, hrow, hap⟩ := hrel
    have HPR := Lib.hid hpr
    have HRW := Lib.hid hrow
    have zg := hrow.lt
    have R3 := Lib.hid (R2.out.apart hap (by omega))
    have RR3 := Lib.hid (RR2.out.apart hap (by omega))
    have N3 := Lib.hid (N2.out.trans (hap.below (by omega) (by omega)))
    have z3 : w.heap.size < wr.heap.size := R3.out.lt
    have q1 : wr.cell? ⟨w.heap.size, 1, none⟩ = some (.slice A2 bs.length c2) := R3.out.cell 1
    clear hpr hrow
    by_cases hlt : t < os.length
    · as_aux_lemma =>
      have hlti : (t : Int) < (os.length : Int) := by omega
      obtain ⟨ob, oo, z, rfl, hob, hob2, hz, gz⟩ := (HD.out.below N3.out hm).os.int_ hlt
      dsimp only at gz hz hob hob2
      have hzb := HOO.out z (List.mem_of_getElem? hz)
      obtain ⟨a, rfl⟩ := Int.eq_ofNat_of_zero_le hzb.1
      have haN : a < bs.length := by have := hzb.2; omega
      have q0 : wr.cell? ⟨w.heap.size, 0, none⟩ = some (.slice A1 ps.length c1) := R3.out.cell 0
      have q2 : wr.cell? ⟨w.heap.size, 2, none⟩ = some (.slice (some ⟨ob, oo, none⟩) os.length c3) := R3.out.cell 2
      have HZ := Lib.hid hz
      clear hz hzb
      go_wp2_with fail
      go_at_call 68
      refine (mark_any ⟨A1, ps, c1, A2, bs, c2, some ⟨ob, oo, none⟩, os, c3⟩ m g true (by omega) HOK.out (bs.length + 1) mm a wr (by have := unM_le mm; rw [HPR.out.len] at this; omega) HPR.out.len haN (HD.out.below N3.out hm) HRW.out).mono ?_
      rintro e w3 ⟨rfl, l', hp, hrow3, hap3⟩
      have HP := Lib.hid hp
      clear hp
      have N4 := Lib.hid hrow3
      have A4 := Lib.hid (hap.trans hap3)
      clear hrow3 hap hap3 q0 q1 q2 gz
      go_wp2_with fail
      exact ⟨⟨t + 1, l', by omega, by go_num, HPR.out.step HZ.out (by rw [Int.toNat_natCast]; exact HP.out), N4.out, A4.out⟩, by simp [intOf]; omega⟩
    · have hle : ¬ (t : Int) < (os.length : Int) := by omega
      have HM := Lib.hid (HPR.out.done HOK.out HOO.out (by omega))
      have hmln := HPR.out.len
      have HLL := Lib.hid hmln
      have z3' : w.heap.size + 2 ≤ wr.heap.size := by omega
      clear hap HPR R2 RR2 N2 HROW hmln
      go_wp2_with fail
      go_at_call 69
      rw [← HLL.out]
      refine (list_any (some ⟨g, 0, none⟩) mm mm.length wr.heap.size wr (Nat.le_refl _) (HRW.out.cells_ HRW.out.lt) (by have := HLL.out; omega)).mono ?_
      rintro e w4 ⟨v4, rfl, D4, hb4⟩
      obtain ⟨A4, c4, rfl, n4, hc4⟩ := D4.view
      have HQ4 := Lib.hid (D4.base_ (show w.heap.size + 2 ≤ wr.heap.size from z3'))
      have HC4 := Lib.hid hc4
      have R4 := Lib.hid (R3.out.call hb4)
      have RR4 := Lib.hid (RR3.out.call hb4)
      have N4 := Lib.hid (N3.out.trans (hb4.mono N3.out.size))
      have z4 : w.heap.size + 1 < w4.heap.size := RR4.out.lt
      have q1' : w4.cell? ⟨w.heap.size, 1, none⟩ = some (.slice A2 bs.length c2) := R4.out.cell 1
      clear D4 hc4 hb4 n4 q1 R3 RR3 N3
      rw [HLL.out]
      have hmk : natI (markL mm) = natI (keptL bs os) := by rw [HM.out]; rfl
      rw [hmk] at HC4 HQ4
      rw [hmk]
      rw [natI_len] at HQ4
      rw [natI_len]
      obtain ⟨L, hL⟩ : ∃ L, L = keptL bs os := ⟨_, rfl⟩
      rw [← hL] at HC4 HQ4
      rw [← hL]
      have HL := Lib.hid hL
      have HND := Lib.hid (show L.Nodup by rw [hL]; exact kept_nodup HE.out)
      have HLT := Lib.hid (show ∀ j ∈ L, j < bs.length by rw [hL]; exact fun j hj => keptL_lt hj)
      have hLn : L.length ≤ bs.length := by rw [hL]; exact keptL_len _ _
      clear hmk hL HM HRW zg hgw
      have z4' : w.heap.size + 2 ≤ w4.heap.size := by omega
      go_wp2_with (at_make; (with_reducible refine wpList_make_full _ rfl (.tmp 48) (.tmp 48) 39 rfl (w.heap.size + 2) 3 j0 (.int .i64 0) 1 under_ints hj hy0 hy1 .i64 .i64 bs.length bs.length bs.length rfl rfl rfl rfl (by rw [hy2]; omega) (by unfold maxLen; omega) (by first | assumption | (simp; done) | (simp; omega)) ?_; intro w5 hown hg); have hst : Below (w.heap.size + 2) w4 w5 := (Below.refl _ _).grown hg z4' (fun k h => by simp at h); have hst2 : Below w4.heap.size w4 w5 := (Below.refl _ _).grown hg (Nat.le_refl _) (fun k h => by simp at h); have hrow := rowD_of hown; rw [made_ints, ← numT_zero bs.length L] at hrow; have HQ5 := Lib.hid (HQ4.out.call hst2); have HQ5K := Lib.hid (show ∀ q, (Value.slice A4 L.length c4).ownBlock = some q → q < w4.heap.size from fun q hq => (World.ownsRow.lt HQ4.out q hq).2); have HQ5L := Lib.hid (show ∀ q, (Value.slice A4 L.length c4).ownBlock = some q → q ≠ w4.heap.size from fun q hq => Nat.ne_of_lt (World.ownsRow.lt HQ4.out q hq).2); have HC5 := Lib.hid (HC4.out.below hst2 (Nat.le_refl _)); have R5 := Lib.hid (R4.out.below hst (by omega)); have RR5 := Lib.hid (RR4.out.below hst (by omega)); have HGI := Lib.hid hrow; have zgi := hrow.lt; have N5 := Lib.hid (N4.out.trans (hst.mono (by omega))); clear hown hrow hst hst2 hg q1')
      obtain ⟨gi, hgi⟩ : ∃ gi, gi = w4.heap.size := ⟨_, rfl⟩
      rw [← hgi] at HGI HC5 zgi HQ5L HQ5K
      rw [← hgi]
      have hgiw : w.heap.size + 2 ≤ gi := by omega
      clear hgi HC4 HQ4 R4 RR4 N4 z4 z4'
      go_loopw [52] (fun v wr => pg2 bs.length L gi w5 v wr) (fun v _ => L.length - (intOf v).toNat)
      case atStart => exact ⟨0, Nat.zero_le _, rfl, HGI.out, Apart.refl _ _⟩
      case round =>
        clear HGI
        obtain ⟨t, ht, rfl, hgr, hap⟩ := hrel
        have HG := Lib.hid hgr
        have zg : gi < wr.heap.size := hgr.lt
        have gf : ∀ j, wr.frozen? ⟨gi, j, none⟩ = false := fun j => hgr.free j
        clear hgr
        by_cases hlt : t < L.length
        · as_aux_lemma =>
          have hlti : (t : Int) < (L.length : Int) := by omega
          obtain ⟨lb, lo, z, rfl, hlb, hlb2, hz, gz⟩ := (HC5.out.ap hap (Nat.le_refl _) (by omega)).int_ (k := t) (by rw [natI_len]; exact hlt)
          rw [natI_get] at hz
          obtain ⟨j, hj', rfl⟩ := Option.map_eq_some_iff.1 hz
          have HJ := Lib.hid hj'
          have hjn : j < bs.length := HLT.out j (List.mem_of_getElem? hj')
          have hji : (j : Int) < (bs.length : Int) := by omega
          have hcj : wr.cell? ⟨gi, j, none⟩ = some (.int .i64 ((numT bs.length L t)[j]?.getD 0)) := by
            have h1 : j < (numT bs.length L t).length := by rw [numT_len]; exact hjn
            rw [HG.out.cell, List.getElem?_eq_getElem h1]
            exact ints_get (List.getElem?_eq_getElem h1)
          clear hz hj'
          go_wp2_with fail
          exact ⟨⟨t + 1, by omega, by go_num, by rw [← numT_set HND.out HJ.out, ints_set]; exact HG.out.set_ j _, hap.trans (Apart.set _)⟩, by simp [intOf]; omega⟩
        · have hle : ¬ (t : Int) < (L.length : Int) := by omega
          have e : t = L.length := by omega
          subst e
          have HQ6 := Lib.hid (HQ5.out.apart' hap HQ5L.out)
          have R6 := Lib.hid (R5.out.apart hap (by omega))
          have RR6 := Lib.hid (RR5.out.apart hap (by omega))
          have N6 := Lib.hid (N5.out.trans (hap.below (by omega) (by omega)))
          have HC6 := Lib.hid (HC5.out.ap hap (Nat.le_refl _) (by omega))
          have q0 : wr.cell? ⟨w.heap.size, 0, none⟩ = some (.slice A1 ps.length c1) := R6.out.cell 0
          have z6 : w.heap.size < wr.heap.size := R6.out.lt
          have HP6 := Lib.hid (HD.out.below N6.out hm).ps
          have HWE := Lib.hid (show w.heap.size + 2 ≤ wr.heap.size by omega)
          clear hap HC5 HQ5 R5 RR5 N5 gf
          go_wp2_with (at_builtin; refine app_ports rfl (.tmp 62) (.tmp 64) rfl wr.heap.size _ [] ps A1 c1 m rfl (OwnP.lit0 (Nat.le_refl _)) rfl HN1.out (HP6.out.below (al_ _ _) (by omega)) (by simpa using hl1) (by simp) ?_; intro v7 w7 hown7 hg7 hb7; rw [List.nil_append] at hown7; obtain ⟨A7, c7, rfl, n7, hc7⟩ := hown7.view; have HC7 := Lib.hid hc7; have HN7K := Lib.hid (own_cap hown7); have HNP := Lib.hid n7; have HP7L := Lib.hid (show ∀ a : Addr, A7 = some a → wr.heap.size ≤ a.block from fun a ha => (World.ownsRow.lt hown7 a.block (by rw [ha]; rfl)).1); have hz7 := hb7.size; have HB7 := Lib.hid (Below.trans ((Below.refl wr.heap.size wr).alloc (Nat.le_refl _) _) hb7); clear hown7 hg7 hb7 hc7 n7 q0)
          have hz7' : wr.heap.size ≤ w7.heap.size := HB7.out.size
          have R7 := Lib.hid (R6.out.call HB7.out)
          have RR7 := Lib.hid (RR6.out.call HB7.out)
          have HQ7 := Lib.hid (HQ6.out.call HB7.out)
          have N7 := Lib.hid (N6.out.trans (HB7.out.mono N6.out.size))
          have HC7k := Lib.hid (HC6.out.below HB7.out (by omega))
          have HG7 := Lib.hid (HG.out.call HB7.out)
          have HP7M := Lib.hid (show ∀ a : Addr, A7 = some a → w.heap.size + 1 < a.block from fun a ha => by have := HP7L.out a ha; have := HWE.out; omega)
          clear HQ6 R6 RR6 N6 HC6 HP6 HB7 HG hz7 HP7L
          obtain ⟨OB, hOB⟩ : ∃ OB, OB = w7.heap.size := ⟨_, rfl⟩
          obtain ⟨W7, hW7⟩ : ∃ W, W = w7.alloc (.cells #[.slice A7 ps.length c7, .slice none 0 0, .slice none 0 0] 41) := ⟨_, rfl⟩
          have hz7s : W7.heap.size = w7.heap.size + 1 := by rw [hW7]; simp
          have RO := Lib.hid (RowD.new_ w7 [.slice A7 ps.length c7, .slice none 0 0, .slice none 0 0] 41)
          have b7 := al_ w7 (.cells #[.slice A7 ps.length c7, .slice none 0 0, .slice none 0 0] 41)
          have R8 := Lib.hid (R7.out.call b7)
          have RR8 := Lib.hid (RR7.out.call b7)
          have HQ8 := Lib.hid (HQ7.out.call b7)
          have HQ8L := Lib.hid (show ∀ q, (Value.slice A4 L.length c4).ownBlock = some q → q < gi from HQ5K.out)
          have N8 := Lib.hid (N7.out.trans (b7.mono N7.out.size))
          have HC8k := Lib.hid (HC7k.out.below b7 (by omega))
          have HC8 := Lib.hid (HC7.out.below b7 (Nat.le_refl _))
          have HGI9 := Lib.hid (HG7.out.call b7)
          rw [← hW7] at RO R8 RR8 HQ8 N8 HC8k HC8 HGI9
          rw [← hOB] at RO HC8
          rw [← hW7, ← hOB]
          have hgiO : gi < OB := by omega
          have hOW : W7.heap.size = OB + 1 := by omega
          have HOW := Lib.hid hOW
          have hmO : m ≤ OB := by omega
          have hwO : w.heap.size + 1 < OB := by omega
          clear hOB hW7 hz7s b7 HQ7 R7 RR7 N7 HC7k HG7 HC7 hz7' z6 zg hOW hgiw zgi
          go_loopw [69] (fun v wr => pg3 bs L (.slice A7 ps.length c7) OB W7 v wr) (fun v _ => L.length - (intOf v).toNat)
          case atStart => exact ⟨0, _, [], Nat.zero_le _, rfl, RO.out, OwnB.nil_ _ _, rfl, ⟨by simp⟩, Below.refl _ _⟩
          case round =>
            clear RO
            obtain ⟨k, V, l, hk, rfl, hro, hv, hlc, hbo, hb⟩ := hrel
            have HO := Lib.hid hro
            have HV := Lib.hid hv
            have HLC := Lib.hid hlc
            have HBO := Lib.hid hbo
            have HB := Lib.hid hb
            have zo : OB < wr.heap.size := hro.lt
            have HLK := Lib.hid (show l.length = k by have h1 := core_len hlc; rw [wantK_len hk] at h1; exact h1)
            have N9 := Lib.hid (N8.out.trans (hb.mono (by omega)))
            have HG9 := Lib.hid (HGI9.out.below hb hgiO)
            have R9 := Lib.hid (R8.out.below hb (by omega))
            have q1 : wr.cell? ⟨w.heap.size, 1, none⟩ = some (.slice A2 bs.length c2) := R9.out.cell 1
            have z9 : w.heap.size < wr.heap.size := R9.out.lt
            have zgi : gi < wr.heap.size := HG9.out.lt
            have HC9k := Lib.hid (HC8k.out.below hb (Nat.le_of_lt hgiO))
            clear hro hv hlc hbo
            by_cases hlt : k < L.length
            · have hki : (k : Int) < (L.length : Int) := by omega
              have HLL := Lib.hid (show l.length < 1000000 by have := HLK.out; omega)
              obtain ⟨lb, lo, zk, rfl, hlb, hlb2, hz, gz⟩ := HC9k.out.int_ (k := k) (by rw [natI_len]; exact hlt)
              rw [natI_get] at hz
              obtain ⟨i, hi', rfl⟩ := Option.map_eq_some_iff.1 hz
              have HKI := Lib.hid hi'
              have hil : i < bs.length := HLT.out i (List.mem_of_getElem? hi')
              clear hz hi'
              obtain ⟨b, off, kind, B, args, cap, vn, ve, un, ue, hA2, hbm, hbs, hx, g0, g1, g2, g3, g4, g5, ha, hal⟩ := (HD.out.below N9.out hm).blk hil
              dsimp only at hA2 hx
              subst hA2
              have HX := Lib.hid hx
              have HA4 := Lib.hid ha
              have HA0 := Lib.hid (show ∀ z ∈ args, 0 ≤ z from fun z hz => by
                have h1 := (blk_args (dg_blk HE.out HX.out)).2.2 z hz
                exact h1.1)
              clear hx ha
              by_cases hk0 : kind = 0
              · subst hk0
                obtain ⟨zs, hzs⟩ : ∃ zs : List Int, zs = (if (0 : Int) = 0 then args else args.map (renA L)) := ⟨_, rfl⟩
                have HZS := Lib.hid hzs
                have HZN := Lib.hid (show zs.length = args.length by rw [hzs, if_pos rfl])
                have HZL := Lib.hid (show zs.length ≤ 1000000 by rw [HZN.out]; exact hal)
                clear hzs
                obtain ⟨S, hS⟩ : ∃ S, S = wr.heap.size := ⟨_, rfl⟩
                have HS := Lib.hid hS
                have hgiS : gi < S := by omega
                have hOBS : OB < S := by omega
                have hmS : m ≤ S := by omega
                have hiS : (i : Int) < (bs.length : Int) := by omega
                clear hS
                go_wp2_with fail
                rw [← HZN.out]
                have HBX := Lib.hid (RowD.new_ wr [.int .i64 0, .slice B zs.length cap, .int .i64 vn, .int .i64 ve, .int .i64 un, .int .i64 ue] 66)
                rw [← HS.out] at HBX
                rw [← HS.out]
                obtain ⟨wo, rfl⟩ : ∃ wo : World, wo = wr := ⟨_, rfl⟩
                go_loopw [17, 81] (fun v17 v81 w9 => pg4 S [.int .i64 0, .slice B zs.length cap, .int .i64 vn, .int .i64 ve, .int .i64 un, .int .i64 ue] zs wo v17 v81 w9) (fun _ v81 _ => zs.length - (intOf v81).toNat)
                case atStart => exact ⟨0, _, Nat.zero_le _, rfl, rfl, OwnI.nil_ _ _, HBX.out, by rw [HS.out]; exact al_ _ _⟩
                case round =>
                  clear HBX
                  obtain ⟨t, v17, ht, rfl, rfl, hv9, hs9, h9b⟩ := hrel
                  have HV9 := Lib.hid hv9
                  have HS9 := Lib.hid hs9
                  have zS9 : S < wr.heap.size := hs9.lt
                  have q0 : wr.cell? ⟨S, 0, none⟩ = some (.int .i64 0) := hs9.cell 0
                  clear hv9 hs9
                  by_cases hlt4 : t < zs.length
                  · as_aux_lemma =>
                    have hzl := HZL.out
                    have hlti : (t : Int) < (zs.length : Int) := by omega
                    have hlta : t < args.length := by have := HZN.out; omega
                    obtain ⟨ab, ao, z, rfl, hab, hab2, hz, gz⟩ := (HA4.out.below h9b hmS).int_ hlta
                    have hz0 : 0 ≤ z := HA0.out z (List.mem_of_getElem? hz)
                    obtain ⟨a, rfl⟩ := Int.eq_ofNat_of_zero_le hz0
                    clear hz0 hlta
                    have HZT := Lib.hid (show zs[t]? = some (a : Int) from by rw [HZS.out]; first | (rw [if_pos rfl]; exact hz) | simpa using hz)
                    clear hz
                    go_wp2_with (at_builtin; go_loud (refine push_int rfl (.tmp 92) (.tmp 94) rfl (S + 1) _ (zs.take t) (a : Int) wr.heap.size rfl (HV9.out.alloc _) rfl (by simp [go_sem]) (by have := HZL.out; rw [List.length_take]; omega) (by simp; omega) ?_); intro v' w10 hown hg hb10)
                    refine ⟨⟨t + 1, v', by omega, by go_num, rfl, ?_, (HS9.out.al _).below hb10 (by omega), (h9b.alloc (by have := HS9.out.lt; omega) _).trans (hb10.mono (by omega))⟩, by simp [intOf]; omega⟩
                    rw [List.take_add_one, HZT.out]
                    exact hown
                  · have hle : ¬ (t : Int) < (zs.length : Int) := by omega
                    have ht9 : zs.take t = zs := List.take_of_length_le (by omega)
                    rw [ht9] at HV9
                    obtain ⟨A17, c17, rfl, hn17, _⟩ := HV9.out.view
                    have q1 : wr.cell? ⟨S, 1, none⟩ = some (.slice B zs.length cap) := HS9.out.cell 1
                    have q2 : wr.cell? ⟨S, 2, none⟩ = some (.int .i64 vn) := HS9.out.cell 2
                    have q3 : wr.cell? ⟨S, 3, none⟩ = some (.int .i64 ve) := HS9.out.cell 3
                    have q4 : wr.cell? ⟨S, 4, none⟩ = some (.int .i64 un) := HS9.out.cell 4
                    have q5 : wr.cell? ⟨S, 5, none⟩ = some (.int .i64 ue) := HS9.out.cell 5
                    have qf : ∀ j, wr.frozen? ⟨S, j, none⟩ = false := fun j => HS9.out.free j
                    have HO9 := Lib.hid (HO.out.below h9b hOBS)
                    have o1 : wr.cell? ⟨OB, 1, none⟩ = some V := HO9.out.cell 1
                    have of : ∀ j, wr.frozen? ⟨OB, j, none⟩ = false := fun j => HO9.out.free j
                    have zO9 : OB < wr.heap.size := by omega
                    have HVb := Lib.hid (HV.out.call (show Below wo.heap.size wo (wr.setCell ⟨S, 1, none⟩ (.slice A17 zs.length c17)) from by rw [← HS.out]; exact h9b.setCell (p := ⟨S, 1, none⟩) (Nat.le_refl _) _))
                    have HXC := Lib.hid (show core ⟨0, A17, zs, c17, vn, ve, un, ue⟩ = core (prB L ⟨0, B, args, cap, vn, ve, un, ue⟩) from by rw [HZS.out]; rfl)
                    have hSO : S ≠ OB := by omega
                    clear ht9 hn17
                    go_wp2_with (at_builtin; refine push_bk rfl (.tmp 100) (.tmp 102) rfl (OB + 1) V l ⟨0, A17, zs, c17, vn, ve, un, ue⟩ wr.heap.size rfl (HVb.out.alloc _) rfl (by intro j u hu; rcases j with _ | _ | _ | _ | _ | _ | j <;> simp [Bk.cells] at hu <;> (subst hu; simp [go_sem])) (by have := HLL.out; omega) (by first | (simp; omega) | simp | omega) ?_; intro v' w10 hown10 hg10 hb10; obtain ⟨qc, qff, qs, qz⟩ := ext_at (m := OB + 1) hb10 (by first | (simp; omega) | simp | omega) (by first | (simp; omega) | simp | omega); obtain ⟨A10', c10', rfl, _, _⟩ := hown10.view)
                    have HH9 := HS.out
                    subst HH9
                    exact ⟨pg3_low _ HO.out HV.out HLC.out HBO.out hb HKI.out HX.out h9b HV9.out HXC.out HZL.out rfl hg10 hb10 (by simpa using hown10), by simp [intOf]; omega⟩
              · have n0 : (kind != 0) = true := by simpa using hk0
                have HK0 := Lib.hid hk0
                clear hk0
                obtain ⟨zs, hzs⟩ : ∃ zs : List Int, zs = (if (kind : Int) = 0 then args else args.map (renA L)) := ⟨_, rfl⟩
                have HZS := Lib.hid hzs
                have HZN := Lib.hid (show zs.length = args.length by rw [hzs, if_neg HK0.out]; simp)
                have HZL := Lib.hid (show zs.length ≤ 1000000 by rw [HZN.out]; exact hal)
                clear hzs
                obtain ⟨S, hS⟩ : ∃ S, S = wr.heap.size := ⟨_, rfl⟩
                have HS := Lib.hid hS
                have hgiS : gi < S := by omega
                have hOBS : OB < S := by omega
                have hmS : m ≤ S := by omega
                have hiS : (i : Int) < (bs.length : Int) := by omega
                clear hS
                go_wp2_with fail
                rw [← HZN.out]
                have HBX := Lib.hid (RowD.new_ wr [.int .i64 kind, .slice B zs.length cap, .int .i64 vn, .int .i64 ve, .int .i64 un, .int .i64 ue] 66)
                rw [← HS.out] at HBX
                rw [← HS.out]
                obtain ⟨wo, rfl⟩ : ∃ wo : World, wo = wr := ⟨_, rfl⟩
                go_loopw [17, 81] (fun v17 v81 w9 => pg4 S [.int .i64 kind, .slice B zs.length cap, .int .i64 vn, .int .i64 ve, .int .i64 un, .int .i64 ue] zs wo v17 v81 w9) (fun _ v81 _ => zs.length - (intOf v81).toNat)
                case atStart => exact ⟨0, _, Nat.zero_le _, rfl, rfl, OwnI.nil_ _ _, HBX.out, by rw [HS.out]; exact al_ _ _⟩
                case round =>
                  clear HBX
                  obtain ⟨t, v17, ht, rfl, rfl, hv9, hs9, h9b⟩ := hrel
                  have HV9 := Lib.hid hv9
                  have HS9 := Lib.hid hs9
                  have zS9 : S < wr.heap.size := hs9.lt
                  have q0 : wr.cell? ⟨S, 0, none⟩ = some (.int .i64 kind) := hs9.cell 0
                  clear hv9 hs9
                  by_cases hlt4 : t < zs.length
                  · as_aux_lemma =>
                    have hzl := HZL.out
                    have hlti : (t : Int) < (zs.length : Int) := by omega
                    have hlta : t < args.length := by have := HZN.out; omega
                    obtain ⟨ab, ao, z, rfl, hab, hab2, hz, gz⟩ := (HA4.out.below h9b hmS).int_ hlta
                    have hz0 : 0 ≤ z := HA0.out z (List.mem_of_getElem? hz)
                    obtain ⟨a, rfl⟩ := Int.eq_ofNat_of_zero_le hz0
                    clear hz0 hlta
                    have HZT := Lib.hid (show zs[t]? = some (renA L (a : Int)) from by rw [HZS.out, if_neg HK0.out, List.getElem?_map, hz]; rfl)
                    have haN : a < bs.length := by
                      have h := HOK.out i hil (a : Int) (by rw [preds_of HX.out, if_neg HK0.out]; exact List.mem_of_getElem? hz)
                      omega
                    have haI : (a : Int) < (bs.length : Int) := by omega
                    have hca : wr.cell? ⟨gi, a, none⟩ = some (.int .i64 (renA L (a : Int))) := by rw [(h9b.cell (p := ⟨gi, a, none⟩) (by show gi < S; omega)), HG9.out.cell]; exact ints_get (numT_get haN)
                    clear hz
                    go_wp2_with (at_builtin; go_loud (refine push_int rfl (.tmp 92) (.tmp 94) rfl (S + 1) _ (zs.take t) (renA L (a : Int)) wr.heap.size rfl (HV9.out.alloc _) rfl (by simp [go_sem]) (by have := HZL.out; rw [List.length_take]; omega) (by simp; omega) ?_); intro v' w10 hown hg hb10)
                    refine ⟨⟨t + 1, v', by omega, by go_num, rfl, ?_, (HS9.out.al _).below hb10 (by omega), (h9b.alloc (by have := HS9.out.lt; omega) _).trans (hb10.mono (by omega))⟩, by simp [intOf]; omega⟩
                    rw [List.take_add_one, HZT.out]
                    exact hown
                  · have hle : ¬ (t : Int) < (zs.length : Int) := by omega
                    have ht9 : zs.take t = zs := List.take_of_length_le (by omega)
                    rw [ht9] at HV9
                    obtain ⟨A17, c17, rfl, hn17, _⟩ := HV9.out.view
                    have q1 : wr.cell? ⟨S, 1, none⟩ = some (.slice B zs.length cap) := HS9.out.cell 1
                    have q2 : wr.cell? ⟨S, 2, none⟩ = some (.int .i64 vn) := HS9.out.cell 2
                    have q3 : wr.cell? ⟨S, 3, none⟩ = some (.int .i64 ve) := HS9.out.cell 3
                    have q4 : wr.cell? ⟨S, 4, none⟩ = some (.int .i64 un) := HS9.out.cell 4
                    have q5 : wr.cell? ⟨S, 5, none⟩ = some (.int .i64 ue) := HS9.out.cell 5
                    have qf : ∀ j, wr.frozen? ⟨S, j, none⟩ = false := fun j => HS9.out.free j
                    have HO9 := Lib.hid (HO.out.below h9b hOBS)
                    have o1 : wr.cell? ⟨OB, 1, none⟩ = some V := HO9.out.cell 1
                    have of : ∀ j, wr.frozen? ⟨OB, j, none⟩ = false := fun j => HO9.out.free j
                    have zO9 : OB < wr.heap.size := by omega
                    have HVb := Lib.hid (HV.out.call (show Below wo.heap.size wo (wr.setCell ⟨S, 1, none⟩ (.slice A17 zs.length c17)) from by rw [← HS.out]; exact h9b.setCell (p := ⟨S, 1, none⟩) (Nat.le_refl _) _))
                    have HXC := Lib.hid (show core ⟨kind, A17, zs, c17, vn, ve, un, ue⟩ = core (prB L ⟨kind, B, args, cap, vn, ve, un, ue⟩) from by rw [HZS.out]; rfl)
                    have hSO : S ≠ OB := by omega
                    clear ht9 hn17
                    go_wp2_with (at_builtin; refine push_bk rfl (.tmp 100) (.tmp 102) rfl (OB + 1) V l ⟨kind, A17, zs, c17, vn, ve, un, ue⟩ wr.heap.size rfl (HVb.out.alloc _) rfl (by intro j u hu; rcases j with _ | _ | _ | _ | _ | _ | j <;> simp [Bk.cells] at hu <;> (subst hu; simp [go_sem])) (by have := HLL.out; omega) (by first | (simp; omega) | simp | omega) ?_; intro v' w10 hown10 hg10 hb10; obtain ⟨qc, qff, qs, qz⟩ := ext_at (m := OB + 1) hb10 (by first | (simp; omega) | simp | omega) (by first | (simp; omega) | simp | omega); obtain ⟨A10', c10', rfl, _, _⟩ := hown10.view)
                    have HH9 := HS.out
                    subst HH9
                    exact ⟨pg3_low _ HO.out HV.out HLC.out HBO.out hb HKI.out HX.out h9b HV9.out HXC.out HZL.out rfl hg10 hb10 (by simpa using hown10), by simp [intOf]; omega⟩
            · have hle : ¬ (k : Int) < (L.length : Int) := by omega
              have e : k = L.length := by omega
              subst e
              have HPV := Lib.hid (HC8.out.below hb (Nat.le_refl _))
              have R10 := Lib.hid (R8.out.below hb (by omega))
              have RR10 := Lib.hid (RR8.out.below hb (by omega))
              have HQ10 := Lib.hid (HQ8.out.below hb (fun q hq => by have := HQ8L.out q hq; omega))
              have q2 : wr.cell? ⟨w.heap.size, 2, none⟩ = some (.slice A3 os.length c3) := R10.out.cell 2
              have HWS := Lib.hid (show w.heap.size + 2 ≤ wr.heap.size by omega)
              have HDO := Lib.hid (HD.out.below N9.out hm).os
              clear hb
              go_wp2_with fail
              obtain ⟨w3, rfl⟩ : ∃ w3 : World, w3 = wr := ⟨_, rfl⟩
              obtain ⟨zs, hzs⟩ : ∃ zs, zs = prOs bs os := ⟨_, rfl⟩
              have HZS := Lib.hid hzs
              have HZN := Lib.hid (show zs.length = os.length by rw [hzs]; simp [prOs])
              have hz3 : OB < w3.heap.size := zo
              clear hzs q1 q2 z9 zgi
              rw [← HZN.out]
              go_loopw [109] (fun v wr => pg5 zs (.slice A7 ps.length c7) V OB w3 v wr) (fun v _ => zs.length - (intOf v).toNat)
              case atStart => exact ⟨0, _, Nat.zero_le _, rfl, HO.out, OwnI.nil_ _ _, Apart.refl _ _⟩
              case round =>
                obtain ⟨t, V5, ht, rfl, hro, hv5, hap⟩ := hrel
                have HO5 := Lib.hid hro
                have HV5 := Lib.hid hv5
                have zo5 : OB < wr.heap.size := hro.lt
                have o2 : wr.cell? ⟨OB, 2, none⟩ = some V5 := hro.cell 2
                have of : ∀ j, wr.frozen? ⟨OB, j, none⟩ = false := fun j => hro.free j
                have hs5 : w3.heap.size ≤ wr.heap.size := hap.size
                clear hro hv5
                by_cases hlt : t < zs.length
                · as_aux_lemma =>
                  have hlti : (t : Int) < (zs.length : Int) := by omega
                  have hlto : t < os.length := by have := HZN.out; omega
                  obtain ⟨ab, ao, z, rfl, hab, hab2, hz, gz⟩ := (HDO.out.ap hap hmO (by omega)).int_ hlto
                  have hzb := HOO.out z (List.mem_of_getElem? hz)
                  obtain ⟨a, rfl⟩ := Int.eq_ofNat_of_zero_le hzb.1
                  have haN : a < bs.length := by have := hzb.2; omega
                  have haI : (a : Int) < (bs.length : Int) := hzb.2
                  have HZT := Lib.hid (show zs[t]? = some (renA L (a : Int)) from by rw [HZS.out, prOs, List.getElem?_map, hz, HL.out]; rfl)
                  have hca : wr.cell? ⟨gi, a, none⟩ = some (.int .i64 (renA L (a : Int))) := by rw [((HG9.out.apart hap (by omega)).cell a)]; exact ints_get (numT_get haN)
                  have hgi5 : gi < wr.heap.size := by omega
                  have HZL := Lib.hid (show (zs.take t).length < 1000000 by rw [List.length_take]; omega)
                  have HLN5 := Lib.hid (show (zs.take t ++ [renA L (a : Int)]).length = t + 1 by simp; omega)
                  have hzl : zs.length ≤ 1000000 := by have := HZN.out; omega
                  clear hz hzb hlto
                  go_wp2_with fail
                  go_region_law (refine step_pushI rfl (.tmp 114) (.tmp 119) rfl w3.heap.size V5 (zs.take t) (renA L (a : Int)) wr.heap.size rfl (HV5.out.alloc _) rfl (by simp [go_sem]) HZL.out (by first | (simp; omega) | simp | omega) ?_; intro v' w10 hown hg10 hb10; obtain ⟨qc, qff, qs, qz⟩ := ext_at (m := w3.heap.size) hb10 (by first | (simp; omega) | simp | omega) (by first | (simp; omega) | simp | omega); obtain ⟨A10', c10', hv10, _, _⟩ := hown.view; rw [HLN5.out] at hv10; subst hv10)
                  all_goals
                    go_wp2_with fail
                    exact ⟨pg5_low HO5.out hap hown HZT.out hb10 hz3, by simp [intOf]; omega⟩
                · have hle : ¬ (t : Int) < (zs.length : Int) := by omega
                  have htz : zs.take t = zs := List.take_of_length_le (by omega)
                  rw [htz] at HV5
                  obtain ⟨A5, c5, rfl, _, hc5⟩ := HV5.out.view
                  have hva := HV.out.apart hap (by omega)
                  obtain ⟨AB, cB, rfl, _, hcB⟩ := hva.view
                  have HVA := Lib.hid hva
                  have HC5 := Lib.hid hc5
                  have HCB := Lib.hid hcB
                  have RR11 := Lib.hid (RR10.out.apart hap (by omega))
                  have HQ11 := Lib.hid (HQ10.out.apart' hap (fun q hq => by have := HQ8L.out q hq; omega))
                  have HBO5 := Lib.hid (show BkOwn wr (OB + 1) l from ⟨fun x hx => ⟨(HBO.out.args x hx).1.apart hap (by omega), (HBO.out.args x hx).2⟩⟩)
                  have HPV5 := Lib.hid (show CellsAt wr OB A7 (flat Prt.cells ps) from HPV.out.ap hap (Nat.le_refl _) (by omega))
                  have N11 := Lib.hid (N9.out.trans (hap.below (by omega) (by omega)))
                  have p0 : wr.cell? ⟨OB, 0, none⟩ = some (.slice A7 ps.length c7) := HO5.out.cell 0
                  have p1 : wr.cell? ⟨OB, 1, none⟩ = some (.slice AB l.length cB) := HO5.out.cell 1
                  have p2 : wr.cell? ⟨OB, 2, none⟩ = some (.slice A5 zs.length c5) := HO5.out.cell 2
                  have r0 : wr.cell? ⟨w.heap.size + 1, 0, none⟩ = some (.slice none 0 0) := RR11.out.cell 0
                  have r1 : wr.cell? ⟨w.heap.size + 1, 1, none⟩ = some (.slice none 0 0) := RR11.out.cell 1
                  have r2 : wr.cell? ⟨w.heap.size + 1, 2, none⟩ = some (.slice none 0 0) := RR11.out.cell 2
                  have rf : ∀ j, wr.frozen? ⟨w.heap.size + 1, j, none⟩ = false := fun j => RR11.out.free j
                  have zrr : w.heap.size + 1 < wr.heap.size := RR11.out.lt
                  have RF := Lib.hid (((RR11.out.set_ 0 (.slice A7 ps.length c7)).set_ 1 (.slice AB l.length cB)).set_ 2 (.slice A5 zs.length c5))
                  clear hap hc5 hcB htz o2 hva
                  go_wp2_with fail
                  have hg2 : w.heap.size + 1 < OB + 1 := by omega
                  have hsz := size3 wr (w.heap.size + 1) (.slice A7 ps.length c7) (.slice AB l.length cB) (.slice A5 zs.length c5)
                  have hcl := ((HPV5.out.set3 (g := w.heap.size + 1) (fun a ha => by have := HP7M.out a ha; omega) (.slice A7 ps.length c7) (.slice AB l.length cB) (.slice A5 zs.length c5)).more (m' := (((wr.setCell ⟨w.heap.size + 1, 0, none⟩ (.slice A7 ps.length c7)).setCell ⟨w.heap.size + 1, 1, none⟩ (.slice AB l.length cB)).setCell ⟨w.heap.size + 1, 2, none⟩ (.slice A5 zs.length c5)).heap.size) (by rw [hsz]; omega))
                  refine bodyPost_ret (res_prune (v3 := .slice A4 L.length c4) (v4 := .nilIface) rfl rfl rfl RF.out) rfl ⟨.slice A7 ps.length c7, .slice AB l.length cB, .slice A5 zs.length c5, .slice A4 L.length c4, l, rfl, ⟨A7, c7, rfl, HNP.out, HN7K.out, fun a ha => by have := HP7M.out a ha; omega, hcl⟩, (HVA.out.set3 hg2 _ _ _).base_ (by omega), ⟨fun x hx => ⟨((HBO5.out.args x hx).1.set3 hg2 _ _ _).base_ (by omega), (HBO5.out.args x hx).2⟩⟩, ?_, ?_, ?_, ?_⟩
                  · rw [HLC.out]
                    unfold wantK prBs
                    rw [List.take_length, HL.out]
                  · rw [← HZS.out]
                    exact (HV5.out.set3 (by omega) _ _ _).base_ (by omega)
                  · rw [← HL.out]
                    exact (HQ11.out.set3 (by omega) _ _ _).base_ (by omega)
                  · exact ((N11.out.setCell (p := ⟨w.heap.size + 1, 0, none⟩) (by show w.heap.size ≤ w.heap.size + 1; omega) _).setCell (p := ⟨w.heap.size + 1, 1, none⟩) (by show w.heap.size ≤ w.heap.size + 1; omega) _).setCell (p := ⟨w.heap.size + 1, 2, none⟩) (by show w.heap.size ≤ w.heap.size + 1; omega) _
theorem row_nilcap {w : World} {S : Sets} {t : Bool} {s n m c : Nat} {cs : List D} {A : Option Addr} (h : DRel w S (.row t s n cs) (.slice A m c)) : A = none → c = 0 := by
  cases h with
  | row _ _ hA2 => exact hA2
theorem row_nils {w : World} {S : Sets} {t : Bool} {bs l : List Bk} {A : Option Addr} {c : Nat} (h : DRel w S (rowB t bs) (.slice A l.length c)) (hc : CellsAt w w.heap.size A (flat Bk.cells l)) (hl : l.length = bs.length) : ∀ b ∈ l, b.A = none → b.cap = 0 := by
  unfold rowB at h
  rw [hl] at h
  cases h with
  | @row _ _ _ c cs A xs hcc hA hln hx hm hr =>
    intro b hb hbn
    obtain ⟨k, hk⟩ := List.mem_iff_getElem?.1 hb
    have hkl := (List.getElem?_eq_some_iff.1 hk).1
    have hne : flatD (dBk t) bs ≠ [] := fun h0 => by
      have := congrArg List.length h0
      rw [flatD_len (f := dBk t) (s := 6) (fun _ => rfl)] at this
      simp at this
      omega
    obtain ⟨b1, off, rfl, hs, hcell⟩ := hm hne
    obtain ⟨b2, off2, e2, _, _, hcell2⟩ := hc (fun h0 => by
      have := congrArg List.length h0
      rw [flat_lenV (f := Bk.cells) (s := 6) (fun _ => rfl)] at this
      simp at this
      omega)
    simp only [Option.some.injEq, Addr.mk.injEq, and_true] at e2
    obtain ⟨rfl, rfl⟩ := e2
    obtain ⟨y, hy⟩ : ∃ y, bs[k]? = some y := ⟨_, List.getElem?_eq_getElem (by omega)⟩
    have hd1 : (flatD (dBk t) bs)[k * 6 + 1]? = some (rowI t y.args) := by
      have := flatD_at (f := dBk t) (s := 6) (fun _ => rfl) hy
      have h1 := congrArg (fun l => l[1]?) this
      simp only [List.getElem?_take, List.getElem?_drop] at h1
      simpa [dBk] using h1
    have hx1 : k * 6 + 1 < xs.length := by rw [← hx]; exact (List.getElem?_eq_some_iff.1 hd1).1
    have hxg : xs[k * 6 + 1]? = some xs[k * 6 + 1] := List.getElem?_eq_getElem hx1
    have hcc1 := hcell _ _ hxg
    have hf : (flat Bk.cells l)[k * 6 + 1]? = some (.slice b.A b.args.length b.cap) := flat_get (f := Bk.cells) (s := 6) (fun _ => rfl) hk (show 1 < 6 by decide)
    have hcc2 := hcell2 _ _ hf
    rw [hcc1] at hcc2
    have he : xs[k * 6 + 1] = .slice b.A b.args.length b.cap := Option.some.inj hcc2
    have hrel := hr _ _ _ hd1 hxg
    rw [he] at hrel
    exact row_nilcap hrel hbn
theorem own_rowD {w w' : World} {e s n : Nat} {v : Value} {xs : List Value} {ds : List D} (h : w'.ownsRow w.heap.size e s v n xs) (hr : LRel (DRel w' (Fresh w w')) ds xs) : DRel w' (Fresh w w') (.row false s n ds) v := by
  have hl := h.1
  rcases h.2 with ⟨rfl, rfl⟩ | ⟨g, cap, cur, rfl, hb, hg, hnc, hcm, hcs, htk⟩
  · have hx : xs = [] := List.eq_nil_of_length_eq_zero (by simpa using hl)
    subst hx
    have hd : ds = [] := List.eq_nil_of_length_eq_zero (by simpa using hr.1)
    subst hd
    exact .row [] (Nat.le_refl _) (fun _ => rfl) (by simp) rfl (fun h => absurd rfl h) (fun j u x h => by simp at h)
  · have hlt := (Array.getElem?_eq_some_iff.1 hg).1
    refine .row xs hnc (by simp) (by rw [hr.1]; exact hl) hr.1 (fun _ => ⟨g, 0, rfl, ⟨rfl, hb, hlt⟩, fun j x hj => ?_⟩) hr.2
    rw [Nat.zero_add, own_cell h (List.getElem?_eq_some_iff.1 hj).1]
    exact hj
section
variable (bs : List Bk)
theorem succs_z : succs (bs.map Bk.z) = succs bs := by funext o i; unfold succs; rw [kindAt_z, preds_z]
theorem pass1_z : pass1 (bs.map Bk.z) = pass1 bs := by funext o m i; unfold pass1; rw [succs_z]
theorem passes_z (o : Bool) : ∀ k m, passes (bs.map Bk.z) o k m = passes bs o k m
  | 0, m => rfl
  | k + 1, m => by
    unfold passes passM
    rw [pass1_z, List.length_map]
    exact passes_z o k _
theorem keptL_z (os : List Int) : keptL bs os = keptL (bs.map Bk.z) os := by unfold keptL keptM; rw [passes_z, List.length_map]
theorem prBs_z (os : List Int) : (prBs bs os).map core = (prBs (bs.map Bk.z) os).map core := by
  unfold prBs
  rw [← keptL_z, List.map_map, List.map_map]
  refine List.map_congr_left fun i _ => ?_
  show core (prB _ _) = core (prB _ _)
  rw [List.getElem?_map]
  cases bs[i]? <;> rfl
end
theorem core_D {l l' : List Bk} (h : l.map core = l'.map core) : flatD (dBk false) l = flatD (dBk false) l' := by
  induction l generalizing l' with
  | nil => cases l' with
    | nil => rfl
    | cons y l' => cases h
  | cons x l ih =>
    cases l' with
    | nil => cases h
    | cons y l' =>
      simp only [List.map_cons, List.cons.injEq] at h
      obtain ⟨h1, h2⟩ := h
      obtain ⟨e1, e2, e3, e4, e5, e6⟩ := core_parts h1
      show dBk false x ++ flatD (dBk false) l = dBk false y ++ flatD (dBk false) l'
      rw [ih h2]
      unfold dBk
      rw [e1, e2, e3, e4, e5, e6]
theorem bk_fresh {w w' : World} : ∀ {l : List Bk}, (∀ x ∈ l, OwnI w' w.heap.size (.slice x.A x.args.length x.cap) x.args ∧ x.args.length ≤ 1000000) → LRel (DRel w' (Fresh w w')) (flatD (dBk false) l) (flat Bk.cells l)
  | [], _ => LRel.nil_
  | x :: l, h => by
    have h1 : LRel (DRel w' (Fresh w w')) (dBk false x) (Bk.cells x) := .cons_ (.val rfl) (.cons_ (own_freshI (h x (List.mem_cons_self ..)).1) (.cons_ (.val rfl) (.cons_ (.val rfl) (.cons_ (.val rfl) (.cons_ (.val rfl) .nil_)))))
    exact h1.app (bk_fresh fun y hy => h y (List.mem_cons_of_mem _ hy))
theorem prune_cv (t : Bool) {ps : List Prt} {bs : List Bk} {os : List Int} (hl : DgLen ps bs os) (he : dgErr ps bs os = 0) : CVF Tryd.prog TabAt 33 [aDg t ps bs os] [aDg false ps (prBs bs os) (prOs bs os), .one (rowI false (natI (keptL bs os))), aE 0] := fun w S vs hg hlt ha => by
  obtain ⟨v, rfl, hv⟩ := one_arg ha
  obtain ⟨d, rfl, hd, rfl, hz, rfl, n1, n3⟩ := dg_open hlt hv hl
  have hn4 : ∀ b ∈ d.bs, b.A = none → b.cap = 0 := by
    obtain ⟨xs, hx, hr⟩ := hv
    obtain ⟨v0, x1, rfl, q0, h⟩ := hr.uncons
    obtain ⟨v1, x2, rfl, q1, h⟩ := h.uncons
    obtain ⟨v2, x3, rfl, q2, h⟩ := h.uncons
    rw [h.unnil] at hx
    have hv1 : v1 = .slice d.A2 d.bs.length d.c2 := by
      have := congrArg (fun v => match v with | Value.agg cs => cs[1]? | _ => none) hx
      simpa [Dg.val] using this.symm
    subst hv1
    exact row_nils q1 hd.bs (by rw [← List.length_map (f := Bk.z), hz, List.length_map])
  have e1 : dgErr d.ps d.bs d.os = 0 := by rw [← dgErr_z, hz, dgErr_z]; exact he
  have e2 : keptL d.bs d.os = keptL bs d.os := by rw [keptL_z d.bs, hz, ← keptL_z bs]
  have e3 : (prBs d.bs d.os).map core = (prBs bs d.os).map core := by rw [prBs_z d.bs, hz, ← prBs_z bs]
  have e4 : prOs d.bs d.os = prOs bs d.os := by unfold prOs; rw [e2]
  refine (prune_okF d _ w (Nat.le_refl _) hd hg ⟨n1, hn4⟩ e1).mono fun e w' ⟨v1, v2, v3, v, l, h1, ⟨A, c, hA, hn, hc, hb, hcl⟩, h2, h3, h4, h5, h6, h7⟩ => ?_
  subst hA
  refine ⟨_, h1, ⟨[.agg #[.slice A d.ps.length c, v2, v3], v, .nilIface], rfl, .cons_ ⟨[.slice A d.ps.length c, v2, v3], rfl, .cons_ ?_ (.cons_ ?_ (.cons_ ?_ .nil_))⟩ (.cons_ ?_ (.cons_ (DRel.val rfl) .nil_))⟩, h7⟩
  · unfold rowP
    rw [flatD_vals dPrt_vals]
    refine .row _ hc hn (by rw [List.length_map]; exact flat_lenV (f := Prt.cells) (s := 3) (fun _ => rfl) _) (by rw [List.length_map]) (fun hne => ?_) (rel_vals prt_one).2
    obtain ⟨b, off, hA, _, hb2, hc2⟩ := hcl (fun h0 => hne (by rw [h0]; rfl))
    exact ⟨b, off, hA, ⟨rfl, hb _ hA, hb2⟩, hc2⟩
  · have := own_rowD h2 (bk_fresh h3.args)
    have hln : l.length = (prBs bs d.os).length := by rw [core_len h4, core_len e3]
    unfold rowB
    rw [← core_D (h4.trans e3), ← hln]
    exact this
  · rw [← e4]; exact own_freshI h5
  · rw [← e2]; exact own_freshI h6
theorem sm_long {p : Int × Nat} (h : Sm p LB LB) : longP p = false := by
  have h1 := bitsN_le.2 h.n
  have h2 := h.d
  unfold LB at h1 h2
  exact decide_eq_false (by omega)
theorem tickV_core {y z : Bk} (h1 : y.kind = z.kind) (h2 : y.vn = z.vn) (h3 : y.ve = z.ve) (h4 : y.un = z.un) (h5 : y.ue = z.ue) (h6 : y.kind = 0 → y.args = z.args) (l : List (Int × Nat)) (ps : List Prt) (ins : List Int) : tickV y l ps ins = tickV z l ps ins := by
  unfold tickV blkD
  by_cases h : y.kind = 0
  · rw [if_pos h, if_pos (h1.symm.trans h), h6 h]
  · rw [if_neg h, if_neg (fun hz => h (h1.trans hz)), h1, h2, h3, h4, h5]
def StRel (bs : List Bk) (os : List Int) (st st' : List (Int × Nat)) : Prop :=
  st'.length = (delL (prBs bs os)).length ∧ ∀ k' i' i : Nat, (delL (prBs bs os))[k']? = some i' → (keptL bs os)[i']? = some i → ∃ k : Nat, (delL bs)[k]? = some i ∧ st'[k']? = st[k]?
section
variable {ps : List Prt} {bs : List Bk} {os : List Int} {st st' : List (Int × Nat)} {ins : List Int}
theorem pr_at {i' : Nat} (h : i' < (prBs bs os).length) : ∃ i, (keptL bs os)[i']? = some i := by
  rw [prBs_len] at h
  exact ⟨_, List.getElem?_eq_getElem h⟩
theorem pr_rank (he : dgErr ps bs os = 0) {i' i : Nat} (hi : (keptL bs os)[i']? = some i) (hk : kindAt (prBs bs os) i' = 2) : (delL bs)[(dlK bs i).length]? = some i := by
  rw [pr_kind he hi] at hk
  exact del_rank (keptL_lt (List.mem_of_getElem? hi)) hk
theorem pr_vals (he : dgErr ps bs os = 0) (hl : st.length = (delL bs).length) (hn : ∀ p ∈ st, Nf p.1 p.2) (ht : tickE ps bs st ins = 0) (hr : StRel bs os st st') :
    ∀ t, t ≤ (ordM (prBs bs os)).length → ∀ i', stdS (prBs bs os) t i' → ∀ i, (keptL bs os)[i']? = some i → ∃ p, (valS ps (prBs bs os) st' ins t)[i']? = some (some p) ∧ (valE ps bs st ins)[i]? = some p := by
  intro t
  induction t with
  | zero =>
    intro _ i' hs i hi
    rcases hs with ⟨h1, h2⟩ | h1
    · have hdr := del_rank h1 h2
      obtain ⟨k, hk, e⟩ := hr.2 _ _ _ hdr hi
      obtain ⟨p, hp⟩ : ∃ p, st[k]? = some p := ⟨_, List.getElem?_eq_getElem (by rw [hl]; exact (List.getElem?_eq_some_iff.1 hk).1)⟩
      refine ⟨p, ?_, by rw [val_delay hl hk, hp]⟩
      rw [valS_0, del_vals (delL_nodup _) hr.1 (fun i hi => by rw [List.length_replicate]; exact (del_lt hi).1) hdr, e, hp]
      rfl
    · simp at h1
  | succ t ih =>
    intro htl i' hs i hi
    by_cases hst : stdS (prBs bs os) t i'
    · rw [std_keep (Nat.le_succ t) htl hst]
      exact ih (by omega) i' hst i hi
    · obtain ⟨j', hj'⟩ : ∃ j', (ordM (prBs bs os))[t]? = some j' := ⟨_, List.getElem?_eq_getElem (by omega)⟩
      have hji : j' = i' := by
        rcases hs with h1 | h1
        · exact absurd (.inl h1) hst
        · rw [List.take_add_one, hj'] at h1
          rcases List.mem_append.1 h1 with h1 | h1
          · exact absurd (.inr h1) hst
          · exact (by simpa using h1 : i' = j').symm
      subst hji
      obtain ⟨y, hy, hy'⟩ := kept_blk he hi
      have hkn := (ord_at hj').2
      rw [kind_at hy'] at hkn
      have hkn2 : y.kind ≠ 2 := hkn
      refine ⟨valN ps (prBs bs os) st' ins t, ?_, ?_⟩
      · rw [valS_next hj', List.getElem?_set_self (by rw [valS_len]; exact (ord_at hj').1)]
      · rw [valN_is hj' hy', val_block he hl hn ht hy hkn2]
        congr 1
        have hargs : argsV (valS ps (prBs bs os) st' ins t) (prB (keptL bs os) y) = argsE (valE ps bs st ins) y := by
          unfold argsV argsE
          by_cases h0 : y.kind = 0
          · rw [if_pos (show (prB (keptL bs os) y).kind = 0 from h0), if_pos h0]
          · rw [if_neg (show ¬ (prB (keptL bs os) y).kind = 0 from h0), if_neg h0]
            have hpa : (prB (keptL bs os) y).args = y.args.map (renA (keptL bs os)) := if_neg h0
            rw [hpa, List.map_map]
            refine List.map_congr_left fun a ha => ?_
            have hin : a.toNat ∈ keptL bs os := kept_arg he (List.mem_of_getElem? hi) (a := a) (by rw [preds_at hy h0]; exact ha)
            obtain ⟨r0, r1, r2⟩ := ren_in hin
            have hsplit : ordM (prBs bs os) = (ordM (prBs bs os)).take t ++ j' :: (ordM (prBs bs os)).drop (t + 1) := by
              obtain ⟨hlt, he⟩ := List.getElem?_eq_some_iff.1 hj'
              rw [← he, ← List.drop_eq_getElem_cons hlt, List.take_append_drop]
            have hd := ord_done hsplit (a := renA (keptL bs os) a) (by rw [preds_at hy' h0, hpa]; exact List.mem_map_of_mem ha)
            obtain ⟨p, p1, p2⟩ := ih (by omega) _ (hd.imp (fun h => ⟨by rw [prBs_len]; omega, h⟩) id) _ r2
            show ((valS ps (prBs bs os) st' ins t)[(renA (keptL bs os) a).toNat]?.getD none).getD (0, 0) = _
            rw [p1, p2]
            rfl
        rw [hargs]
        exact (tickV_core (y := prB (keptL bs os) y) (z := y) rfl rfl rfl rfl rfl (fun h => if_pos (show y.kind = 0 from h)) _ ps ins).symm
theorem pr_end (he : dgErr ps bs os = 0) (hl : st.length = (delL bs).length) (hn : ∀ p ∈ st, Nf p.1 p.2) (ht : tickE ps bs st ins = 0) (hr : StRel bs os st st') {i' i : Nat} (hi : (keptL bs os)[i']? = some i) : (valE ps (prBs bs os) st' ins)[i']? = (valE ps bs st ins)[i]? := by
  obtain ⟨p, p1, p2⟩ := pr_vals he hl hn ht hr _ (Nat.le_refl _) i' (std_all (pr_err he) (by rw [prBs_len]; exact (List.getElem?_eq_some_iff.1 hi).1)) i hi
  rw [p2]
  exact gV_at p1
theorem pr_tick (he : dgErr ps bs os = 0) (hl : st.length = (delL bs).length) (hn : ∀ p ∈ st, Nf p.1 p.2) (ht : tickE ps bs st ins = 0) (hr : StRel bs os st st') :
    tickE ps (prBs bs os) st' ins = 0 ∧ StRel bs os (nextE ps bs st ins) (nextE ps (prBs bs os) st' ins) ∧ outV ps (prBs bs os) (prOs bs os) st' ins = outV ps bs os st ins := by
  obtain ⟨h1, h2, h3⟩ := tick_zero ht
  obtain ⟨h4, h5⟩ := bad_false h3
  have hV := val_sm he hl hn ht
  refine ⟨?_, ⟨nextE_len, fun k' i' i hk hi => ?_⟩, ?_⟩
  · unfold tickE
    rw [if_neg (not_not_intro h1), if_neg (by rw [h2]; decide), good_of (fun p hp => ?_) (fun t htl => ?_), if_neg (by decide)]
    · obtain ⟨k', hk⟩ := List.mem_iff_getElem?.1 hp
      obtain ⟨i', hi'⟩ : ∃ i', (delL (prBs bs os))[k']? = some i' := ⟨_, List.getElem?_eq_getElem (by rw [← hr.1]; exact (List.getElem?_eq_some_iff.1 hk).1)⟩
      obtain ⟨i, hi⟩ := pr_at (del_at hi').1
      obtain ⟨k, _, e⟩ := hr.2 _ _ _ hi' hi
      rw [hk] at e
      exact h4 p (List.mem_of_getElem? e.symm)
    · obtain ⟨j', hj'⟩ : ∃ j', (ordM (prBs bs os))[t]? = some j' := ⟨_, List.getElem?_eq_getElem htl⟩
      obtain ⟨i, hi⟩ := pr_at (ord_at hj').1
      obtain ⟨p, p1, p2⟩ := pr_vals he hl hn ht hr (t + 1) htl j' (.inr (by rw [List.take_add_one, hj']; simp)) i hi
      rw [valS_next hj', List.getElem?_set_self (by rw [valS_len]; exact (ord_at hj').1)] at p1
      cases p1
      exact sm_long (hV _ (List.mem_of_getElem? p2))
  · have hkd := (del_at hk).2
    have hrk := pr_rank he hi hkd
    refine ⟨_, hrk, ?_⟩
    obtain ⟨y, hy, hy'⟩ := kept_blk he hi
    rw [pr_kind he hi, kind_at hy] at hkd
    obtain ⟨b, hA0, hbl⟩ := del_arg he hy hkd
    have hin : b ∈ keptL bs os := by
      have := kept_arg he (List.mem_of_getElem? hi) (a := (b : Int)) (by rw [preds_at hy (by omega)]; exact List.mem_of_getElem? hA0)
      simpa using this
    obtain ⟨r0, r1, r2⟩ := ren_in (L := keptL bs os) (a := (b : Int)) (by simpa using hin)
    have hpa : (prB (keptL bs os) y).args[0]? = some (((renA (keptL bs os) b).toNat : Nat) : Int) := by
      rw [show (prB (keptL bs os) y).args = y.args.map (renA (keptL bs os)) from if_neg (by omega), List.getElem?_map, hA0, Option.map_some]
      congr 1; omega
    rw [next_at hk, next_at hrk, argZ_at hy' hpa, argZ_at hy hA0, pr_end he hl hn ht hr r2]
    simp
  · unfold outV prOs
    rw [List.map_map]
    refine List.map_congr_left fun o ho => ?_
    obtain ⟨r0, r1, r2⟩ := ren_in (kept_out he ho)
    show ((valE ps (prBs bs os) st' ins)[(renA (keptL bs os) o).toNat]?).getD (0, 0) = _
    rw [pr_end he hl hn ht hr r2]
theorem pr_start (he : dgErr ps bs os = 0) : StRel bs os (startM bs) (startM (prBs bs os)) := ⟨by unfold startM; rw [List.length_map], fun k' i' i hk hi => by
  have hkd := (del_at hk).2
  have hrk := pr_rank he hi hkd
  obtain ⟨y, hy, hy'⟩ := kept_blk he hi
  exact ⟨_, hrk, by rw [start_at hk hy', start_at hrk hy]; rfl⟩⟩
theorem pr_run (he : dgErr ps bs os = 0) : ∀ {ls : List (List Int)} {st st' : List (Int × Nat)}, StOk bs st → StRel bs os st st' → runE ps bs st ls = 0 → runE ps (prBs bs os) st' ls = 0 ∧ runO ps (prBs bs os) (prOs bs os) st' ls = runO ps bs os st ls
  | [], st, st', _, _, _ => ⟨rfl, rfl⟩
  | ins :: l, st, st', h, hr, h0 => by
    have h' : (if tickE ps bs st ins = 0 then runE ps bs (nextE ps bs st ins) l else tickE ps bs st ins) = 0 := h0
    by_cases h1 : tickE ps bs st ins = 0
    · rw [if_pos h1] at h'
      obtain ⟨q1, q2, q3⟩ := pr_tick he h.len h.nf h1 hr
      obtain ⟨q4, q5⟩ := pr_run he (next_ok he h.len h.nf h1) q2 h'
      refine ⟨?_, ?_⟩
      · show (if tickE ps (prBs bs os) st' ins = 0 then runE ps (prBs bs os) (nextE ps (prBs bs os) st' ins) l else _) = 0
        rw [if_pos q1]; exact q4
      · show outV ps (prBs bs os) (prOs bs os) st' ins :: runO ps (prBs bs os) (prOs bs os) (nextE ps (prBs bs os) st' ins) l = outV ps bs os st ins :: runO ps bs os (nextE ps bs st ins) l
        rw [q3, q5]
    · rw [if_neg h1] at h'; exact absurd h' h1
theorem pr_len (hl : DgLen ps bs os) : DgLen ps (prBs bs os) (prOs bs os) := ⟨hl.l1, by rw [prBs_len]; exact Nat.le_trans (keptL_len bs os) hl.l2, by unfold prOs; rw [List.length_map]; exact hl.l3, fun b hb => by
  obtain ⟨i, hi, rfl⟩ := List.mem_map.1 hb
  have key : (bs[i]?.getD bk0).args.length ≤ 1000000 := by
    cases h : bs[i]? with
    | none => exact Nat.zero_le _
    | some y => exact hl.la y (List.mem_of_getElem? h)
  unfold prB
  dsimp only
  split
  · exact key
  · rw [List.length_map]; exact key⟩
theorem runQ_four (he : dgErr ps bs os = 0) {ls : List (List Int)} : runQE ps bs os (fitL ps ls) = 0 ∨ runQE ps bs os (fitL ps ls) = 4 := by
  unfold runQE
  rw [if_neg (not_not_intro he)]
  split
  · exact .inr rfl
  · exact run_four he
theorem pr_runQ (he : dgErr ps bs os = 0) {ls : List (List Int)} (h : runQE ps bs os ls = 0) : runQE ps (prBs bs os) (prOs bs os) ls = 0 ∧ runO ps (prBs bs os) (prOs bs os) (startM (prBs bs os)) ls = runO ps bs os (startM bs) ls := by
  obtain ⟨_, h1, h2⟩ := runQ_zero h
  obtain ⟨q1, q2⟩ := pr_run he (start_ok he) (pr_start he) (runE_good h2)
  refine ⟨?_, q2⟩
  unfold runQE
  rw [if_neg (not_not_intro (pr_err he)), if_neg (by omega)]
  exact q1
end
theorem cexp_dT {H : List Ob} {id ty s n : Nat} {c : C} {y : D} {ds : List D} (hc : c = .own id n) (hH : H[id]? = some (.row ty s n (ds.map C.d))) (hy : y = .row true s n ds) : CExp true H c y :=
  cexp_o hc hH hy (LRel.map_l.2 ⟨rfl, fun j a b ha hb => by rw [ha] at hb; cases hb; exact .d fun h => by cases h⟩)
set_option maxRecDepth 100000 in
set_option maxHeartbeats 4000000 in
theorem exactPruned_cv (ps : List Prt) (bs : List Bk) (os : List Int) (ls : List (List Int)) : CV Tryd.prog TabAt 8 [aDg true ps bs os, .one (rowLI true ls)] [aB true] := by
  refine cv_of tab_G Tryd.func8 rfl Tryd.ntmps8 (Nat.le_of_ble_eq_true rfl) ?_
  have LT := light11_cv true true ps bs os ls
  by_cases h1 : light11 ps bs os ls = true
  case neg =>
    rw [Bool.not_eq_true] at h1
    rw [h1] at LT
    repeat' (with_reducible first | apply qa | apply qb | apply qc | apply qd | apply qe | apply qf | apply qg | apply qh | apply qi | apply qj | apply qk | apply ql rfl | apply qm rfl | apply qn rfl | (refine Tx 0 ?_; refine Jn xBo ?_; refine Ja ?_; refine Je ?_) | (refine Tx 1 ?_; refine Jo (xCl Tryd.func9 (awake11_cv)) ?_; refine Jo (by first | exact ok_not rfl rfl | exact ok_neg64 rfl rfl (by omega)) ?_; refine Jm ?_; (first | refine Jd ?_ | refine Jy (xLa tk_Diagram) ?_); (first | refine Jd ?_ | refine Jy (by exact ok_mv1 rfl rfl) ?_); (first | refine Jd ?_ | refine Jy (xCl Tryd.func14 (LT)) ?_); (first | refine Jd ?_ | refine Jy (by first | exact ok_not rfl rfl | exact ok_neg64 rfl rfl (by omega)) ?_); refine Jo xPk ?_; refine Jm ?_; (first | refine Jd ?_ | refine Jy (xLa tk_Diagram) ?_); refine Jd ?_; (first | refine Jd ?_ | refine Jy (by first | exact ok_neqE rfl ti_error rfl (bne_f (by first | rfl | omega)) | exact ok_neqE rfl ti_error rfl (bne_t (by first | assumption | omega)) | exact ok_neqE rfl ti_error rfl rfl) ?_); refine Jo xPk ?_; refine Je ?_) | (refine Tx 2 ?_; refine Jo (xCl Tryd.func9 (awake11_cv)) ?_; refine Ja ?_; refine Je ?_))
    exact ret_q rfl (.cons_ (rv_b rfl (rfl)) .nil_)
  rw [h1] at LT
  obtain ⟨hl, hbl, hil⟩ := light11_len h1
  have CK := (pcheck_cv true hl).cv
  by_cases h0 : dgErr ps bs os = 0
  case neg =>
    repeat' (with_reducible first | apply qa | apply qb | apply qc | apply qd | apply qe | apply qf | apply qg | apply qh | apply qi | apply qj | apply qk | apply ql rfl | apply qm rfl | apply qn rfl | (refine Tx 0 ?_; refine Jn xBo ?_; refine Ja ?_; refine Je ?_) | (refine Tx 1 ?_; refine Jo (xCl Tryd.func9 (awake11_cv)) ?_; refine Jo (by first | exact ok_not rfl rfl | exact ok_neg64 rfl rfl (by omega)) ?_; refine Jm ?_; (first | refine Jd ?_ | refine Jy (xLa tk_Diagram) ?_); (first | refine Jd ?_ | refine Jy (by exact ok_mv1 rfl rfl) ?_); (first | refine Jd ?_ | refine Jy (xCl Tryd.func14 (LT)) ?_); (first | refine Jd ?_ | refine Jy (by first | exact ok_not rfl rfl | exact ok_neg64 rfl rfl (by omega)) ?_); refine Jo xPk ?_; refine Jm ?_; (first | refine Jd ?_ | refine Jy (xLa tk_Diagram) ?_); (first | refine Jd ?_ | refine Jy (xCl Tryd.func25 (CK)) ?_); (first | refine Jd ?_ | refine Jy (by first | exact ok_neqE rfl ti_error rfl (bne_f (by first | rfl | omega)) | exact ok_neqE rfl ti_error rfl (bne_t (by first | assumption | omega)) | exact ok_neqE rfl ti_error rfl rfl) ?_); refine Jo xPk ?_; refine Je ?_) | (refine Tx 2 ?_; refine Jo (xCl Tryd.func9 (awake11_cv)) ?_; refine Ja ?_; refine Je ?_))
    exact ret_q rfl (.cons_ (rv_b rfl (rfl)) .nil_)
  rw [h0] at CK
  have PR := (prune_cv true hl h0).cv
  have hl' := pr_len hl
  have h0' := pr_err h0
  have hl2 := hl.l2
  repeat' (with_reducible first | apply qa | apply qb | apply qc | apply qd | apply qe | apply qf | apply qg | apply qh | apply qi | apply qj | apply qk | apply ql rfl | apply qm rfl | apply qn rfl | (refine Tx 0 ?_; refine Jn xBo ?_; refine Ja ?_; refine Je ?_) | (refine Tx 1 ?_; refine Jo (xCl Tryd.func9 (awake11_cv)) ?_; refine Jo (by first | exact ok_not rfl rfl | exact ok_neg64 rfl rfl (by omega)) ?_; refine Jm ?_; (first | refine Jd ?_ | refine Jy (xLa tk_Diagram) ?_); (first | refine Jd ?_ | refine Jy (by exact ok_mv1 rfl rfl) ?_); (first | refine Jd ?_ | refine Jy (xCl Tryd.func14 (LT)) ?_); (first | refine Jd ?_ | refine Jy (by first | exact ok_not rfl rfl | exact ok_neg64 rfl rfl (by omega)) ?_); refine Jo xPk ?_; refine Jm ?_; (first | refine Jd ?_ | refine Jy (xLa tk_Diagram) ?_); (first | refine Jd ?_ | refine Jy (xCl Tryd.func25 (CK)) ?_); (first | refine Jd ?_ | refine Jy (by first | exact ok_neqE rfl ti_error rfl (bne_f rfl) | exact ok_neqE rfl ti_error rfl (bne_f (by first | rfl | omega)) | exact ok_neqE rfl ti_error rfl (bne_t (by first | assumption | omega)) | exact ok_neqE rfl ti_error rfl rfl) ?_); refine Jo xPk ?_; refine Je ?_) | (refine Tx 3 ?_; refine Jo (xLa tk_Diagram) ?_; refine Jo (xCl Tryd.func33 (PR)) ?_; refine Jo (by exact ok_mvT rfl rfl) ?_; refine Jo (by exact ok_exA rfl rfl rfl) ?_; refine Jo xEx ?_; refine Jo xEx ?_; refine Jn (by exact ok_alloc rfl tz_Diagram) ?_; refine Js (xSk tk_Diagram) ?_; refine Ja ?_; refine Ja ?_; refine Je ?_) | (refine Tx 4 ?_; refine Jm ?_; refine Jo (by first | exact ok_neqE rfl ti_error rfl (bne_f rfl) | exact ok_neqE rfl ti_error rfl (bne_f (by first | rfl | omega)) | exact ok_neqE rfl ti_error rfl (bne_t (by first | assumption | omega)) | exact ok_neqE rfl ti_error rfl rfl) ?_; refine Je ?_) | (refine Tx 6 ?_; refine Ja ?_; refine Je ?_))
  refine cw_wk (wk_nil 8 39 1 rfl) ?_
  repeat' (with_reducible first | apply qa | apply qb | apply qc | apply qd | apply qe | apply qf | apply qg | apply qh | apply qi | apply qj | apply qk | apply ql rfl | apply qm rfl | apply qn rfl | (refine Tx 7 ?_; refine Jm ?_; refine Jo (xLn ts_s_s_int) ?_; refine Jm ?_; refine Je ?_))
  refine cw_wk (F' := ofL [(2, vr 0), (5, vr 1), (8, vo 2 (((fitL ps ls).take 0).length)), (38, vd (rowLI true ls)), (39, vi ls.length), (40, vi ((0 : Nat)))]) (H' := [.box 41 [.d (rowP true ps), .d (rowB true bs), .d (rowI true os)], .box 41 [.d (rowP false ps), .d (rowB false (prBs bs os)), .d (rowI false (prOs bs os))], .row 39 1 ((fitL ps ls).take (0)).length ((((fitL ps ls).take (0)).map (rowI false)).map C.d)]) (wk_go [(2, vr 0), (5, vr 1), (8, vo 2 (((fitL ps ls).take 0).length)), (38, vd (rowLI true ls)), (39, vi ls.length), (40, vi ((0 : Nat)))] 3 ?_ ?_ ?_) ?_
  · rfl
  · exact mB rfl rfl
  · exact ⟨bel_lit rfl, bel_lit rfl, bel_D, trivial⟩
  refine cw_loopW (fun n Fr H => ∃ k : Nat, k ≤ ls.length ∧ n = ls.length - k ∧ Fr = ofL [(2, vr 0), (5, vr 1), (8, vo 2 (((fitL ps ls).take k).length)), (38, vd (rowLI true ls)), (39, vi ls.length), (40, vi ((k : Nat)))] ∧ H = [.box 41 [.d (rowP true ps), .d (rowB true bs), .d (rowI true os)], .box 41 [.d (rowP false ps), .d (rowB false (prBs bs os)), .d (rowI false (prOs bs os))], .row 39 1 ((fitL ps ls).take (k)).length ((((fitL ps ls).take (k)).map (rowI false)).map C.d)]) (n0 := ls.length) ⟨0, Nat.zero_le _, rfl, rfl, rfl⟩ ?_
  rintro n Fr H ⟨k, hk, rfl, rfl, rfl⟩
  by_cases hlt : k < ls.length
  case pos =>
    obtain ⟨l, hi⟩ : ∃ l, ls[k]? = some l := ⟨_, List.getElem?_eq_getElem hlt⟩
    have hll := hil l (List.mem_of_getElem? hi)
    have hfi := fitL_at (ps := ps) hi
    have FT := fit_cv true true l hl (by omega)
    have hap : (((fitL ps ls).take (k)).map (rowI false)).map C.d ++ [C.d (rowI false (inpV ps l ps.length))] = (((fitL ps ls).take (k + 1)).map (rowI false)).map C.d := by rw [List.take_add_one, hfi, Option.toList_some, List.map_append, List.map_append]; rfl
    have hap2 : ((fitL ps ls).take (k)).length + 1 = ((fitL ps ls).take (k + 1)).length := by rw [List.take_add_one, hfi, List.length_append]; rfl
    have hoL : ((fitL ps ls).take (k)).length ≤ k := by rw [List.length_take]; omega
    repeat' (with_reducible first | apply qa | apply qb | apply qc | apply qd | apply qe | apply qf | apply qg | apply qh | apply qi | apply qj | apply qk | apply ql rfl | apply qm rfl | apply qn rfl | (refine Tx 8 ?_; refine Jo xLt ?_; refine Je ?_) | (refine Tx 9 ?_; refine Jo (xIr ts_s_s_int (lin_at hi)) ?_; refine Jo (xLd tk_s_int) ?_; refine Ja ?_; refine Je ?_) | (refine Tx 10 ?_; refine Jm ?_; refine Jo (xLa tk_Diagram) ?_; refine Jm ?_; refine Jo (xCl Tryd.func27 (FT)) ?_; refine Jn (by exact ok_build1 rfl ts_s_s_int tz_s_int rfl rfl (by decide) (by decide)) ?_; refine Jt (by exact to_apD rfl rfl rfl rfl rfl rfl ts_s_s_int tz_s_int (by omega) (by decide) (by decide) rfl hap hap2) ?_; refine Ja ?_; refine Je ?_) | (refine Tx 11 ?_; refine Jo xAd ?_; refine Jm ?_; refine Je ?_))
    refine ⟨_, _, wk_go [(2, vr 0), (5, vr 1), (8, vo 2 (((fitL ps ls).take ((k + 1))).length)), (38, vd (rowLI true ls)), (39, vi ls.length), (40, vi (((k + 1) : Nat)))] 3 ?_ ?_ ?_, _, ?_, k + 1, by omega, rfl, rfl, rfl⟩
    · rfl
    · exact mB rfl rfl
    · exact ⟨bel_lit rfl, bel_lit rfl, bel_D, trivial⟩
    · omega
  obtain rfl : k = ls.length := by omega
  clear hlt hk
  rw [← fitL_len ps ls, List.take_length]
  have hfl : ∀ l ∈ fitL ps ls, l.length ≤ 1000000 := fun l hm => by
    obtain ⟨q, _, rfl⟩ := List.mem_map.1 hm
    rw [inp_len]; exact hl.l1
  have hfn : (fitL ps ls).length ≤ 1000000 := by rw [fitL_len]; omega
  have RA := prun_cv true true false hl (fitL ps ls) hfl hfn
  have RB := prun_cv false true false hl' (fitL ps ls) hfl hfn
  have NA := num_cv 4
  have h4a := runQ_four h0 (ls := ls)
  have h4b := runQ_four (ps := ps) h0' (ls := ls)
  by_cases hA : runQE ps bs os (fitL ps ls) = 0
  case neg =>
    rw [h4a.resolve_left hA, okQ_n (by decide)] at RA
    rcases h4b with hB | hB
    ·
      rw [hB] at RB
      repeat' (with_reducible first | apply qa | apply qb | apply qc | apply qd | apply qe | apply qf | apply qg | apply qh | apply qi | apply qj | apply qk | apply ql rfl | apply qm rfl | apply qn rfl | (refine Tx 8 ?_; refine Jo xLt ?_; refine Je ?_) | (refine Tx 12 ?_; refine Jo (xLa tk_Diagram) ?_; refine Jm ?_; refine Jo (xCl Tryd.func23 RA (ha := by with_unfolding_all first | ((repeat' first | exact lrel_n rfl rfl | refine lrel_c rfl rfl ?_ ?_ | refine xexp_1 rfl rfl ?_ | refine xexp_a rfl rfl ?_ | exact cexp_d rfl (fun h => by cases h) | exact cexp_dT rfl rfl rfl) <;> fail) | fail)) ?_; refine Jo (by exact ok_mvT rfl rfl) ?_; refine Jo xEx ?_; refine Jo xEx ?_; refine Ja ?_; refine Ja ?_; refine Je ?_) | (refine Tx 13 ?_; refine Jo (xLa tk_Diagram) ?_; refine Jm ?_; refine Jo (xCl Tryd.func23 RB (ha := by with_unfolding_all first | ((repeat' first | exact lrel_n rfl rfl | refine lrel_c rfl rfl ?_ ?_ | refine xexp_1 rfl rfl ?_ | refine xexp_a rfl rfl ?_ | exact cexp_d rfl (fun h => by cases h) | exact cexp_dT rfl rfl rfl) <;> fail) | fail)) ?_; refine Jo (by exact ok_mvT rfl rfl) ?_; refine Jo xEx ?_; refine Jo xEx ?_; refine Ja ?_; refine Ja ?_; refine Je ?_) | (refine Tx 14 ?_; refine Jm ?_; refine Jo (by first | exact ok_neqE rfl ti_error rfl (bne_t (by decide)) | exact ok_neqE rfl ti_error rfl (bne_f (by first | rfl | omega)) | exact ok_neqE rfl ti_error rfl (bne_t (by first | assumption | omega)) | exact ok_neqE rfl ti_error rfl rfl) ?_; refine Je ?_) | (refine Tx 15 ?_; refine Jm ?_; refine Jo (by first | exact ok_eqlE rfl ti_error rfl (beq_t rfl) | exact ok_eqlE rfl ti_error rfl (beq_t (by first | rfl | omega)) | exact ok_eqlE rfl ti_error rfl (beq_f (by first | assumption | omega)) | exact ok_eqlE rfl ti_error rfl rfl) ?_; refine Jm ?_; (first | refine Jd ?_ | refine Jy (by exact ok_mv1 rfl rfl) ?_); (first | refine Jd ?_ | refine Jy (xCl Tryd.func19 (NA.cv)) ?_); (first | refine Jd ?_ | refine Jy (by exact ok_mv1 rfl rfl) ?_); (first | refine Jd ?_ | refine Jy (xCl Tryd.func19 (NA.cv)) ?_); (first | refine Jd ?_ | refine Jy xEq ?_); refine Jo xPk ?_; refine Ja ?_; refine Je ?_))
      exact ret_q rfl (.cons_ (rv_b rfl (rfl)) .nil_)
    ·
      rw [hB, okQ_n (by decide)] at RB
      repeat' (with_reducible first | apply qa | apply qb | apply qc | apply qd | apply qe | apply qf | apply qg | apply qh | apply qi | apply qj | apply qk | apply ql rfl | apply qm rfl | apply qn rfl | (refine Tx 8 ?_; refine Jo xLt ?_; refine Je ?_) | (refine Tx 12 ?_; refine Jo (xLa tk_Diagram) ?_; refine Jm ?_; refine Jo (xCl Tryd.func23 RA (ha := by with_unfolding_all first | ((repeat' first | exact lrel_n rfl rfl | refine lrel_c rfl rfl ?_ ?_ | refine xexp_1 rfl rfl ?_ | refine xexp_a rfl rfl ?_ | exact cexp_d rfl (fun h => by cases h) | exact cexp_dT rfl rfl rfl) <;> fail) | fail)) ?_; refine Jo (by exact ok_mvT rfl rfl) ?_; refine Jo xEx ?_; refine Jo xEx ?_; refine Ja ?_; refine Ja ?_; refine Je ?_) | (refine Tx 13 ?_; refine Jo (xLa tk_Diagram) ?_; refine Jm ?_; refine Jo (xCl Tryd.func23 RB (ha := by with_unfolding_all first | ((repeat' first | exact lrel_n rfl rfl | refine lrel_c rfl rfl ?_ ?_ | refine xexp_1 rfl rfl ?_ | refine xexp_a rfl rfl ?_ | exact cexp_d rfl (fun h => by cases h) | exact cexp_dT rfl rfl rfl) <;> fail) | fail)) ?_; refine Jo (by exact ok_mvT rfl rfl) ?_; refine Jo xEx ?_; refine Jo xEx ?_; refine Ja ?_; refine Ja ?_; refine Je ?_) | (refine Tx 14 ?_; refine Jm ?_; refine Jo (by first | exact ok_neqE rfl ti_error rfl (bne_t (by decide)) | exact ok_neqE rfl ti_error rfl (bne_f (by first | rfl | omega)) | exact ok_neqE rfl ti_error rfl (bne_t (by first | assumption | omega)) | exact ok_neqE rfl ti_error rfl rfl) ?_; refine Je ?_) | (refine Tx 15 ?_; refine Jm ?_; refine Jo (by first | exact ok_eqlE rfl ti_error rfl (beq_f (by decide)) | exact ok_eqlE rfl ti_error rfl (beq_t (by first | rfl | omega)) | exact ok_eqlE rfl ti_error rfl (beq_f (by first | assumption | omega)) | exact ok_eqlE rfl ti_error rfl rfl) ?_; refine Jm ?_; (first | refine Jd ?_ | refine Jy (by exact ok_mv1 rfl rfl) ?_); (first | refine Jd ?_ | refine Jy (xCl Tryd.func19 (NA.cv)) ?_); (first | refine Jd ?_ | refine Jy (by exact ok_mv1 rfl rfl) ?_); (first | refine Jd ?_ | refine Jy (xCl Tryd.func19 (NA.cv)) ?_); (first | refine Jd ?_ | refine Jy xEq ?_); refine Jo xPk ?_; refine Ja ?_; refine Je ?_))
      exact ret_q rfl (.cons_ (rv_b rfl (rfl)) .nil_)
  obtain ⟨hB, hO⟩ := pr_runQ h0 hA
  have hrow := runQ_rows (ps := ps) (bs := bs) (os := os) (ls := fitL ps ls)
  rw [hA, okQ_z rfl] at hrow
  rw [hB, okQ_z rfl, hO] at RB
  rw [hA, okQ_z rfl] at RA
  have hos := (size_of_ok h0).2.2
  have hrl : (runO ps bs os (startM bs) (fitL ps ls)).length ≤ 300 := by rw [runO_len, fitL_len]; omega
  generalize runO ps bs os (startM bs) (fitL ps ls) = R at *
  repeat' (with_reducible first | apply qa | apply qb | apply qc | apply qd | apply qe | apply qf | apply qg | apply qh | apply qi | apply qj | apply qk | apply ql rfl | apply qm rfl | apply qn rfl | (refine Tx 8 ?_; refine Jo xLt ?_; refine Je ?_) | (refine Tx 12 ?_; refine Jo (xLa tk_Diagram) ?_; refine Jm ?_; refine Jo (xCl Tryd.func23 RA (ha := by with_unfolding_all first | ((repeat' first | exact lrel_n rfl rfl | refine lrel_c rfl rfl ?_ ?_ | refine xexp_1 rfl rfl ?_ | refine xexp_a rfl rfl ?_ | exact cexp_d rfl (fun h => by cases h) | exact cexp_dT rfl rfl rfl) <;> fail) | fail)) ?_; refine Jo (by exact ok_mvT rfl rfl) ?_; refine Jo xEx ?_; refine Jo xEx ?_; refine Ja ?_; refine Ja ?_; refine Je ?_) | (refine Tx 13 ?_; refine Jo (xLa tk_Diagram) ?_; refine Jm ?_; refine Jo (xCl Tryd.func23 RB (ha := by with_unfolding_all first | ((repeat' first | exact lrel_n rfl rfl | refine lrel_c rfl rfl ?_ ?_ | refine xexp_1 rfl rfl ?_ | refine xexp_a rfl rfl ?_ | exact cexp_d rfl (fun h => by cases h) | exact cexp_dT rfl rfl rfl) <;> fail) | fail)) ?_; refine Jo (by exact ok_mvT rfl rfl) ?_; refine Jo xEx ?_; refine Jo xEx ?_; refine Ja ?_; refine Ja ?_; refine Je ?_) | (refine Tx 14 ?_; refine Jm ?_; refine Jo (by first | exact ok_neqE rfl ti_error rfl (bne_f rfl) | exact ok_neqE rfl ti_error rfl (bne_f (by first | rfl | omega)) | exact ok_neqE rfl ti_error rfl (bne_t (by first | assumption | omega)) | exact ok_neqE rfl ti_error rfl rfl) ?_; refine Je ?_) | (refine Tx 16 ?_; refine Jm ?_; refine Jo (by first | exact ok_neqE rfl ti_error rfl (bne_f rfl) | exact ok_neqE rfl ti_error rfl (bne_f (by first | rfl | omega)) | exact ok_neqE rfl ti_error rfl (bne_t (by first | assumption | omega)) | exact ok_neqE rfl ti_error rfl rfl) ?_; refine Jm ?_; (first | refine Jd ?_ | refine Jy (by exact ok_mv1 rfl rfl) ?_); (first | refine Jd ?_ | refine Jy (xLn ts_s_s_Dyadic) ?_); (first | refine Jd ?_ | refine Jy (by exact ok_mv1 rfl rfl) ?_); (first | refine Jd ?_ | refine Jy (xLn ts_s_s_Dyadic) ?_); (first | refine Jd ?_ | refine Jy xNe ?_); refine Jo xPk ?_; refine Je ?_) | (refine Tx 18 ?_; refine Jm ?_; refine Jo (xLn ts_s_s_Dyadic) ?_; refine Jm ?_; refine Je ?_))
  refine cw_wk (F' := ofL [(11, vd (rowLD R)), (13, vd (rowLD R)), (84, vi R.length), (85, vi ((0 : Nat)))]) (H' := []) (wk_go [(11, vd (rowLD R)), (13, vd (rowLD R)), (84, vi R.length), (85, vi ((0 : Nat)))] 0 ?_ ?_ ?_) ?_
  · rfl
  · exact mB rfl rfl
  · exact trivial
  refine cw_loopW (fun n Fr H => ∃ k : Nat, k ≤ R.length ∧ n = R.length - k ∧ Fr = ofL [(11, vd (rowLD R)), (13, vd (rowLD R)), (84, vi R.length), (85, vi ((k : Nat)))] ∧ H = []) (n0 := R.length) ⟨0, Nat.zero_le _, rfl, rfl, rfl⟩ ?_
  rintro n Fr H ⟨k, hk, rfl, rfl, rfl⟩
  by_cases hlt : k < R.length
  case pos =>
    obtain ⟨l, hl⟩ : ∃ l, R[k]? = some l := ⟨_, List.getElem?_eq_getElem hlt⟩
    obtain ⟨hm1, hm2⟩ := hrow l (List.mem_of_getElem? hl)
    have LS := lsame_cv false false l l hm1 hm1 (by omega) (by omega)
    rw [decide_eq_true rfl] at LS
    repeat' (with_reducible first | apply qa | apply qb | apply qc | apply qd | apply qe | apply qf | apply qg | apply qh | apply qi | apply qj | apply qk | apply ql rfl | apply qm rfl | apply qn rfl | (refine Tx 19 ?_; refine Jo xLt ?_; refine Je ?_) | (refine Tx 20 ?_; refine Jm ?_; refine Ja ?_; refine Je ?_) | (refine cw_any (id := 21) mixed (by kernel_rfl) ?_; refine Km ?_; refine Km ?_; refine Ko (xIr ts_s_s_Dyadic (rows_at hl)) ?_; refine Ko (xLd tk_s_Dyadic) ?_; refine Km ?_; refine Km ?_; refine Ko (xIr ts_s_s_Dyadic (rows_at hl)) ?_; refine Ko (xLd tk_s_Dyadic) ?_; refine Ko (xCl Tryd.func21 (LS)) ?_; refine Ko (by first | exact ok_not rfl rfl | exact ok_neg64 rfl rfl (by omega)) ?_; refine Ke ?_) | (refine Tx 23 ?_; refine Jo xAd ?_; refine Jm ?_; refine Je ?_))
    refine ⟨_, _, wk_go [(11, vd (rowLD R)), (13, vd (rowLD R)), (84, vi R.length), (85, vi (((k + 1) : Nat)))] 0 ?_ ?_ ?_, _, ?_, k + 1, by omega, rfl, rfl, rfl⟩
    · rfl
    · exact mB rfl rfl
    · exact trivial
    · omega
  obtain rfl : k = R.length := by omega
  repeat' (with_reducible first | apply qa | apply qb | apply qc | apply qd | apply qe | apply qf | apply qg | apply qh | apply qi | apply qj | apply qk | apply ql rfl | apply qm rfl | apply qn rfl | (refine Tx 19 ?_; refine Jo xLt ?_; refine Je ?_) | (refine Tx 24 ?_; refine Ja ?_; refine Je ?_))
  exact ret_q rfl (.cons_ (rv_b rfl (rfl)) .nil_)
end Go.Proofs.YtfooonellkgaeaaDoor
namespace Go.Proofs.YtfooonellkgaeaaDoor
open Go.ChangeShapes Go.WideShapes Go.ChangeAt Go.RowKit Go.Joins Go.Deep
def AllF (w : World) : Sets := fun _ b => b < w.heap.size
theorem AllF.of {w : World} {x : A} {v : Value} (h : ARel w (AllS w) x v) : ARel w (AllF w) x v := h.mono (fun _ _ hb => hb.2) fun _ _ _ => rfl
theorem cv_lawA {f : FuncId} {args : List A} (h : CV Tryd.prog TabAt f args [aB true]) {w : World} (ht : TabAt w) {vs : List Value} (ha : LRel (ARel w (AllF w)) args vs) :
    Calls Tryd.prog f vs.toArray w fun e w' => e = .returned (.bool true) ∧ Below w.heap.size w w' :=
  (h w _ vs ht (fun t b hb => hb) ha).mono fun e w' ⟨v, h1, h2, h3⟩ => by
    have h4 : DRel w' _ (dB true) v := h2
    cases h4
    exact ⟨h1, h3⟩
structure RowA (α : Type) (s : Nat) where
  cs : List Value
  len : cs.length = s
  a : α
instance {α : Type} {s : Nat} [Inhabited α] : Inhabited (RowA α s) := ⟨⟨List.replicate s undef, List.length_replicate, default⟩⟩
section
variable {H : Type} {enc : TypeId × Value → H} {P : Program} {w : World} {spare : Nat → Bool} {held : Bool}
theorem rowsA_of_cell {α : Type} [Inhabited α] {s : Nat} {Q : α → List Value → Prop} (hs0 : 0 < s) {t e : TypeId} {fuel : Nat} {v : Value} {x : DataW H × List MemPlace} (ht : P.underlying t = some (.slice e)) (hC : P.cellsOf e = s)
    (hrow : ∀ (fuel : Nat) (cs : List Value) (x : DataW H × List MemPlace), DataW.trod enc P w 0 spare held fuel e cs = some x → cs.length = s → ∃ a, Q a cs)
    (h : DataW.trod enc P w 0 spare held fuel t [v] = some x) :
    ∃ (A : Option Addr) (cap : Nat) (l : List (RowA α s)), v = .slice A l.length cap ∧ (A = none → cap = 0) ∧ l.length ≤ cap ∧ l.length ≤ maxLen ∧ CellsAt w w.heap.size A (flat RowA.cs l) ∧ ∀ x ∈ l, Q x.a x.cs := by
  rcases open_slice ht h with ⟨hcs, _⟩ | ⟨a, len, cap, m, n, D, Pl, hcs, _, hl, hm, hmm, _, hx⟩
  · exact ⟨none, 0, [], by simpa using hcs, fun _ => rfl, Nat.le_refl _, Nat.zero_le _, CellsAt.nil_, by simp⟩
  · have hle : len ≤ m := by rw [hmm]; split <;> omega
    rw [hC] at hx
    obtain ⟨R, hR⟩ := choose_lt (α := RowA α s) (n := len) (p := fun i b => Q b.a b.cs ∧ ∀ j, j < s → w.cell? (a.add (i * s + j)) = b.cs[j]?) (fun i hi => by
      obtain ⟨cs', h1, h2⟩ := hx i (by omega)
      obtain ⟨_, hlen, hcell⟩ := World.cells?_some h1
      obtain ⟨b, hb⟩ := hrow _ _ _ h2 (by simpa using hlen)
      exact ⟨⟨cs', by simpa using hlen, b⟩, hb, fun j hj => by rw [← add_add]; exact hcell j hj⟩)
    refine ⟨some a, cap, (List.range len).map R, by simpa using hcs, by simp, by simpa using hl, by simp; omega, fun hne => ?_, ?_⟩
    · have hpos : 0 < len := by
        rcases Nat.eq_zero_or_pos len with h0 | h0
        · subst h0; simp [flat] at hne
        · exact h0
      obtain ⟨b, off, spot⟩ := a
      have h00 := (hR 0 hpos).2 0 hs0
      have hz0 : (R 0).cs[0]? = some ((R 0).cs[0]'(by rw [(R 0).len]; exact hs0)) := List.getElem?_eq_getElem _
      rw [hz0] at h00
      have hspot : spot = none := by simpa [Addr.add] using World.cell?_spot h00
      subst hspot
      have hb : b < w.heap.size := by
        rcases Nat.lt_or_ge b w.heap.size with h | h
        · exact h
        · simp [World.cell?, Addr.add, Array.getElem?_eq_none h] at h00
      refine ⟨b, off, rfl, hb, hb, fun j u hu => ?_⟩
      have hjl : j < len * s := by
        have := (List.getElem?_eq_some_iff.1 hu).1
        rw [flat_len (f := RowA.cs) (s := s) (fun x => x.len)] at this
        simpa using this
      have hk : j / s < len := Nat.div_lt_of_lt_mul (by rw [Nat.mul_comm]; exact hjl)
      have hr : j % s < s := Nat.mod_lt _ hs0
      have hj : j / s * s + j % s = j := by rw [Nat.mul_comm]; exact Nat.div_add_mod j s
      have hg : ((List.range len).map R)[j / s]? = some (R (j / s)) := by simp [hk]
      have h1 := flat_get (f := RowA.cs) (s := s) (fun x => x.len) hg hr
      rw [hj, hu] at h1
      have h2 := (hR _ hk).2 (j % s) hr
      rw [hj, ← h1] at h2
      rw [← Go.WideShapes.add_plain]
      exact h2
    · intro y hy
      obtain ⟨i, hi, rfl⟩ := List.mem_map.1 hy
      exact (hR i (by simpa using hi)).1
theorem row_inF {tg : Bool} {A : Option Addr} {s n c : Nat} {cs : List D} {xs : List Value} (h : CellsAt w w.heap.size A xs) (hc : n ≤ c) (hA : A = none → c = 0) (hl : cs.length = n * s) (hr : LRel (DRel w (AllF w)) cs xs) : DRel w (AllF w) (.row tg s n cs) (.slice A n c) := by
  refine .row xs hc hA hl hr.1 (fun hne => ?_) hr.2
  obtain ⟨b, off, h1, _, h2, h3⟩ := h (fun h0 => hne (by have := hr.1; rw [h0] at this; exact List.eq_nil_of_length_eq_zero (by simpa using this)))
  exact ⟨b, off, h1, h2, h3⟩
theorem sliceD {α : Type} [Inhabited α] (f : α → List D) (Q : α → Prop) {s : Nat} {tg : Bool} (hs0 : 0 < s) (hfl : ∀ a, (f a).length = s) {t e : TypeId} {fuel : Nat} {v : Value} {x : DataW H × List MemPlace} (ht : P.underlying t = some (.slice e)) (hC : P.cellsOf e = s)
    (hrow : ∀ (fuel : Nat) (cs : List Value) (x : DataW H × List MemPlace), DataW.trod enc P w 0 spare held fuel e cs = some x → cs.length = s → ∃ a, Q a ∧ LRel (DRel w (AllF w)) (f a) cs)
    (h : DataW.trod enc P w 0 spare held fuel t [v] = some x) : ∃ l : List α, DRel w (AllF w) (.row tg s l.length (flatD f l)) v ∧ (∀ a ∈ l, Q a) ∧ l.length ≤ maxLen := by
  obtain ⟨A, cap, l, rfl, hA, hc, hm, hcl, hQ⟩ := rowsA_of_cell (Q := fun a cs => Q a ∧ LRel (DRel w (AllF w)) (f a) cs) hs0 ht hC hrow h
  refine ⟨l.map RowA.a, ?_, fun a ha => ?_, by rw [List.length_map]; exact hm⟩
  · have key : ∀ l : List (RowA α s), (∀ x ∈ l, Q x.a ∧ LRel (DRel w (AllF w)) (f x.a) x.cs) → LRel (DRel w (AllF w)) (flatD f (l.map RowA.a)) (flat RowA.cs l) := fun l => by
      induction l with
      | nil => intro _; exact LRel.nil_
      | cons y l ih => intro hq; exact (hq y (List.mem_cons_self ..)).2.app (ih fun z hz => hq z (List.mem_cons_of_mem _ hz))
    have := row_inF (tg := tg) (n := (l.map RowA.a).length) hcl (by rw [List.length_map]; exact hc) hA (flatD_len (f := f) hfl _) (key l hQ)
    rwa [List.length_map] at this ⊢
  · obtain ⟨y, hy, rfl⟩ := List.mem_map.1 ha
    exact (hQ y hy).1
end
theorem flatD_one {α : Type} (f : α → D) (l : List α) : flatD (fun a => [f a]) l = l.map f := by
  induction l with
  | nil => rfl
  | cons a l ih => show f a :: flatD (fun a => [f a]) l = f a :: l.map f; rw [ih]
section
variable {H : Type} {enc : TypeId × Value → H} {w : World} {spare : Nat → Bool} {held : Bool}
instance : Inhabited Rv := ⟨⟨false, [], 0⟩⟩
def RvIn (r : Rv) : Prop := wordsOk r.ws ∧ r.ws.length ≤ maxLen ∧ -9223372036854775808 ≤ r.den ∧ r.den ≤ 9223372036854775807
set_option maxRecDepth 100000 in
theorem open_lints (tg : Bool) {r : Go.Reach} {b0 : Nat} {v : Value} {d : DataW H} {p : List MemPlace} (hv : Value.okWide Tryd.prog w r b0 44 v) (h : DataW.Trod enc Tryd.prog w 0 spare held 44 v d p) :
    ∃ ls : List (List Int), ARel w (AllF w) (.one (.row tg 1 ls.length (ls.map (rowI tg)))) v := by
  obtain ⟨a0, len, cap, rfl⟩ := okWide_slice Tryd.underlying44 hv
  obtain ⟨fuel, hf⟩ := h
  obtain ⟨ls, h1, _, _⟩ := sliceD (s := 1) (tg := tg) (fun l => [rowI tg l]) (fun _ => True) (by decide) (fun _ => rfl) Tryd.underlying44 (by kernel_rfl) (fun fuel cs x hx hl => by
    match cs, hl with
    | [c], _ =>
      obtain ⟨A, cp, zs, rfl, n, k, l, hc, b⟩ := ints_of_cell' Tryd.underlying39 Tryd.underlying3 (by kernel_rfl) hx
      refine ⟨zs, trivial, .cons_ ?_ .nil_⟩
      unfold rowI
      rw [dI_map]
      exact row_inF hc k n (by simp [ints]) (rel_vals ints_one)) hf
  rw [flatD_one] at h1
  exact ⟨ls, h1⟩
end
end Go.Proofs.YtfooonellkgaeaaDoor
