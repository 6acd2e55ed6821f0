/- What the proofs of this claim share, part 18. No conditions. -/
import Derived.Test.YtilbehepmkpdbaaGreatDoorKm17
import Derived.Test.YtilbehepmkpdbaaGreatDoorKm16
import Derived.Test.YtilbehepmkpdbaaGreatDoorKm10
import Derived.Test.YtilbehepmkpdbaaGreatDoorKm14
set_option maxRecDepth 100000
set_option maxHeartbeats 4000000
set_option linter.unusedVariables false
set_option linter.unusedSimpArgs false
set_option linter.unusedSectionVars false
namespace Go.Proofs.YtilbehepmkpdbaaGreatDoor
open Go.RowKit
def gIn (a b : Iq) : Prop := gv b.1 ≤ gv a.1 ∧ gv a.2 ≤ gv b.2
theorem mul_mono {c x y : Int} (h : x ≤ y) : (0 ≤ c → c * x ≤ c * y) ∧ (c ≤ 0 → c * y ≤ c * x) := ⟨fun hc => Int.mul_le_mul_of_nonneg_left h hc, fun hc => Int.mul_le_mul_of_nonpos_left hc h⟩
theorem corner {A1 A2 B1 B2 x y : Int} (h1 : A1 ≤ x) (h2 : x ≤ A2) (h3 : B1 ≤ y) (h4 : y ≤ B2) : min (min (min (A1 * B1) (A1 * B2)) (A2 * B1)) (A2 * B2) ≤ x * y ∧ x * y ≤ max (max (max (A1 * B1) (A1 * B2)) (A2 * B1)) (A2 * B2) := by
  have a1 := mul_mono (c := A1) h3
  have a2 := mul_mono (c := A1) h4
  have b1 := mul_mono (c := A2) h3
  have b2 := mul_mono (c := A2) h4
  have k1 : min (A1 * B1) (A1 * B2) ≤ A1 * y ∧ A1 * y ≤ max (A1 * B1) (A1 * B2) := by
    by_cases h : 0 ≤ A1
    · have := a1.1 h; have := a2.1 h; omega
    · have := a1.2 (by omega); have := a2.2 (by omega); omega
  have k2 : min (A2 * B1) (A2 * B2) ≤ A2 * y ∧ A2 * y ≤ max (A2 * B1) (A2 * B2) := by
    by_cases h : 0 ≤ A2
    · have := b1.1 h; have := b2.1 h; omega
    · have := b1.2 (by omega); have := b2.2 (by omega); omega
  have c1 := mul_mono (c := y) h1
  have c2 := mul_mono (c := y) h2
  rw [Int.mul_comm y A1, Int.mul_comm y x] at c1
  rw [Int.mul_comm y A2, Int.mul_comm y x] at c2
  by_cases h : 0 ≤ y
  · have := c1.1 h; have := c2.1 h; omega
  · have := c1.2 (by omega); have := c2.2 (by omega); omega
section
variable {a b c e : Iq} {n d : Nat}
theorem mul_gv (h : IwS a n d) (k : IwS b n d) (hd : d ≤ 30000) : gv (iMul a b).1 * 2 ^ GQ = min (min (min (gv a.1 * gv b.1) (gv a.1 * gv b.2)) (gv a.2 * gv b.1)) (gv a.2 * gv b.2) ∧ gv (iMul a b).2 * 2 ^ GQ = max (max (max (gv a.1 * gv b.1) (gv a.1 * gv b.2)) (gv a.2 * gv b.1)) (gv a.2 * gv b.2) := by
  obtain ⟨e1, e2, _⟩ := spanL_four (Sm.mul h.s1 k.s1 hd) (Sm.mul h.s1 k.s2 hd) (Sm.mul h.s2 k.s1 hd) (Sm.mul h.s2 k.s2 hd)
  have m : ∀ {p q : Pq}, Sm p n d → Sm q n d → gv (qMul p q) * 2 ^ GQ = gv p * gv q := fun {p q} hp hq => gv_mul (by have := hp.d; have := hq.d; show p.2 + q.2 ≤ 65536; omega)
  have m1 := m h.s1 k.s1
  have m2 := m h.s1 k.s2
  have m3 := m h.s2 k.s1
  have m4 := m h.s2 k.s2
  have pos := two_pos GQ
  have mn : ∀ x y : Int, min x y * 2 ^ GQ = min (x * 2 ^ GQ) (y * 2 ^ GQ) := fun x y => by
    rcases Int.le_total x y with hxy | hxy
    · have := Int.mul_le_mul_of_nonneg_right hxy (Int.le_of_lt pos); rw [Int.min_eq_left hxy, Int.min_eq_left this]
    · have := Int.mul_le_mul_of_nonneg_right hxy (Int.le_of_lt pos); rw [Int.min_eq_right hxy, Int.min_eq_right this]
  have mx : ∀ x y : Int, max x y * 2 ^ GQ = max (x * 2 ^ GQ) (y * 2 ^ GQ) := fun x y => by
    rcases Int.le_total x y with hxy | hxy
    · have := Int.mul_le_mul_of_nonneg_right hxy (Int.le_of_lt pos); rw [Int.max_eq_right hxy, Int.max_eq_right this]
    · have := Int.mul_le_mul_of_nonneg_right hxy (Int.le_of_lt pos); rw [Int.max_eq_left hxy, Int.max_eq_left this]
  constructor
  · rw [show gv (iMul a b).1 = _ from e1, mn, mn, mn, m1, m2, m3, m4]
  · rw [show gv (iMul a b).2 = _ from e2, mx, mx, mx, m1, m2, m3, m4]
theorem le_of_mul {x y : Int} (h : x * 2 ^ GQ ≤ y * 2 ^ GQ) : x ≤ y := Int.le_of_mul_le_mul_right h (two_pos GQ)
theorem mul_in (h : IwS a n d) (k : IwS b n d) (h' : IwS c n d) (k' : IwS e n d) (hd : d ≤ 30000) (i : gIn a c) (j : gIn b e) : gIn (iMul a b) (iMul c e) := by
  obtain ⟨e1, e2⟩ := mul_gv h k hd
  obtain ⟨f1, f2⟩ := mul_gv h' k' hd
  have ha := h.le
  have hb := k.le
  obtain ⟨i1, i2⟩ := i
  obtain ⟨j1, j2⟩ := j
  have c1 := corner (A1 := gv c.1) (A2 := gv c.2) (B1 := gv e.1) (B2 := gv e.2) (x := gv a.1) (y := gv b.1) i1 (by omega) j1 (by omega)
  have c2 := corner (A1 := gv c.1) (A2 := gv c.2) (B1 := gv e.1) (B2 := gv e.2) (x := gv a.1) (y := gv b.2) i1 (by omega) (by omega) j2
  have c3 := corner (A1 := gv c.1) (A2 := gv c.2) (B1 := gv e.1) (B2 := gv e.2) (x := gv a.2) (y := gv b.1) (by omega) i2 j1 (by omega)
  have c4 := corner (A1 := gv c.1) (A2 := gv c.2) (B1 := gv e.1) (B2 := gv e.2) (x := gv a.2) (y := gv b.2) (by omega) i2 (by omega) j2
  constructor
  · refine le_of_mul ?_
    rw [e1, f1]
    generalize min (min (min (gv c.1 * gv e.1) (gv c.1 * gv e.2)) (gv c.2 * gv e.1)) (gv c.2 * gv e.2) = z at *
    have := c1.1; have := c2.1; have := c3.1; have := c4.1
    omega
  · refine le_of_mul ?_
    rw [e2, f2]
    generalize max (max (max (gv c.1 * gv e.1) (gv c.1 * gv e.2)) (gv c.2 * gv e.1)) (gv c.2 * gv e.2) = z at *
    have := c1.2; have := c2.2; have := c3.2; have := c4.2
    omega
theorem add_in (h : IwS a n d) (k : IwS b n d) (h' : IwS c n d) (k' : IwS e n d) (i : gIn a c) (j : gIn b e) : gIn (iAdd a b) (iAdd c e) := by
  obtain ⟨i1, i2⟩ := i
  obtain ⟨j1, j2⟩ := j
  constructor
  · show gv (qSum c.1 e.1) ≤ gv (qSum a.1 b.1)
    rw [gv_sum h'.s1.le k'.s1.le, gv_sum h.s1.le k.s1.le]; omega
  · show gv (qSum a.2 b.2) ≤ gv (qSum c.2 e.2)
    rw [gv_sum h'.s2.le k'.s2.le, gv_sum h.s2.le k.s2.le]; omega
theorem neg_in (i : gIn a c) : gIn (iNeg a) (iNeg c) := by
  obtain ⟨i1, i2⟩ := i
  constructor
  · show gv (qNeg c.2) ≤ gv (qNeg a.2)
    rw [gv_neg, gv_neg]; omega
  · show gv (qNeg a.1) ≤ gv (qNeg c.1)
    rw [gv_neg, gv_neg]; omega
theorem min_in (h : IwS a n d) (k : IwS b n d) (h' : IwS c n d) (k' : IwS e n d) (i : gIn a c) (j : gIn b e) : gIn (iMin a b) (iMin c e) := by
  obtain ⟨i1, i2⟩ := i
  obtain ⟨j1, j2⟩ := j
  constructor
  · show gv (qMin c.1 e.1) ≤ gv (qMin a.1 b.1)
    rw [gv_min h'.s1.le k'.s1.le, gv_min h.s1.le k.s1.le]; omega
  · show gv (qMin a.2 b.2) ≤ gv (qMin c.2 e.2)
    rw [gv_min h'.s2.le k'.s2.le, gv_min h.s2.le k.s2.le]; omega
theorem max_in (h : IwS a n d) (k : IwS b n d) (h' : IwS c n d) (k' : IwS e n d) (i : gIn a c) (j : gIn b e) : gIn (iMax a b) (iMax c e) := by
  obtain ⟨i1, i2⟩ := i
  obtain ⟨j1, j2⟩ := j
  constructor
  · show gv (qMax c.1 e.1) ≤ gv (qMax a.1 b.1)
    rw [gv_max h'.s1.le k'.s1.le, gv_max h.s1.le k.s1.le]; omega
  · show gv (qMax a.2 b.2) ≤ gv (qMax c.2 e.2)
    rw [gv_max h'.s2.le k'.s2.le, gv_max h.s2.le k.s2.le]; omega
theorem abs_in (h : IwS a n d) (h' : IwS c n d) (i : gIn a c) : gIn (iAbs a) (iAbs c) := by
  obtain ⟨e1, e2⟩ := iAbs_gv h
  obtain ⟨f1, f2⟩ := iAbs_gv h'
  obtain ⟨i1, i2⟩ := i
  have ha := h.le
  constructor
  · rw [e1, f1]
    split <;> split <;> omega
  · rw [e2, f2]; omega
theorem gIn.refl (a : Iq) : gIn a a := ⟨Int.le_refl _, Int.le_refl _⟩
theorem in_is (h : IwS a n d) (k : IwS b n d) : iIn a b = true ↔ gIn a b := by rw [iIn_is h k, decide_eq_true_eq]; rfl
end
theorem blk_in {y : Bk} {l l' : List Iq} (hl : ∀ p ∈ l, IwS p LB LB) (hl' : ∀ p ∈ l', IwS p LB LB) (hi : ∀ k : Nat, gIn (l[k]?.getD iZ) (l'[k]?.getD iZ)) (hv : (y.kind = 1 ∨ y.kind = 6 ∨ y.kind = 11) → scOk y.vn y.ve) (hu : y.kind = 11 → scOk y.un y.ue) (hk : y.kind = 1 ∨ y.kind = 3 ∨ y.kind = 4 ∨ y.kind = 5 ∨ y.kind = 6 ∨ y.kind = 7 ∨ y.kind = 8 ∨ y.kind = 9 ∨ y.kind = 10 ∨ y.kind = 11) : gIn (blkI y l) (blkI y l') := by
  have a := getD_iw hl 0
  have b := getD_iw hl 1
  have a' := getD_iw hl' 0
  have b' := getD_iw hl' 1
  have i := hi 0
  have j := hi 1
  unfold blkI
  generalize l[0]?.getD iZ = p at a i ⊢
  generalize l[1]?.getD iZ = q at b j ⊢
  generalize l'[0]?.getD iZ = p' at a' i ⊢
  generalize l'[1]?.getD iZ = q' at b' j ⊢
  rcases hk with h | h | h | h | h | h | h | h | h | h <;> simp only [h, Int.reduceEq, if_true, if_false, reduceIte]
  · exact gIn.refl _
  · exact add_in a b a' b' i j
  · exact add_in a b.neg a' b'.neg i (neg_in j)
  · exact neg_in i
  · have s := IwS.pt (sc_lb (hv (.inr (.inl h))))
    exact mul_in a s a' s (by decide : LB ≤ 30000) i (gIn.refl _)
  · exact mul_in a b a' b' (by decide : LB ≤ 30000) i j
  · exact min_in a b a' b' i j
  · exact max_in a b a' b' i j
  · exact abs_in a a' i
  · have s := IwS.pt (sc_lb (hv (.inr (.inr h))))
    have s2 := IwS.pt (sc_lb (hu h))
    exact min_in (a.max s) s2 (a'.max s) s2 (max_in a s a' s i (gIn.refl _)) (gIn.refl _)
structure InW (vs vs' : List (Option Iq)) (D : Nat → Prop) : Prop where
  at_ : ∀ i, D i → ∃ p p', vs[i]? = some (some p) ∧ vs'[i]? = some (some p') ∧ gIn p p'
section
variable {ps : List Prt} {bs : List Bk} {os : List Int} {st st' : List Iq}
theorem stdS_next {t j i : Nat} (hj : (ordM bs)[t]? = some j) (hi : stdS bs (t + 1) i) : stdS bs t i ∨ i = j := by
  rcases hi with h1 | h1
  · exact .inl (.inl h1)
  · rw [List.take_add_one, hj] at h1
    rcases List.mem_append.1 h1 with h1 | h1
    · exact .inl (.inr h1)
    · exact .inr (by simpa using h1)
end
section
variable {n d : Nat}
theorem pt_mul {p q : Pq} (hp : Sm p n d) (hq : Sm q n d) (hd : d ≤ 30000) : gv (iMul (p, p) (q, q)).1 = gv (qMul p q) ∧ gv (iMul (p, p) (q, q)).2 = gv (qMul p q) := by
  have m : Sm (qMul p q) (n + n) (d + d) := Sm.mul hp hq hd
  obtain ⟨e1, e2, _⟩ := spanL_four m m m m
  exact ⟨by show gv (spanL [qMul p q, qMul p q, qMul p q, qMul p q]).1 = _; rw [e1]; omega, by show gv (spanL [qMul p q, qMul p q, qMul p q, qMul p q]).2 = _; rw [e2]; omega⟩
theorem mul_comm_gv {p q : Pq} (hp : Sm p n d) (hq : Sm q n d) (hd : d ≤ 30000) : gv (qMul p q) = gv (qMul q p) := by
  have h1 := hp.d
  have h2 := hq.d
  have e1 := gv_mul (p := p) (q := q) (by show p.2 + q.2 ≤ 65536; omega)
  have e2 := gv_mul (p := q) (q := p) (by show q.2 + p.2 ≤ 65536; omega)
  refine Int.eq_of_mul_eq_mul_right (Int.ne_of_gt (two_pos GQ)) ?_
  rw [e1, e2, Int.mul_comm]
theorem pt_abs {p : Pq} (hp : Sm p n d) : gv (iAbs (p, p)).1 = gv (qAbs p) ∧ gv (iAbs (p, p)).2 = gv (qAbs p) := by
  obtain ⟨e1, e2⟩ : gv (iAbs (p, p)).1 = (if gv p < 0 ∧ 0 < gv p then 0 else min ((gv p).natAbs : Int) (gv p).natAbs) ∧ gv (iAbs (p, p)).2 = max ((gv p).natAbs : Int) (gv p).natAbs := iAbs_gv (IwS.pt hp)
  rw [show gv (qAbs p) = _ from gv_abs p]
  refine ⟨?_, by rw [e2]; omega⟩
  rw [e1, if_neg (by omega)]
  omega
end
def ptL (l : List Pq) : List Iq := l.map fun p => (p, p)
theorem ptL_at (l : List Pq) (k : Nat) : (ptL l)[k]?.getD iZ = (l[k]?.getD (0, 0), l[k]?.getD (0, 0)) := by
  unfold ptL
  rw [List.getElem?_map]
  cases l[k]? <;> rfl
theorem ptL_iw {l : List Pq} {n d : Nat} (h : ∀ p ∈ l, Sm p n d) : ∀ a ∈ ptL l, IwS a n d := fun a ha => by
  obtain ⟨p, hp, rfl⟩ := List.mem_map.1 ha
  exact .pt (h p hp)
theorem pt_blk {y : Bk} {l : List Pq} (hl : ∀ p ∈ l, Sm p LB LB) (hv : (y.kind = 1 ∨ y.kind = 6 ∨ y.kind = 11) → scOk y.vn y.ve) (hu : y.kind = 11 → scOk y.un y.ue) (hk : y.kind = 1 ∨ y.kind = 3 ∨ y.kind = 4 ∨ y.kind = 5 ∨ y.kind = 6 ∨ y.kind = 7 ∨ y.kind = 8 ∨ y.kind = 9 ∨ y.kind = 10 ∨ y.kind = 11) : gv (blkI y (ptL l)).1 = gv (blkD y l) ∧ gv (blkI y (ptL l)).2 = gv (blkD y l) := by
  have a := getD_sm hl 0
  have b := getD_sm hl 1
  unfold blkI blkD
  rw [ptL_at, ptL_at]
  generalize l[0]?.getD (0, 0) = p at a ⊢
  generalize l[1]?.getD (0, 0) = q at b ⊢
  rcases hk with h | h | h | h | h | h | h | h | h | h <;> simp only [h, Int.reduceEq, if_true, if_false, reduceIte]
  · exact ⟨trivial, trivial⟩
  · exact ⟨rfl, rfl⟩
  · exact ⟨rfl, rfl⟩
  · exact ⟨rfl, rfl⟩
  · have s := sc_lb (hv (.inr (.inl h)))
    have e := pt_mul a s (by decide : LB ≤ 30000)
    have c := mul_comm_gv s a (by decide : LB ≤ 30000)
    exact ⟨e.1.trans c.symm, e.2.trans c.symm⟩
  · exact pt_mul a b (by decide : LB ≤ 30000)
  · exact ⟨rfl, rfl⟩
  · exact ⟨rfl, rfl⟩
  · exact pt_abs a
  · exact ⟨rfl, rfl⟩
def vIn (v : Pq) (r : Iq) : Prop := gv r.1 ≤ gv v ∧ gv v ≤ gv r.2
theorem blk_vin {y : Bk} {l : List Pq} {L : List Iq} (hl : ∀ p ∈ l, Sm p LB LB) (hL : ∀ p ∈ L, IwS p LB LB) (hi : ∀ k : Nat, vIn (l[k]?.getD (0, 0)) (L[k]?.getD iZ)) (hv : (y.kind = 1 ∨ y.kind = 6 ∨ y.kind = 11) → scOk y.vn y.ve) (hu : y.kind = 11 → scOk y.un y.ue) (hk : y.kind = 1 ∨ y.kind = 3 ∨ y.kind = 4 ∨ y.kind = 5 ∨ y.kind = 6 ∨ y.kind = 7 ∨ y.kind = 8 ∨ y.kind = 9 ∨ y.kind = 10 ∨ y.kind = 11) : vIn (blkD y l) (blkI y L) := by
  obtain ⟨e1, e2⟩ := pt_blk hl hv hu hk
  have h := blk_in (ptL_iw hl) hL (fun k => by rw [ptL_at]; exact hi k) hv hu hk
  obtain ⟨h1, h2⟩ := h
  exact ⟨by rw [← e1]; exact h1, by rw [← e2]; exact h2⟩
theorem port_vin {p : Prt} {z : Int} (h : PortS p) (h1 : p.lo ≤ z) (h2 : z ≤ p.hi) : vIn (dyShift z 0 (-p.fr)) (portI p) := by
  have e0 := port_gv (z := z) h.f0 h.f1
  have e1 : gv (portI p).1 * 2 ^ p.fr.toNat = p.lo * 2 ^ GQ := port_gv (z := p.lo) h.f0 h.f1
  have e2 : gv (portI p).2 * 2 ^ p.fr.toNat = p.hi * 2 ^ GQ := port_gv (z := p.hi) h.f0 h.f1
  have p2 := two_pos p.fr.toNat
  have g1 := Int.mul_le_mul_of_nonneg_right h1 (Int.le_of_lt (two_pos GQ))
  have g2 := Int.mul_le_mul_of_nonneg_right h2 (Int.le_of_lt (two_pos GQ))
  exact ⟨Int.le_of_mul_le_mul_right (by rw [e0, e1]; exact g1) p2, Int.le_of_mul_le_mul_right (by rw [e0, e2]; exact g2) p2⟩
structure InV (vs : List (Option Pq)) (rs : List (Option Iq)) (D : Nat → Prop) : Prop where
  at_ : ∀ i, D i → ∃ v r, vs[i]? = some (some v) ∧ rs[i]? = some (some r) ∧ vIn v r
theorem InV.set {vs : List (Option Pq)} {rs : List (Option Iq)} {D D' : Nat → Prop} (h : InV vs rs D) {j : Nat} {v : Pq} {r : Iq} (hj : j < vs.length) (hj' : j < rs.length) (hp : vIn v r) (hD : ∀ i, D' i → D i ∨ i = j) : InV (vs.set j (some v)) (rs.set j (some r)) D' := ⟨fun i hi => by
  rw [List.getElem?_set, List.getElem?_set]
  by_cases hij : j = i
  · rw [if_pos hij, if_pos hij, if_pos hj, if_pos hj']
    exact ⟨v, r, rfl, rfl, hp⟩
  · rw [if_neg hij, if_neg hij]
    rcases hD i hi with h1 | h1
    · exact h.at_ i h1
    · exact absurd h1.symm hij⟩
section
variable {ps : List Prt} {bs : List Bk} {os : List Int} {st : List Pq} {inv : List Iq} {ins : List Int}
theorem inV_0 (hl : st.length = (delL bs).length) (hl' : inv.length = (delL bs).length) (hi : ∀ (k : Nat) (v : Pq) (r : Iq), st[k]? = some v → inv[k]? = some r → vIn v r) : InV (valS ps bs st ins 0) (rgS ps bs inv 0) (stdS bs 0) := by
  rw [valS_0, rgS_0]
  have key : ∀ t, t ≤ (delL bs).length → InV (delV ((delL bs).take t) (st.take t) (List.replicate bs.length none)) (delW ((delL bs).take t) (inv.take t) (List.replicate bs.length none)) (fun i => i ∈ (delL bs).take t) := fun t => by
    induction t with
    | zero => intro _; exact ⟨fun i hi => by simp at hi⟩
    | succ t ih =>
      intro ht
      obtain ⟨j, hj⟩ : ∃ j, (delL bs)[t]? = some j := ⟨_, List.getElem?_eq_getElem (by omega)⟩
      obtain ⟨v, hv⟩ : ∃ v, st[t]? = some v := ⟨_, List.getElem?_eq_getElem (by omega)⟩
      obtain ⟨r, hr⟩ : ∃ r, inv[t]? = some r := ⟨_, List.getElem?_eq_getElem (by omega)⟩
      have hjl := (del_at hj).1
      rw [delV_next _ hj hv, delW_next _ hj hr]
      refine (ih (by omega)).set (by rw [delV_len, List.length_replicate]; exact hjl) (by rw [delW_len, List.length_replicate]; exact hjl) (hi t v r hv hr) fun i hi => ?_
      rw [List.take_add_one, hj] at hi
      simpa using hi
  have h := key (delL bs).length (Nat.le_refl _)
  rw [List.take_length, List.take_of_length_le (by omega), List.take_of_length_le (by omega)] at h
  refine ⟨fun i hi => h.at_ i ?_⟩
  rcases hi with ⟨h1, h2⟩ | h1
  · unfold delL
    rw [List.mem_filter, List.mem_range, h2]
    exact ⟨h1, rfl⟩
  · simp at h1
theorem val_in (he : dgErr ps bs os = 0) (hs : ∀ p ∈ inv, IwS p LB LB) (hl : st.length = (delL bs).length) (hn : ∀ p ∈ st, Nf p.1 p.2) (hl' : inv.length = (delL bs).length) (hb : rgBad ps bs inv = false) (hT : tickE ps bs st ins = 0) (hi : ∀ (k : Nat) (v : Pq) (r : Iq), st[k]? = some v → inv[k]? = some r → vIn v r) : ∀ t, t ≤ (ordM bs).length → InV (valS ps bs st ins t) (rgS ps bs inv t) (stdS bs t) := fun t => by
  obtain ⟨i1, i2, _⟩ := tick_zero hT
  induction t with
  | zero => intro _; exact inV_0 hl hl' hi
  | succ t ih =>
    intro ht
    obtain ⟨j, hj⟩ : ∃ j, (ordM bs)[t]? = some j := ⟨_, List.getElem?_eq_getElem ht⟩
    have h := ih (by omega)
    have H := tick_has he hl hn hT t (by omega)
    have H' := rgS_has he hs hl' hb t (by omega)
    obtain ⟨y, hy, hk2, T⟩ := tick_of he i2 i1 hj H
    obtain ⟨y', hy', _, T'⟩ := tickW_of he hj H'
    rw [hy] at hy'
    cases hy'
    rw [valS_next hj, rgS_next hj]
    have hjl := (ord_at hj).1
    refine h.set (by rw [valS_len]; exact hjl) (by rw [rgS_len]; exact hjl) ?_ fun i hi => stdS_next hj hi
    rw [valN_is hj hy, rgN_at hj hy]
    by_cases h0 : y.kind = 0
    · unfold rangeV tickV
      rw [if_pos h0, if_pos h0]
      obtain ⟨i, z, pp, q1, q2, q3, _⟩ := T.hin h0
      rw [q1]
      simp only [Option.getD_some, Int.toNat_natCast, q2, q3, Option.map_some]
      have hr := rng_at i2 q3 q2
      exact port_vin (acc_ports he q3) hr.1 hr.2
    · unfold rangeV tickV
      rw [if_neg h0, if_neg h0]
      refine blk_vin T.hs T'.hs (fun k => ?_) T'.hsv T'.hsu (by have := T'.hk; omega)
      cases ha : y.args[k]? with
      | none =>
        rw [show (argsV (valS ps bs st ins t) y)[k]? = none by unfold argsV; rw [if_neg h0, List.getElem?_map, ha]; rfl, show (argsW (rgS ps bs inv t) y)[k]? = none by unfold argsW; rw [if_neg h0, List.getElem?_map, ha]; rfl]
        exact ⟨Int.le_refl _, Int.le_refl _⟩
      | some a =>
        obtain ⟨p, a0, a1, hp, hpa⟩ := T.args h0 k a ha
        obtain ⟨p', _, _, hp', hpa'⟩ := T'.args h0 k a ha
        rw [hpa, hpa']
        have hsplit : ordM bs = (ordM bs).take t ++ j :: (ordM bs).drop (t + 1) := by
          obtain ⟨hlt, he⟩ := List.getElem?_eq_some_iff.1 hj
          rw [← he, ← List.drop_eq_getElem_cons hlt, List.take_append_drop]
        have hd := ord_done hsplit (a := a) (by rw [preds_at hy h0]; exact List.mem_of_getElem? ha)
        obtain ⟨q, q', hq, hq', hin⟩ := h.at_ a.toNat (hd.imp (fun h => ⟨by omega, h⟩) id)
        rw [hp] at hq
        rw [hp'] at hq'
        cases hq
        cases hq'
        exact hin
theorem tick_in (he : dgErr ps bs os = 0) (hs : ∀ p ∈ inv, IwS p LB LB) (hl : st.length = (delL bs).length) (hn : ∀ p ∈ st, Nf p.1 p.2) (hl' : inv.length = (delL bs).length) (hb : rgBad ps bs inv = false) (hT : tickE ps bs st ins = 0) (hi : ∀ (k : Nat) (v : Pq) (r : Iq), st[k]? = some v → inv[k]? = some r → vIn v r) {i : Nat} (hil : i < bs.length) : ∃ v r, (valE ps bs st ins)[i]? = some v ∧ (rgV ps bs inv)[i]? = some r ∧ IwS r LB LB ∧ Sm v LB LB ∧ vIn v r := by
  obtain ⟨r, h1, h2, h3⟩ := rgV_at he hs hl' hb hil
  have hd : stdS bs (ordM bs).length i := by
    by_cases hk : kindAt bs i = 2
    · exact .inl ⟨hil, hk⟩
    · refine .inr ?_
      rw [List.take_length]
      exact ord_all (pre_of he).2.2 hil hk
  obtain ⟨v, r', hv, hr', hin⟩ := (val_in he hs hl hn hl' hb hT hi _ (Nat.le_refl _)).at_ i hd
  obtain ⟨v', hv', hsm⟩ := (tick_has he hl hn hT _ (Nat.le_refl _)).at_ i hd
  rw [h2] at hr'
  rw [hv] at hv'
  cases hr'
  cases hv'
  exact ⟨v, r, gV_at hv, h1, h3, hsm, hin⟩
end
def P2 (j : Nat) : Int := 2 ^ (65506 + j)
def inU (z : Int) : Prop := z = 0 ∨ ∃ j : Nat, z = P2 j ∨ z = -P2 j
theorem up_bits {x : Pq} (h0 : x.1 ≠ 0) : 1 ≤ bitsN x.1.natAbs ∧ 2 ^ (bitsN x.1.natAbs - 1) ≤ x.1.natAbs ∧ x.1.natAbs < 2 ^ bitsN x.1.natAbs := by
  have h1 : 1 ≤ bitsN x.1.natAbs := Nat.one_le_iff_ne_zero.2 fun hc => by
    have : bitsN x.1.natAbs ≤ 0 := by omega
    have := bitsN_le.1 this
    omega
  refine ⟨h1, Nat.not_lt.1 fun hc => ?_, bitsN_le.1 (Nat.le_refl _)⟩
  have := bitsN_le.2 hc
  omega
theorem up_gv {x : Pq} {n : Nat} (h : Sm x n n) (hn : n ≤ 65000) (h30 : 30 ≤ n) : Sm (upP x) (n + 2) (n + 1) ∧ gv x ≤ gv (upP x) ∧ inU (gv (upP x)) := by
  by_cases h0 : x.1 = 0
  · exact ⟨by unfold upP; rw [if_pos h0]; exact h.more (by omega) (by omega), by unfold upP; rw [if_pos h0]; exact Int.le_refl _, by unfold upP gv; rw [if_pos h0, h0, Int.zero_mul]; exact .inl rfl⟩
  · obtain ⟨b1, b2, b3⟩ := up_bits h0
    have bn : bitsN x.1.natAbs ≤ n := bitsN_le.2 h.n
    have hd := h.d
    have hk : upK x = (bitsN x.1.natAbs : Int) - 1 - x.2 := rfl
    have ex : gv x = x.1 * 2 ^ (GQ - x.2) := rfl
    have hG : GQ = 65536 := rfl
    have pk : gv (pw (upK x)) = 2 ^ (bitsN x.1.natAbs - 1) * 2 ^ (GQ - x.2) := by rw [pw_gv (by omega) (by omega), ← Int.pow_add]; congr 1; omega
    have pk1 : gv (pw (upK x + 1)) = 2 ^ bitsN x.1.natAbs * 2 ^ (GQ - x.2) := by rw [pw_gv (by omega) (by omega), ← Int.pow_add]; congr 1; omega
    have grid : ∀ k : Int, -30 ≤ k → k ≤ 65536 → gv (pw k) = P2 (k + 30).toNat := fun k k0 k1 => by rw [pw_gv (by omega) k1]; unfold P2; congr 1; omega
    have p0 := two_pos (GQ - x.2)
    have c2 : ((2 ^ (bitsN x.1.natAbs - 1) : Nat) : Int) = 2 ^ (bitsN x.1.natAbs - 1) := Int.natCast_pow ..
    have c3 : ((2 ^ bitsN x.1.natAbs : Nat) : Int) = 2 ^ bitsN x.1.natAbs := Int.natCast_pow ..
    unfold upP
    rw [if_neg h0]
    by_cases h1 : x.1 < 0
    · rw [if_pos h1]
      by_cases h2 : upK x < -30
      · rw [if_pos h2]
        refine ⟨Sm.zero _ _, ?_, by rw [gv_zero]; exact .inl rfl⟩
        rw [gv_zero, ex]
        exact Int.mul_nonpos_of_nonpos_of_nonneg (Int.le_of_lt h1) (Int.le_of_lt p0)
      · rw [if_neg h2]
        refine ⟨((pw_sm (n := n) (by omega) (by omega) (by omega)).neg).more (by omega) (by omega), ?_, ?_⟩
        · rw [gv_neg, pk, ex, ← Int.neg_mul]
          exact Int.mul_le_mul_of_nonneg_right (by omega) (Int.le_of_lt p0)
        · rw [gv_neg, grid _ (by omega) (by omega)]; exact .inr ⟨_, .inr rfl⟩
    · rw [if_neg h1]
      have key : ∀ k' : Int, gv x ≤ gv (pw k') → k' ≤ n → -65536 ≤ k' → Sm (pw (max k' (-30))) (n + 2) (n + 1) ∧ gv x ≤ gv (pw (max k' (-30))) ∧ inU (gv (pw (max k' (-30)))) := fun k' hk' hn' hl' => by
        refine ⟨(pw_sm (n := n) (by omega) (by omega) (by omega)).more (by omega) (by omega), Int.le_trans hk' ?_, .inr ⟨_, .inl (grid _ (by omega) (by omega))⟩⟩
        rw [pw_gv hl' (by omega), pw_gv (by omega) (by omega)]
        have hle : (65536 + k').toNat ≤ (65536 + max k' (-30)).toNat := by omega
        rw [show (65536 + max k' (-30)).toNat = (65536 + k').toNat + ((65536 + max k' (-30)).toNat - (65536 + k').toNat) by omega, Int.pow_add]
        have q1 := two_pos (65536 + k').toNat
        have q2 := two_pos ((65536 + max k' (-30)).toNat - (65536 + k').toNat)
        have := Int.mul_le_mul_of_nonneg_left (show (1 : Int) ≤ 2 ^ ((65536 + max k' (-30)).toNat - (65536 + k').toNat) by omega) (Int.le_of_lt q1)
        rwa [Int.mul_one] at this
      have sk := pw_sm (k := upK x) (n := n) (by omega) (by omega) (by omega)
      by_cases h3 : qCmp (pw (upK x)) x < 0
      · rw [if_pos h3]
        refine key _ ?_ (by omega) (by omega)
        rw [pk1, ex]
        exact Int.mul_le_mul_of_nonneg_right (by omega) (Int.le_of_lt p0)
      · rw [if_neg h3]
        exact key _ ((cmp_ge sk.le h.le).1 (Int.not_lt.1 h3)) (by omega) (by omega)
theorem rgup_cv (x : Pq) (h : Sm x 20000 20000) : CV Tryz.prog TabAt 62 [aDy false x.1 x.2] [aDy false (upP x).1 (upP x).2] := by
  refine cvz Tryz.func62 Tryz.ntmps62 ?_
  have hd := h.d
  have hbn : bitsN x.1.natAbs ≤ 20000 := bitsN_le.2 h.n
  have hl : (canon x.1.natAbs).length ≤ 40000 := Nat.le_trans (h.lenN 625 (by decide)) (by decide)
  have SG := pdsign_cv x.1 x.2 h.ok hl
  have BT := pbits_cv x.1 x.2 h.ok hl
  have PW := rgpow_cv (((bitsN x.1.natAbs : Nat) : Int) - 1 - (x.2 : Int)) (by omega) (by omega)
  have sp := pw_sm (k := ((bitsN x.1.natAbs : Nat) : Int) - 1 - (x.2 : Int)) (n := 20001) (by omega) (by omega) (by decide)
  have lp := Nat.le_trans (sp.lenN 626 (by decide)) (show 626 ≤ 40000 by decide)
  by_cases h0 : x.1 = 0
  case pos =>
    rw [show upP x = x from if_pos h0]
    rw [show sgI x.1 = 0 by unfold sgI; (repeat' split) <;> omega] at SG
    repeat' (with_reducible first | apply qa | apply qb | apply qc | apply qd | apply qe | apply qf | apply qg | apply qh | apply qi | apply qj | apply qk | apply ql rfl | apply qm rfl | apply qn rfl | apply Je | (refine Tx 0 ?_; refine Jn xBo ?_; refine Jn (xAl tz_Dyadic) ?_) | (refine Tx 1 ?_; refine Jo (xLa tk_Dyadic) ?_; refine Jo (xCl Tryz.func126 (SG)) ?_; refine Jo xEq ?_) | (refine Tx 2 ?_; refine Jo (xLa tk_Dyadic) ?_; refine Js (xSk tk_Dyadic) ?_))
    exact ret_q rfl (.cons_ (rvW tk_Dyadic rfl) .nil_)
  have hk : upK x = ((bitsN x.1.natAbs : Nat) : Int) - 1 - (x.2 : Int) := rfl
  by_cases h1 : x.1 < 0
  case pos =>
    rw [show sgI x.1 = -1 by unfold sgI; (repeat' split) <;> omega] at SG
    by_cases h2 : ((bitsN x.1.natAbs : Nat) : Int) - 1 - (x.2 : Int) < -30
    case pos =>
      rw [show upP x = (0, 0) by unfold upP; rw [if_neg h0, if_pos h1, if_pos (by omega)], dy_zero]
      repeat' (with_reducible first | apply qa | apply qb | apply qc | apply qd | apply qe | apply qf | apply qg | apply qh | apply qi | apply qj | apply qk | apply ql rfl | apply qm rfl | apply qn rfl | apply Je | (refine Tx 0 ?_; refine Jn xBo ?_; refine Jn (xAl tz_Dyadic) ?_) | (refine Tx 1 ?_; refine Jo (xLa tk_Dyadic) ?_; refine Jo (xCl Tryz.func126 (SG)) ?_; refine Jo xEq ?_) | (refine cw_any (id := 3) mixed (by kernel_rfl) ?_; refine Ko (xLa tk_Dyadic) ?_; refine Ko (xCl Tryz.func95 (BT)) ?_; refine Ko xSb ?_; refine Ko (xFa tf_Dyadic2 tk_int) ?_; refine Ko (xLd tk_int) ?_; refine Ko xSb ?_; refine Ka ?_; refine Ke ?_) | (refine Tx 4 ?_; refine Jo (xLa tk_Dyadic) ?_; refine Jo (xCl Tryz.func126 (SG)) ?_; refine Jo xLt ?_) | (refine Tx 5 ?_; refine Jm ?_; refine Jo xLt ?_) | (refine Tx 6 ?_; refine Jo (by exact ok_build rfl tb_Dyadic rfl rfl) ?_; refine Js (xSk tk_Dyadic) ?_))
      exact ret_q rfl (.cons_ (rv_z tk_Dyadic rfl) .nil_)
    rw [show upP x = qNeg (pw (((bitsN x.1.natAbs : Nat) : Int) - 1 - (x.2 : Int))) by unfold upP; rw [if_neg h0, if_pos h1, if_neg (by omega), hk]]
    have NG := pdneg_cv (pw (((bitsN x.1.natAbs : Nat) : Int) - 1 - (x.2 : Int))).1 (pw (((bitsN x.1.natAbs : Nat) : Int) - 1 - (x.2 : Int))).2 sp.ok lp
    repeat' (with_reducible first | apply qa | apply qb | apply qc | apply qd | apply qe | apply qf | apply qg | apply qh | apply qi | apply qj | apply qk | apply ql rfl | apply qm rfl | apply qn rfl | apply Je | (refine Tx 0 ?_; refine Jn xBo ?_; refine Jn (xAl tz_Dyadic) ?_) | (refine Tx 1 ?_; refine Jo (xLa tk_Dyadic) ?_; refine Jo (xCl Tryz.func126 (SG)) ?_; refine Jo xEq ?_) | (refine cw_any (id := 3) mixed (by kernel_rfl) ?_; refine Ko (xLa tk_Dyadic) ?_; refine Ko (xCl Tryz.func95 (BT)) ?_; refine Ko xSb ?_; refine Ko (xFa tf_Dyadic2 tk_int) ?_; refine Ko (xLd tk_int) ?_; refine Ko xSb ?_; refine Ka ?_; refine Ke ?_) | (refine Tx 4 ?_; refine Jo (xLa tk_Dyadic) ?_; refine Jo (xCl Tryz.func126 (SG)) ?_; refine Jo xLt ?_) | (refine Tx 5 ?_; refine Jm ?_; refine Jo xLt ?_) | (refine Tx 7 ?_; refine Jm ?_; refine Jo (xCl Tryz.func123 (PW)) ?_; refine Jo (xCl Tryz.func61 (NG)) ?_; refine Js (xSk tk_Dyadic) ?_))
    exact ret_q rfl (.cons_ (rvW tk_Dyadic rfl) .nil_)
  rw [show sgI x.1 = 1 by unfold sgI; (repeat' split) <;> omega] at SG
  have CM := pdcmp_cv (pw (((bitsN x.1.natAbs : Nat) : Int) - 1 - (x.2 : Int))).1 (pw (((bitsN x.1.natAbs : Nat) : Int) - 1 - (x.2 : Int))).2 x.1 x.2 sp.ok h.ok lp hl
  by_cases h3 : dyCmp (pw (((bitsN x.1.natAbs : Nat) : Int) - 1 - (x.2 : Int))).1 (pw (((bitsN x.1.natAbs : Nat) : Int) - 1 - (x.2 : Int))).2 x.1 x.2 < 0
  case pos =>
    have PM := rgpow_cv (max (((bitsN x.1.natAbs : Nat) : Int) - 1 - (x.2 : Int) + 1) (-30)) (by omega) (by omega)
    rw [show upP x = pw (max (((bitsN x.1.natAbs : Nat) : Int) - 1 - (x.2 : Int) + 1) (-30)) by unfold upP; rw [if_neg h0, if_neg h1, hk, if_pos h3]]
    repeat' (with_reducible first | apply qa | apply qb | apply qc | apply qd | apply qe | apply qf | apply qg | apply qh | apply qi | apply qj | apply qk | apply ql rfl | apply qm rfl | apply qn rfl | apply Je | (refine Tx 0 ?_; refine Jn xBo ?_; refine Jn (xAl tz_Dyadic) ?_) | (refine Tx 1 ?_; refine Jo (xLa tk_Dyadic) ?_; refine Jo (xCl Tryz.func126 (SG)) ?_; refine Jo xEq ?_) | (refine cw_any (id := 3) mixed (by kernel_rfl) ?_; refine Ko (xLa tk_Dyadic) ?_; refine Ko (xCl Tryz.func95 (BT)) ?_; refine Ko xSb ?_; refine Ko (xFa tf_Dyadic2 tk_int) ?_; refine Ko (xLd tk_int) ?_; refine Ko xSb ?_; refine Ka ?_; refine Ke ?_) | (refine Tx 4 ?_; refine Jo (xLa tk_Dyadic) ?_; refine Jo (xCl Tryz.func126 (SG)) ?_; refine Jo xLt ?_) | (refine cw_any (id := 8) mixed (by kernel_rfl) ?_; refine Km ?_; refine Ko (xCl Tryz.func123 (PW)) ?_; refine Ko (xLa tk_Dyadic) ?_; refine Ko (xCl Tryz.func60 (CM)) ?_; refine Ko xLt ?_; refine Ke ?_) | (refine Tx 9 ?_; refine Jm ?_; refine Jo xAd ?_; refine Ja ?_) | (refine Tx 10 ?_; refine Jm ?_; refine Jo (by exact ok_max2 rfl rfl rfl) ?_; refine Jo (by first | exact xCl Tryz.func123 (PM) | exact xCl Tryz.func123 (PW)) ?_; refine Js (xSk tk_Dyadic) ?_))
    exact ret_q rfl (.cons_ (rvW tk_Dyadic rfl) .nil_)
  case neg =>
    have PM := rgpow_cv (max (((bitsN x.1.natAbs : Nat) : Int) - 1 - (x.2 : Int)) (-30)) (by omega) (by omega)
    rw [show upP x = pw (max (((bitsN x.1.natAbs : Nat) : Int) - 1 - (x.2 : Int)) (-30)) by unfold upP; rw [if_neg h0, if_neg h1, hk, if_neg h3]]
    repeat' (with_reducible first | apply qa | apply qb | apply qc | apply qd | apply qe | apply qf | apply qg | apply qh | apply qi | apply qj | apply qk | apply ql rfl | apply qm rfl | apply qn rfl | apply Je | (refine Tx 0 ?_; refine Jn xBo ?_; refine Jn (xAl tz_Dyadic) ?_) | (refine Tx 1 ?_; refine Jo (xLa tk_Dyadic) ?_; refine Jo (xCl Tryz.func126 (SG)) ?_; refine Jo xEq ?_) | (refine cw_any (id := 3) mixed (by kernel_rfl) ?_; refine Ko (xLa tk_Dyadic) ?_; refine Ko (xCl Tryz.func95 (BT)) ?_; refine Ko xSb ?_; refine Ko (xFa tf_Dyadic2 tk_int) ?_; refine Ko (xLd tk_int) ?_; refine Ko xSb ?_; refine Ka ?_; refine Ke ?_) | (refine Tx 4 ?_; refine Jo (xLa tk_Dyadic) ?_; refine Jo (xCl Tryz.func126 (SG)) ?_; refine Jo xLt ?_) | (refine cw_any (id := 8) mixed (by kernel_rfl) ?_; refine Km ?_; refine Ko (xCl Tryz.func123 (PW)) ?_; refine Ko (xLa tk_Dyadic) ?_; refine Ko (xCl Tryz.func60 (CM)) ?_; refine Ko xLt ?_; refine Ke ?_) | (refine Tx 10 ?_; refine Jm ?_; refine Jo (by exact ok_max2 rfl rfl rfl) ?_; refine Jo (by first | exact xCl Tryz.func123 (PM) | exact xCl Tryz.func123 (PW)) ?_; refine Js (xSk tk_Dyadic) ?_))
    exact ret_q rfl (.cons_ (rvW tk_Dyadic rfl) .nil_)
def UL : List Int := 0 :: ((List.range 71).map P2 ++ (List.range 71).map fun j => -P2 j)
def phi (z : Int) : Nat := UL.countP fun m => decide (m < z)
def psi (z : Int) : Nat := UL.countP fun m => decide (z < m)
theorem floor_sm {p : Pq} {n d den : Nat} (h : Sm p n d) (hd : den ≤ 65536) : Sm (qFloor p den) n den := by
  unfold qFloor dyFloor
  split
  · exact ⟨h.ok, h.n, by assumption⟩
  · exact Sm.mk_nf (Nat.le_refl _) hd (Nat.lt_of_le_of_lt floor_abs h.n)
theorem round_iw {a : Iq} {n d den : Nat} (h : IwS a n d) (hd : den ≤ 65536) : IwS (iRound a den) n den ∧ gv (iRound a den).1 ≤ gv a.1 ∧ gv a.2 ≤ gv (iRound a den).2 := by
  have f1 := gv_floor (p := a.1) (den := den) h.s1.le hd
  have f2 := gv_floor (p := qNeg a.2) (den := den) h.s2.neg.le hd
  rw [gv_neg] at f2
  have g1 : gv (iRound a den).1 ≤ gv a.1 := f1.1
  have g2 : gv a.2 ≤ gv (iRound a den).2 := by
    show _ ≤ gv (qNeg (qFloor (qNeg a.2) den))
    rw [gv_neg]
    have f3 : gv (qFloor (qNeg a.2) den) ≤ -gv a.2 := f2.1
    omega
  exact ⟨⟨floor_sm h.s1 hd, (floor_sm h.s2.neg hd).neg, by have := h.le; omega⟩, g1, g2⟩
def rndI (inv r : Iq) : Iq := iRound (iHull inv r) 64
def loC (inv r : Iq) : Bool := decide (¬ (rndI inv r).1 = inv.1)
def hiC (inv r : Iq) : Bool := decide (¬ (rndI inv r).2 = inv.2)
def stepI (w : Bool) (inv r : Iq) : Iq := (if (w && loC inv r) = true then qNeg (upP (qNeg (rndI inv r).1)) else (rndI inv r).1, if (w && hiC inv r) = true then upP (rndI inv r).2 else (rndI inv r).2)
theorem hull_gv {a b : Iq} {n d : Nat} (h : IwS a n d) (k : IwS b n d) : gv (iHull a b).1 = min (gv a.1) (gv b.1) ∧ gv (iHull a b).2 = max (gv a.2) (gv b.2) := by
  obtain ⟨e1, e2, e3⟩ := spanL_four h.s1 h.s2 k.s1 k.s2
  have h1 := h.le
  have h2 := k.le
  exact ⟨by show gv (spanL [a.1, a.2, b.1, b.2]).1 = _; rw [e1]; omega, by show gv (spanL [a.1, a.2, b.1, b.2]).2 = _; rw [e2]; omega⟩
theorem rnd_iw {a r : Iq} (h : IwS a LB LB) (k : IwS r LB LB) : IwS (rndI a r) LB 64 ∧ gv (rndI a r).1 ≤ gv a.1 ∧ gv (rndI a r).1 ≤ gv r.1 ∧ gv a.2 ≤ gv (rndI a r).2 ∧ gv r.2 ≤ gv (rndI a r).2 := by
  obtain ⟨e1, e2⟩ := hull_gv h k
  obtain ⟨s, r1, r2⟩ := round_iw (h.hull k) (den := 64) (by decide)
  exact ⟨s, by show gv (iRound (iHull a r) 64).1 ≤ _; omega, by show gv (iRound (iHull a r) 64).1 ≤ _; omega, by show _ ≤ gv (iRound (iHull a r) 64).2; omega, by show _ ≤ gv (iRound (iHull a r) 64).2; omega⟩
theorem step_up {p : Pq} (h : Sm p LB 64) : Sm (upP p) 20000 20000 ∧ gv p ≤ gv (upP p) ∧ inU (gv (upP p)) := by
  obtain ⟨h1, h2, h3⟩ := up_gv (h.more (Nat.le_refl LB) (show 64 ≤ LB by decide)) (by decide) (by decide)
  exact ⟨h1.more (by decide) (by decide), h2, h3⟩
theorem step_iw {w : Bool} {a r : Iq} (h : IwS a LB LB) (k : IwS r LB LB) : IwS (stepI w a r) 20000 20000 ∧ gv (stepI w a r).1 ≤ gv a.1 ∧ gv a.2 ≤ gv (stepI w a r).2 ∧
    (w = true → ((loC a r = false ∧ (stepI w a r).1 = a.1) ∨ (gv (stepI w a r).1 < gv a.1 ∧ inU (gv (stepI w a r).1))) ∧ ((hiC a r = false ∧ (stepI w a r).2 = a.2) ∨ (gv a.2 < gv (stepI w a r).2 ∧ inU (gv (stepI w a r).2)))) := by
  obtain ⟨s, r1, r2, r3, r4⟩ := rnd_iw h k
  have hh := h.le
  obtain ⟨u1, u2, u3⟩ : Sm (upP (qNeg (rndI a r).1)) 20000 20000 ∧ gv (qNeg (rndI a r).1) ≤ gv (upP (qNeg (rndI a r).1)) ∧ inU (gv (upP (qNeg (rndI a r).1))) := step_up s.s1.neg
  obtain ⟨v1, v2, v3⟩ := step_up s.s2
  rw [show gv (qNeg (rndI a r).1) = -gv (rndI a r).1 from gv_neg _] at u2
  have q1 : Sm (stepI w a r).1 20000 20000 ∧ gv (stepI w a r).1 ≤ gv a.1 ∧ (w = true → ((loC a r = false ∧ (stepI w a r).1 = a.1) ∨ (gv (stepI w a r).1 < gv a.1 ∧ inU (gv (stepI w a r).1)))) := by
    show Sm (if (w && loC a r) = true then _ else _) _ _ ∧ gv (if (w && loC a r) = true then _ else _) ≤ _ ∧ (w = true → ((_ ∧ (if (w && loC a r) = true then _ else _) = _) ∨ (gv (if (w && loC a r) = true then _ else _) < _ ∧ inU (gv (if (w && loC a r) = true then _ else _)))))
    by_cases hc : (w && loC a r) = true
    · rw [if_pos hc]
      rw [Bool.and_eq_true] at hc
      have hne : ¬ (rndI a r).1 = a.1 := of_decide_eq_true hc.2
      have hlt : gv (rndI a r).1 < gv a.1 := Int.lt_iff_le_and_ne.2 ⟨r1, fun e => hne (gv_inj s.s1.ok h.s1.ok e)⟩
      rw [gv_neg]
      refine ⟨u1.neg, by omega, fun _ => .inr ⟨by omega, ?_⟩⟩
      rcases u3 with e | ⟨j, e | e⟩
      · exact .inl (by omega)
      · exact .inr ⟨j, .inr (by omega)⟩
      · exact .inr ⟨j, .inl (by omega)⟩
    · rw [if_neg hc]
      refine ⟨s.s1.more (by decide) (by decide), r1, fun hw => .inl ?_⟩
      rw [hw, Bool.true_and, Bool.not_eq_true] at hc
      exact ⟨hc, Classical.byContradiction fun hn => by rw [show loC a r = true from decide_eq_true hn] at hc; cases hc⟩
  have q2 : Sm (stepI w a r).2 20000 20000 ∧ gv a.2 ≤ gv (stepI w a r).2 ∧ (w = true → ((hiC a r = false ∧ (stepI w a r).2 = a.2) ∨ (gv a.2 < gv (stepI w a r).2 ∧ inU (gv (stepI w a r).2)))) := by
    show Sm (if (w && hiC a r) = true then _ else _) _ _ ∧ _ ≤ gv (if (w && hiC a r) = true then _ else _) ∧ (w = true → ((_ ∧ (if (w && hiC a r) = true then _ else _) = _) ∨ (_ < gv (if (w && hiC a r) = true then _ else _) ∧ inU (gv (if (w && hiC a r) = true then _ else _)))))
    by_cases hc : (w && hiC a r) = true
    · rw [if_pos hc]
      rw [Bool.and_eq_true] at hc
      have hne : ¬ (rndI a r).2 = a.2 := of_decide_eq_true hc.2
      have hlt : gv a.2 < gv (rndI a r).2 := Int.lt_iff_le_and_ne.2 ⟨r3, fun e => hne (gv_inj h.s2.ok s.s2.ok e).symm⟩
      exact ⟨v1, by omega, fun _ => .inr ⟨by omega, v3⟩⟩
    · rw [if_neg hc]
      refine ⟨s.s2.more (by decide) (by decide), r3, fun hw => .inl ?_⟩
      rw [hw, Bool.true_and, Bool.not_eq_true] at hc
      exact ⟨hc, Classical.byContradiction fun hn => by rw [show hiC a r = true from decide_eq_true hn] at hc; cases hc⟩
  exact ⟨⟨q1.1, q2.1, by have := q1.2.1; have := q2.2.1; omega⟩, q1.2.1, q2.2.1, fun hw => ⟨q1.2.2 hw, q2.2.2 hw⟩⟩
def rgA (ps : List Prt) (bs : List Bk) (l : List Iq) (k : Nat) : Iq := (rgV ps bs l)[argZ bs ((delL bs)[k]?.getD 0)]?.getD iZ
def nxI (ps : List Prt) (bs : List Bk) (w : Bool) (l : List Iq) (k : Nat) : Iq := stepI w (l[k]?.getD iZ) (rgA ps bs l k)
def nextL (ps : List Prt) (bs : List Bk) (w : Bool) (l : List Iq) : List Iq := (List.range (delL bs).length).map (nxI ps bs w l)
def chgB (ps : List Prt) (bs : List Bk) (l : List Iq) (k : Nat) : Bool := loC (l[k]?.getD iZ) (rgA ps bs l k) || hiC (l[k]?.getD iZ) (rgA ps bs l k)
def chgK (ps : List Prt) (bs : List Bk) (l : List Iq) (k : Nat) : Bool := (List.range k).any (chgB ps bs l)
def inferN (ps : List Prt) (bs : List Bk) (rd : Int) : Nat → Nat → List Iq → Option (Int × List Iq)
  | 0, _, _ => none
  | f + 1, r, l => if rgBad ps bs l = true then some (4, []) else if chgK ps bs l (delL bs).length = false then some (0, l)
    else if (nextL ps bs (decide (rd < (r : Int))) l).any farB = true then some (22, []) else inferN ps bs rd f (r + 1) (nextL ps bs (decide (rd < (r : Int))) l)
structure InvL (bs : List Bk) (l : List Iq) : Prop where
  len : l.length = (delL bs).length
  iw : ∀ a ∈ l, IwS a 20000 20000
  far : ∀ a ∈ l, farB a = false
  st : ∀ k, k < (delL bs).length → gv (l[k]?.getD iZ).1 ≤ gv ((startM bs)[k]?.getD (0, 0)) ∧ gv ((startM bs)[k]?.getD (0, 0)) ≤ gv (l[k]?.getD iZ).2
theorem getD_mem {α : Type} {l : List α} {k : Nat} (h : k < l.length) (z : α) : l[k]?.getD z ∈ l := by rw [List.getElem?_eq_getElem h, Option.getD_some]; exact List.getElem_mem h
section
variable {ps : List Prt} {bs : List Bk} {os : List Int} {l : List Iq} {rd : Int}
theorem nextL_len (w : Bool) : (nextL ps bs w l).length = (delL bs).length := by unfold nextL; rw [List.length_map, List.length_range]
theorem nextL_at (w : Bool) {k : Nat} (hk : k < (delL bs).length) : (nextL ps bs w l)[k]? = some (nxI ps bs w l k) := by unfold nextL; rw [List.getElem?_map, List.getElem?_range hk]; rfl
theorem InvL.lb (h : InvL bs l) (hb : rgBad ps bs l = false) : ∀ a ∈ l, IwS a LB LB := fun a ha => iwl_of (h.iw a ha) ((rgBad_f hb).1 a ha)
theorem rgA_iw (he : dgErr ps bs os = 0) (h : InvL bs l) (hb : rgBad ps bs l = false) {k : Nat} (hk : k < (delL bs).length) : IwS (rgA ps bs l k) LB LB := by
  obtain ⟨i, hi⟩ : ∃ i, (delL bs)[k]? = some i := ⟨_, List.getElem?_eq_getElem hk⟩
  have hid := del_at hi
  obtain ⟨y, hy⟩ : ∃ y, bs[i]? = some y := ⟨_, List.getElem?_eq_getElem hid.1⟩
  obtain ⟨b, hA0, hbl⟩ := del_arg he hy (by rw [← kind_at hy]; exact hid.2)
  obtain ⟨r, hr, _, hrs⟩ := rgV_at he (h.lb hb) h.len hb hbl
  unfold rgA
  rw [hi, Option.getD_some, argZ_at hy hA0, hr]
  exact hrs
theorem InvL.next (he : dgErr ps bs os = 0) (h : InvL bs l) (hb : rgBad ps bs l = false) (w : Bool) (hf : (nextL ps bs w l).any farB = false) : InvL bs (nextL ps bs w l) := by
  have key : ∀ k, k < (delL bs).length → IwS (nxI ps bs w l k) 20000 20000 ∧ gv (nxI ps bs w l k).1 ≤ gv (l[k]?.getD iZ).1 ∧ gv (l[k]?.getD iZ).2 ≤ gv (nxI ps bs w l k).2 := fun k hk => by
    have := step_iw (w := w) (h.lb hb _ (getD_mem (by rw [h.len]; exact hk) iZ)) (rgA_iw he h hb hk)
    exact ⟨this.1, this.2.1, this.2.2.1⟩
  refine ⟨nextL_len w, fun a ha => ?_, fun a ha => ?_, fun k hk => ?_⟩
  · obtain ⟨k, hk, rfl⟩ := List.mem_map.1 ha
    exact (key k (List.mem_range.1 hk)).1
  · have := List.any_eq_false.1 hf a ha
    rwa [Bool.not_eq_true] at this
  · rw [nextL_at w hk, Option.getD_some]
    obtain ⟨_, k1, k2⟩ := key k hk
    obtain ⟨s1, s2⟩ := h.st k hk
    exact ⟨Int.le_trans k1 s1, Int.le_trans s2 k2⟩
def mI (a : Iq) : Nat := phi (gv a.1) + psi (gv a.2)
def mL (bs : List Bk) (l : List Iq) : Nat := ((List.range (delL bs).length).map fun k => mI (l[k]?.getD iZ)).sum
def startI (bs : List Bk) : List Iq := (startM bs).map fun p => (p, p)
theorem startI_inv (he : dgErr ps bs os = 0) (hf : (startI bs).any farB = false) : InvL bs (startI bs) := by
  have hst := start_ok he
  refine ⟨by unfold startI; rw [List.length_map]; exact hst.len, fun a ha => ?_, fun a ha => ?_, fun k hk => ?_⟩
  · obtain ⟨p, hp, rfl⟩ := List.mem_map.1 ha
    exact (IwS.pt (hst.sm p hp)).more (by decide) (by decide)
  · have := List.any_eq_false.1 hf a ha
    rwa [Bool.not_eq_true] at this
  · obtain ⟨p, hp⟩ : ∃ p, (startM bs)[k]? = some p := ⟨_, List.getElem?_eq_getElem (by rw [hst.len]; exact hk)⟩
    unfold startI
    rw [List.getElem?_map, hp]
    exact ⟨Int.le_refl _, Int.le_refl _⟩
end
def rvI2 (a : Iq) : Rv × Rv := (rvOf a.1, rvOf a.2)
theorem rowV_of (l : List Iq) : rowV (l.map rvI2) = .row false 6 l.length (flatD (dIw false) l) := by
  unfold rowV flatD
  rw [List.length_map, List.map_map]
  congr 2
  refine List.map_congr_left fun a _ => ?_
  show dRv false (rvOf a.1) ++ dRv false (rvOf a.2) = dIw false a
  rw [rvOf_D, rvOf_D]
  rfl
theorem rvI2_map (l : List Iq) : (l.map rvI2).map ivQ = l := by
  rw [List.map_map]
  refine (List.map_congr_left fun a _ => ?_).trans (List.map_id l)
  show (rvP (rvOf a.1), rvP (rvOf a.2)) = a
  rw [rvOf_P, rvOf_P]
section
variable {ps : List Prt} {bs : List Bk} {os : List Int} {l : List Iq} {rd : Int}
theorem rvI2_L {n d : Nat} (h : ∀ a ∈ l, IwS a n d) (hn : n ≤ 1280000) : ∀ q ∈ l.map rvI2, RvL q.1 ∧ RvL q.2 := fun q hq => by
  obtain ⟨a, ha, rfl⟩ := List.mem_map.1 hq
  exact ⟨rvOf_L (h a ha).s1 hn, rvOf_L (h a ha).s2 hn⟩
theorem rgE_of {n d : Nat} (h0 : dgErr ps bs os = 0) (h : ∀ a ∈ l, IwS a n d) (hl : l.length = (delL bs).length) : rgE ps bs os (l.map rvI2) = if rgBad ps bs l = true then 4 else 0 := by
  rw [rgE4 h0 (by rw [List.length_map]; exact hl) (by rw [Bool.not_eq_false]; exact List.all_eq_true.2 fun q hq => by obtain ⟨a, ha, rfl⟩ := List.mem_map.1 hq; exact iv_of (h a ha)), rvI2_map]
def nxS (ps : List Prt) (bs : List Bk) (w : Bool) (l : List Iq) (k : Nat) : List (Option Iq) := (List.range (delL bs).length).map fun j => if j < k then some (nxI ps bs w l j) else none
theorem nxS_len {w : Bool} {k : Nat} : (nxS ps bs w l k).length = (delL bs).length := by unfold nxS; rw [List.length_map, List.length_range]
theorem nxS_0 {w : Bool} : List.replicate (delL bs).length none = nxS ps bs w l 0 := by
  unfold nxS
  refine List.ext_getElem? fun i => ?_
  rw [List.getElem?_map, List.getElem?_replicate]
  by_cases hi : i < (delL bs).length
  · rw [List.getElem?_range hi, if_pos hi]; rfl
  · rw [List.getElem?_eq_none (by rw [List.length_range]; omega), if_neg hi]; rfl
theorem nxS_set {w : Bool} {k : Nat} (hk : k < (delL bs).length) : (nxS ps bs w l k).set k (some (nxI ps bs w l k)) = nxS ps bs w l (k + 1) := by
  refine List.ext_getElem? fun i => ?_
  rw [List.getElem?_set, nxS_len]
  unfold nxS
  rw [List.getElem?_map, List.getElem?_map]
  by_cases hi : i < (delL bs).length
  · rw [List.getElem?_range hi, Option.map_some, Option.map_some]
    by_cases hik : k = i
    · subst hik
      rw [if_pos rfl, if_pos hk, if_pos (by omega)]
    · rw [if_neg hik]
      by_cases h2 : i < k
      · rw [if_pos h2, if_pos (by omega)]
      · rw [if_neg h2, if_neg (by omega)]
  · rw [List.getElem?_eq_none (by rw [List.length_range]; omega), if_neg (by omega)]; rfl
theorem nxS_all {w : Bool} : kWs (nxS ps bs w l (delL bs).length) = (flatD (dIw false) (nextL ps bs w l)).map C.d := by
  unfold kWs nxS flatD nextL
  rw [List.map_flatten, List.map_map, List.map_map, List.map_map]
  congr 1
  refine List.map_congr_left fun j hj => ?_
  show kW (if j < _ then _ else _) = _
  rw [if_pos (List.mem_range.1 hj)]
  rfl
theorem chgK_next {k i b : Nat} {y : Bk} {a r : Iq} (hi : (delL bs)[k]? = some i) (hy : bs[i]? = some y) (hA : y.args[0]? = some (b : Int)) (ha : l[k]? = some a) (hr : (rgV ps bs l)[b]? = some r) : chgK ps bs l (k + 1) = (chgK ps bs l k || loC a r || hiC a r) ∧ (∀ w, nxI ps bs w l k = stepI w a r) := by
  have e1 : rgA ps bs l k = r := by unfold rgA; rw [hi, Option.getD_some, argZ_at hy hA, hr, Option.getD_some]
  refine ⟨?_, fun w => by unfold nxI; rw [ha, Option.getD_some, e1]⟩
  unfold chgK
  rw [List.range_succ, List.any_append, List.any_cons, List.any_nil, Bool.or_false]
  unfold chgB
  rw [ha, Option.getD_some, e1, Bool.or_assoc]
theorem cmp_ne {p q : Pq} {n d n' d' : Nat} (hp : Sm p n d) (hq : Sm q n' d') : (dyCmp p.1 p.2 q.1 q.2 != 0) = decide (¬ p = q) := by
  rw [Bool.eq_iff_iff, bne_iff_ne, decide_eq_true_eq]
  refine not_congr ((cmp_eq hp.le hq.le).trans ⟨fun h => gv_inj hp.ok hq.ok h, fun h => by rw [h]⟩)
def inferA (ps : List Prt) (bs : List Bk) (rd : Int) (f : Nat) : Option (Int × List Iq) := if (startI bs).any farB = true then some (22, []) else inferN ps bs rd f 1 (startI bs)
theorem flatI_next {l : List Iq} {k : Nat} {p : Iq} (h : l[k]? = some p) : (flatD (dIw false) (l.take k)).map C.d ++ (dIw false p).map C.d = (flatD (dIw false) (l.take (k + 1))).map C.d ∧ (l.take k).length + 1 = (l.take (k + 1)).length ∧ (l.take k).length ≤ k := by
  refine ⟨?_, ?_, by rw [List.length_take]; omega⟩
  · rw [List.take_add_one, h, Option.toList_some, flatD_app, List.map_append]; rfl
  · rw [List.take_add_one, h, List.length_append]; rfl
end
theorem rginfer_cv (t : Bool) {ps : List Prt} {bs : List Bk} {os : List Int} (hl : DgLen ps bs os) (h0 : dgErr ps bs os = 0) (rd : Int) (r0 : 1 ≤ rd) (r1 : rd ≤ 16) (res : Int × List Iq) (f : Nat) (hf : f ≤ 1000000000) (hres : inferA ps bs rd f = some res) : CV Tryz.prog TabAt 20 [aDg t ps bs os, aI rd] [aIws res.2, aE res.1] := by
  refine cvz Tryz.func20 Tryz.ntmps20 ?_
  have SC := pstart_cv t hl (ps := ps) (bs := bs) (os := os)
  have DL := (delays_cv t hl (ps := ps) (bs := bs) (os := os)).cv
  rw [h0, okQ_z rfl] at SC
  rw [if_pos h0, h0] at DL
  unfold aDys at SC
  have hnl := natI_len (delL bs)
  have hl2 := hl.l2
  have hdb := delL_le bs
  have hso := start_ok h0
  have hsl := hso.len
  have hsi : (startI bs).length = (startM bs).length := List.length_map ..
  repeat' (with_reducible first | apply qa | apply qb | apply qc | apply qd | apply qe | apply qf | apply qg | apply qh | apply qi | apply qj | apply qk | apply ql rfl | apply qm rfl | apply qn rfl | apply Je | (refine Tx 0 ?_; refine Jn xBo ?_; refine Ja ?_; refine Ja ?_) | (refine Tx 1 ?_; refine Jo (xLa tk_Diagram) ?_; refine Jo (xCl Tryz.func38 (SC)) ?_; refine Jo xMt ?_; refine Jo xEx ?_; refine Jo xEx ?_; refine Ja ?_; refine Ja ?_) | (refine Tx 2 ?_; refine Jm ?_; refine Jo (xNE ti_error) ?_) | (refine Tx 4 ?_; refine Jm ?_; refine Jo xLt ?_; refine Jm ?_; (first | iterate 2 refine Jd ?_ | (refine Jy xM1 ?_; refine Jy xGt ?_)); refine Jo xPk ?_) | (refine Tx 6 ?_; refine Jo (xLa tk_Diagram) ?_; refine Jo (xCl Tryz.func41 (DL)) ?_; refine Jo xMt ?_; refine Jo xEx ?_; refine Jo xEx ?_; refine Ja ?_; refine Ja ?_) | (refine Tx 7 ?_; refine Jm ?_; refine Jo (xNE ti_error) ?_) | (refine Tx 9 ?_; refine Ja ?_) | (refine Tx 10 ?_; refine Jm ?_; refine Jo (xLn ts_s_Dyadic) ?_; refine Jm ?_))
  refine cw_wk (wk_nil 9 55 6 rfl) ?_
  refine cw_wk (F' := ofL [(1, vd (.val (.int .i64 rd))), (2, vr 0), (8, vd (rowI false (natI (delL bs)))), (9, vo 1 (((startI bs).take 0).length)), (49, vd (.row false 3 (startM bs).length (flatD dyP (startM bs)))), (50, vi ((startM bs).length)), (51, vi ((0 : Nat)))]) (H' := [.box 26 [.d (rowP t ps), .d (rowB t bs), .d (rowI t os)], .row 55 6 ((startI bs).take (0)).length ((flatD (dIw false) ((startI bs).take (0))).map C.d)]) (wk_go _ 2 ?_ ?_ ?_) ?_
  · rfl
  · exact mB rfl rfl
  · exact ⟨bel_lit rfl, bel_D, trivial⟩
  refine cw_loopW (fun n Fr H => ∃ k : Nat, k ≤ (startM bs).length ∧ n = (startM bs).length - k ∧ (∀ p ∈ ((startI bs).take (k)), farB p = false) ∧ Fr = ofL [(1, vd (.val (.int .i64 rd))), (2, vr 0), (8, vd (rowI false (natI (delL bs)))), (9, vo 1 (((startI bs).take k).length)), (49, vd (.row false 3 (startM bs).length (flatD dyP (startM bs)))), (50, vi ((startM bs).length)), (51, vi ((k : Nat)))] ∧ H = [.box 26 [.d (rowP t ps), .d (rowB t bs), .d (rowI t os)], .row 55 6 ((startI bs).take (k)).length ((flatD (dIw false) ((startI bs).take (k))).map C.d)]) (n0 := (startM bs).length) ⟨0, Nat.zero_le _, rfl, (fun p hp => by simp at hp), rfl, rfl⟩ ?_
  rintro n Fr H ⟨k, hk, rfl, hnf, rfl, rfl⟩
  by_cases hlt : k < (startM bs).length
  case pos =>
    obtain ⟨p, hp⟩ : ∃ p, (startM bs)[k]? = some p := ⟨_, List.getElem?_eq_getElem hlt⟩
    have hsm := hso.sm p (List.mem_of_getElem? hp)
    have lp := Nat.le_trans (hsm.lenN 128 (by decide)) (show 128 ≤ 40000 by decide)
    have PT := pipoint_cv p hsm.ok lp
    have FR := rgfar_cv (p, p) ((IwS.pt hsm).more (by decide) (by decide))
    have hsp : (startI bs)[k]? = some (p, p) := by unfold startI; rw [List.getElem?_map, hp]; rfl
    obtain ⟨hap, hap2, hoL⟩ := flatI_next hsp
    cases hf : farB (p, p)
    case true =>
      rw [hf] at FR
      have hany : (startI bs).any farB = true := List.any_eq_true.2 ⟨_, List.mem_of_getElem? hsp, hf⟩
      rw [show inferA ps bs rd f = some (22, []) from if_pos hany] at hres
      cases hres
      repeat' (with_reducible first | apply qa | apply qb | apply qc | apply qd | apply qe | apply qf | apply qg | apply qh | apply qi | apply qj | apply qk | apply ql rfl | apply qm rfl | apply qn rfl | apply Je | (refine Tx 11 ?_; refine Jo xLt ?_) | (refine Tx 12 ?_; refine Jo (xIr ts_s_Dyadic (dy_at hp)) ?_; refine Jo (xLa tk_Dyadic) ?_; refine Jn (xAl tz_Dyadic) ?_; refine Js (xSk tk_Dyadic) ?_) | (refine Tx 13 ?_; refine Jo (xLa tk_Dyadic) ?_; refine Jo (xCl Tryz.func57 (PT)) ?_; refine Jn (xAl tz_Interval) ?_; refine Js (xSk tk_Interval) ?_) | (refine Tx 14 ?_; refine Jo (xLa tk_Interval) ?_; refine Jo (xCl Tryz.func58 (FR)) ?_) | (refine Tx 15 ?_; refine Jo (xMi Tryz.underlying48) ?_; refine Ja ?_; refine Ja ?_))
      exact ret_q rfl (.cons_ (.tmp (.one (cexp_n rfl rfl))) (.cons_ (rv_en rfl (by decide) rfl) .nil_))
    case false =>
      rw [hf] at FR
      repeat' (with_reducible first | apply qa | apply qb | apply qc | apply qd | apply qe | apply qf | apply qg | apply qh | apply qi | apply qj | apply qk | apply ql rfl | apply qm rfl | apply qn rfl | apply Je | (refine Tx 11 ?_; refine Jo xLt ?_) | (refine Tx 12 ?_; refine Jo (xIr ts_s_Dyadic (dy_at hp)) ?_; refine Jo (xLa tk_Dyadic) ?_; refine Jn (xAl tz_Dyadic) ?_; refine Js (xSk tk_Dyadic) ?_) | (refine Tx 13 ?_; refine Jo (xLa tk_Dyadic) ?_; refine Jo (xCl Tryz.func57 (PT)) ?_; refine Jn (xAl tz_Interval) ?_; refine Js (xSk tk_Interval) ?_) | (refine Tx 14 ?_; refine Jo (xLa tk_Interval) ?_; refine Jo (xCl Tryz.func58 (FR)) ?_) | (refine Tx 16 ?_; refine Jm ?_; refine Jo (xLa tk_Interval) ?_; refine Jn (by exact ok_build1 rfl ts_s_Interval tz_Interval rfl rfl (by decide) (by decide)) ?_; refine Jt (by exact to_apD rfl rfl rfl rfl rfl rfl ts_s_Interval tz_Interval (by omega) (by decide) (by decide) rfl hap hap2) ?_; refine Ja ?_) | (refine Tx 17 ?_; refine Jo xAd ?_; refine Jm ?_))
      refine ⟨_, _, wk_go _ 2 ?_ ?_ ?_, _, ?_, k + 1, by omega, rfl, take_all1 hnf hsp hf, rfl, rfl⟩
      · rfl
      · exact mB rfl rfl
      · exact ⟨bel_lit rfl, bel_D, trivial⟩
      · omega
  obtain rfl : k = (startM bs).length := by omega
  clear hlt hk
  have htk : (startI bs).take (startM bs).length = startI bs := by rw [← hsi, List.take_length]
  rw [htk] at hnf ⊢
  have hany : (startI bs).any farB = false := List.any_eq_false.2 fun p hp => by rw [hnf p hp]; decide
  rw [show inferA ps bs rd f = inferN ps bs rd f 1 (startI bs) from if_neg (by rw [hany]; decide)] at hres
  have hI0 := startI_inv h0 hany
  repeat' (with_reducible first | apply qa | apply qb | apply qc | apply qd | apply qe | apply qf | apply qg | apply qh | apply qi | apply qj | apply qk | apply ql rfl | apply qm rfl | apply qn rfl | apply Je | (refine Tx 11 ?_; refine Jo xLt ?_) | (refine Tx 18 ?_; refine Ja ?_))
  refine cw_wk (wk_freeze (ds := flatD (dIw false) (startI bs)) 9 1 rfl rfl) ?_
  refine cw_wk (F' := ofL [(1, vd (.val (.int .i64 rd))), (2, vr 0), (8, vd (rowI false (natI (delL bs)))), (9, vd (.row false 6 (startI bs).length (flatD (dIw false) (startI bs)))), (13, vi ((1 : Nat)))]) (H' := [.box 26 [.d (rowP t ps), .d (rowB t bs), .d (rowI t os)]]) (wk_go _ 1 ?_ ?_ ?_) ?_
  · rfl
  · exact mB rfl rfl
  · exact ⟨bel_lit rfl, trivial⟩
  refine cw_loopW (fun n Fr H => ∃ (r : Nat) (l : List Iq), inferN ps bs rd n r l = some res ∧ InvL bs l ∧ r + n ≤ 1 + f ∧ Fr = ofL [(1, vd (.val (.int .i64 rd))), (2, vr 0), (8, vd (rowI false (natI (delL bs)))), (9, vd (.row false 6 l.length (flatD (dIw false) l))), (13, vi ((r : Nat)))] ∧ H = [.box 26 [.d (rowP t ps), .d (rowB t bs), .d (rowI t os)]]) (n0 := f) ⟨1, _, hres, hI0, Nat.le_refl _, rfl, rfl⟩ ?_
  clear hres hI0 hnf hany htk
  rintro n Fr H ⟨r, l, hres, hI, hrn, rfl, rfl⟩
  cases n
  case zero =>
    cases hres
  rename_i n
  case succ =>
    unfold inferN at hres
    have hll := hI.len
    have EV := rgeval_cv t hl (l.map rvI2) (rvI2_L hI.iw (by decide)) (by rw [List.length_map]; omega)
    rw [rgE_of h0 hI.iw hll, rvI2_map, rowV_of] at EV
    by_cases hb : rgBad ps bs l = true
    case pos =>
      rw [if_pos hb] at hres
      cases hres
      rw [if_pos hb, okQ_n (by decide)] at EV
      repeat' (with_reducible first | apply qa | apply qb | apply qc | apply qd | apply qe | apply qf | apply qg | apply qh | apply qi | apply qj | apply qk | apply ql rfl | apply qm rfl | apply qn rfl | apply Je | (refine Tx 20 ?_; refine Jo (xLa tk_Diagram) ?_; refine Jm ?_; refine Jo (xCl Tryz.func12 (EV)) ?_; refine Jo xMt ?_; refine Jo xEx ?_; refine Jo xEx ?_; refine Ja ?_; refine Ja ?_) | (refine Tx 21 ?_; refine Jm ?_; refine Jo (xNE ti_error) ?_) | (refine Tx 22 ?_; refine Jm ?_; refine Ja ?_; refine Ja ?_))
      exact ret_q rfl (.cons_ (.tmp (.one (cexp_n rfl rfl))) (.cons_ (rv_en rfl (by decide) rfl) .nil_))
    rw [if_neg hb] at hres
    rw [if_neg hb, okQ_z rfl] at EV
    rw [Bool.not_eq_true] at hb
    unfold aIws at EV
    have hlb := hI.lb hb
    have hvl : (rgV ps bs l).length = bs.length := rgV_len
    obtain ⟨w, hwd⟩ : ∃ w, decide (rd < (r : Int)) = w := ⟨_, rfl⟩
    rw [hwd] at hres
    repeat' (with_reducible first | apply qa | apply qb | apply qc | apply qd | apply qe | apply qf | apply qg | apply qh | apply qi | apply qj | apply qk | apply ql rfl | apply qm rfl | apply qn rfl | apply Je | (refine Tx 20 ?_; refine Jo (xLa tk_Diagram) ?_; refine Jm ?_; refine Jo (xCl Tryz.func12 (EV)) ?_; refine Jo xMt ?_; refine Jo xEx ?_; refine Jo xEx ?_; refine Ja ?_; refine Ja ?_) | (refine Tx 21 ?_; refine Jm ?_; refine Jo (xNE ti_error) ?_) | (refine Tx 23 ?_; refine Ja ?_) | (refine Tx 24 ?_; refine Jm ?_; refine Jo (xLn ts_s_Interval) ?_; refine Jn (by first | exact ok_makeIw (n := l.length) rfl rfl rfl ts_s_Interval tz_Interval (by omega) (by decide) | exact ok_makeSlice rfl rfl rfl ts_s_Interval tz_Interval (by omega) (by decide)) ?_; refine Ja ?_) | (refine Tx 25 ?_; refine Jm ?_; refine Jo (xLn ts_s_int) ?_; refine Jm ?_))
    refine cw_wk (F' := ofL [(1, vd (.val (.int .i64 rd))), (2, vr 0), (8, vd (rowI false (natI (delL bs)))), (9, vd (.row false 6 l.length (flatD (dIw false) l))), (13, vi ((r : Nat))), (14, vd (.row false 6 (rgV ps bs l).length (flatD (dIw false) (rgV ps bs l)))), (16, vd (.val (.bool (chgK ps bs l 0)))), (17, vo 1 l.length), (79, vd (rowI false (natI (delL bs)))), (80, vi ((delL bs).length)), (81, vi ((0 : Nat)))]) (H' := [.box 26 [.d (rowP t ps), .d (rowB t bs), .d (rowI t os)], .row 55 6 l.length (kWs (nxS ps bs w l (0)))]) (wk_go _ 2 ?_ ?_ ?_) ?_
    · rw [← nxS_0, ← hll]; rfl
    · rw [← hnl]; exact mB rfl rfl
    · exact ⟨bel_lit rfl, bel_kWs, trivial⟩
    refine cw_loopW (fun n Fr H => ∃ k : Nat, k ≤ (delL bs).length ∧ n = (delL bs).length - k ∧ Fr = ofL [(1, vd (.val (.int .i64 rd))), (2, vr 0), (8, vd (rowI false (natI (delL bs)))), (9, vd (.row false 6 l.length (flatD (dIw false) l))), (13, vi ((r : Nat))), (14, vd (.row false 6 (rgV ps bs l).length (flatD (dIw false) (rgV ps bs l)))), (16, vd (.val (.bool (chgK ps bs l k)))), (17, vo 1 l.length), (79, vd (rowI false (natI (delL bs)))), (80, vi ((delL bs).length)), (81, vi ((k : Nat)))] ∧ H = [.box 26 [.d (rowP t ps), .d (rowB t bs), .d (rowI t os)], .row 55 6 l.length (kWs (nxS ps bs w l (k)))]) (n0 := (delL bs).length) ⟨0, Nat.zero_le _, rfl, rfl, rfl⟩ ?_
    rintro m Fr H ⟨k, hk, rfl, rfl, rfl⟩
    by_cases hlt : k < (delL bs).length
    case pos =>
      obtain ⟨i, hi⟩ : ∃ i, (delL bs)[k]? = some i := ⟨_, List.getElem?_eq_getElem hlt⟩
      have hid := del_at hi
      have hil := hid.1
      obtain ⟨y, hy⟩ : ∃ y, bs[i]? = some y := ⟨_, List.getElem?_eq_getElem hil⟩
      have hk2 := hid.2
      rw [kind_at hy] at hk2
      obtain ⟨b, hA0, hbl⟩ := del_arg h0 hy hk2
      obtain ⟨rr, hr, _, hrs⟩ := rgV_at h0 hlb hll hb hbl
      have hal := (List.getElem?_eq_some_iff.1 hA0).1
      obtain ⟨a, ha⟩ : ∃ a, l[k]? = some a := ⟨_, List.getElem?_eq_getElem (by omega)⟩
      have has := hlb a (List.mem_of_getElem? ha)
      have has2 := has.more (show LB ≤ 20000 by decide) (show LB ≤ 20000 by decide)
      have hrs2 := hrs.more (show LB ≤ 20000 by decide) (show LB ≤ 20000 by decide)
      have HU := pihull_cv a rr has2 hrs2
      have RO : CV Tryz.prog TabAt 59 [aIw false (iHull a rr), aI (64 : Int)] [aIw false (rndI a rr), aE 0] := piround_cv (iHull a rr) 64 (has2.hull hrs2) (by decide)
      obtain ⟨hq, _, _, _, _⟩ := rnd_iw has hrs
      have q1 := hq.s1
      have q2 := hq.s2
      have l1 := Nat.le_trans (q1.lenN 128 (by decide)) (show 128 ≤ 40000 by decide)
      have l2 := Nat.le_trans (q2.lenN 128 (by decide)) (show 128 ≤ 40000 by decide)
      have m1 := Nat.le_trans (has.s1.lenN 128 (by decide)) (show 128 ≤ 40000 by decide)
      have m2 := Nat.le_trans (has.s2.lenN 128 (by decide)) (show 128 ≤ 40000 by decide)
      have C1 := pdcmp_cv (rndI a rr).1.1 (rndI a rr).1.2 a.1.1 a.1.2 q1.ok has.s1.ok l1 m1
      have C2 := pdcmp_cv (rndI a rr).2.1 (rndI a rr).2.2 a.2.1 a.2.2 q2.ok has.s2.ok l2 m2
      have hb1 : (dyCmp (rndI a rr).1.1 (rndI a rr).1.2 a.1.1 a.1.2 != 0) = loC a rr := cmp_ne q1 has.s1
      have hb2 : (dyCmp (rndI a rr).2.1 (rndI a rr).2.2 a.2.1 a.2.2 != 0) = hiC a rr := cmp_ne q2 has.s2
      have NG1 := pdneg_cv (rndI a rr).1.1 (rndI a rr).1.2 q1.ok l1
      obtain ⟨u1, _, _⟩ : Sm (upP (qNeg (rndI a rr).1)) 20000 20000 ∧ gv (qNeg (rndI a rr).1) ≤ gv (upP (qNeg (rndI a rr).1)) ∧ inU (gv (upP (qNeg (rndI a rr).1))) := step_up q1.neg
      have UP1 := rgup_cv (qNeg (rndI a rr).1) (q1.neg.more (by decide) (by decide))
      have NG2 := pdneg_cv (upP (qNeg (rndI a rr).1)).1 (upP (qNeg (rndI a rr).1)).2 u1.ok (Nat.le_trans (u1.lenN 625 (by decide)) (by decide))
      have UP2 := rgup_cv (rndI a rr).2 (q2.more (by decide) (by decide))
      obtain ⟨hck, hnx⟩ := chgK_next hi hy hA0 ha hr
      have tl : k < (nxS ps bs w l k).length := by rw [nxS_len]; exact hlt
      have stV := nxS_set (ps := ps) (bs := bs) (w := w) (l := l) hlt
      rw [hnx w, show stepI w a rr = (if (decide (rd < (r : Int)) && loC a rr) = true then qNeg (upP (qNeg (rndI a rr).1)) else (rndI a rr).1, if (decide (rd < (r : Int)) && hiC a rr) = true then upP (rndI a rr).2 else (rndI a rr).2) from by rw [hwd]; rfl] at stV
      clear hq
      generalize upP (qNeg (rndI a rr).1) = u at *
      generalize upP (rndI a rr).2 = v at *
      generalize rndI a rr = q at *
      repeat' (with_reducible first | apply qa | apply qb | apply qc | apply qd | apply qe | apply qf | apply qg | apply qh | apply qi | apply qj | apply qk | apply ql rfl | apply qm rfl | apply qn rfl | apply Je | (refine Tx 26 ?_; refine Jo xLt ?_) | (refine Tx 27 ?_; refine Jm ?_; refine Jo (by first | exact xIr ts_s_int (int_at (natI_at hi)) | exact xIr ts_s_int (iw_at ha)) ?_; refine Jo (xLd tk_int) ?_; refine Ja ?_; refine Ja ?_) | (refine cw_partE (id := 28) 21 [(21, 19)] mixed (by kernel_rfl) ?_; dsimp only [List.take, List.drop]; refine Km ?_; refine Km ?_; refine Ko (xIr ts_s_Interval (iw_at ha)) ?_; refine Ko (xLa tk_Interval) ?_; refine Km ?_; refine Ko (xFa tf_Diagram1 tk_s_Block) ?_; refine Ko (xLd tk_s_Block) ?_; refine Km ?_; refine Ko (by first | exact xIr ts_s_Block (bk_at hy) | exact xIr ts_s_Block (iw_at ha)) ?_; refine Ko (xFa tf_Block1 tk_s_int) ?_; refine Ko (xLd tk_s_int) ?_; refine Ko (by first | exact xIr ts_s_int (int_at hA0) | exact xIr ts_s_int (iw_at ha)) ?_; refine Ko (xLd tk_int) ?_; refine Ko (by first | exact xIr ts_s_Interval (iw_at hr) | exact xIr ts_s_Interval (iw_at ha)) ?_; refine Ko (xLa tk_Interval) ?_; refine Ko (xCl Tryz.func45 (HU)) ?_; refine Ko (xCl Tryz.func59 (RO)) ?_; refine Ko xMt ?_; refine Ko (by exact ok_exA rfl rfl rfl) ?_; refine Ko xEx ?_; refine Kn (xAl tz_Interval) ?_; refine Ke ?_; refine Js (xSk tk_Interval) ?_; refine Ja ?_) | (refine Tx 29 ?_; refine Jm ?_; refine Jo (xNE ti_error) ?_) | (refine cw_any (id := 31) mixed (by kernel_rfl) ?_; refine Ko (xFa tf_Interval0 tk_Dyadic) ?_; refine Ko (xLa tk_Dyadic) ?_; refine Km ?_; refine Km ?_; refine Ko (xIr ts_s_Interval (iw_at ha)) ?_; refine Ko (xFa tf_Interval0 tk_Dyadic) ?_; refine Ko (xLa tk_Dyadic) ?_; refine Ko (xCl Tryz.func60 (C1)) ?_; refine Ko (by first | exact ok_neqD rfl rfl rfl hb1 | exact xNe) ?_; refine Ko (xFa tf_Interval1 tk_Dyadic) ?_; refine Ko (xLa tk_Dyadic) ?_; refine Km ?_; refine Km ?_; refine Ko (xIr ts_s_Interval (iw_at ha)) ?_; refine Ko (xFa tf_Interval1 tk_Dyadic) ?_; refine Ko (xLa tk_Dyadic) ?_; refine Ko (xCl Tryz.func60 (C2)) ?_; refine Ko (by first | exact ok_neqD rfl rfl rfl hb2 | exact xNe) ?_; refine Ka ?_; refine Ka ?_; refine Ke ?_))
      refine cw_wk (F' := ofL [(1, vd (.val (.int .i64 rd))), (2, vr 0), (8, vd (rowI false (natI (delL bs)))), (9, vd (.row false 6 l.length (flatD (dIw false) l))), (13, vi ((r : Nat))), (14, vd (.row false 6 (rgV ps bs l).length (flatD (dIw false) (rgV ps bs l)))), (16, vd (.val (.bool (chgK ps bs l k)))), (17, vo 1 l.length), (79, vd (rowI false (natI (delL bs)))), (80, vi ((delL bs).length)), (81, vi ((k : Nat))), (18, vi ((k : Nat))), (20, vr 2), (22, vd (.val (.bool (loC a rr)))), (23, vd (.val (.bool (hiC a rr))))]) (H' := [.box 26 [.d (rowP t ps), .d (rowB t bs), .d (rowI t os)], .row 55 6 l.length (kWs (nxS ps bs w l k)), .box 55 ((dIw false q).map C.d)]) (wk_go _ 3 ?_ ?_ ?_) ?_
      · rfl
      · exact mB rfl rfl
      · exact ⟨bel_lit rfl, bel_kWs, bel_D, trivial⟩
      clear hb1 hb2 C1 C2 HU RO m1 m2 SC EV DL
      cases hb1 : loC a rr <;> cases hb2 : hiC a rr <;> cases hc : chgK ps bs l k <;> by_cases hw : rd < (r : Int)
      all_goals
        rw [hb1, hb2] at stV
        simp only [hw, decide_true, decide_false, Bool.true_and, Bool.false_and, Bool.false_eq_true, if_true, if_false] at stV
        skip
        repeat' (with_reducible first | apply qa | apply qb | apply qc | apply qd | apply qe | apply qf | apply qg | apply qh | apply qi | apply qj | apply qk | apply ql rfl | apply qm rfl | apply qn rfl | apply Je | (refine Tx 32 ?_; refine Jm ?_; refine Jm ?_; (first | refine Jd ?_ | refine Jy xM1 ?_); refine Jo xPk ?_; refine Jm ?_; (first | refine Jd ?_ | refine Jy xM1 ?_); refine Jo xPk ?_; refine Ja ?_) | (refine Tx 33 ?_; refine Jm ?_; refine Jm ?_; refine Jo xGt ?_; refine Jm ?_; (first | refine Jd ?_ | refine Jy xM1 ?_); refine Jo xPk ?_) | (refine Tx 34 ?_; refine Jo (xFa tf_Interval0 tk_Dyadic) ?_; refine Jo (xLa tk_Dyadic) ?_; refine Jo (xCl Tryz.func61 (NG1)) ?_; refine Jo (xCl Tryz.func62 (UP1)) ?_; refine Jo (xCl Tryz.func61 (NG2)) ?_; refine Jo (xFa tf_Interval0 tk_Dyadic) ?_; refine Js (xSk tk_Dyadic) ?_) | (refine Tx 35 ?_; refine Jm ?_; refine Jm ?_; refine Jo xGt ?_; refine Jm ?_; (first | refine Jd ?_ | refine Jy xM1 ?_); refine Jo xPk ?_) | (refine Tx 36 ?_; refine Jo (xFa tf_Interval1 tk_Dyadic) ?_; refine Jo (xLa tk_Dyadic) ?_; refine Jo (xCl Tryz.func62 (UP2)) ?_; refine Jo (xFa tf_Interval1 tk_Dyadic) ?_; refine Js (xSk tk_Dyadic) ?_) | (refine Tx 37 ?_; refine Jm ?_; refine Jm ?_; refine Jo (xLa tk_Interval) ?_; refine Jo (xIo (i := k) ts_s_Interval) ?_; refine Js (by first | exact to_stIw rfl rfl rfl rfl tk_Interval tl stV | exact xSk tk_Interval) ?_) | (refine Tx 38 ?_; refine Jo xAd ?_; refine Jm ?_))
        refine ⟨_, _, wk_go _ 2 ?_ ?_ ?_, _, ?_, k + 1, by omega, rfl, rfl, rfl⟩
        · rfl
        · rw [hck, hc, hb1, hb2]; exact mB rfl rfl
        · exact ⟨bel_lit rfl, bel_kWs, trivial⟩
        · omega
    obtain rfl : k = (delL bs).length := by omega
    clear hlt hk
    rw [nxS_all]
    have hnL : (nextL ps bs w l).length = (delL bs).length := nextL_len w
    by_cases hch : chgK ps bs l (delL bs).length = false
    case pos =>
      rw [if_pos hch] at hres
      cases hres
      rw [hch]
      repeat' (with_reducible first | apply qa | apply qb | apply qc | apply qd | apply qe | apply qf | apply qg | apply qh | apply qi | apply qj | apply qk | apply ql rfl | apply qm rfl | apply qn rfl | apply Je | (refine Tx 26 ?_; refine Jo xLt ?_) | (refine Tx 39 ?_; refine Jm ?_; refine Jo (by first | exact xNt | exact xNg) ?_) | (refine Tx 40 ?_; refine Jm ?_; refine Ja ?_; refine Ja ?_))
      exact ret_q rfl (.cons_ (.tmp (.one (cexp_d rfl fun _ => .row (flatD_free (f := dIw false) iw_free l)))) (.cons_ (rv_e0 rfl rfl) .nil_))
    rw [if_neg hch] at hres
    rw [Bool.not_eq_false] at hch
    rw [hch]
    repeat' (with_reducible first | apply qa | apply qb | apply qc | apply qd | apply qe | apply qf | apply qg | apply qh | apply qi | apply qj | apply qk | apply ql rfl | apply qm rfl | apply qn rfl | apply Je | (refine Tx 26 ?_; refine Jo xLt ?_) | (refine Tx 39 ?_; refine Jm ?_; refine Jo (by first | exact xNt | exact xNg) ?_))
    refine cw_wk (wk_freeze (ds := flatD (dIw false) (nextL ps bs w l)) 17 1 rfl rfl) ?_
    repeat' (with_reducible first | apply qa | apply qb | apply qc | apply qd | apply qe | apply qf | apply qg | apply qh | apply qi | apply qj | apply qk | apply ql rfl | apply qm rfl | apply qn rfl | apply Je | (refine Tx 41 ?_; refine Jm ?_; refine Jo (xLn ts_s_Interval) ?_; refine Jm ?_))
    refine cw_wk (F' := ofL [(1, vd (.val (.int .i64 rd))), (2, vr 0), (8, vd (rowI false (natI (delL bs)))), (13, vi ((r : Nat))), (17, vd (.row false 6 (nextL ps bs w l).length (flatD (dIw false) (nextL ps bs w l)))), (164, vd (.row false 6 (nextL ps bs w l).length (flatD (dIw false) (nextL ps bs w l)))), (165, vi ((nextL ps bs w l).length)), (166, vi ((0 : Nat)))]) (H' := [.box 26 [.d (rowP t ps), .d (rowB t bs), .d (rowI t os)]]) (wk_go _ 1 ?_ ?_ ?_) ?_
    · rfl
    · rw [hnL, ← hll]; exact mB rfl rfl
    · exact ⟨bel_lit rfl, trivial⟩
    refine cw_loopW (fun n Fr H => ∃ k : Nat, k ≤ (nextL ps bs w l).length ∧ n = (nextL ps bs w l).length - k ∧ (∀ p ∈ (nextL ps bs w l).take k, farB p = false) ∧ Fr = ofL [(1, vd (.val (.int .i64 rd))), (2, vr 0), (8, vd (rowI false (natI (delL bs)))), (13, vi ((r : Nat))), (17, vd (.row false 6 (nextL ps bs w l).length (flatD (dIw false) (nextL ps bs w l)))), (164, vd (.row false 6 (nextL ps bs w l).length (flatD (dIw false) (nextL ps bs w l)))), (165, vi ((nextL ps bs w l).length)), (166, vi ((k : Nat)))] ∧ H = [.box 26 [.d (rowP t ps), .d (rowB t bs), .d (rowI t os)]]) (n0 := (nextL ps bs w l).length) ⟨0, Nat.zero_le _, rfl, (fun p hp => by simp at hp), rfl, rfl⟩ ?_
    rintro m Fr H ⟨k, hk, rfl, hnf, rfl, rfl⟩
    by_cases hlt : k < (nextL ps bs w l).length
    case pos =>
      obtain ⟨x, hx⟩ : ∃ x, (nextL ps bs w l)[k]? = some x := ⟨_, List.getElem?_eq_getElem hlt⟩
      have hxs : IwS x 20000 20000 := by
        obtain ⟨j, hj, rfl⟩ := List.mem_map.1 (List.mem_of_getElem? hx)
        have hj := List.mem_range.1 hj
        exact (step_iw (hlb _ (getD_mem (by omega) iZ)) (rgA_iw h0 hI hb hj)).1
      have FR := rgfar_cv x hxs
      cases hf : farB x
      case true =>
        rw [hf] at FR
        have hany : (nextL ps bs w l).any farB = true := List.any_eq_true.2 ⟨_, List.mem_of_getElem? hx, hf⟩
        rw [if_pos hany] at hres
        cases hres
        repeat' (with_reducible first | apply qa | apply qb | apply qc | apply qd | apply qe | apply qf | apply qg | apply qh | apply qi | apply qj | apply qk | apply ql rfl | apply qm rfl | apply qn rfl | apply Je | (refine Tx 42 ?_; refine Jo xLt ?_) | (refine Tx 43 ?_; refine Jo (xIr ts_s_Interval (iw_at hx)) ?_; refine Jo (xLa tk_Interval) ?_; refine Jn (xAl tz_Interval) ?_; refine Js (xSk tk_Interval) ?_) | (refine Tx 44 ?_; refine Jo (xLa tk_Interval) ?_; refine Jo (xCl Tryz.func58 (FR)) ?_) | (refine Tx 45 ?_; refine Jo (xMi Tryz.underlying48) ?_; refine Ja ?_; refine Ja ?_))
        exact ret_q rfl (.cons_ (.tmp (.one (cexp_n rfl rfl))) (.cons_ (rv_en rfl (by decide) rfl) .nil_))
      case false =>
        rw [hf] at FR
        repeat' (with_reducible first | apply qa | apply qb | apply qc | apply qd | apply qe | apply qf | apply qg | apply qh | apply qi | apply qj | apply qk | apply ql rfl | apply qm rfl | apply qn rfl | apply Je | (refine Tx 42 ?_; refine Jo xLt ?_) | (refine Tx 43 ?_; refine Jo (xIr ts_s_Interval (iw_at hx)) ?_; refine Jo (xLa tk_Interval) ?_; refine Jn (xAl tz_Interval) ?_; refine Js (xSk tk_Interval) ?_) | (refine Tx 44 ?_; refine Jo (xLa tk_Interval) ?_; refine Jo (xCl Tryz.func58 (FR)) ?_) | (refine Tx 46 ?_; refine Jo xAd ?_; refine Jm ?_))
        refine ⟨_, _, wk_go _ 1 ?_ ?_ ?_, _, ?_, k + 1, by omega, rfl, take_all1 hnf hx hf, rfl, rfl⟩
        · rfl
        · exact mB rfl rfl
        · exact ⟨bel_lit rfl, trivial⟩
        · omega
    obtain rfl : k = (nextL ps bs w l).length := by omega
    clear hlt hk
    rw [List.take_length] at hnf
    have hany : (nextL ps bs w l).any farB = false := List.any_eq_false.2 fun p hp => by rw [hnf p hp]; decide
    rw [if_neg (by rw [hany]; decide)] at hres
    repeat' (with_reducible first | apply qa | apply qb | apply qc | apply qd | apply qe | apply qf | apply qg | apply qh | apply qi | apply qj | apply qk | apply ql rfl | apply qm rfl | apply qn rfl | apply Je | (refine Tx 42 ?_; refine Jo xLt ?_) | (refine Tx 47 ?_; refine Jm ?_; refine Ja ?_) | (refine Tx 19 ?_; refine Jm ?_; refine Jo xAd ?_; refine Ja ?_))
    refine ⟨_, _, wk_go _ 1 ?_ ?_ ?_, n, Nat.lt_succ_self n, r + 1, (nextL ps bs w l), hres, hI.next h0 hb w hany, by omega, rfl, rfl⟩
    · rfl
    · exact mB rfl rfl
    · exact ⟨bel_lit rfl, trivial⟩
def exP : List Prt := [⟨-8, 8, 0⟩]
def exB : List Bk := [⟨0, none, [0], 0, 0, 0, 0, 0⟩, ⟨3, none, [0, 2], 0, 0, 0, 0, 0⟩, ⟨2, none, [1], 0, 0, 0, 0, 0⟩]
def exO : List Int := [1]
def exL : List (List Int) := [[3], [4], [-2]]
def exR : List (List (Int × Nat)) := [[(3, 0)], [(7, 0)], [(5, 0)]]
def light11 (ps : List Prt) (bs : List Bk) (os : List Int) (ls : List (List Int)) : Bool := lightB ps bs os && decide (ls.length ≤ 300 ∧ ls.length * bs.length ≤ 3000) && ls.all fun l => decide (l.length ≤ 40)
def lean11B (rs : List Rv) : Bool := (rs.all fun r => decide (r.ws.length ≤ 300 ∧ r.den ≤ 20000)) && decide (rs.length ≤ 100)
theorem all_no {α : Type} {p : α → Bool} {l : List α} {k : Nat} {x : α} (h : l[k]? = some x) (hp : p x = false) : l.all p = false := List.all_eq_false.2 ⟨x, List.mem_of_getElem? h, by rw [hp]; exact Bool.false_ne_true⟩
theorem cexp_oI2 {t : Bool} {H : List Ob} {id ty n : Nat} {c : C} {y : D} {xs : List Int} (hc : c = .own id n) (hH : H[id]? = some (.row ty 1 n (cI xs))) (hn : n = xs.length) (hy : y = rowI t xs) : CExp t H c y := by
  subst hn hy
  refine cexp_o hc hH rfl (LRel.map_l.2 ⟨by simp, fun j a b ha hb => ?_⟩)
  rw [List.getElem?_map, ha] at hb
  cases hb
  exact .d fun _ => .val _
theorem inputs_cv (t u : Bool) {ps : List Prt} {bs : List Bk} {os : List Int} (inn : List Int) (hl : DgLen ps bs os) (h2 : inn.length ≤ 1000000) : CV Tryz.prog TabAt 36 [aDg t ps bs os, .one (rowI u inn)] [.one (rowI false (inpV ps inn ps.length))] := by
  refine cvz Tryz.func36 Tryz.ntmps36 ?_
  have hl1 := hl.l1
  repeat' (with_reducible first | apply qa | apply qb | apply qc | apply qd | apply qe | apply qf | apply qg | apply qh | apply qi | apply qj | apply qk | apply ql rfl | apply qm rfl | apply qn rfl | apply Je | (refine Tx 0 ?_; refine Jn xBo ?_; refine Ja ?_) | (refine Tx 1 ?_; refine Ja ?_) | (refine Tx 2 ?_; refine Jo (xFa tf_Diagram0 tk_s_Port) ?_; refine Jo (xLd tk_s_Port) ?_; refine Jo (xLn ts_s_Port) ?_; refine Jm ?_))
  refine cw_wk (wk_nil 5 3 1 rfl) ?_
  refine cw_wk (F' := ofL [(1, vd (rowI u inn)), (2, vr 0), (5, vo 1 ((inpV ps inn 0).length)), (10, vd (rowP t ps)), (11, vi ps.length), (12, vi ((0 : Nat)))]) (H' := [.box 26 [.d (rowP t ps), .d (rowB t bs), .d (rowI t os)], .row 3 1 (inpV ps inn (0)).length (cI (inpV ps inn (0)))]) (wk_go _ 2 ?_ ?_ ?_) ?_
  · rfl
  · exact mB rfl rfl
  · exact ⟨bel_lit rfl, bel_cI, trivial⟩
  refine cw_loopW (fun n Fr H => ∃ k : Nat, k ≤ ps.length ∧ n = ps.length - k ∧ Fr = ofL [(1, vd (rowI u inn)), (2, vr 0), (5, vo 1 ((inpV ps inn k).length)), (10, vd (rowP t ps)), (11, vi ps.length), (12, vi ((k : Nat)))] ∧ H = [.box 26 [.d (rowP t ps), .d (rowB t bs), .d (rowI t os)], .row 3 1 (inpV ps inn (k)).length (cI (inpV ps inn (k)))]) (n0 := ps.length) ⟨0, Nat.zero_le _, rfl, rfl, rfl⟩ ?_
  rintro n Fr H ⟨k, hk, rfl, rfl, rfl⟩
  by_cases hlt : k < ps.length
  case pos =>
    obtain ⟨p, hp⟩ : ∃ p, ps[k]? = some p := ⟨_, List.getElem?_eq_getElem hlt⟩
    have hol : (inpV ps inn (k)).length ≤ k := inpV_len _ _ _
    by_cases hki : k < inn.length
    case pos =>
      obtain ⟨z, hz⟩ : ∃ z, inn[k]? = some z := ⟨_, List.getElem?_eq_getElem hki⟩
      have hap : (inpV ps inn (k)) ++ [clipI z p.lo p.hi] = (inpV ps inn (k + 1)) := (inpV_step hp (by rw [hz]; rfl)).symm
      have hap2 : (inpV ps inn (k)).length + 1 = (inpV ps inn (k + 1)).length := by rw [← hap]; simp
      have BC := bclip_cv z p.lo p.hi
      repeat' (with_reducible first | apply qa | apply qb | apply qc | apply qd | apply qe | apply qf | apply qg | apply qh | apply qi | apply qj | apply qk | apply ql rfl | apply qm rfl | apply qn rfl | apply Je | (refine Tx 3 ?_; refine Jo xLt ?_) | (refine Tx 4 ?_; refine Jm ?_; refine Jo (xIr ts_s_Port (prt_at hp)) ?_; refine Jo (xLa tk_Port) ?_; refine Jn (xAl tz_Port) ?_; refine Ja ?_; refine Js (xSk tk_Port) ?_) | (refine Tx 5 ?_; refine Ja ?_) | (refine Tx 6 ?_; refine Jm ?_; refine Jm ?_; refine Jo (xLn ts_s_int) ?_; refine Jo xLt ?_) | (refine Tx 7 ?_; refine Jm ?_; refine Jm ?_; refine Jo (xIr ts_s_int (int_at hz)) ?_; refine Jo (xLd tk_int) ?_; refine Ja ?_) | (refine Tx 8 ?_; refine Jm ?_; refine Jm ?_; refine Jo (xFa tf_Port0 tk_int) ?_; refine Jo (xLd tk_int) ?_; refine Jo (xFa tf_Port1 tk_int) ?_; refine Jo (xLd tk_int) ?_; refine Jo (xCl Tryz.func93 (BC.cv)) ?_; refine Jn (by exact ok_build1 rfl ts_s_int tz_int rfl rfl (by decide) (by decide)) ?_; refine Jt (by exact to_apI rfl rfl rfl rfl rfl rfl ts_s_int tz_int (by omega) (by decide) hap hap2) ?_; refine Ja ?_) | (refine Tx 9 ?_; refine Jo xAd ?_; refine Jm ?_))
      refine ⟨_, _, wk_go _ 2 ?_ ?_ ?_, _, ?_, k + 1, by omega, rfl, rfl, rfl⟩
      · rfl
      · exact mB rfl rfl
      · exact ⟨bel_lit rfl, bel_cI, trivial⟩
      · omega
    case neg =>
      have hap : (inpV ps inn (k)) ++ [clipI 0 p.lo p.hi] = (inpV ps inn (k + 1)) := (inpV_step hp (by rw [List.getElem?_eq_none (by omega)]; rfl)).symm
      have hap2 : (inpV ps inn (k)).length + 1 = (inpV ps inn (k + 1)).length := by rw [← hap]; simp
      have BC := bclip_cv 0 p.lo p.hi
      repeat' (with_reducible first | apply qa | apply qb | apply qc | apply qd | apply qe | apply qf | apply qg | apply qh | apply qi | apply qj | apply qk | apply ql rfl | apply qm rfl | apply qn rfl | apply Je | (refine Tx 3 ?_; refine Jo xLt ?_) | (refine Tx 4 ?_; refine Jm ?_; refine Jo (xIr ts_s_Port (prt_at hp)) ?_; refine Jo (xLa tk_Port) ?_; refine Jn (xAl tz_Port) ?_; refine Ja ?_; refine Js (xSk tk_Port) ?_) | (refine Tx 5 ?_; refine Ja ?_) | (refine Tx 6 ?_; refine Jm ?_; refine Jm ?_; refine Jo (xLn ts_s_int) ?_; refine Jo xLt ?_) | (refine Tx 8 ?_; refine Jm ?_; refine Jm ?_; refine Jo (xFa tf_Port0 tk_int) ?_; refine Jo (xLd tk_int) ?_; refine Jo (xFa tf_Port1 tk_int) ?_; refine Jo (xLd tk_int) ?_; refine Jo (xCl Tryz.func93 (BC.cv)) ?_; refine Jn (by exact ok_build1 rfl ts_s_int tz_int rfl rfl (by decide) (by decide)) ?_; refine Jt (by exact to_apI rfl rfl rfl rfl rfl rfl ts_s_int tz_int (by omega) (by decide) hap hap2) ?_; refine Ja ?_) | (refine Tx 9 ?_; refine Jo xAd ?_; refine Jm ?_))
      refine ⟨_, _, wk_go _ 2 ?_ ?_ ?_, _, ?_, k + 1, by omega, rfl, rfl, rfl⟩
      · rfl
      · exact mB rfl rfl
      · exact ⟨bel_lit rfl, bel_cI, trivial⟩
      · omega
  obtain rfl : k = ps.length := by omega
  clear hlt hk
  repeat' (with_reducible first | apply qa | apply qb | apply qc | apply qd | apply qe | apply qf | apply qg | apply qh | apply qi | apply qj | apply qk | apply ql rfl | apply qm rfl | apply qn rfl | apply Je | (refine Tx 3 ?_; refine Jo xLt ?_) | (refine Tx 10 ?_; refine Jm ?_; refine Ja ?_))
  exact ret_q rfl (.cons_ (.tmp (.one (cexp_oI2 rfl rfl rfl rfl))) .nil_)
def fitL (ps : List Prt) (ls : List (List Int)) : List (List Int) := ls.map fun l => inpV ps l ps.length
theorem inp_in {ps : List Prt} {bs : List Bk} {os : List Int} (he : dgErr ps bs os = 0) (l : List Int) : inOk ps (inpV ps l ps.length) = true := by
  refine List.all_eq_true.2 fun i hi => ?_
  have hil := List.mem_range.1 hi
  rw [inp_len] at hil
  obtain ⟨p, hp⟩ : ∃ p, ps[i]? = some p := ⟨_, List.getElem?_eq_getElem hil⟩
  have hz : (inpV ps l ps.length)[i]? = some (clipI (l[i]?.getD 0) p.lo p.hi) := by
    unfold inpV
    rw [List.getElem?_map, List.getElem?_range hil, Option.map_some, hp]
    rfl
  unfold rngB
  rw [hp, hz]
  have hpp := acc_port he hp
  have h3 : -2147483648 ≤ p.lo ∧ p.lo ≤ p.hi ∧ p.hi < 2147483648 ∧ 0 ≤ p.fr ∧ p.fr ≤ 30 := Classical.byContradiction fun hn => by unfold portE at hpp; rw [if_neg hn] at hpp; cases hpp
  refine decide_eq_true ?_
  unfold clipI
  omega
theorem tick_fit {ps : List Prt} {bs : List Bk} {os : List Int} (he : dgErr ps bs os = 0) {st : List (Int × Nat)} (l : List Int) : tickE ps bs st (inpV ps l ps.length) = if stepBad ps bs st (inpV ps l ps.length) = true then 4 else 0 := by
  unfold tickE
  rw [if_neg (not_not_intro (inp_len ps l)), if_neg (by rw [inp_in he l]; decide)]
theorem tick_four {ps : List Prt} {bs : List Bk} {os : List Int} (he : dgErr ps bs os = 0) {st : List (Int × Nat)} {l : List Int} (h : tickE ps bs st (inpV ps l ps.length) ≠ 0) : tickE ps bs st (inpV ps l ps.length) = 4 := by
  rw [tick_fit he] at h ⊢
  split
  · rfl
  · rename_i hn; rw [if_neg hn] at h; exact absurd rfl h
theorem pcheck_cv (t : Bool) {ps : List Prt} {bs : List Bk} {os : List Int} (hl : DgLen ps bs os) : CVF Tryz.prog TabAt 19 [aDg t ps bs os] [aE (dgErr ps bs os)] := fun w S vs hg hlt ha => by
  obtain ⟨v, rfl, hv⟩ := one_arg ha
  obtain ⟨d, rfl, hd, rfl, hz, rfl, _, _⟩ := dg_open hlt hv hl
  refine (Check_any d _ w (Nat.le_refl _) hd hg).mono fun e w' ⟨he, hb⟩ => ?_
  rw [show dgErr d.ps d.bs d.os = dgErr d.ps bs d.os by rw [← dgErr_z, hz, dgErr_z]] at he
  exact ⟨_, he, DRel.val (errV_one _), hb⟩
def flP : List Prt := [⟨-1, 1, 0⟩]
def flB : List Bk := [⟨0, none, [0], 0, 0, 0, 0, 0⟩, ⟨6, none, [3], 0, 1, -1, 0, 0⟩, ⟨3, none, [0, 1], 0, 0, 0, 0, 0⟩, ⟨2, none, [2], 0, 0, 0, 0, 0⟩]
def flO : List Int := [2]
def flL : List Iq := [((-2, 0), (2, 0))]
theorem flq_len : DgLen flP flB flO := ⟨by decide, by decide, by decide, by decide⟩
theorem flq_err : dgErr flP flB flO = 0 := by decide +kernel
theorem flq_inf : inferA flP flB 2 40 = some (0, flL) := by decide +kernel
theorem flq_sm : Sm (-2, 0) 64 64 ∧ Sm (2, 0) 64 64 := ⟨⟨⟨by decide, fun h => absurd rfl h⟩, by decide, by decide⟩, ⟨⟨by decide, fun h => absurd rfl h⟩, by decide, by decide⟩⟩
theorem flq_iw : ∀ a ∈ flL, IwS a 64 64 := fun a ha => by
  rcases List.mem_singleton.1 ha with rfl
  refine ⟨flq_sm.1, flq_sm.2, ?_⟩
  show (-2 : Int) * 2 ^ (GQ - 0) ≤ 2 * 2 ^ (GQ - 0)
  have := two_pos (GQ - 0)
  omega
theorem flq_rg : rgE flP flB flO (flL.map rvI2) = 0 := by rw [rgE_of flq_err flq_iw rfl]; decide +kernel
theorem flq_cl : clE flP flB flO (flL.map rvI2) = true := by
  unfold clE
  rw [if_pos flq_rg, rvI2_map]
  decide +kernel
theorem filter_cv  : CV Tryz.prog TabAt 39 [] [aDg false flP flB flO] := by
  refine cvz Tryz.func39 Tryz.ntmps39 ?_
  repeat' (with_reducible first | apply qa | apply qb | apply qc | apply qd | apply qe | apply qf | apply qg | apply qh | apply qi | apply qj | apply qk | apply ql rfl | apply qm rfl | apply qn rfl | apply Je | (refine Tx 0 ?_; refine Jn (xAl tz_Diagram) ?_) | (refine Tx 1 ?_; refine Jo (by exact ok_build rfl tb_Port rfl rfl) ?_; refine Jn (by exact ok_build1 rfl ts_s_Port tz_Port rfl rfl (by decide) (by decide)) ?_; refine Jn (by exact ok_build1 rfl ts_s_int tz_int rfl rfl (by decide) (by decide)) ?_; refine Jn (by exact ok_build1 rfl ts_s_int tz_int rfl rfl (by decide) (by decide)) ?_; refine Jo (by exact ok_build rfl tb_Block rfl rfl) ?_; refine Jn (by exact ok_build1 rfl ts_s_int tz_int rfl rfl (by decide) (by decide)) ?_; refine Jo (by exact ok_build rfl tb_Scalar rfl rfl) ?_; refine Jo (by exact ok_build rfl tb_Block rfl rfl) ?_; refine Jn (by exact ok_build2 rfl ts_s_int tz_int rfl rfl rfl rfl (by decide) (by decide)) ?_; refine Jo (by exact ok_build rfl tb_Block rfl rfl) ?_; refine Jn (by exact ok_build1 rfl ts_s_int tz_int rfl rfl (by decide) (by decide)) ?_; refine Jo (by exact ok_build rfl tb_Block rfl rfl) ?_; refine Jn (by exact ok_buildN rfl rfl ts_s_Block tz_Block (by decide) (by decide) (by decide) rfl rfl rfl) ?_; refine Jo (by exact ok_build rfl tb_Diagram rfl rfl) ?_; refine Js (xSk tk_Diagram) ?_))
  exact ret_q rfl (.cons_ (rv_box rfl rfl tk_Diagram rfl rfl (by first | ((repeat' first | exact lrel_n rfl rfl | refine lrel_c rfl rfl ?_ ?_ | refine xexp_1 rfl rfl ?_ | refine xexp_a rfl rfl ?_ | exact cexp_d rfl (fun _ => DFree.val _) | exact cexp_n rfl rfl | exact cexp_e rfl rfl | refine cexp_o rfl rfl rfl ?_) <;> fail) | fail)) .nil_)
theorem awake12_cv  : CV Tryz.prog TabAt 9 [] [aB true] := by
  refine cvz Tryz.func9 Tryz.ntmps9 ?_
  have IN := rginfer_cv false flq_len flq_err 2 (by decide) (by decide) (0, flL) 40 (by decide) flq_inf
  rw [show aIws ((0 : Int), flL).2 = .one (.row false 6 1 (flatD (dIw false) flL)) from rfl] at IN
  have CL := rgclosed_cv false flq_len (flL.map rvI2) (rvI2_L flq_iw (by decide)) (by decide)
  rw [flq_cl, flq_rg, rowV_of, show flL.length = 1 from rfl] at CL
  have IT := riints_cv (-2) 2 (by decide) (by decide)
  rw [show spanL [((-2 : Int), 0), (2, 0)] = ((-2, 0), (2, 0)) by decide +kernel] at IT
  have iw := flq_iw _ (List.mem_singleton.2 rfl)
  have SM := risame_cv ((-2, 0), (2, 0)) ((-2, 0), (2, 0)) (iw.L (by decide)) (iw.L (by decide))
  rw [decide_eq_true rfl] at SM
  repeat' (with_reducible first | apply qa | apply qb | apply qc | apply qd | apply qe | apply qf | apply qg | apply qh | apply qi | apply qj | apply qk | apply ql rfl | apply qm rfl | apply qn rfl | apply Je | (refine Tx 0 ?_; refine Ja ?_) | (refine Tx 1 ?_; refine Jo (xCl Tryz.func39 (filter_cv)) ?_; refine Jo (xCl Tryz.func20 (IN)) ?_; refine Jo xMt ?_; refine Jo xEx ?_; refine Jo xEx ?_; refine Ja ?_; refine Ja ?_) | (refine Tx 2 ?_; refine Jo (xCl Tryz.func39 (filter_cv)) ?_; refine Jm ?_; refine Jo (xCl Tryz.func13 (CL)) ?_; refine Jo xMt ?_; refine Jo xEx ?_; refine Jo xEx ?_; refine Ja ?_; refine Ja ?_) | (refine cw_any (id := 3) mixed (by kernel_rfl) ?_; refine Km ?_; refine Ko (by first | exact ok_eqlE rfl ti_error rfl (beq_t rfl) | exact ok_eqlE rfl ti_error rfl (beq_t (by first | rfl | omega)) | exact ok_eqlE rfl ti_error rfl (beq_f (by first | assumption | omega)) | exact ok_eqlE rfl ti_error rfl rfl) ?_; refine Km ?_; (first | iterate 2 refine Kd ?_ | (refine Ky xM1 ?_; refine Ky (by first | exact ok_eqlE rfl ti_error rfl (beq_t rfl) | exact ok_eqlE rfl ti_error rfl (beq_t (by first | rfl | omega)) | exact ok_eqlE rfl ti_error rfl (beq_f (by first | assumption | omega)) | exact ok_eqlE rfl ti_error rfl rfl) ?_)); refine Ko xPk ?_; refine Km ?_; (first | refine Kd ?_ | refine Ky xM1 ?_); refine Ko xPk ?_; refine Km ?_; (first | iterate 3 refine Kd ?_ | (refine Ky xM1 ?_; refine Ky (xLn ts_s_Interval) ?_; refine Ky xEq ?_)); refine Ko xPk ?_; refine Km ?_; (first | iterate 5 refine Kd ?_ | (refine Ky xM1 ?_; refine Ky (by exact ok_ixR (i := 0) rfl rfl rfl rfl ts_s_Interval (by decide) (by decide) rfl) ?_; refine Ky (xLa tk_Interval) ?_; refine Ky (xCl Tryz.func40 (IT)) ?_; refine Ky (xCl Tryz.func31 (SM)) ?_)); refine Ko xPk ?_; refine Ka ?_; refine Ke ?_))
  exact ret_q rfl (.cons_ (rv_b rfl (rfl)) .nil_)
section
variable {ps : List Prt} {bs : List Bk} {os : List Int} {st : List Iq}
def argsJ (V : List Iq) (y : Bk) : List Iq := if y.kind = 0 then [] else y.args.map fun a => V[a.toNat]?.getD iZ
end
def vInL (st : List Pq) (l : List Iq) : Prop := ∀ (k : Nat) (v : Pq) (r : Iq), st[k]? = some v → l[k]? = some r → vIn v r
theorem cont_of {v : Pq} {r : Iq} {n d : Nat} (hv : Sm v n d) (hr : IwS r n d) (h : vIn v r) : iIn (v, v) r = true := (in_is (IwS.pt hv) hr).2 h
def lean12B (qs : List (Rv × Rv)) : Bool := (qs.all fun q => decide (q.1.ws.length ≤ 140 ∧ q.2.ws.length ≤ 140 ∧ q.1.den ≤ 9000 ∧ q.2.den ≤ 9000)) && decide (qs.length ≤ 100)
theorem lean12_len {qs : List (Rv × Rv)} (h : lean12B qs = true) (hw : ∀ q ∈ qs, wordsOk q.1.ws ∧ wordsOk q.2.ws) : (∀ q ∈ qs, RvL q.1 ∧ RvL q.2) ∧ qs.length ≤ 100 ∧ ∀ q ∈ qs, q.1.ws.length ≤ 140 ∧ q.2.ws.length ≤ 140 := by
  unfold lean12B at h
  rw [Bool.and_eq_true] at h
  have key : ∀ q ∈ qs, q.1.ws.length ≤ 140 ∧ q.2.ws.length ≤ 140 := fun q hq => by
    have := of_decide_eq_true (List.all_eq_true.1 h.1 q hq)
    exact ⟨this.1, this.2.1⟩
  exact ⟨fun q hq => ⟨⟨(hw q hq).1, by have := (key q hq).1; omega⟩, (hw q hq).2, by have := (key q hq).2; omega⟩, of_decide_eq_true h.2, key⟩
theorem lean12_cv (qs : List (Rv × Rv)) (hrl : (qs.length : Int) ≤ 9223372036854775807) : CV Tryz.prog TabAt 11 [.one (rowV qs)] [aB (lean12B qs)] := by
  refine cvz Tryz.func11 Tryz.ntmps11 ?_
  repeat' (with_reducible first | apply qa | apply qb | apply qc | apply qd | apply qe | apply qf | apply qg | apply qh | apply qi | apply qj | apply qk | apply ql rfl | apply qm rfl | apply qn rfl | apply Je | (refine Tx 0 ?_; refine Ja ?_) | (refine Tx 1 ?_; refine Jm ?_; refine Jo (xLn ts_s_Interval) ?_; refine Jm ?_))
  refine cw_wk (F' := ofL [(0, vd (rowV qs)), (5, vd (rowV qs)), (6, vi qs.length), (7, vi ((0 : Nat)))]) (H' := []) (wk_go _ 0 ?_ ?_ ?_) ?_
  · rfl
  · exact mB rfl rfl
  · exact trivial
  refine cw_loopW (fun n Fr H => ∃ k : Nat, k ≤ qs.length ∧ n = qs.length - k ∧ (qs.take k).all (fun q : Rv × Rv => decide (q.1.ws.length ≤ 140 ∧ q.2.ws.length ≤ 140 ∧ q.1.den ≤ 9000 ∧ q.2.den ≤ 9000)) = true ∧ Fr = ofL [(0, vd (rowV qs)), (5, vd (rowV qs)), (6, vi qs.length), (7, vi ((k : Nat)))] ∧ H = []) (n0 := qs.length) ⟨0, Nat.zero_le _, rfl, rfl, rfl, rfl⟩ ?_
  rintro n Fr H ⟨k, hk, rfl, hall, rfl, rfl⟩
  by_cases hlt : k < qs.length
  case pos =>
    obtain ⟨q, hq⟩ : ∃ q, qs[k]? = some q := ⟨_, List.getElem?_eq_getElem hlt⟩
    by_cases c1 : q.1.ws.length ≤ 140
    case neg =>
      repeat' (with_reducible first | apply qa | apply qb | apply qc | apply qd | apply qe | apply qf | apply qg | apply qh | apply qi | apply qj | apply qk | apply ql rfl | apply qm rfl | apply qn rfl | apply Je | (refine Tx 2 ?_; refine Jo xLt ?_) | (refine Tx 3 ?_; refine Jo (xIr ts_s_Interval (iv_at hq)) ?_; refine Jo (xLa tk_Interval) ?_; refine Jn (xAl tz_Interval) ?_; refine Js (xSk tk_Interval) ?_) | (refine Tx 4 ?_; refine Jo (xFa tf_Interval0 tk_Dyadic) ?_; refine Jo (xFa tf_Dyadic1 tk_s_uint32) ?_; refine Jo (xLd tk_s_uint32) ?_; refine Jo (xLn ts_s_uint32) ?_; refine Jo xGt ?_; refine Jm ?_; (first | iterate 5 refine Jd ?_ | (refine Jy (xFa tf_Interval1 tk_Dyadic) ?_; refine Jy (xFa tf_Dyadic1 tk_s_uint32) ?_; refine Jy (xLd tk_s_uint32) ?_; refine Jy (xLn ts_s_uint32) ?_; refine Jy xGt ?_)); refine Jo xPk ?_; refine Jm ?_; (first | iterate 4 refine Jd ?_ | (refine Jy (xFa tf_Interval0 tk_Dyadic) ?_; refine Jy (xFa tf_Dyadic2 tk_int) ?_; refine Jy (xLd tk_int) ?_; refine Jy xGt ?_)); refine Jo xPk ?_; refine Jm ?_; (first | iterate 4 refine Jd ?_ | (refine Jy (xFa tf_Interval1 tk_Dyadic) ?_; refine Jy (xFa tf_Dyadic2 tk_int) ?_; refine Jy (xLd tk_int) ?_; refine Jy xGt ?_)); refine Jo xPk ?_) | (refine Tx 5 ?_; refine Ja ?_))
      exact ret_q rfl (.cons_ (rv_b rfl (by unfold lean12B; rw [all_no hq (decide_eq_false (by omega)), Bool.false_and])) .nil_)
    by_cases c2 : q.2.ws.length ≤ 140
    case neg =>
      repeat' (with_reducible first | apply qa | apply qb | apply qc | apply qd | apply qe | apply qf | apply qg | apply qh | apply qi | apply qj | apply qk | apply ql rfl | apply qm rfl | apply qn rfl | apply Je | (refine Tx 2 ?_; refine Jo xLt ?_) | (refine Tx 3 ?_; refine Jo (xIr ts_s_Interval (iv_at hq)) ?_; refine Jo (xLa tk_Interval) ?_; refine Jn (xAl tz_Interval) ?_; refine Js (xSk tk_Interval) ?_) | (refine Tx 4 ?_; refine Jo (xFa tf_Interval0 tk_Dyadic) ?_; refine Jo (xFa tf_Dyadic1 tk_s_uint32) ?_; refine Jo (xLd tk_s_uint32) ?_; refine Jo (xLn ts_s_uint32) ?_; refine Jo xGt ?_; refine Jm ?_; (first | iterate 5 refine Jd ?_ | (refine Jy (xFa tf_Interval1 tk_Dyadic) ?_; refine Jy (xFa tf_Dyadic1 tk_s_uint32) ?_; refine Jy (xLd tk_s_uint32) ?_; refine Jy (xLn ts_s_uint32) ?_; refine Jy xGt ?_)); refine Jo xPk ?_; refine Jm ?_; (first | iterate 4 refine Jd ?_ | (refine Jy (xFa tf_Interval0 tk_Dyadic) ?_; refine Jy (xFa tf_Dyadic2 tk_int) ?_; refine Jy (xLd tk_int) ?_; refine Jy xGt ?_)); refine Jo xPk ?_; refine Jm ?_; (first | iterate 4 refine Jd ?_ | (refine Jy (xFa tf_Interval1 tk_Dyadic) ?_; refine Jy (xFa tf_Dyadic2 tk_int) ?_; refine Jy (xLd tk_int) ?_; refine Jy xGt ?_)); refine Jo xPk ?_) | (refine Tx 5 ?_; refine Ja ?_))
      exact ret_q rfl (.cons_ (rv_b rfl (by unfold lean12B; rw [all_no hq (decide_eq_false (by omega)), Bool.false_and])) .nil_)
    by_cases c3 : q.1.den ≤ 9000
    case neg =>
      repeat' (with_reducible first | apply qa | apply qb | apply qc | apply qd | apply qe | apply qf | apply qg | apply qh | apply qi | apply qj | apply qk | apply ql rfl | apply qm rfl | apply qn rfl | apply Je | (refine Tx 2 ?_; refine Jo xLt ?_) | (refine Tx 3 ?_; refine Jo (xIr ts_s_Interval (iv_at hq)) ?_; refine Jo (xLa tk_Interval) ?_; refine Jn (xAl tz_Interval) ?_; refine Js (xSk tk_Interval) ?_) | (refine Tx 4 ?_; refine Jo (xFa tf_Interval0 tk_Dyadic) ?_; refine Jo (xFa tf_Dyadic1 tk_s_uint32) ?_; refine Jo (xLd tk_s_uint32) ?_; refine Jo (xLn ts_s_uint32) ?_; refine Jo xGt ?_; refine Jm ?_; (first | iterate 5 refine Jd ?_ | (refine Jy (xFa tf_Interval1 tk_Dyadic) ?_; refine Jy (xFa tf_Dyadic1 tk_s_uint32) ?_; refine Jy (xLd tk_s_uint32) ?_; refine Jy (xLn ts_s_uint32) ?_; refine Jy xGt ?_)); refine Jo xPk ?_; refine Jm ?_; (first | iterate 4 refine Jd ?_ | (refine Jy (xFa tf_Interval0 tk_Dyadic) ?_; refine Jy (xFa tf_Dyadic2 tk_int) ?_; refine Jy (xLd tk_int) ?_; refine Jy xGt ?_)); refine Jo xPk ?_; refine Jm ?_; (first | iterate 4 refine Jd ?_ | (refine Jy (xFa tf_Interval1 tk_Dyadic) ?_; refine Jy (xFa tf_Dyadic2 tk_int) ?_; refine Jy (xLd tk_int) ?_; refine Jy xGt ?_)); refine Jo xPk ?_) | (refine Tx 5 ?_; refine Ja ?_))
      exact ret_q rfl (.cons_ (rv_b rfl (by unfold lean12B; rw [all_no hq (decide_eq_false (by omega)), Bool.false_and])) .nil_)
    by_cases c4 : q.2.den ≤ 9000
    case neg =>
      repeat' (with_reducible first | apply qa | apply qb | apply qc | apply qd | apply qe | apply qf | apply qg | apply qh | apply qi | apply qj | apply qk | apply ql rfl | apply qm rfl | apply qn rfl | apply Je | (refine Tx 2 ?_; refine Jo xLt ?_) | (refine Tx 3 ?_; refine Jo (xIr ts_s_Interval (iv_at hq)) ?_; refine Jo (xLa tk_Interval) ?_; refine Jn (xAl tz_Interval) ?_; refine Js (xSk tk_Interval) ?_) | (refine Tx 4 ?_; refine Jo (xFa tf_Interval0 tk_Dyadic) ?_; refine Jo (xFa tf_Dyadic1 tk_s_uint32) ?_; refine Jo (xLd tk_s_uint32) ?_; refine Jo (xLn ts_s_uint32) ?_; refine Jo xGt ?_; refine Jm ?_; (first | iterate 5 refine Jd ?_ | (refine Jy (xFa tf_Interval1 tk_Dyadic) ?_; refine Jy (xFa tf_Dyadic1 tk_s_uint32) ?_; refine Jy (xLd tk_s_uint32) ?_; refine Jy (xLn ts_s_uint32) ?_; refine Jy xGt ?_)); refine Jo xPk ?_; refine Jm ?_; (first | iterate 4 refine Jd ?_ | (refine Jy (xFa tf_Interval0 tk_Dyadic) ?_; refine Jy (xFa tf_Dyadic2 tk_int) ?_; refine Jy (xLd tk_int) ?_; refine Jy xGt ?_)); refine Jo xPk ?_; refine Jm ?_; (first | iterate 4 refine Jd ?_ | (refine Jy (xFa tf_Interval1 tk_Dyadic) ?_; refine Jy (xFa tf_Dyadic2 tk_int) ?_; refine Jy (xLd tk_int) ?_; refine Jy xGt ?_)); refine Jo xPk ?_) | (refine Tx 5 ?_; refine Ja ?_))
      exact ret_q rfl (.cons_ (rv_b rfl (by unfold lean12B; rw [all_no hq (decide_eq_false (by omega)), Bool.false_and])) .nil_)
    repeat' (with_reducible first | apply qa | apply qb | apply qc | apply qd | apply qe | apply qf | apply qg | apply qh | apply qi | apply qj | apply qk | apply ql rfl | apply qm rfl | apply qn rfl | apply Je | (refine Tx 2 ?_; refine Jo xLt ?_) | (refine Tx 3 ?_; refine Jo (xIr ts_s_Interval (iv_at hq)) ?_; refine Jo (xLa tk_Interval) ?_; refine Jn (xAl tz_Interval) ?_; refine Js (xSk tk_Interval) ?_) | (refine Tx 4 ?_; refine Jo (xFa tf_Interval0 tk_Dyadic) ?_; refine Jo (xFa tf_Dyadic1 tk_s_uint32) ?_; refine Jo (xLd tk_s_uint32) ?_; refine Jo (xLn ts_s_uint32) ?_; refine Jo xGt ?_; refine Jm ?_; (first | iterate 5 refine Jd ?_ | (refine Jy (xFa tf_Interval1 tk_Dyadic) ?_; refine Jy (xFa tf_Dyadic1 tk_s_uint32) ?_; refine Jy (xLd tk_s_uint32) ?_; refine Jy (xLn ts_s_uint32) ?_; refine Jy xGt ?_)); refine Jo xPk ?_; refine Jm ?_; (first | iterate 4 refine Jd ?_ | (refine Jy (xFa tf_Interval0 tk_Dyadic) ?_; refine Jy (xFa tf_Dyadic2 tk_int) ?_; refine Jy (xLd tk_int) ?_; refine Jy xGt ?_)); refine Jo xPk ?_; refine Jm ?_; (first | iterate 4 refine Jd ?_ | (refine Jy (xFa tf_Interval1 tk_Dyadic) ?_; refine Jy (xFa tf_Dyadic2 tk_int) ?_; refine Jy (xLd tk_int) ?_; refine Jy xGt ?_)); refine Jo xPk ?_) | (refine Tx 6 ?_; refine Jo xAd ?_; refine Jm ?_))
    refine ⟨_, _, wk_go _ 0 ?_ ?_ ?_, _, by omega, k + 1, by omega, rfl, all_take hq hall (decide_eq_true ⟨c1, c2, c3, c4⟩), rfl, rfl⟩
    · rfl
    · exact mB rfl rfl
    · exact trivial
  obtain rfl : k = qs.length := by omega
  rw [List.take_length] at hall
  by_cases c3 : qs.length ≤ 100
  case pos =>
    repeat' (with_reducible first | apply qa | apply qb | apply qc | apply qd | apply qe | apply qf | apply qg | apply qh | apply qi | apply qj | apply qk | apply ql rfl | apply qm rfl | apply qn rfl | apply Je | (refine Tx 2 ?_; refine Jo xLt ?_) | (refine Tx 7 ?_; refine Jm ?_; refine Jo (xLn ts_s_Interval) ?_; refine Jo xLe ?_; refine Ja ?_))
    exact ret_q rfl (.cons_ (rv_b rfl (by unfold lean12B; rw [hall, decide_eq_true c3]; rfl)) .nil_)
  case neg =>
    repeat' (with_reducible first | apply qa | apply qb | apply qc | apply qd | apply qe | apply qf | apply qg | apply qh | apply qi | apply qj | apply qk | apply ql rfl | apply qm rfl | apply qn rfl | apply Je | (refine Tx 2 ?_; refine Jo xLt ?_) | (refine Tx 7 ?_; refine Jm ?_; refine Jo (xLn ts_s_Interval) ?_; refine Jo xLe ?_; refine Ja ?_))
    exact ret_q rfl (.cons_ (rv_b rfl (by unfold lean12B; rw [hall, decide_eq_false c3]; rfl)) .nil_)
def rowU8 (zs : List Int) : D := .row true 1 zs.length (zs.map fun z => .val (.int .u8 z))
abbrev wdBy (n : Int) : Pq := dyShift n 0 (-4)
def wideI (q : Rv × Rv) (n : Int) : Iq := iAdd (nrmR q.1 q.2) (spanL [wdBy n, qNeg (wdBy n)])
def wideL (qs : List (Rv × Rv)) (zs : List Int) : List Iq := (List.range qs.length).map fun k => wideI (qs[k]?.getD (⟨false, [], 0⟩, ⟨false, [], 0⟩)) (zs[k]?.getD 0)
theorem byte_at {zs : List Int} (hz : ∀ z ∈ zs, 0 ≤ z ∧ z < 256) (k : Nat) : 0 ≤ zs[k]?.getD 0 ∧ zs[k]?.getD 0 < 256 := by
  cases h : zs[k]? with
  | none => exact ⟨by decide, by decide⟩
  | some z => exact hz z (List.mem_of_getElem? h)
theorem tf_State0 : TyF Tryz.prog 73 0 0 27 := ⟨_, _, Tryz.underlying73, rfl, rfl, rfl⟩
theorem tf_State1 : TyF Tryz.prog 73 1 1 50 := ⟨_, _, Tryz.underlying73, rfl, rfl, rfl⟩
theorem sm_down {p : Pq} {n d : Nat} (h : Sm p n d) (k : Nat) (hk : d + k ≤ 65536) (k1 : k ≤ 65536) : Sm (dyShift p.1 p.2 (-(k : Int))) n (d + k) := by
  have hd := h.d
  unfold dyShift
  split
  · exact Sm.mk_nf (by omega) (by omega) h.n
  · rename_i hc
    have e : (max (-65536) (min (-(k : Int)) 65536)).toNat = 0 := by omega
    rw [e, Int.pow_zero, Int.mul_one]
    exact Sm.mk_nf (by omega) (by omega) h.n
abbrev widI (a : Iq) : Pq := qSum a.2 (qNeg a.1)
abbrev offI (a : Iq) (n : Int) : Pq := dyShift (qMul (widI a) (n, 0)).1 (qMul (widI a) (n, 0)).2 (-8)
abbrev ptI (a : Iq) (n : Int) : Pq := qSum a.1 (offI a n)
theorem ptI_ok {a : Iq} {n : Int} (h : IwS a LB LB) (h0 : 0 ≤ n) (h1 : n < 256) : Sm (widI a) 8400 4096 ∧ Sm (n, 0) 8400 4096 ∧ Sm (qMul (widI a) (n, 0)) 16800 8192 ∧ Sm (offI a n) 16800 8200 ∧ Sm (ptI a n) 25001 8200 ∧ vIn (ptI a n) a := by
  have w : Sm (widI a) 8400 4096 := (Sm.sum h.s2 h.s1.neg (by decide : LB ≤ 65536)).more (by decide) (by decide)
  have k : Sm (n, 0) 8400 4096 := sm_intN n (by omega) (by decide)
  have m : Sm (qMul (widI a) (n, 0)) 16800 8192 := Sm.mul w k (by decide)
  have o : Sm (offI a n) 16800 8200 := sm_down m 8 (by decide) (by decide)
  have s : Sm (ptI a n) 25001 8200 := Sm.sum (h.s1.more (show LB ≤ 16800 by decide) (show LB ≤ 8200 by decide)) o (by decide)
  refine ⟨w, k, m, o, s, ?_⟩
  have gw : gv (widI a) = gv a.2 - gv a.1 := by
    rw [show gv (widI a) = _ from gv_sum h.s2.le h.s1.neg.le, show gv (qNeg a.1) = -gv a.1 from gv_neg _]; omega
  have gm : gv (qMul (widI a) (n, 0)) * 2 ^ GQ = gv (widI a) * gv (n, 0) := gv_mul (by have := w.d; show (widI a).2 + 0 ≤ 65536; omega)
  rw [gv_int, ← Int.mul_assoc] at gm
  have gm := Int.eq_of_mul_eq_mul_right (Int.ne_of_gt (two_pos GQ)) gm
  have go : gv (offI a n) * 2 ^ 8 = gv (qMul (widI a) (n, 0)) := gv_shiftD (n := 8) (by have := m.d; show (qMul (widI a) (n, 0)).2 + 8 ≤ 65536; omega) (by decide)
  have gs : gv (ptI a n) = gv a.1 + gv (offI a n) := gv_sum h.s1.le o.le
  rw [gm, gw] at go
  have hle := h.le
  have u1 : 0 ≤ (gv a.2 - gv a.1) * n := Int.mul_nonneg (by omega) h0
  have u2 : (gv a.2 - gv a.1) * n ≤ (gv a.2 - gv a.1) * 256 := Int.mul_le_mul_of_nonneg_left (by omega) (by omega)
  have e8 : (2 : Int) ^ 8 = 256 := rfl
  rw [e8] at go
  exact ⟨by omega, by omega⟩
def ptsL (qs : List (Rv × Rv)) (zs : List Int) : List Pq := (List.range qs.length).map fun k => ptI (ivQ (qs[k]?.getD (⟨false, [], 0⟩, ⟨false, [], 0⟩))) (zs[k]?.getD 0)
theorem ptsL_len {qs : List (Rv × Rv)} {zs : List Int} : (ptsL qs zs).length = qs.length := by unfold ptsL; rw [List.length_map, List.length_range]
theorem ptsL_at {qs : List (Rv × Rv)} {zs : List Int} {k : Nat} {q : Rv × Rv} (h : qs[k]? = some q) : (ptsL qs zs)[k]? = some (ptI (ivQ q) (zs[k]?.getD 0)) := by
  have hk := (List.getElem?_eq_some_iff.1 h).1
  unfold ptsL
  rw [List.getElem?_map, List.getElem?_range hk, Option.map_some, h, Option.getD_some]
theorem ptsL_ok {qs : List (Rv × Rv)} {zs : List Int} (hq : ∀ p ∈ qs.map ivQ, IwS p LB LB) (hz : ∀ z ∈ zs, 0 ≤ z ∧ z < 256) : (∀ p ∈ ptsL qs zs, Sm p 25001 8200) ∧ vInL (ptsL qs zs) (qs.map ivQ) := by
  constructor
  · intro p hp
    obtain ⟨k, hk⟩ := List.mem_iff_getElem?.1 hp
    have hkl := (List.getElem?_eq_some_iff.1 hk).1
    rw [ptsL_len] at hkl
    obtain ⟨q, hqk⟩ : ∃ q, qs[k]? = some q := ⟨_, List.getElem?_eq_getElem hkl⟩
    rw [ptsL_at hqk] at hk
    cases hk
    exact (ptI_ok (hq _ (List.mem_map_of_mem (List.mem_of_getElem? hqk))) (byte_at hz k).1 (byte_at hz k).2).2.2.2.2.1
  · intro k v r hv hr
    rw [List.getElem?_map, Option.map_eq_some_iff] at hr
    obtain ⟨q, hqk, rfl⟩ := hr
    rw [ptsL_at hqk] at hv
    cases hv
    exact (ptI_ok (hq _ (List.mem_map_of_mem (List.mem_of_getElem? hqk))) (byte_at hz k).1 (byte_at hz k).2).2.2.2.2.2
theorem stE_nf {ps : List Prt} {bs : List Bk} {os : List Int} {st : List Pq} {ins : List Int} (he : dgErr ps bs os = 0) (hl : st.length = (delL bs).length) (hn : ∀ p ∈ st, Nf p.1 p.2) : stE ps bs os (st.map rvOf) ins = tickE ps bs st ins := by
  unfold stE tickE
  rw [if_neg (not_not_intro he), if_neg (not_not_intro (by rw [List.length_map]; exact hl)), if_neg (by rw [Bool.not_eq_false]; exact List.all_eq_true.2 fun r hr => by obtain ⟨p, hp, rfl⟩ := List.mem_map.1 hr; exact rvOf_ok (hn p hp)), rvOf_map]
theorem rangesContain_cv (ps : List Prt) (bs : List Bk) (os : List Int) (qs : List (Rv × Rv)) (hws : ∀ q ∈ qs, wordsOk q.1.ws ∧ wordsOk q.2.ws) (hrn : (qs.length : Int) ≤ 9223372036854775807) (zs : List Int) (hz : ∀ z ∈ zs, 0 ≤ z ∧ z < 256) (hzn : (zs.length : Int) ≤ 9223372036854775807) (inn : List Int) : CV Tryz.prog TabAt 7 [aDg true ps bs os, .agg [rowV qs, rowU8 zs], .one (rowI true inn)] [aB true] := by
  refine cvz Tryz.func7 Tryz.ntmps7 ?_
  have LT := light_cvT true ps bs os
  have LE := lean12_cv qs hrn
  by_cases h1 : lightB ps bs os = true
  case neg =>
    rw [Bool.not_eq_true] at h1
    rw [h1] at LT
    repeat' (with_reducible first | apply qa | apply qb | apply qc | apply qd | apply qe | apply qf | apply qg | apply qh | apply qi | apply qj | apply qk | apply ql rfl | apply qm rfl | apply qn rfl | apply Je | (refine Tx 0 ?_; refine Jn xBo ?_; refine Jn xBo ?_; refine Ja ?_) | (refine Tx 1 ?_; refine Jo (xCl Tryz.func9 (awake12_cv)) ?_; refine Jo (by first | exact xNt | exact xNg) ?_; refine Jm ?_; (first | iterate 3 refine Jd ?_ | (refine Jy (xLa tk_Diagram) ?_; refine Jy (xCl Tryz.func10 (LT)) ?_; refine Jy (by first | exact xNt | exact xNg) ?_)); refine Jo xPk ?_; refine Jm ?_; (first | iterate 4 refine Jd ?_ | (refine Jy (xFa tf_State0 tk_s_Interval) ?_; refine Jy (xLd tk_s_Interval) ?_; refine Jy (xCl Tryz.func11 (LE)) ?_; refine Jy (by first | exact xNt | exact xNg) ?_)); refine Jo xPk ?_; refine Jm ?_; (first | iterate 3 refine Jd ?_ | (refine Jy xM1 ?_; refine Jy (xLn ts_s_int) ?_; refine Jy xGt ?_)); refine Jo xPk ?_; refine Jm ?_; (first | iterate 4 refine Jd ?_ | (refine Jy (xFa tf_State1 tk_s_uint8) ?_; refine Jy (xLd tk_s_uint8) ?_; refine Jy (xLn ts_s_uint8) ?_; refine Jy xGt ?_)); refine Jo xPk ?_; refine Jm ?_; (first | iterate 3 refine Jd ?_ | (refine Jy (xLa tk_Diagram) ?_; refine Jy (xCl Tryz.func19 (PC)) ?_; refine Jy (xNE ti_error) ?_)); refine Jo xPk ?_) | (refine Tx 2 ?_; refine Jo (xCl Tryz.func9 (awake12_cv)) ?_; refine Ja ?_))
    exact ret_q rfl (.cons_ (rv_b rfl (rfl)) .nil_)
  rw [h1] at LT
  by_cases h2 : lean12B qs = true
  case neg =>
    rw [Bool.not_eq_true] at h2
    rw [h2] at LE
    repeat' (with_reducible first | apply qa | apply qb | apply qc | apply qd | apply qe | apply qf | apply qg | apply qh | apply qi | apply qj | apply qk | apply ql rfl | apply qm rfl | apply qn rfl | apply Je | (refine Tx 0 ?_; refine Jn xBo ?_; refine Jn xBo ?_; refine Ja ?_) | (refine Tx 1 ?_; refine Jo (xCl Tryz.func9 (awake12_cv)) ?_; refine Jo (by first | exact xNt | exact xNg) ?_; refine Jm ?_; (first | iterate 3 refine Jd ?_ | (refine Jy (xLa tk_Diagram) ?_; refine Jy (xCl Tryz.func10 (LT)) ?_; refine Jy (by first | exact xNt | exact xNg) ?_)); refine Jo xPk ?_; refine Jm ?_; (first | iterate 4 refine Jd ?_ | (refine Jy (xFa tf_State0 tk_s_Interval) ?_; refine Jy (xLd tk_s_Interval) ?_; refine Jy (xCl Tryz.func11 (LE)) ?_; refine Jy (by first | exact xNt | exact xNg) ?_)); refine Jo xPk ?_; refine Jm ?_; (first | iterate 3 refine Jd ?_ | (refine Jy xM1 ?_; refine Jy (xLn ts_s_int) ?_; refine Jy xGt ?_)); refine Jo xPk ?_; refine Jm ?_; (first | iterate 4 refine Jd ?_ | (refine Jy (xFa tf_State1 tk_s_uint8) ?_; refine Jy (xLd tk_s_uint8) ?_; refine Jy (xLn ts_s_uint8) ?_; refine Jy xGt ?_)); refine Jo xPk ?_; refine Jm ?_; (first | iterate 3 refine Jd ?_ | (refine Jy (xLa tk_Diagram) ?_; refine Jy (xCl Tryz.func19 (PC)) ?_; refine Jy (xNE ti_error) ?_)); refine Jo xPk ?_) | (refine Tx 2 ?_; refine Jo (xCl Tryz.func9 (awake12_cv)) ?_; refine Ja ?_))
    exact ret_q rfl (.cons_ (rv_b rfl (rfl)) .nil_)
  rw [h2] at LE
  by_cases h3 : 40 < inn.length
  case pos =>
    repeat' (with_reducible first | apply qa | apply qb | apply qc | apply qd | apply qe | apply qf | apply qg | apply qh | apply qi | apply qj | apply qk | apply ql rfl | apply qm rfl | apply qn rfl | apply Je | (refine Tx 0 ?_; refine Jn xBo ?_; refine Jn xBo ?_; refine Ja ?_) | (refine Tx 1 ?_; refine Jo (xCl Tryz.func9 (awake12_cv)) ?_; refine Jo (by first | exact xNt | exact xNg) ?_; refine Jm ?_; (first | iterate 3 refine Jd ?_ | (refine Jy (xLa tk_Diagram) ?_; refine Jy (xCl Tryz.func10 (LT)) ?_; refine Jy (by first | exact xNt | exact xNg) ?_)); refine Jo xPk ?_; refine Jm ?_; (first | iterate 4 refine Jd ?_ | (refine Jy (xFa tf_State0 tk_s_Interval) ?_; refine Jy (xLd tk_s_Interval) ?_; refine Jy (xCl Tryz.func11 (LE)) ?_; refine Jy (by first | exact xNt | exact xNg) ?_)); refine Jo xPk ?_; refine Jm ?_; (first | iterate 3 refine Jd ?_ | (refine Jy xM1 ?_; refine Jy (xLn ts_s_int) ?_; refine Jy xGt ?_)); refine Jo xPk ?_; refine Jm ?_; (first | iterate 4 refine Jd ?_ | (refine Jy (xFa tf_State1 tk_s_uint8) ?_; refine Jy (xLd tk_s_uint8) ?_; refine Jy (xLn ts_s_uint8) ?_; refine Jy xGt ?_)); refine Jo xPk ?_; refine Jm ?_; (first | iterate 3 refine Jd ?_ | (refine Jy (xLa tk_Diagram) ?_; refine Jy (xCl Tryz.func19 (PC)) ?_; refine Jy (xNE ti_error) ?_)); refine Jo xPk ?_) | (refine Tx 2 ?_; refine Jo (xCl Tryz.func9 (awake12_cv)) ?_; refine Ja ?_))
    exact ret_q rfl (.cons_ (rv_b rfl (rfl)) .nil_)
  by_cases h4 : 100 < zs.length
  case pos =>
    repeat' (with_reducible first | apply qa | apply qb | apply qc | apply qd | apply qe | apply qf | apply qg | apply qh | apply qi | apply qj | apply qk | apply ql rfl | apply qm rfl | apply qn rfl | apply Je | (refine Tx 0 ?_; refine Jn xBo ?_; refine Jn xBo ?_; refine Ja ?_) | (refine Tx 1 ?_; refine Jo (xCl Tryz.func9 (awake12_cv)) ?_; refine Jo (by first | exact xNt | exact xNg) ?_; refine Jm ?_; (first | iterate 3 refine Jd ?_ | (refine Jy (xLa tk_Diagram) ?_; refine Jy (xCl Tryz.func10 (LT)) ?_; refine Jy (by first | exact xNt | exact xNg) ?_)); refine Jo xPk ?_; refine Jm ?_; (first | iterate 4 refine Jd ?_ | (refine Jy (xFa tf_State0 tk_s_Interval) ?_; refine Jy (xLd tk_s_Interval) ?_; refine Jy (xCl Tryz.func11 (LE)) ?_; refine Jy (by first | exact xNt | exact xNg) ?_)); refine Jo xPk ?_; refine Jm ?_; (first | iterate 3 refine Jd ?_ | (refine Jy xM1 ?_; refine Jy (xLn ts_s_int) ?_; refine Jy xGt ?_)); refine Jo xPk ?_; refine Jm ?_; (first | iterate 4 refine Jd ?_ | (refine Jy (xFa tf_State1 tk_s_uint8) ?_; refine Jy (xLd tk_s_uint8) ?_; refine Jy (xLn ts_s_uint8) ?_; refine Jy xGt ?_)); refine Jo xPk ?_; refine Jm ?_; (first | iterate 3 refine Jd ?_ | (refine Jy (xLa tk_Diagram) ?_; refine Jy (xCl Tryz.func19 (PC)) ?_; refine Jy (xNE ti_error) ?_)); refine Jo xPk ?_) | (refine Tx 2 ?_; refine Jo (xCl Tryz.func9 (awake12_cv)) ?_; refine Ja ?_))
    exact ret_q rfl (.cons_ (rv_b rfl (rfl)) .nil_)
  have hl := (light_len h1).1
  obtain ⟨hwl, hql, hq140⟩ := lean12_len h2 hws
  have PC := (pcheck_cv true hl).cv
  by_cases h0 : dgErr ps bs os = 0
  case neg =>
    repeat' (with_reducible first | apply qa | apply qb | apply qc | apply qd | apply qe | apply qf | apply qg | apply qh | apply qi | apply qj | apply qk | apply ql rfl | apply qm rfl | apply qn rfl | apply Je | (refine Tx 0 ?_; refine Jn xBo ?_; refine Jn xBo ?_; refine Ja ?_) | (refine Tx 1 ?_; refine Jo (xCl Tryz.func9 (awake12_cv)) ?_; refine Jo (by first | exact xNt | exact xNg) ?_; refine Jm ?_; (first | iterate 3 refine Jd ?_ | (refine Jy (xLa tk_Diagram) ?_; refine Jy (xCl Tryz.func10 (LT)) ?_; refine Jy (by first | exact xNt | exact xNg) ?_)); refine Jo xPk ?_; refine Jm ?_; (first | iterate 4 refine Jd ?_ | (refine Jy (xFa tf_State0 tk_s_Interval) ?_; refine Jy (xLd tk_s_Interval) ?_; refine Jy (xCl Tryz.func11 (LE)) ?_; refine Jy (by first | exact xNt | exact xNg) ?_)); refine Jo xPk ?_; refine Jm ?_; (first | iterate 3 refine Jd ?_ | (refine Jy xM1 ?_; refine Jy (xLn ts_s_int) ?_; refine Jy xGt ?_)); refine Jo xPk ?_; refine Jm ?_; (first | iterate 4 refine Jd ?_ | (refine Jy (xFa tf_State1 tk_s_uint8) ?_; refine Jy (xLd tk_s_uint8) ?_; refine Jy (xLn ts_s_uint8) ?_; refine Jy xGt ?_)); refine Jo xPk ?_; refine Jm ?_; (first | iterate 3 refine Jd ?_ | (refine Jy (xLa tk_Diagram) ?_; refine Jy (xCl Tryz.func19 (PC)) ?_; refine Jy (by first | exact ok_neqE rfl ti_error rfl (bne_t h0) | exact ok_neqE rfl ti_error rfl (bne_f (by first | rfl | omega)) | exact ok_neqE rfl ti_error rfl (bne_t (by first | assumption | omega)) | exact ok_neqE rfl ti_error rfl rfl) ?_)); refine Jo xPk ?_) | (refine Tx 2 ?_; refine Jo (xCl Tryz.func9 (awake12_cv)) ?_; refine Ja ?_))
    exact ret_q rfl (.cons_ (rv_b rfl (rfl)) .nil_)
  rw [h0] at PC
  have EV := rgeval_cv true hl qs hwl (by omega)
  unfold aIws at EV
  by_cases hE : rgE ps bs os qs = 0
  case neg =>
    repeat' (with_reducible first | apply qa | apply qb | apply qc | apply qd | apply qe | apply qf | apply qg | apply qh | apply qi | apply qj | apply qk | apply ql rfl | apply qm rfl | apply qn rfl | apply Je | (refine Tx 0 ?_; refine Jn xBo ?_; refine Jn xBo ?_; refine Ja ?_) | (refine Tx 1 ?_; refine Jo (xCl Tryz.func9 (awake12_cv)) ?_; refine Jo (by first | exact xNt | exact xNg) ?_; refine Jm ?_; (first | iterate 3 refine Jd ?_ | (refine Jy (xLa tk_Diagram) ?_; refine Jy (xCl Tryz.func10 (LT)) ?_; refine Jy (by first | exact xNt | exact xNg) ?_)); refine Jo xPk ?_; refine Jm ?_; (first | iterate 4 refine Jd ?_ | (refine Jy (xFa tf_State0 tk_s_Interval) ?_; refine Jy (xLd tk_s_Interval) ?_; refine Jy (xCl Tryz.func11 (LE)) ?_; refine Jy (by first | exact xNt | exact xNg) ?_)); refine Jo xPk ?_; refine Jm ?_; (first | iterate 3 refine Jd ?_ | (refine Jy xM1 ?_; refine Jy (xLn ts_s_int) ?_; refine Jy xGt ?_)); refine Jo xPk ?_; refine Jm ?_; (first | iterate 4 refine Jd ?_ | (refine Jy (xFa tf_State1 tk_s_uint8) ?_; refine Jy (xLd tk_s_uint8) ?_; refine Jy (xLn ts_s_uint8) ?_; refine Jy xGt ?_)); refine Jo xPk ?_; refine Jm ?_; (first | iterate 3 refine Jd ?_ | (refine Jy (xLa tk_Diagram) ?_; refine Jy (xCl Tryz.func19 (PC)) ?_; refine Jy (xNE ti_error) ?_)); refine Jo xPk ?_) | (refine Tx 3 ?_; refine Jo (xLa tk_Diagram) ?_; refine Jo (xFa tf_State0 tk_s_Interval) ?_; refine Jo (xLd tk_s_Interval) ?_; refine Jo (xCl Tryz.func12 (EV)) ?_; refine Jo xMt ?_; refine Jo xEx ?_; refine Jo xEx ?_; refine Ja ?_; refine Ja ?_) | (refine Tx 4 ?_; refine Jm ?_; refine Jo (by first | exact ok_neqE rfl ti_error rfl (bne_t hE) | exact ok_neqE rfl ti_error rfl (bne_f (by first | rfl | omega)) | exact ok_neqE rfl ti_error rfl (bne_t (by first | assumption | omega)) | exact ok_neqE rfl ti_error rfl rfl) ?_) | (refine Tx 5 ?_; refine Ja ?_))
    exact ret_q rfl (.cons_ (rv_b rfl (rfl)) .nil_)
  obtain ⟨_, hL, hv, hb⟩ := rgE_z hE
  have hiw := qs_iw hwl hE
  rw [okQ_z hE, hE] at EV
  have hvl : (rgV ps bs (qs.map ivQ)).length = bs.length := rgV_len
  rw [hvl] at EV
  have hl2 := hl.l2
  have hl1 := hl.l1
  repeat' (with_reducible first | apply qa | apply qb | apply qc | apply qd | apply qe | apply qf | apply qg | apply qh | apply qi | apply qj | apply qk | apply ql rfl | apply qm rfl | apply qn rfl | apply Je | (refine Tx 0 ?_; refine Jn xBo ?_; refine Jn xBo ?_; refine Ja ?_) | (refine Tx 1 ?_; refine Jo (xCl Tryz.func9 (awake12_cv)) ?_; refine Jo (by first | exact xNt | exact xNg) ?_; refine Jm ?_; (first | iterate 3 refine Jd ?_ | (refine Jy (xLa tk_Diagram) ?_; refine Jy (xCl Tryz.func10 (LT)) ?_; refine Jy (by first | exact xNt | exact xNg) ?_)); refine Jo xPk ?_; refine Jm ?_; (first | iterate 4 refine Jd ?_ | (refine Jy (xFa tf_State0 tk_s_Interval) ?_; refine Jy (xLd tk_s_Interval) ?_; refine Jy (xCl Tryz.func11 (LE)) ?_; refine Jy (by first | exact xNt | exact xNg) ?_)); refine Jo xPk ?_; refine Jm ?_; (first | iterate 3 refine Jd ?_ | (refine Jy xM1 ?_; refine Jy (xLn ts_s_int) ?_; refine Jy xGt ?_)); refine Jo xPk ?_; refine Jm ?_; (first | iterate 4 refine Jd ?_ | (refine Jy (xFa tf_State1 tk_s_uint8) ?_; refine Jy (xLd tk_s_uint8) ?_; refine Jy (xLn ts_s_uint8) ?_; refine Jy xGt ?_)); refine Jo xPk ?_; refine Jm ?_; (first | iterate 3 refine Jd ?_ | (refine Jy (xLa tk_Diagram) ?_; refine Jy (xCl Tryz.func19 (PC)) ?_; refine Jy (xNE ti_error) ?_)); refine Jo xPk ?_) | (refine Tx 3 ?_; refine Jo (xLa tk_Diagram) ?_; refine Jo (xFa tf_State0 tk_s_Interval) ?_; refine Jo (xLd tk_s_Interval) ?_; refine Jo (xCl Tryz.func12 (EV)) ?_; refine Jo xMt ?_; refine Jo xEx ?_; refine Jo xEx ?_; refine Ja ?_; refine Ja ?_) | (refine Tx 4 ?_; refine Jm ?_; refine Jo (xNE ti_error) ?_) | (refine Tx 6 ?_; refine Ja ?_) | (refine Tx 7 ?_; refine Jo (xFa tf_State0 tk_s_Interval) ?_; refine Jo (xLd tk_s_Interval) ?_; refine Jo (xLn ts_s_Interval) ?_; refine Jm ?_))
  refine cw_wk (wk_nil 9 53 3 rfl) ?_
  refine cw_wk (F' := ofL [(2, vd (rowI true inn)), (3, vr 0), (4, vr 1), (7, vd (.row false 6 bs.length (flatD (dIw false) (rgV ps bs (qs.map ivQ))))), (9, vo 2 (((ptsL qs zs).take 0).length)), (59, vd (rowV qs)), (60, vi qs.length), (61, vi ((0 : Nat)))]) (H' := [.box 26 [.d (rowP true ps), .d (rowB true bs), .d (rowI true os)], .box 73 [.d (rowV qs), .d (rowU8 zs)], .row 53 3 ((ptsL qs zs).take (0)).length ((flatD dyP ((ptsL qs zs).take (0))).map C.d)]) (wk_go _ 3 ?_ ?_ ?_) ?_
  · rfl
  · exact mB rfl rfl
  · exact ⟨bel_lit rfl, bel_lit rfl, bel_D, trivial⟩
  refine cw_loopW (fun n Fr H => ∃ k : Nat, k ≤ qs.length ∧ n = qs.length - k ∧ Fr = ofL [(2, vd (rowI true inn)), (3, vr 0), (4, vr 1), (7, vd (.row false 6 bs.length (flatD (dIw false) (rgV ps bs (qs.map ivQ))))), (9, vo 2 (((ptsL qs zs).take k).length)), (59, vd (rowV qs)), (60, vi qs.length), (61, vi ((k : Nat)))] ∧ H = [.box 26 [.d (rowP true ps), .d (rowB true bs), .d (rowI true os)], .box 73 [.d (rowV qs), .d (rowU8 zs)], .row 53 3 ((ptsL qs zs).take (k)).length ((flatD dyP ((ptsL qs zs).take (k))).map C.d)]) (n0 := qs.length) ⟨0, Nat.zero_le _, rfl, rfl, rfl⟩ ?_
  rintro n Fr H ⟨k, hk, rfl, rfl, rfl⟩
  by_cases hlt : k < qs.length
  case pos =>
    obtain ⟨q, hq⟩ : ∃ q, qs[k]? = some q := ⟨_, List.getElem?_eq_getElem hlt⟩
    have hqm := List.mem_of_getElem? hq
    have hb2 := byte_at hz k
    have hpa := ptsL_at (zs := zs) hq
    have has := hiw _ (List.mem_map_of_mem (f := ivQ) hqm)
    obtain ⟨_, hdy, _, _⟩ := raw_iw (hwl q hqm).1 (hwl q hqm).2 (hv q hqm)
    have hra := iv_at hq
    rw [hdy] at hra
    generalize ivQ q = a at *
    by_cases hby : k < zs.length
    case pos =>
      obtain ⟨z, hzk⟩ : ∃ z, zs[k]? = some z := ⟨_, List.getElem?_eq_getElem hby⟩
      rw [hzk, Option.getD_some] at hb2 hpa
      have hwr : IntKind.i64.wrap z = z := IntWalk.i64_in z (by omega)
      obtain ⟨hap, hap2, hoL⟩ := flat_next hpa
      obtain ⟨sw, sk, sm, so, ss, _⟩ := ptI_ok has hb2.1 hb2.2
      have WI := riwidth_cv a (has.more (by decide) (by decide))
      have OF := (of_cv (G := TabAt) z (by omega) (by omega)).cv
      have MU := dmul_cv (widI a).1 (widI a).2 z 0 sw.ok sk.ok (Nat.le_trans (sw.lenN 300 (by decide)) (by decide)) (Nat.le_trans (canon_len_le (k := 2) (by omega)) (by decide)) (by have := sw.d; omega)
      have SH := (dshift_cv (G := TabAt) false (qMul (widI a) (z, 0)).1 (qMul (widI a) (z, 0)).2 (-8) sm.ok (Nat.le_trans (sm.lenN 525 (by decide)) (by decide)) (by have := sm.d; omega)).cv
      have AD := (dadd_cv TabAt false false a.1.1 a.1.2 (offI a z).1 (offI a z).2 has.s1.ok so.ok (Nat.le_trans (has.s1.lenN 128 (by decide)) (by decide)) (Nat.le_trans (so.lenN 525 (by decide)) (by decide))).cv
      repeat' (with_reducible first | apply qa | apply qb | apply qc | apply qd | apply qe | apply qf | apply qg | apply qh | apply qi | apply qj | apply qk | apply ql rfl | apply qm rfl | apply qn rfl | apply Je | (refine Tx 8 ?_; refine Jo xLt ?_) | (refine Tx 9 ?_; refine Jm ?_; refine Jo (xIr ts_s_Interval (hra)) ?_; refine Jo (xLa tk_Interval) ?_; refine Jn (xAl tz_Interval) ?_; refine Ja ?_; refine Js (xSk tk_Interval) ?_) | (refine Tx 10 ?_; refine Ja ?_) | (refine Tx 11 ?_; refine Jm ?_; refine Jo (xFa tf_State1 tk_s_uint8) ?_; refine Jo (xLd tk_s_uint8) ?_; refine Jo (xLn ts_s_uint8) ?_; refine Jo xLt ?_) | (refine Tx 12 ?_; refine Jo (xFa tf_State1 tk_s_uint8) ?_; refine Jo (xLd tk_s_uint8) ?_; refine Jm ?_; refine Jo (by first | exact xIr ts_s_uint8 (map_at hzk) | exact xIr ts_s_uint8 (hra)) ?_; refine Jo (xLd tk_uint8) ?_; refine Ja ?_) | (refine Tx 13 ?_; refine Jo (xLa tk_Interval) ?_; refine Jo (xCl Tryz.func33 (WI)) ?_; refine Jm ?_; refine Jo (by first | exact ok_convR rfl Tryz.underlying5 Tryz.underlying3 rfl hwr | exact ok_conv rfl Tryz.underlying5 Tryz.underlying3 rfl) ?_; refine Jo (xCl Tryz.func24 (OF)) ?_; refine Jo (xCl Tryz.func32 (MU)) ?_; refine Jo (xCl Tryz.func23 (SH)) ?_; refine Jn (xAl tz_Dyadic) ?_; refine Js (xSk tk_Dyadic) ?_) | (refine Tx 14 ?_; refine Jm ?_; refine Jo (xFa tf_Interval0 tk_Dyadic) ?_; refine Jo (xLa tk_Dyadic) ?_; refine Jo (xLa tk_Dyadic) ?_; refine Jo (xCl Tryz.func34 (AD)) ?_; refine Jn (by exact ok_build1 rfl ts_s_Dyadic tz_Dyadic rfl rfl (by decide) (by decide)) ?_; refine Jt (by exact to_apD rfl rfl rfl rfl rfl rfl ts_s_Dyadic tz_Dyadic (by omega) (by decide) (by decide) rfl hap hap2) ?_; refine Ja ?_) | (refine Tx 15 ?_; refine Jo xAd ?_; refine Jm ?_))
      refine ⟨_, _, wk_go _ 3 ?_ ?_ ?_, _, ?_, k + 1, by omega, rfl, rfl, rfl⟩
      · rfl
      · exact mB rfl rfl
      · exact ⟨bel_lit rfl, bel_lit rfl, bel_D, trivial⟩
      · omega
    have hzn : zs[k]?.getD 0 = 0 := by rw [List.getElem?_eq_none (by omega)]; rfl
    rw [hzn] at hb2 hpa
    have hwr : IntKind.i64.wrap 0 = 0 := IntWalk.i64_in 0 (by omega)
    obtain ⟨hap, hap2, hoL⟩ := flat_next hpa
    obtain ⟨sw, sk, sm, so, ss, _⟩ := ptI_ok has hb2.1 hb2.2
    have WI := riwidth_cv a (has.more (by decide) (by decide))
    have OF := (of_cv (G := TabAt) 0 (by omega) (by omega)).cv
    have MU := dmul_cv (widI a).1 (widI a).2 0 0 sw.ok sk.ok (Nat.le_trans (sw.lenN 300 (by decide)) (by decide)) (Nat.le_trans (canon_len_le (k := 2) (by omega)) (by decide)) (by have := sw.d; omega)
    have SH := (dshift_cv (G := TabAt) false (qMul (widI a) (0, 0)).1 (qMul (widI a) (0, 0)).2 (-8) sm.ok (Nat.le_trans (sm.lenN 525 (by decide)) (by decide)) (by have := sm.d; omega)).cv
    have AD := (dadd_cv TabAt false false a.1.1 a.1.2 (offI a 0).1 (offI a 0).2 has.s1.ok so.ok (Nat.le_trans (has.s1.lenN 128 (by decide)) (by decide)) (Nat.le_trans (so.lenN 525 (by decide)) (by decide))).cv
    repeat' (with_reducible first | apply qa | apply qb | apply qc | apply qd | apply qe | apply qf | apply qg | apply qh | apply qi | apply qj | apply qk | apply ql rfl | apply qm rfl | apply qn rfl | apply Je | (refine Tx 8 ?_; refine Jo xLt ?_) | (refine Tx 9 ?_; refine Jm ?_; refine Jo (xIr ts_s_Interval (hra)) ?_; refine Jo (xLa tk_Interval) ?_; refine Jn (xAl tz_Interval) ?_; refine Ja ?_; refine Js (xSk tk_Interval) ?_) | (refine Tx 10 ?_; refine Ja ?_) | (refine Tx 11 ?_; refine Jm ?_; refine Jo (xFa tf_State1 tk_s_uint8) ?_; refine Jo (xLd tk_s_uint8) ?_; refine Jo (xLn ts_s_uint8) ?_; refine Jo xLt ?_) | (refine Tx 13 ?_; refine Jo (xLa tk_Interval) ?_; refine Jo (xCl Tryz.func33 (WI)) ?_; refine Jm ?_; refine Jo (by first | exact ok_convR rfl Tryz.underlying5 Tryz.underlying3 rfl hwr | exact ok_conv rfl Tryz.underlying5 Tryz.underlying3 rfl) ?_; refine Jo (xCl Tryz.func24 (OF)) ?_; refine Jo (xCl Tryz.func32 (MU)) ?_; refine Jo (xCl Tryz.func23 (SH)) ?_; refine Jn (xAl tz_Dyadic) ?_; refine Js (xSk tk_Dyadic) ?_) | (refine Tx 14 ?_; refine Jm ?_; refine Jo (xFa tf_Interval0 tk_Dyadic) ?_; refine Jo (xLa tk_Dyadic) ?_; refine Jo (xLa tk_Dyadic) ?_; refine Jo (xCl Tryz.func34 (AD)) ?_; refine Jn (by exact ok_build1 rfl ts_s_Dyadic tz_Dyadic rfl rfl (by decide) (by decide)) ?_; refine Jt (by exact to_apD rfl rfl rfl rfl rfl rfl ts_s_Dyadic tz_Dyadic (by omega) (by decide) (by decide) rfl hap hap2) ?_; refine Ja ?_) | (refine Tx 15 ?_; refine Jo xAd ?_; refine Jm ?_))
    refine ⟨_, _, wk_go _ 3 ?_ ?_ ?_, _, ?_, k + 1, by omega, rfl, rfl, rfl⟩
    · rfl
    · exact mB rfl rfl
    · exact ⟨bel_lit rfl, bel_lit rfl, bel_D, trivial⟩
    · omega
  obtain rfl : k = qs.length := by omega
  clear hlt hk
  have htk : (ptsL qs zs).take qs.length = ptsL qs zs := by rw [← ptsL_len (qs := qs) (zs := zs), List.take_length]
  rw [htk]
  obtain ⟨hps, hpv⟩ := ptsL_ok hiw hz
  have hpl : (ptsL qs zs).length = (delL bs).length := by rw [ptsL_len]; exact hL
  clear LE LT PC EV
  repeat' (with_reducible first | apply qa | apply qb | apply qc | apply qd | apply qe | apply qf | apply qg | apply qh | apply qi | apply qj | apply qk | apply ql rfl | apply qm rfl | apply qn rfl | apply Je | (refine Tx 8 ?_; refine Jo xLt ?_))
  refine cw_wk (wk_freeze (ds := flatD dyP (ptsL qs zs)) 9 2 rfl rfl) ?_
  generalize ptsL qs zs = st at *
  refine cw_wk (F' := ofL [(2, vd (rowI true inn)), (3, vr 0), (7, vd (.row false 6 bs.length (flatD (dIw false) (rgV ps bs (qs.map ivQ))))), (9, vd (.row false 3 st.length (flatD dyP st)))]) (H' := [.box 26 [.d (rowP true ps), .d (rowB true bs), .d (rowI true os)]]) (wk_go _ 1 ?_ ?_ ?_) ?_
  · rfl
  · exact mB rfl rfl
  · exact ⟨bel_lit rfl, trivial⟩
  have hdb := delL_le bs
  have FT := inputs_cv true true inn hl (by omega)
  have hinl := inp_len ps inn
  have hT4 := tick_four h0 (st := st) (l := inn)
  generalize inpV ps inn ps.length = ins at *
  have ST := pstep_cv true false hl (st.map rvOf) (fun r hr => by obtain ⟨p, hp, rfl⟩ := List.mem_map.1 hr; exact ⟨canon_ok _, Nat.le_trans ((hps p hp).lenN 800 (by decide)) (by decide)⟩) (by rw [List.length_map]; omega) ins (by omega)
  rw [rowR_of, rvOf_map, stE_nf h0 hpl (fun p hp => (hps p hp).ok)] at ST
  unfold aDys at ST
  by_cases hT : tickE ps bs st ins = 0
  case neg =>
    rw [okQ_n hT, okQ_n hT, hT4 hT] at ST
    have BI := (bis_cv 4 4).cv
    rw [show isB 4 4 = true from rfl] at BI
    repeat' (with_reducible first | apply qa | apply qb | apply qc | apply qd | apply qe | apply qf | apply qg | apply qh | apply qi | apply qj | apply qk | apply ql rfl | apply qm rfl | apply qn rfl | apply Je | (refine cw_any (id := 16) mixed (by kernel_rfl) ?_; refine Ko (xLa tk_Diagram) ?_; refine Km ?_; refine Ko (xLa tk_Diagram) ?_; refine Km ?_; refine Ko (xCl Tryz.func36 (FT)) ?_; refine Ko (xCl Tryz.func35 (ST)) ?_; refine Ko xMt ?_; refine Ko xEx ?_; refine Ko xEx ?_; refine Ko xEx ?_; refine Ka ?_; refine Ka ?_; refine Ka ?_; refine Ke ?_) | (refine Tx 17 ?_; refine Jm ?_; refine Jo (by first | exact ok_neqE rfl ti_error rfl (bne_t (by decide)) | exact ok_neqE rfl ti_error rfl (bne_f (by first | rfl | omega)) | exact ok_neqE rfl ti_error rfl (bne_t (by first | assumption | omega)) | exact ok_neqE rfl ti_error rfl rfl) ?_) | (refine Tx 18 ?_; refine Jm ?_; refine Jo (xCl Tryz.func21 (BI)) ?_; refine Ja ?_))
    exact ret_q rfl (.cons_ (rv_b rfl (rfl)) .nil_)
  rw [hT, okQ_z rfl, okQ_z rfl] at ST
  have hve : (valE ps bs st ins).length = bs.length := valE_len
  rw [hve] at ST
  have htk := fun (i : Nat) (hil : i < bs.length) => tick_in h0 hiw hpl (fun p hp => (hps p hp).ok) (by rw [List.length_map]; exact hL) hb hT hpv hil
  repeat' (with_reducible first | apply qa | apply qb | apply qc | apply qd | apply qe | apply qf | apply qg | apply qh | apply qi | apply qj | apply qk | apply ql rfl | apply qm rfl | apply qn rfl | apply Je | (refine cw_any (id := 16) mixed (by kernel_rfl) ?_; refine Ko (xLa tk_Diagram) ?_; refine Km ?_; refine Ko (xLa tk_Diagram) ?_; refine Km ?_; refine Ko (xCl Tryz.func36 (FT)) ?_; refine Ko (xCl Tryz.func35 (ST)) ?_; refine Ko xMt ?_; refine Ko xEx ?_; refine Ko xEx ?_; refine Ko xEx ?_; refine Ka ?_; refine Ka ?_; refine Ka ?_; refine Ke ?_) | (refine Tx 17 ?_; refine Jm ?_; refine Jo (xNE ti_error) ?_) | (refine Tx 19 ?_; refine Jm ?_; refine Jo (xLn ts_s_Dyadic) ?_; refine Jm ?_; refine Jo (xLn ts_s_Interval) ?_; refine Jo xNe ?_; refine Jm ?_; (first | iterate 6 refine Jd ?_ | (refine Jy xM1 ?_; refine Jy (xLn ts_s_Interval) ?_; refine Jy (xFa tf_Diagram1 tk_s_Block) ?_; refine Jy (xLd tk_s_Block) ?_; refine Jy (xLn ts_s_Block) ?_; refine Jy xNe ?_)); refine Jo xPk ?_) | (refine Tx 21 ?_; refine Jm ?_; refine Jo (xLn ts_s_Dyadic) ?_; refine Jm ?_))
  generalize valE ps bs st ins = V at *
  refine cw_wk (F' := ofL [(3, vr 0), (7, vd (.row false 6 bs.length (flatD (dIw false) (rgV ps bs (qs.map ivQ))))), (118, vd (.row false 3 bs.length (flatD dyP V))), (119, vi bs.length), (120, vi ((0 : Nat)))]) (H' := [.box 26 [.d (rowP true ps), .d (rowB true bs), .d (rowI true os)]]) (wk_go _ 1 ?_ ?_ ?_) ?_
  · rfl
  · exact mB rfl rfl
  · exact ⟨bel_lit rfl, trivial⟩
  refine cw_loopW (fun n Fr H => ∃ u : Nat, u ≤ bs.length ∧ n = bs.length - u ∧ Fr = ofL [(3, vr 0), (7, vd (.row false 6 bs.length (flatD (dIw false) (rgV ps bs (qs.map ivQ))))), (118, vd (.row false 3 bs.length (flatD dyP V))), (119, vi bs.length), (120, vi ((u : Nat)))] ∧ H = [.box 26 [.d (rowP true ps), .d (rowB true bs), .d (rowI true os)]]) (n0 := bs.length) ⟨0, Nat.zero_le _, rfl, rfl, rfl⟩ ?_
  rintro n Fr H ⟨u, hu, rfl, rfl, rfl⟩
  by_cases hlu : u < bs.length
  case pos =>
    obtain ⟨w, r, hw, hr2, hrs, hwS, hwr2⟩ := htk u hlu
    have CO := picontains_cv r w (hrs.more (show LB ≤ 20000 by decide) (show LB ≤ 20000 by decide)) (hwS.more (show LB ≤ 20000 by decide) (show LB ≤ 20000 by decide))
    rw [cont_of hwS hrs hwr2] at CO
    repeat' (with_reducible first | apply qa | apply qb | apply qc | apply qd | apply qe | apply qf | apply qg | apply qh | apply qi | apply qj | apply qk | apply ql rfl | apply qm rfl | apply qn rfl | apply Je | (refine Tx 22 ?_; refine Jo xLt ?_) | (refine Tx 23 ?_; refine Jm ?_; refine Jo (xIr ts_s_Dyadic (dy_at hw)) ?_; refine Jo (xLa tk_Dyadic) ?_; refine Jn (xAl tz_Dyadic) ?_; refine Ja ?_; refine Js (xSk tk_Dyadic) ?_) | (refine cw_any (id := 24) mixed (by kernel_rfl) ?_; refine Km ?_; refine Km ?_; refine Ko (xIr ts_s_Interval (iw_at hr2)) ?_; refine Ko (xLa tk_Interval) ?_; refine Ko (xLa tk_Dyadic) ?_; refine Ko (xCl Tryz.func37 (CO)) ?_; refine Ko (by first | exact xNt | exact xNg) ?_; refine Ke ?_) | (refine Tx 26 ?_; refine Jo xAd ?_; refine Jm ?_))
    refine ⟨_, _, wk_go _ 1 ?_ ?_ ?_, _, ?_, u + 1, by omega, rfl, rfl, rfl⟩
    · rfl
    · exact mB rfl rfl
    · exact ⟨bel_lit rfl, trivial⟩
    · omega
  obtain rfl : u = bs.length := by omega
  repeat' (with_reducible first | apply qa | apply qb | apply qc | apply qd | apply qe | apply qf | apply qg | apply qh | apply qi | apply qj | apply qk | apply ql rfl | apply qm rfl | apply qn rfl | apply Je | (refine Tx 22 ?_; refine Jo xLt ?_) | (refine Tx 27 ?_; refine Ja ?_))
  exact ret_q rfl (.cons_ (rv_b rfl (rfl)) .nil_)
end Go.Proofs.YtilbehepmkpdbaaGreatDoor
namespace Go.Proofs.YtilbehepmkpdbaaGreatDoor
open Go.ChangeShapes Go.WideShapes Go.ChangeAt Go.RowKit Go.Joins Go.Deep
def AllS (w : World) : Sets := fun t b => t = true ∧ b < w.heap.size
theorem row_in {w : World} {A : Option Addr} {s n c : Nat} {cs : List D} {xs : List Value} (h : CellsAt w w.heap.size A xs) (hc : n ≤ c) (hA : A = none → c = 0) (hl : cs.length = n * s) (hr : LRel (DRel w (AllS w)) cs xs) : DRel w (AllS w) (.row true s n cs) (.slice A n c) := by
  refine .row xs hc hA hl hr.1 (fun hne => ?_) hr.2
  obtain ⟨b, off, h1, _, h2, h3⟩ := h (fun h0 => hne (by have := hr.1; rw [h0] at this; exact List.eq_nil_of_length_eq_zero (by simpa using this)))
  exact ⟨b, off, h1, ⟨rfl, h2⟩, h3⟩
theorem ints_one {zs : List Int} : ∀ v ∈ ints zs, v.oneCell' = true := fun v hv => by
  obtain ⟨z, _, rfl⟩ := List.mem_map.1 hv
  rfl
theorem rowI_in {w : World} {A : Option Addr} {zs : List Int} {c : Nat} (h : CellsAt w w.heap.size A (ints zs)) (hc : zs.length ≤ c) (hA : A = none → c = 0) : DRel w (AllS w) (rowI true zs) (.slice A zs.length c) := by
  unfold rowI
  rw [dI_map]
  exact row_in h hc hA (by simp [ints]) (rel_vals ints_one)
theorem prt_one {ps : List Prt} : ∀ v ∈ flat Prt.cells ps, v.oneCell' = true := fun v hv => by
  obtain ⟨l, hl, hv⟩ := List.mem_flatten.1 hv
  obtain ⟨p, _, rfl⟩ := List.mem_map.1 hl
  simp only [Prt.cells, List.mem_cons, List.not_mem_nil, or_false] at hv
  rcases hv with rfl | rfl | rfl <;> rfl
theorem flat_lenV {α : Type} {f : α → List Value} {s : Nat} (hf : ∀ x, (f x).length = s) : ∀ l : List α, (flat f l).length = l.length * s
  | [] => by simp [flat]
  | x :: l => by
    have ih := flat_lenV hf l
    unfold flat at ih ⊢
    rw [List.map_cons, List.flatten_cons, List.length_append, ih, hf, List.length_cons, Nat.add_mul]
    omega
theorem rowP_in {w : World} {A : Option Addr} {ps : List Prt} {c : Nat} (h : CellsAt w w.heap.size A (flat Prt.cells ps)) (hc : ps.length ≤ c) (hA : A = none → c = 0) : DRel w (AllS w) (rowP true ps) (.slice A ps.length c) := by
  unfold rowP
  rw [flatD_vals dPrt_vals]
  exact row_in h hc hA (by rw [List.length_map]; exact flat_lenV (f := Prt.cells) (s := 3) (fun _ => rfl) ps) (rel_vals prt_one)
theorem bks_in {w : World} : ∀ {bs : List Bk}, (∀ b ∈ bs, CellsAt w w.heap.size b.A (ints b.args) ∧ b.args.length ≤ b.cap ∧ (b.A = none → b.cap = 0)) → LRel (DRel w (AllS w)) (flatD (dBk true) bs) (flat Bk.cells bs)
  | [], _ => .nil_
  | b :: bs, h => by
    have ih := bks_in (w := w) (bs := bs) fun x hx => h x (by simp [hx])
    obtain ⟨h1, h2, h3⟩ := h b (by simp)
    exact .cons_ (.val rfl) (.cons_ (rowI_in h1 h2 h3) (.cons_ (.val rfl) (.cons_ (.val rfl) (.cons_ (.val rfl) (.cons_ (.val rfl) ih)))))
theorem bks_len (t : Bool) : ∀ bs : List Bk, (flatD (dBk t) bs).length = bs.length * 6
  | [] => rfl
  | b :: bs => by
    have ih := bks_len t bs
    show (flatD (dBk t) ([b] ++ bs)).length = _
    rw [flatD_app, List.length_append, ih, List.length_cons, Nat.add_mul]
    show 6 + bs.length * 6 = _
    omega
section
variable {H : Type} {enc : TypeId × Value → H} {w : World} {spare : Nat → Bool} {held : Bool}
theorem open_dgA {r : Go.Reach} {b0 : Nat} {v : Value} {d : DataW H} {p : List MemPlace} (hv : Value.okWide Tryz.prog w r b0 26 v) (h : DataW.Trod enc Tryz.prog w 0 spare held 26 v d p) :
    ∃ (ps : List Prt) (bs : List Bk) (os : List Int), ARel w (AllS w) (aDg true ps bs os) v := by
  obtain ⟨v0, v1, v2, y0, y1, y2, m, rfl, rfl, rfl, g0, g1, g2⟩ := open_agg3 Tryz.underlying26 (by kernel_rfl) (by kernel_rfl) hv h
  obtain ⟨A1, c1, ps, rfl, n1, k1, l1, h1, b1⟩ := rows_of_cell prtOf prtOf_cells (fun _ => rfl) (by decide) Tryz.underlying22 Tryz.underlying68 (by kernel_rfl) (fields_int (by kernel_rfl)) (by kernel_rfl) rfl g0
  obtain ⟨A2, c2, bs, e2, l2, h2, b2⟩ := blks_of_cell g1
  obtain ⟨A3, c3, os, rfl, n3, k3, l3, h3, b3⟩ := ints_of_cell' Tryz.underlying24 Tryz.underlying3 (by kernel_rfl) g2
  have hs : (A2 = none → c2 = 0) ∧ bs.length ≤ c2 := by
    rcases open_slice Tryz.underlying23 g1 with ⟨hcs, _⟩ | ⟨a, len, cap, m, n, D, Pl, hcs, _, hl, hm, hmm, _, hx⟩
    · have e3 : v1 = .slice none 0 0 := by simpa using hcs
      rw [e2] at e3
      simp only [Value.slice.injEq] at e3
      exact ⟨fun _ => e3.2.2, by omega⟩
    · have e3 : v1 = .slice (some a) len cap := by simpa using hcs
      rw [e2] at e3
      simp only [Value.slice.injEq] at e3
      exact ⟨fun h0 => (by rw [e3.1] at h0; cases h0), by omega⟩
  refine ⟨ps, bs, os, [.slice A1 ps.length c1, v1, .slice A3 os.length c3], rfl, ?_⟩
  rw [e2]
  exact .cons_ (rowP_in h1 k1 n1) (.cons_ (row_in h2 hs.2 hs.1 (bks_len true bs) (bks_in fun b hb => ⟨(b2 b hb).2.2.2.1, (b2 b hb).2.1, (b2 b hb).1⟩)) (.cons_ (rowI_in h3 k3 n3) .nil_))
theorem open_intsA {r : Go.Reach} {b0 : Nat} {v : Value} {d : DataW H} {p : List MemPlace} (hv : Value.okWide Tryz.prog w r b0 24 v) (h : DataW.Trod enc Tryz.prog w 0 spare held 24 v d p) :
    ∃ zs : List Int, ARel w (AllS w) (.one (rowI true zs)) v := by
  obtain ⟨a0, len, cap, rfl⟩ := okWide_slice Tryz.underlying24 hv
  obtain ⟨fuel, hf⟩ := h
  obtain ⟨A, c, zs, hvz, n, k, l, hc, b⟩ := ints_of_cell' Tryz.underlying24 Tryz.underlying3 (by kernel_rfl) hf
  exact ⟨zs, by rw [hvz]; exact rowI_in hc k n⟩
end
def AllF (w : World) : Sets := fun _ b => b < w.heap.size
theorem AllF.of {w : World} {x : A} {v : Value} (h : ARel w (AllS w) x v) : ARel w (AllF w) x v := h.mono (fun _ _ hb => hb.2) fun _ _ _ => rfl
theorem cv_lawA {f : FuncId} {args : List A} (h : CV Tryz.prog TabAt f args [aB true]) {w : World} (ht : TabAt w) {vs : List Value} (ha : LRel (ARel w (AllF w)) args vs) :
    Calls Tryz.prog f vs.toArray w fun e w' => e = .returned (.bool true) ∧ Below w.heap.size w w' :=
  (h w _ vs ht (fun t b hb => hb) ha).mono fun e w' ⟨v, h1, h2, h3⟩ => by
    have h4 : DRel w' _ (dB true) v := h2
    cases h4
    exact ⟨h1, h3⟩
structure RowA (α : Type) (s : Nat) where
  cs : List Value
  len : cs.length = s
  a : α
instance {α : Type} {s : Nat} [Inhabited α] : Inhabited (RowA α s) := ⟨⟨List.replicate s undef, List.length_replicate, default⟩⟩
section
variable {H : Type} {enc : TypeId × Value → H} {P : Program} {w : World} {spare : Nat → Bool} {held : Bool}
theorem rowsA_of_cell {α : Type} [Inhabited α] {s : Nat} {Q : α → List Value → Prop} (hs0 : 0 < s) {t e : TypeId} {fuel : Nat} {v : Value} {x : DataW H × List MemPlace} (ht : P.underlying t = some (.slice e)) (hC : P.cellsOf e = s)
    (hrow : ∀ (fuel : Nat) (cs : List Value) (x : DataW H × List MemPlace), DataW.trod enc P w 0 spare held fuel e cs = some x → cs.length = s → ∃ a, Q a cs)
    (h : DataW.trod enc P w 0 spare held fuel t [v] = some x) :
    ∃ (A : Option Addr) (cap : Nat) (l : List (RowA α s)), v = .slice A l.length cap ∧ (A = none → cap = 0) ∧ l.length ≤ cap ∧ l.length ≤ maxLen ∧ CellsAt w w.heap.size A (flat RowA.cs l) ∧ ∀ x ∈ l, Q x.a x.cs := by
  rcases open_slice ht h with ⟨hcs, _⟩ | ⟨a, len, cap, m, n, D, Pl, hcs, _, hl, hm, hmm, _, hx⟩
  · exact ⟨none, 0, [], by simpa using hcs, fun _ => rfl, Nat.le_refl _, Nat.zero_le _, CellsAt.nil_, by simp⟩
  · have hle : len ≤ m := by rw [hmm]; split <;> omega
    rw [hC] at hx
    obtain ⟨R, hR⟩ := choose_lt (α := RowA α s) (n := len) (p := fun i b => Q b.a b.cs ∧ ∀ j, j < s → w.cell? (a.add (i * s + j)) = b.cs[j]?) (fun i hi => by
      obtain ⟨cs', h1, h2⟩ := hx i (by omega)
      obtain ⟨_, hlen, hcell⟩ := World.cells?_some h1
      obtain ⟨b, hb⟩ := hrow _ _ _ h2 (by simpa using hlen)
      exact ⟨⟨cs', by simpa using hlen, b⟩, hb, fun j hj => by rw [← add_add]; exact hcell j hj⟩)
    refine ⟨some a, cap, (List.range len).map R, by simpa using hcs, by simp, by simpa using hl, by simp; omega, fun hne => ?_, ?_⟩
    · have hpos : 0 < len := by
        rcases Nat.eq_zero_or_pos len with h0 | h0
        · subst h0; simp [flat] at hne
        · exact h0
      obtain ⟨b, off, spot⟩ := a
      have h00 := (hR 0 hpos).2 0 hs0
      have hz0 : (R 0).cs[0]? = some ((R 0).cs[0]'(by rw [(R 0).len]; exact hs0)) := List.getElem?_eq_getElem _
      rw [hz0] at h00
      have hspot : spot = none := by simpa [Addr.add] using World.cell?_spot h00
      subst hspot
      have hb : b < w.heap.size := by
        rcases Nat.lt_or_ge b w.heap.size with h | h
        · exact h
        · simp [World.cell?, Addr.add, Array.getElem?_eq_none h] at h00
      refine ⟨b, off, rfl, hb, hb, fun j u hu => ?_⟩
      have hjl : j < len * s := by
        have := (List.getElem?_eq_some_iff.1 hu).1
        rw [flat_len (f := RowA.cs) (s := s) (fun x => x.len)] at this
        simpa using this
      have hk : j / s < len := Nat.div_lt_of_lt_mul (by rw [Nat.mul_comm]; exact hjl)
      have hr : j % s < s := Nat.mod_lt _ hs0
      have hj : j / s * s + j % s = j := by rw [Nat.mul_comm]; exact Nat.div_add_mod j s
      have hg : ((List.range len).map R)[j / s]? = some (R (j / s)) := by simp [hk]
      have h1 := flat_get (f := RowA.cs) (s := s) (fun x => x.len) hg hr
      rw [hj, hu] at h1
      have h2 := (hR _ hk).2 (j % s) hr
      rw [hj, ← h1] at h2
      rw [← Go.WideShapes.add_plain]
      exact h2
    · intro y hy
      obtain ⟨i, hi, rfl⟩ := List.mem_map.1 hy
      exact (hR i (by simpa using hi)).1
theorem row_inF {tg : Bool} {A : Option Addr} {s n c : Nat} {cs : List D} {xs : List Value} (h : CellsAt w w.heap.size A xs) (hc : n ≤ c) (hA : A = none → c = 0) (hl : cs.length = n * s) (hr : LRel (DRel w (AllF w)) cs xs) : DRel w (AllF w) (.row tg s n cs) (.slice A n c) := by
  refine .row xs hc hA hl hr.1 (fun hne => ?_) hr.2
  obtain ⟨b, off, h1, _, h2, h3⟩ := h (fun h0 => hne (by have := hr.1; rw [h0] at this; exact List.eq_nil_of_length_eq_zero (by simpa using this)))
  exact ⟨b, off, h1, h2, h3⟩
theorem sliceD {α : Type} [Inhabited α] (f : α → List D) (Q : α → Prop) {s : Nat} {tg : Bool} (hs0 : 0 < s) (hfl : ∀ a, (f a).length = s) {t e : TypeId} {fuel : Nat} {v : Value} {x : DataW H × List MemPlace} (ht : P.underlying t = some (.slice e)) (hC : P.cellsOf e = s)
    (hrow : ∀ (fuel : Nat) (cs : List Value) (x : DataW H × List MemPlace), DataW.trod enc P w 0 spare held fuel e cs = some x → cs.length = s → ∃ a, Q a ∧ LRel (DRel w (AllF w)) (f a) cs)
    (h : DataW.trod enc P w 0 spare held fuel t [v] = some x) : ∃ l : List α, DRel w (AllF w) (.row tg s l.length (flatD f l)) v ∧ (∀ a ∈ l, Q a) ∧ l.length ≤ maxLen := by
  obtain ⟨A, cap, l, rfl, hA, hc, hm, hcl, hQ⟩ := rowsA_of_cell (Q := fun a cs => Q a ∧ LRel (DRel w (AllF w)) (f a) cs) hs0 ht hC hrow h
  refine ⟨l.map RowA.a, ?_, fun a ha => ?_, by rw [List.length_map]; exact hm⟩
  · have key : ∀ l : List (RowA α s), (∀ x ∈ l, Q x.a ∧ LRel (DRel w (AllF w)) (f x.a) x.cs) → LRel (DRel w (AllF w)) (flatD f (l.map RowA.a)) (flat RowA.cs l) := fun l => by
      induction l with
      | nil => intro _; exact LRel.nil_
      | cons y l ih => intro hq; exact (hq y (List.mem_cons_self ..)).2.app (ih fun z hz => hq z (List.mem_cons_of_mem _ hz))
    have := row_inF (tg := tg) (n := (l.map RowA.a).length) hcl (by rw [List.length_map]; exact hc) hA (flatD_len (f := f) hfl _) (key l hQ)
    rwa [List.length_map] at this ⊢
  · obtain ⟨y, hy, rfl⟩ := List.mem_map.1 ha
    exact (hQ y hy).1
end
theorem len_i64 {n : Nat} (h : n ≤ maxLen) : (n : Int) ≤ 9223372036854775807 := by unfold maxLen at h; omega
theorem flatD_one {α : Type} (f : α → D) (l : List α) : flatD (fun a => [f a]) l = l.map f := by
  induction l with
  | nil => rfl
  | cons a l ih => show f a :: flatD (fun a => [f a]) l = f a :: l.map f; rw [ih]
section
variable {H : Type} {enc : TypeId × Value → H} {w : World} {spare : Nat → Bool} {held : Bool}
theorem words_inF {tg : Bool} {A : Option Addr} {ws : List Nat} {c : Nat} (h : CellsAt w w.heap.size A (w32 ws)) (hc : ws.length ≤ c) (hA : A = none → c = 0) : DRel w (AllF w) (.row tg 1 ws.length (ws.map dW)) (.slice A ws.length c) := by
  rw [← w32_D]
  exact row_inF h hc hA (by rw [List.length_map, w32_len, Nat.mul_one]) (rel_vals fun v hv => w32_one hv)
theorem rw_inF (tg : Bool) {r : Rw} (h : RwAt w w.heap.size r) : LRel (DRel w (AllF w)) (dRv tg ⟨r.nb, r.ws, r.den⟩) r.cells :=
  .cons_ (.val rfl) (.cons_ (words_inF h.at_ h.fit h.nul) (.cons_ (.val rfl) .nil_))
instance : Inhabited Rv := ⟨⟨false, [], 0⟩⟩
def RvIn (r : Rv) : Prop := wordsOk r.ws ∧ r.ws.length ≤ maxLen ∧ -9223372036854775808 ≤ r.den ∧ r.den ≤ 9223372036854775807
end
section
variable {H : Type} {enc : TypeId × Value → H} {w : World} {spare : Nat → Bool} {held : Bool}
theorem row_ivF (tg : Bool) {fuel : Nat} {cs : List Value} {x : DataW H × List MemPlace} (h : DataW.trod enc Tryz.prog w 0 spare held fuel 55 cs = some x) : ∃ q : Rv × Rv, (RvIn q.1 ∧ RvIn q.2) ∧ LRel (DRel w (AllF w)) (dIr tg q) cs := by
  obtain ⟨a, rfl, h1, l1, l2, d1, d2⟩ := row_iv h
  exact ⟨(⟨a.lo.nb, a.lo.ws, a.lo.den⟩, ⟨a.hi.nb, a.hi.ws, a.hi.den⟩), ⟨⟨h1.lo.ok, l1, d1⟩, h1.hi.ok, l2, d2⟩, (rw_inF tg h1.lo).app (rw_inF tg h1.hi)⟩
end
section
variable {H : Type} {enc : TypeId × Value → H} {w : World} {spare : Nat → Bool} {held : Bool}
theorem row_u8s {fuel : Nat} {v : Value} {x : DataW H × List MemPlace} (hf : DataW.trod enc Tryz.prog w 0 spare held fuel 50 [v] = some x) :
    ∃ zs : List Int, DRel w (AllF w) (rowU8 zs) v ∧ (∀ z ∈ zs, 0 ≤ z ∧ z < 256) ∧ (zs.length : Int) ≤ 9223372036854775807 := by
  obtain ⟨zs, h1, h2, h3⟩ := sliceD (s := 1) (tg := true) (fun z : Int => [D.val (.int .u8 z)]) (fun z : Int => 0 ≤ z ∧ z < 256) (by decide) (fun _ => rfl) Tryz.underlying50 (by kernel_rfl) (fun fuel cs x hx _ => by
    obtain ⟨z, rfl, _, hb⟩ := DataW.trod_int Tryz.underlying5 hx
    obtain ⟨b0, b1⟩ := bounds_u8 hb
    exact ⟨z, ⟨b0, by omega⟩, .cons_ (.val rfl) .nil_⟩) hf
  rw [flatD_one] at h1
  exact ⟨zs, h1, h2, len_i64 h3⟩
end
section
variable {H : Type} {enc : TypeId × Value → H} {w : World} {spare : Nat → Bool} {held : Bool}
theorem row_ivs {fuel : Nat} {v : Value} {x : DataW H × List MemPlace} (hf : DataW.trod enc Tryz.prog w 0 spare held fuel 27 [v] = some x) :
    ∃ qs : List (Rv × Rv), DRel w (AllF w) (rowV qs) v ∧ (∀ q ∈ qs, RvIn q.1 ∧ RvIn q.2) ∧ (qs.length : Int) ≤ 9223372036854775807 := by
  obtain ⟨qs, h1, h2, h3⟩ := sliceD (s := 6) (tg := false) (dIr false) (fun q : Rv × Rv => RvIn q.1 ∧ RvIn q.2) (by decide) (fun _ => rfl) Tryz.underlying27 (by kernel_rfl) (fun fuel cs x hx _ => row_ivF false hx) hf
  exact ⟨qs, h1, h2, len_i64 h3⟩
theorem open_state {r : Go.Reach} {b0 : Nat} {v : Value} {d : DataW H} {p : List MemPlace} (hv : Value.okWide Tryz.prog w r b0 73 v) (h : DataW.Trod enc Tryz.prog w 0 spare held 73 v d p) :
    ∃ (qs : List (Rv × Rv)) (zs : List Int), ARel w (AllF w) (.agg [rowV qs, rowU8 zs]) v ∧ (∀ q ∈ qs, RvIn q.1 ∧ RvIn q.2) ∧ (qs.length : Int) ≤ 9223372036854775807 ∧ (∀ z ∈ zs, 0 ≤ z ∧ z < 256) ∧ (zs.length : Int) ≤ 9223372036854775807 := by
  obtain ⟨v0, v1, y0, y1, m, rfl, rfl, rfl, g0, g1⟩ := open_agg2 Tryz.underlying73 (by kernel_rfl) (by kernel_rfl) hv h
  obtain ⟨qs, h0, k0, l0⟩ := row_ivs g0
  obtain ⟨zs, h1, k1, l1⟩ := row_u8s g1
  exact ⟨qs, zs, ⟨[v0, v1], rfl, .cons_ h0 (.cons_ h1 .nil_)⟩, k0, l0, k1, l1⟩
end
end Go.Proofs.YtilbehepmkpdbaaGreatDoor
