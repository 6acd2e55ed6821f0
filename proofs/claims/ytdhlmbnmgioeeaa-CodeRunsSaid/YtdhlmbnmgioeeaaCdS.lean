/- What the laws with cells and inputs have in common; the plain laws behind them. No conditions. -/
import Derived.Test.YtdhlmbnmgioeeaaCdR
import Derived.Test.YtdhlmbnmgioeeaaCdP
namespace Go.Proofs.Ytdhlmbnmgioeeaa
set_option linter.unusedVariables false
set_option linter.unusedSimpArgs false
set_option linter.unusedSectionVars false
open Go.RowKit

/-- What stands while a law with cells and inputs goes on. -/
structure Cy (w wi : World) (vp vx : List Value) (A1 A2 A3 A4 X1 X2 : Option Addr) (ps : List Prt) (is : List Int) (xs : List Ins) (os xc xi : List Int) : Prop where
  box : BoxAt wi w.heap.size vp
  box2 : BoxAt wi (w.heap.size + 1) vx
  prog : PAt wi w.heap.size A1 A2 A3 A4 ps is xs os
  x1 : CellsAt wi w.heap.size X1 (ints xc)
  x2 : CellsAt wi w.heap.size X2 (ints xi)
  bel : Below w.heap.size w wi
section
variable {w wi wj : World} {vp vx : List Value} {A1 A2 A3 A4 X1 X2 : Option Addr} {ps : List Prt} {is : List Int} {xs : List Ins} {os xc xi : List Int}
theorem Cy.lt (h : Cy w wi vp vx A1 A2 A3 A4 X1 X2 ps is xs os xc xi) : w.heap.size + 1 < wi.heap.size := h.box2.1
theorem Cy.le (h : Cy w wi vp vx A1 A2 A3 A4 X1 X2 ps is xs os xc xi) : w.heap.size ≤ wi.heap.size := Nat.le_of_lt h.box.1
theorem Cy.low (h : Cy w wi vp vx A1 A2 A3 A4 X1 X2 ps is xs os xc xi) {B : Nat} (hB : w.heap.size + 1 < B) (hb : Below B wi wj) : Cy w wj vp vx A1 A2 A3 A4 X1 X2 ps is xs os xc xi :=
  ⟨h.box.below hb (by omega), h.box2.below hb hB, h.prog.below hb (by omega), h.x1.below hb (by omega), h.x2.below hb (by omega), h.bel.trans (hb.mono (by omega))⟩
theorem Cy.next (h : Cy w wi vp vx A1 A2 A3 A4 X1 X2 ps is xs os xc xi) (hb : Below wi.heap.size wi wj) : Cy w wj vp vx A1 A2 A3 A4 X1 X2 ps is xs os xc xi := h.low h.lt hb
theorem Cy.alloc (h : Cy w wi vp vx A1 A2 A3 A4 X1 X2 ps is xs os xc xi) (o : Obj) : Cy w (wi.alloc o) vp vx A1 A2 A3 A4 X1 X2 ps is xs os xc xi := h.next ((Below.refl _ wi).alloc (Nat.le_refl _) o)
theorem Cy.drew (h : Cy w wi vp vx A1 A2 A3 A4 X1 X2 ps is xs os xc xi) : Cy w wi.drew vp vx A1 A2 A3 A4 X1 X2 ps is xs os xc xi := h.next (Below.refl _ wi).drew
theorem Cy.start (h : PAt w w.heap.size A1 A2 A3 A4 ps is xs os) (h1 : CellsAt w w.heap.size X1 (ints xc)) (h2 : CellsAt w w.heap.size X2 (ints xi)) (vs us : List Value) (t u : TypeId) : Cy w ((w.alloc (.cells vs.toArray t)).alloc (.cells us.toArray u)) vs us A1 A2 A3 A4 X1 X2 ps is xs os xc xi := by
  have hb : Below w.heap.size w ((w.alloc (.cells vs.toArray t)).alloc (.cells us.toArray u)) := ((Below.refl _ w).alloc (Nat.le_refl _) _).alloc (by simp) _
  have h3 := BoxAt.new_ (w.alloc (.cells vs.toArray t)) us u
  simp at h3
  exact ⟨(BoxAt.new_ w vs t).below ((Below.refl (w.heap.size + 1) _).alloc (by simp) _) (by omega), h3, h.below hb (Nat.le_refl _), h1.below hb (Nat.le_refl _), h2.below hb (Nat.le_refl _), hb⟩
end

/-- Three lists laid anew, and a fourth block. -/
theorem new3 (w0 : World) (A B C : List Value) (tA tB tC : TypeId) (o : Obj) :
    CellsAt ((((w0.alloc (.cells A.toArray tA)).alloc (.cells B.toArray tB)).alloc (.cells C.toArray tC)).alloc o) (w0.heap.size + 3) (some ⟨w0.heap.size, 0, none⟩) A ∧
    CellsAt ((((w0.alloc (.cells A.toArray tA)).alloc (.cells B.toArray tB)).alloc (.cells C.toArray tC)).alloc o) (w0.heap.size + 3) (some ⟨w0.heap.size + 1, 0, none⟩) B ∧
    CellsAt ((((w0.alloc (.cells A.toArray tA)).alloc (.cells B.toArray tB)).alloc (.cells C.toArray tC)).alloc o) (w0.heap.size + 3) (some ⟨w0.heap.size + 1 + 1, 0, none⟩) C ∧
    Below w0.heap.size w0 ((((w0.alloc (.cells A.toArray tA)).alloc (.cells B.toArray tB)).alloc (.cells C.toArray tC)).alloc o) ∧ ((((w0.alloc (.cells A.toArray tA)).alloc (.cells B.toArray tB)).alloc (.cells C.toArray tC)).alloc o).heap.size = w0.heap.size + 4 := by
  have h1 := (((Blk.new w0 A tA _ rfl).old (.cells B.toArray tB)).old (.cells C.toArray tC)).old o
  have h2 := ((Blk.new (w0.alloc (.cells A.toArray tA)) B tB (w0.heap.size + 1) (by simp)).old (.cells C.toArray tC)).old o
  have h3 := (Blk.new ((w0.alloc (.cells A.toArray tA)).alloc (.cells B.toArray tB)) C tC (w0.heap.size + 1 + 1) (by simp)).old o
  exact ⟨h1.cells_ (by omega), h2.cells_ (by omega), h3.cells_ (by omega), (((((Below.refl w0.heap.size w0).alloc (Nat.le_refl _) _).alloc (by simp) _).alloc (by simp; omega) _).alloc (by simp; omega) _), by simp⟩

/-! The plain laws. -/
theorem clip_short (n : Int) : initErr (clipI n (-2147483648) 2147483647) = 0 := by
  have : shortB (clipI n (-2147483648) 2147483647) = true := by
    unfold shortB clipI
    rw [decide_eq_true_eq]
    omega
  simp [initErr, this]
theorem zip_fit (ps : List Prt) (xi : List Int) (h : ∀ p ∈ ps, p.lo ≤ p.hi) : ∀ x ∈ List.zipWith inErr ps (fitI ps xi ps.length), x = 0 := by
  intro x hx
  obtain ⟨i, hi⟩ := List.getElem?_of_mem hx
  rw [List.getElem?_zipWith] at hi
  cases hp : ps[i]? with
  | none => rw [hp] at hi; cases hi
  | some p =>
    have hil : i < ps.length := (List.getElem?_eq_some_iff.1 hp).1
    have hf : (fitI ps xi ps.length)[i]? = some (clipI (xi[i]?.getD 0) p.lo p.hi) := by simp only [fitI, prtAt, List.getElem?_map, List.getElem?_range hil, Option.map_some, hp, Option.getD_some]
    rw [hp, hf] at hi
    have h1 := h p (List.mem_of_getElem? hp)
    simp only [Option.some.injEq] at hi
    rw [← hi]
    unfold inErr
    rw [if_pos]
    unfold clipI
    omega
theorem run_noerr {ps : List Prt} {is : List Int} {xs : List Ins} {os : List Int} {cs inn : List Int} (he : progErr ps is xs os = 0) (h1 : cs.length = is.length) (h2 : ∀ n ∈ cs, shortB n = true) (h3 : inn.length = ps.length) (h4 : ∀ x ∈ List.zipWith inErr ps inn, x = 0) : runErr ps is xs os cs inn = 0 :=
  runErr_val he h1 (firstErr_of (fun x hx => by
    obtain ⟨n, hn, rfl⟩ := List.mem_map.1 hx
    simp [initErr, h2 n hn])) h3 (firstErr_of h4)
theorem fit_short (xc : List Int) (n : Nat) : ∀ z ∈ fitC xc n, shortB z = true := by
  intro z hz
  obtain ⟨i, _, rfl⟩ := List.mem_map.1 hz
  unfold shortB clipI
  rw [decide_eq_true_eq]
  omega
theorem fit_noerr {ps : List Prt} {is : List Int} {xs : List Ins} {os : List Int} (xc xi : List Int) (he : progErr ps is xs os = 0) : runErr ps is xs os (fitC xc is.length) (fitI ps xi ps.length) = 0 :=
  run_noerr he (fitC_len _ _) (fit_short _ _) (fitI_len _ _ _) (zip_fit ps xi (fun p hp => ((pOk he).port p hp).2.2.1))
theorem runM_ok {ps : List Prt} {is : List Int} {xs : List Ins} {os : List Int} {cs inn : List Int} (h : runErr ps is xs os cs inn = 0) : runM ps is xs os cs inn = ⟨(runR inn xs (cs, false)).1, outsOf (runR inn xs (cs, false)).1 os, (runR inn xs (cs, false)).2⟩ := if_pos h
theorem cut32_short (n : Int) : shortB (cut32 n) = true := by
  unfold shortB cut32
  rw [decide_eq_true_eq]
  omega
theorem runR_short (inn : List Int) (xs : List Ins) (st : List Int × Bool) (h : ∀ z ∈ st.1, shortB z = true) : ∀ z ∈ (runR inn xs st).1, shortB z = true := by
  induction xs generalizing st with
  | nil => exact h
  | cons x xs ih =>
    refine ih (stepR inn st x) (fun z hz => ?_)
    simp only [stepR] at hz
    rcases List.mem_or_eq_of_mem_set hz with hz | rfl
    · exact h z hz
    · exact cut32_short _
theorem runR_append (inn : List Int) (xs ys : List Ins) (st : List Int × Bool) : runR inn (xs ++ ys) st = runR inn ys (runR inn xs st) := List.foldl_append
theorem runR_over (inn : List Int) (xs : List Ins) (cs : List Int) (b : Bool) : (runR inn xs (cs, b)).1 = (runR inn xs (cs, false)).1 ∧ (runR inn xs (cs, b)).2 = (b || (runR inn xs (cs, false)).2) := by
  induction xs generalizing cs b with
  | nil => simp [runR]
  | cons x xs ih =>
    obtain ⟨h1, h2⟩ := ih (stepR inn (cs, b) x).1 (stepR inn (cs, b) x).2
    obtain ⟨h3, h4⟩ := ih (stepR inn (cs, false) x).1 (stepR inn (cs, false) x).2
    have e : (stepR inn (cs, b) x).1 = (stepR inn (cs, false) x).1 := rfl
    refine ⟨?_, ?_⟩
    · show (runR inn xs (stepR inn (cs, b) x)).1 = (runR inn xs (stepR inn (cs, false) x)).1
      exact h1.trans (by rw [e]; exact h3.symm)
    · show (runR inn xs (stepR inn (cs, b) x)).2 = (b || (runR inn xs (stepR inn (cs, false) x)).2)
      refine h2.trans ?_
      rw [e, show (runR inn xs (stepR inn (cs, false) x)).2 = ((stepR inn (cs, false) x).2 || (runR inn xs ((stepR inn (cs, false) x).1, false)).2) from h4]
      simp [stepR, Bool.or_assoc]
theorem runR_keeps (inn : List Int) (xs : List Ins) (st : List Int × Bool) (i : Nat) (h : ∀ x ∈ xs, x.dst.toNat ≠ i) : (runR inn xs st).1[i]? = st.1[i]? := by
  induction xs generalizing st with
  | nil => rfl
  | cons x xs ih =>
    have h1 := ih (stepR inn st x) (fun y hy => h y (by simp [hy]))
    show (runR inn xs (stepR inn st x)).1[i]? = _
    rw [h1]
    simp only [stepR]
    rw [List.getElem?_set_ne (h x (by simp))]
end Go.Proofs.Ytdhlmbnmgioeeaa
