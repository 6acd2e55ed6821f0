/- The plain laws behind CodeKeeps; what stands while it goes on. No conditions. -/
import Derived.Test.YtdhlmbnmgioeeaaCdT
import Derived.Test.YtdhlmbnmgioeeaaCdG
namespace Go.Proofs.Ytdhlmbnmgioeeaa
set_option linter.unusedVariables false
set_option linter.unusedSimpArgs false
set_option linter.unusedSectionVars false
open Go.RowKit

def marksI (ws : List Int) (n : Nat) : List Value := (List.range n).map fun i : Nat => .bool (decide ((i : Int) ∈ ws))
theorem marksI_nil (n : Nat) : marksI [] n = List.replicate n (.bool false) := by
  refine List.ext_getElem (by simp [marksI]) fun i h1 h2 => ?_
  simp [marksI]
theorem marksI_set {ws : List Int} {n k d : Nat} (hx : ws[k]? = some (d : Int)) : (marksI (ws.take k) n).set d (.bool true) = marksI (ws.take (k + 1)) n := by
  refine List.ext_getElem (by simp [marksI]) fun i h1 h2 => ?_
  rw [List.getElem_set]
  simp only [marksI, List.getElem_map, List.getElem_range]
  rw [List.take_add_one, hx]
  by_cases h : d = i
  · subst h
    simp
  · rw [if_neg h]
    have : ¬ (i : Int) = (d : Int) := by omega
    simp [this]
theorem marksI_get {ws : List Int} {n k : Nat} (h : k < n) : (marksI ws n)[k]? = some (.bool (decide ((k : Int) ∈ ws))) := by simp [marksI, h]
theorem wrTo_range {xs : List Ins} {n : Nat} {z : Int} (h : z ∈ wrTo xs n) : ∃ d : Nat, z = (d : Int) ∧ d < n := by
  obtain ⟨i, hi, rfl⟩ := List.mem_map.1 h
  exact ⟨i, rfl, by simpa using (List.mem_filter.1 hi).1⟩
theorem wrTo_not {xs : List Ins} {n k : Nat} (hk : k < n) (h : ¬ (k : Int) ∈ wrTo xs n) : ∀ x ∈ xs, x.dst ≠ (k : Int) := by
  intro x hx he
  refine h (List.mem_map.2 ⟨k, List.mem_filter.2 ⟨by simpa using hk, ?_⟩, rfl⟩)
  simp only [wrB, List.any_eq_true]
  exact ⟨x, hx, by simpa using he⟩
theorem keep_run {ps : List Prt} {is : List Int} {xs : List Ins} {os : List Int} (xc xi : List Int) (h : progErr ps is xs os = 0) :
    ∃ (cF oF : List Int) (ov : Bool), cF.length = is.length ∧ oF.length = os.length ∧ runErr ps is xs os (fitC xc is.length) (fitI ps xi ps.length) = 0 ∧ runM ps is xs os (fitC xc is.length) (fitI ps xi ps.length) = ⟨cF, oF, ov⟩ ∧
      (∀ z ∈ cF, shortB z = true) ∧ (∀ k : Nat, k < is.length → ¬ (k : Int) ∈ wrTo xs is.length → cF[k]? = (fitC xc is.length)[k]?) ∧ (∀ (k : Nat) (o : Int), os[k]? = some o → oF[k]? = some (cF[o.toNat]?.getD 0)) := by
  have e0 := fit_noerr xc xi h
  refine ⟨_, _, _, ?_, ?_, e0, runM_ok e0, runR_short _ _ _ (fit_short _ _), fun k hk hn => ?_, fun k o ho => ?_⟩
  · rw [runR_len, fitC_len]
  · exact outs_len _ _
  · refine runR_keeps _ _ _ k (fun x hx => ?_)
    have h1 := wrTo_not hk hn x hx
    have h2 := ((pOk h).ins x hx).dst0
    omega
  · simp [outsOf, ho]
/-- What stands while the law goes on. -/
structure Kx (w wi : World) (m b1 b2 : Nat) (V1 V2 : List Value) (T FA WA WB : Option Addr) (ws c0 cF oF : List Int) (vp vx : List Value) (A1 A2 A3 A4 X1 X2 : Option Addr) (ps : List Prt) (is : List Int) (xs : List Ins) (os xc xi : List Int) : Prop where
  cy : Cy w wi vp vx A1 A2 A3 A4 X1 X2 ps is xs os xc xi
  y : BoxAt wi b1 V1
  s : BoxAt wi b2 V2
  t : CellsAt wi m T (ints ws)
  fa : CellsAt wi m FA (ints c0)
  wa : CellsAt wi m WA (ints cF)
  wb : CellsAt wi m WB (ints oF)
  hm : w.heap.size + 1 < m
  h1 : b1 < m
  h2 : b2 < m
  hs : m ≤ wi.heap.size
theorem Kx.low {w wi wj : World} {m b1 b2 : Nat} {V1 V2 : List Value} {T FA WA WB : Option Addr} {ws c0 cF oF : List Int} {vp vx : List Value} {A1 A2 A3 A4 X1 X2 : Option Addr} {ps : List Prt} {is : List Int} {xs : List Ins} {os xc xi : List Int}
    (h : Kx w wi m b1 b2 V1 V2 T FA WA WB ws c0 cF oF vp vx A1 A2 A3 A4 X1 X2 ps is xs os xc xi) (hb : Below m wi wj) : Kx w wj m b1 b2 V1 V2 T FA WA WB ws c0 cF oF vp vx A1 A2 A3 A4 X1 X2 ps is xs os xc xi :=
  ⟨h.cy.low h.hm hb, h.y.below hb h.h1, h.s.below hb h.h2, h.t.below hb (Nat.le_refl _), h.fa.below hb (Nat.le_refl _), h.wa.below hb (Nat.le_refl _), h.wb.below hb (Nat.le_refl _), h.hm, h.h1, h.h2, Nat.le_trans h.hs hb.size⟩
end Go.Proofs.Ytdhlmbnmgioeeaa
