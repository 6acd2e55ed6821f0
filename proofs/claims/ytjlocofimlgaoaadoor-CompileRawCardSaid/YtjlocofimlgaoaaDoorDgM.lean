/- What is wrong with a block, as plain data. No conditions. -/
import Derived.Test.YtjlocofimlgaoaaDoorDgE
import Derived.Test.YtjlocofimlgaoaaDoorDgG
namespace Go.Proofs.YtjlocofimlgaoaaDoor
set_option linter.unusedVariables false
set_option linter.unusedSimpArgs false
set_option linter.unusedSectionVars false
open Go.RowKit

def outE (n : Nat) (a : Int) : Int := if 0 ≤ a ∧ a < (n : Int) then 0 else 10
def clipU (k : Int) : Bool := k == 11
def valU (k : Int) : Bool := k == 11 || k == 1 || k == 2 || k == 6
def mostM (np nb : Nat) (k : Int) : Nat := if k = 0 then np else nb
def blkErr (np nb : Nat) (b : Bk) : Int :=
  if arityM b.kind < 0 then 7 else if ¬ ((b.args.length : Nat) : Int) = arityM b.kind then 11 else if ¬ firstErr (b.args.map (outE (mostM np nb b.kind))) = 0 then 10
  else if ¬ scalE b.vn b.ve (valU b.kind) = 0 then scalE b.vn b.ve (valU b.kind) else if ¬ scalE b.un b.ue (clipU b.kind) = 0 then scalE b.un b.ue (clipU b.kind)
  else if clipU b.kind = true ∧ 0 < scCmp b.vn b.ve b.un b.ue then 26 else 0
section
variable {np nb : Nat} {b : Bk}
theorem be1 (h : arityM b.kind < 0) : blkErr np nb b = 7 := if_pos h
theorem be2 (h : ¬ arityM b.kind < 0) (h2 : ¬ ((b.args.length : Nat) : Int) = arityM b.kind) : blkErr np nb b = 11 := by unfold blkErr; rw [if_neg h, if_pos h2]
theorem be3 (h : ¬ arityM b.kind < 0) (h2 : ((b.args.length : Nat) : Int) = arityM b.kind) {M : Nat} (hM : mostM np nb b.kind = M) (h3 : ¬ firstErr (b.args.map (outE M)) = 0) : blkErr np nb b = 10 := by
  subst hM; unfold blkErr; rw [if_neg h, if_neg (not_not_intro h2), if_pos h3]
theorem be4 (h : ¬ arityM b.kind < 0) (h2 : ((b.args.length : Nat) : Int) = arityM b.kind) {M : Nat} (hM : mostM np nb b.kind = M) (h3 : firstErr (b.args.map (outE M)) = 0) {vu : Bool} (hv : valU b.kind = vu) (h4 : ¬ scalE b.vn b.ve vu = 0) : blkErr np nb b = scalE b.vn b.ve vu := by
  subst hM hv; unfold blkErr; rw [if_neg h, if_neg (not_not_intro h2), if_neg (not_not_intro h3), if_pos h4]
theorem be5 (h : ¬ arityM b.kind < 0) (h2 : ((b.args.length : Nat) : Int) = arityM b.kind) {M : Nat} (hM : mostM np nb b.kind = M) (h3 : firstErr (b.args.map (outE M)) = 0) {vu cu : Bool} (hv : valU b.kind = vu) (h4 : scalE b.vn b.ve vu = 0) (hc : clipU b.kind = cu)
    (h5 : ¬ scalE b.un b.ue cu = 0) : blkErr np nb b = scalE b.un b.ue cu := by
  subst hM hv hc; unfold blkErr; rw [if_neg h, if_neg (not_not_intro h2), if_neg (not_not_intro h3), if_neg (not_not_intro h4), if_pos h5]
theorem be6 (h : ¬ arityM b.kind < 0) (h2 : ((b.args.length : Nat) : Int) = arityM b.kind) {M : Nat} (hM : mostM np nb b.kind = M) (h3 : firstErr (b.args.map (outE M)) = 0) {vu cu : Bool} (hv : valU b.kind = vu) (h4 : scalE b.vn b.ve vu = 0) (hc : clipU b.kind = cu)
    (h5 : scalE b.un b.ue cu = 0) (h6 : cu = true ∧ 0 < scCmp b.vn b.ve b.un b.ue) : blkErr np nb b = 26 := by
  subst hM hv hc; unfold blkErr; rw [if_neg h, if_neg (not_not_intro h2), if_neg (not_not_intro h3), if_neg (not_not_intro h4), if_neg (not_not_intro h5), if_pos h6]
theorem be7 (h : ¬ arityM b.kind < 0) (h2 : ((b.args.length : Nat) : Int) = arityM b.kind) {M : Nat} (hM : mostM np nb b.kind = M) (h3 : firstErr (b.args.map (outE M)) = 0) {vu cu : Bool} (hv : valU b.kind = vu) (h4 : scalE b.vn b.ve vu = 0) (hc : clipU b.kind = cu)
    (h5 : scalE b.un b.ue cu = 0) (h6 : ¬ (cu = true ∧ 0 < scCmp b.vn b.ve b.un b.ue)) : blkErr np nb b = 0 := by
  subst hM hv hc; unfold blkErr; rw [if_neg h, if_neg (not_not_intro h2), if_neg (not_not_intro h3), if_neg (not_not_intro h4), if_neg (not_not_intro h5), if_neg h6]
end
theorem scOk_of {n e : Int} (h : scalE n e true = 0) : scOk n e := by
  unfold scalE at h
  rw [if_pos rfl] at h
  by_cases hs : scOk n e
  · exact hs
  · rw [if_neg hs] at h; cases h
theorem out_hit {args : List Int} {M t : Nat} {z : Int} (hz : args[t]? = some z) (hb : ¬ (0 ≤ z ∧ z < (M : Int))) (hf : firstErr ((args.map (outE M)).take t) = 0) : ¬ firstErr (args.map (outE M)) = 0 := by
  rw [fe_hit (k := t) (e := 10) (by rw [List.getElem?_map, hz]; exact congrArg some (if_neg hb)) (by decide) hf]
  decide
theorem out_step {args : List Int} {M t : Nat} {z : Int} (hz : args[t]? = some z) (hb : 0 ≤ z ∧ z < (M : Int)) (hf : firstErr ((args.map (outE M)).take t) = 0) : firstErr ((args.map (outE M)).take (t + 1)) = 0 :=
  fe_step (by rw [List.getElem?_map, hz]; exact congrArg some (if_pos hb)) hf
/-- What goes on while only new memory is made. -/
structure KP (W : World) (m : Nat) (w : World) : Prop where
  is : Below m W w
  fits : m ≤ w.heap.size
theorem KP.drew {W w : World} {m : Nat} (h : KP W m w) : KP W m w.drew := ⟨h.is.drew, h.fits⟩
theorem KP.call {W w w' : World} {m : Nat} (h : KP W m w) (hb : Below w.heap.size w w') : KP W m w' := ⟨h.is.trans (hb.mono h.fits), Nat.le_trans h.fits hb.size⟩
theorem KP.all {W w : World} {m : Nat} (h : KP W m w) : (∀ b o, b < m → w.cell? ⟨b, o, none⟩ = W.cell? ⟨b, o, none⟩) ∧ KP W m w := ⟨fun _ _ hb => h.is.cell hb, h⟩
def argRel (args : List Int) (M : Nat) (W : World) (i : Value) (wr : World) : Prop := ∃ t : Nat, t ≤ args.length ∧ i = .int .i64 (t : Int) ∧ firstErr ((args.map (outE M)).take t) = 0 ∧ wr = W
end Go.Proofs.YtjlocofimlgaoaaDoor
