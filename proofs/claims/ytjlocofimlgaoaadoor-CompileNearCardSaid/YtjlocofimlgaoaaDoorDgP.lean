/- What is wrong with a block, as plain data. No conditions. What is wrong with a diagram, as plain data. No conditions. -/
import Derived.Test.YtjlocofimlgaoaaDoorDgE
import Derived.Test.YtjlocofimlgaoaaDoorDgG
import Derived.Test.YtjlocofimlgaoaaDoorDgL
namespace Go.Proofs.YtjlocofimlgaoaaDoor
set_option linter.unusedVariables false
set_option linter.unusedSimpArgs false
set_option linter.unusedSectionVars false
open Go.RowKit

def outE (n : Nat) (a : Int) : Int := if 0 ≤ a ∧ a < (n : Int) then 0 else 10
def clipU (k : Int) : Bool := k == 11
def valU (k : Int) : Bool := k == 11 || k == 1 || k == 2 || k == 6
def mostM (np nb : Nat) (k : Int) : Nat := if k = 0 then np else nb
def blkErr (np nb : Nat) (b : Bk) : Int :=
  if arityM b.kind < 0 then 7 else if ¬ ((b.args.length : Nat) : Int) = arityM b.kind then 11 else if ¬ firstErr (b.args.map (outE (mostM np nb b.kind))) = 0 then 10
  else if ¬ scalE b.vn b.ve (valU b.kind) = 0 then scalE b.vn b.ve (valU b.kind) else if ¬ scalE b.un b.ue (clipU b.kind) = 0 then scalE b.un b.ue (clipU b.kind)
  else if clipU b.kind = true ∧ 0 < scCmp b.vn b.ve b.un b.ue then 26 else 0
section
variable {np nb : Nat} {b : Bk}
theorem be1 (h : arityM b.kind < 0) : blkErr np nb b = 7 := if_pos h
theorem be2 (h : ¬ arityM b.kind < 0) (h2 : ¬ ((b.args.length : Nat) : Int) = arityM b.kind) : blkErr np nb b = 11 := by unfold blkErr; rw [if_neg h, if_pos h2]
theorem be3 (h : ¬ arityM b.kind < 0) (h2 : ((b.args.length : Nat) : Int) = arityM b.kind) {M : Nat} (hM : mostM np nb b.kind = M) (h3 : ¬ firstErr (b.args.map (outE M)) = 0) : blkErr np nb b = 10 := by
  subst hM; unfold blkErr; rw [if_neg h, if_neg (not_not_intro h2), if_pos h3]
theorem be4 (h : ¬ arityM b.kind < 0) (h2 : ((b.args.length : Nat) : Int) = arityM b.kind) {M : Nat} (hM : mostM np nb b.kind = M) (h3 : firstErr (b.args.map (outE M)) = 0) {vu : Bool} (hv : valU b.kind = vu) (h4 : ¬ scalE b.vn b.ve vu = 0) : blkErr np nb b = scalE b.vn b.ve vu := by
  subst hM hv; unfold blkErr; rw [if_neg h, if_neg (not_not_intro h2), if_neg (not_not_intro h3), if_pos h4]
theorem be5 (h : ¬ arityM b.kind < 0) (h2 : ((b.args.length : Nat) : Int) = arityM b.kind) {M : Nat} (hM : mostM np nb b.kind = M) (h3 : firstErr (b.args.map (outE M)) = 0) {vu cu : Bool} (hv : valU b.kind = vu) (h4 : scalE b.vn b.ve vu = 0) (hc : clipU b.kind = cu)
    (h5 : ¬ scalE b.un b.ue cu = 0) : blkErr np nb b = scalE b.un b.ue cu := by
  subst hM hv hc; unfold blkErr; rw [if_neg h, if_neg (not_not_intro h2), if_neg (not_not_intro h3), if_neg (not_not_intro h4), if_pos h5]
theorem be6 (h : ¬ arityM b.kind < 0) (h2 : ((b.args.length : Nat) : Int) = arityM b.kind) {M : Nat} (hM : mostM np nb b.kind = M) (h3 : firstErr (b.args.map (outE M)) = 0) {vu cu : Bool} (hv : valU b.kind = vu) (h4 : scalE b.vn b.ve vu = 0) (hc : clipU b.kind = cu)
    (h5 : scalE b.un b.ue cu = 0) (h6 : cu = true ∧ 0 < scCmp b.vn b.ve b.un b.ue) : blkErr np nb b = 26 := by
  subst hM hv hc; unfold blkErr; rw [if_neg h, if_neg (not_not_intro h2), if_neg (not_not_intro h3), if_neg (not_not_intro h4), if_neg (not_not_intro h5), if_pos h6]
theorem be7 (h : ¬ arityM b.kind < 0) (h2 : ((b.args.length : Nat) : Int) = arityM b.kind) {M : Nat} (hM : mostM np nb b.kind = M) (h3 : firstErr (b.args.map (outE M)) = 0) {vu cu : Bool} (hv : valU b.kind = vu) (h4 : scalE b.vn b.ve vu = 0) (hc : clipU b.kind = cu)
    (h5 : scalE b.un b.ue cu = 0) (h6 : ¬ (cu = true ∧ 0 < scCmp b.vn b.ve b.un b.ue)) : blkErr np nb b = 0 := by
  subst hM hv hc; unfold blkErr; rw [if_neg h, if_neg (not_not_intro h2), if_neg (not_not_intro h3), if_neg (not_not_intro h4), if_neg (not_not_intro h5), if_neg h6]
end
theorem scOk_of {n e : Int} (h : scalE n e true = 0) : scOk n e := by
  unfold scalE at h
  rw [if_pos rfl] at h
  by_cases hs : scOk n e
  · exact hs
  · rw [if_neg hs] at h; cases h
theorem out_hit {args : List Int} {M t : Nat} {z : Int} (hz : args[t]? = some z) (hb : ¬ (0 ≤ z ∧ z < (M : Int))) (hf : firstErr ((args.map (outE M)).take t) = 0) : ¬ firstErr (args.map (outE M)) = 0 := by
  rw [fe_hit (k := t) (e := 10) (by rw [List.getElem?_map, hz]; exact congrArg some (if_neg hb)) (by decide) hf]
  decide
theorem out_step {args : List Int} {M t : Nat} {z : Int} (hz : args[t]? = some z) (hb : 0 ≤ z ∧ z < (M : Int)) (hf : firstErr ((args.map (outE M)).take t) = 0) : firstErr ((args.map (outE M)).take (t + 1)) = 0 :=
  fe_step (by rw [List.getElem?_map, hz]; exact congrArg some (if_pos hb)) hf
/-- What goes on while only new memory is made. -/
structure KP (W : World) (m : Nat) (w : World) : Prop where
  is : Below m W w
  fits : m ≤ w.heap.size
theorem KP.drew {W w : World} {m : Nat} (h : KP W m w) : KP W m w.drew := ⟨h.is.drew, h.fits⟩
theorem KP.call {W w w' : World} {m : Nat} (h : KP W m w) (hb : Below w.heap.size w w') : KP W m w' := ⟨h.is.trans (hb.mono h.fits), Nat.le_trans h.fits hb.size⟩
theorem KP.all {W w : World} {m : Nat} (h : KP W m w) : (∀ b o, b < m → w.cell? ⟨b, o, none⟩ = W.cell? ⟨b, o, none⟩) ∧ KP W m w := ⟨fun _ _ hb => h.is.cell hb, h⟩
def argRel (args : List Int) (M : Nat) (W : World) (i : Value) (wr : World) : Prop := ∃ t : Nat, t ≤ args.length ∧ i = .int .i64 (t : Int) ∧ firstErr ((args.map (outE M)).take t) = 0 ∧ wr = W
end Go.Proofs.YtjlocofimlgaoaaDoor
namespace Go.Proofs.YtjlocofimlgaoaaDoor
set_option linter.unusedVariables false
set_option linter.unusedSimpArgs false
set_option linter.unusedSectionVars false
open Go.RowKit

def portE (p : Prt) : Int := if -2147483648 ≤ p.lo ∧ p.lo ≤ p.hi ∧ p.hi < 2147483648 ∧ 0 ≤ p.fr ∧ p.fr ≤ 30 then 0 else 3
def sizeOk (ps : List Prt) (bs : List Bk) (os : List Int) : Prop := ps.length ≤ 16 ∧ bs.length ≤ 64 ∧ os.length ≤ 16
def preErr (ps : List Prt) (bs : List Bk) (os : List Int) : Int := firstErr (ps.map portE ++ (bs.map (blkErr ps.length bs.length) ++ os.map (outE bs.length)))
instance (ps : List Prt) (bs : List Bk) (os : List Int) : Decidable (sizeOk ps bs os) := by unfold sizeOk; infer_instance
def dgErr (ps : List Prt) (bs : List Bk) (os : List Int) : Int := if ¬ sizeOk ps bs os then 4 else if ¬ preErr ps bs os = 0 then preErr ps bs os else ordErr bs
theorem firstErr_zero {l : List Int} (h : firstErr l = 0) : ∀ x ∈ l, x = 0 := by
  induction l with
  | nil => simp
  | cons y l ih =>
    unfold firstErr at h
    by_cases hy : y = 0
    · rw [if_pos hy] at h
      intro x hx
      rcases List.mem_cons.1 hx with rfl | hx
      · exact hy
      · exact ih h x hx
    · rw [if_neg hy] at h
      exact absurd h hy
theorem blk_args {np nb : Nat} {b : Bk} (h : blkErr np nb b = 0) : 0 ≤ arityM b.kind ∧ ((b.args.length : Nat) : Int) = arityM b.kind ∧ ∀ a ∈ b.args, 0 ≤ a ∧ a < (mostM np nb b.kind : Int) := by
  unfold blkErr at h
  by_cases h1 : arityM b.kind < 0
  · rw [if_pos h1] at h; cases h
  · rw [if_neg h1] at h
    by_cases h2 : ¬ ((b.args.length : Nat) : Int) = arityM b.kind
    · rw [if_pos h2] at h; cases h
    · rw [if_neg h2] at h
      by_cases h3 : ¬ firstErr (b.args.map (outE (mostM np nb b.kind))) = 0
      · rw [if_pos h3] at h; cases h
      · refine ⟨by omega, Decidable.of_not_not h2, fun a ha => ?_⟩
        have := firstErr_zero (Decidable.of_not_not h3) (outE (mostM np nb b.kind) a) (List.mem_map_of_mem ha)
        unfold outE at this
        by_cases h4 : 0 ≤ a ∧ a < (mostM np nb b.kind : Int)
        · exact h4
        · rw [if_neg h4] at this; cases this
theorem succ_ok {np : Nat} {bs : List Bk} (h : firstErr (bs.map (blkErr np bs.length)) = 0) : SuccOk bs := by
  intro i hi a ha
  have hx := List.getElem?_eq_getElem hi
  rw [preds_of hx] at ha
  by_cases hk : bs[i].kind = 0
  · rw [if_pos hk] at ha; cases ha
  · rw [if_neg hk] at ha
    have h0 := firstErr_zero h (blkErr np bs.length bs[i]) (List.mem_map_of_mem (List.getElem_mem hi))
    have := (blk_args h0).2.2 a ha
    unfold mostM at this
    rw [if_neg hk] at this
    exact this
section
variable {ps : List Prt} {bs : List Bk} {os : List Int}
theorem de0 (h : ¬ sizeOk ps bs os) : dgErr ps bs os = 4 := if_pos h
theorem de1 (h : sizeOk ps bs os) {e : Int} (h2 : preErr ps bs os = e) (h3 : ¬ e = 0) : dgErr ps bs os = e := by subst h2; unfold dgErr; rw [if_neg (not_not_intro h), if_pos h3]
theorem de2 (h : sizeOk ps bs os) (h2 : preErr ps bs os = 0) : dgErr ps bs os = ordErr bs := by unfold dgErr; rw [if_neg (not_not_intro h), if_neg (not_not_intro h2)]
theorem pe1 {k : Nat} {p : Prt} {e : Int} (hp : ps[k]? = some p) (he : portE p = e) (h0 : ¬ e = 0) (hf : firstErr ((ps.map portE).take k) = 0) : preErr ps bs os = e :=
  fe_mid (pre := []) (k := k) rfl (by rw [List.getElem?_map, hp]; exact congrArg some he) h0 hf
theorem pe2 {k : Nat} {b : Bk} {e : Int} (h1 : firstErr (ps.map portE) = 0) (hp : bs[k]? = some b) (he : blkErr ps.length bs.length b = e) (h0 : ¬ e = 0) (hf : firstErr ((bs.map (blkErr ps.length bs.length)).take k) = 0) : preErr ps bs os = e :=
  fe_mid h1 (k := k) (by rw [List.getElem?_map, hp]; exact congrArg some he) h0 hf
theorem pe3 {k : Nat} {o : Int} {e : Int} (h1 : firstErr (ps.map portE) = 0) (h2 : firstErr (bs.map (blkErr ps.length bs.length)) = 0) (hp : os[k]? = some o) (he : outE bs.length o = e) (h0 : ¬ e = 0) (hf : firstErr ((os.map (outE bs.length)).take k) = 0) : preErr ps bs os = e := by
  unfold preErr
  rw [firstErr_append, if_pos h1, firstErr_append, if_pos h2]
  exact fe_hit (k := k) (by rw [List.getElem?_map, hp]; exact congrArg some he) h0 hf
theorem pe4 (h1 : firstErr (ps.map portE) = 0) (h2 : firstErr (bs.map (blkErr ps.length bs.length)) = 0) (h3 : firstErr (os.map (outE bs.length)) = 0) : preErr ps bs os = 0 := by
  unfold preErr
  rw [firstErr_append, if_pos h1, firstErr_append, if_pos h2, h3]
theorem fs1 {α : Type} {l : List α} {f : α → Int} {k : Nat} {x : α} (hx : l[k]? = some x) (he : f x = 0) (hf : firstErr ((l.map f).take k) = 0) : firstErr ((l.map f).take (k + 1)) = 0 := fe_step (by rw [List.getElem?_map, hx]; exact congrArg some he) hf
end
/-- Where one of a check's loops stands. -/
def cqRel (w : World) (vs : List Value) (es : List Int) (i : Value) (wr : World) : Prop :=
  ∃ k : Nat, k ≤ es.length ∧ i = .int .i64 (k : Int) ∧ firstErr (es.take k) = 0 ∧ RowD wr w.heap.size vs 46 ∧ Below w.heap.size w wr
end Go.Proofs.YtjlocofimlgaoaaDoor
