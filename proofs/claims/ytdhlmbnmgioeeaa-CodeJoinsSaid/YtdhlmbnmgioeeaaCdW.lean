/- The plain laws behind CodeJoins: parts of a program. No conditions. -/
import Derived.Test.YtdhlmbnmgioeeaaCdT
namespace Go.Proofs.Ytdhlmbnmgioeeaa
set_option linter.unusedVariables false
set_option linter.unusedSimpArgs false
set_option linter.unusedSectionVars false
open Go.RowKit

theorem flat_take_drop {α : Type} (f : α → List Value) (l : List α) (k : Nat) : flat f l = flat f (l.take k) ++ flat f (l.drop k) := by
  unfold flat
  rw [← List.flatten_append, ← List.map_append, List.take_append_drop]
theorem CellsAt.take_ {α : Type} {w : World} {m : Nat} {A : Option Addr} {f : α → List Value} {l : List α} (h : CellsAt w m A (flat f l)) (k : Nat) : CellsAt w m A (flat f (l.take k)) := fun hx => by
  have e := flat_take_drop f l k
  obtain ⟨b, off, hA, hbm, hbs, hc⟩ := h (fun h0 => hx (by rw [h0] at e; simpa using (List.append_eq_nil_iff.1 e.symm).1))
  refine ⟨b, off, hA, hbm, hbs, fun j u hu => hc j u ?_⟩
  rw [e, List.getElem?_append_left (List.getElem?_eq_some_iff.1 hu).1]
  exact hu
theorem CellsAt.drop_ {α : Type} {w : World} {m c s : Nat} {A : Option Addr} {f : α → List Value} {l : List α} (h : CellsAt w m A (flat f l)) (hf : ∀ x, (f x).length = s) (k : Nat) (hk : k ≤ l.length) (hc : l.length ≤ c) :
    CellsAt w m (if c = k then A else Option.map (fun x => x.add (k * s)) A) (flat f (l.drop k)) := fun hx => by
  have e := flat_take_drop f l k
  have hkl : k < l.length := by
    rcases Nat.lt_or_ge k l.length with h' | h'
    · exact h'
    · rw [List.drop_eq_nil_of_le h'] at hx
      simp [flat] at hx
  obtain ⟨b, off, hA, hbm, hbs, hcc⟩ := h (fun h0 => hx (by rw [h0] at e; exact (List.append_eq_nil_iff.1 e.symm).2))
  rw [if_neg (by omega), hA]
  refine ⟨b, off + k * s, by simp [Go.WideShapes.add_plain], hbm, hbs, fun j u hu => ?_⟩
  rw [Nat.add_assoc]
  refine hcc (k * s + j) u ?_
  have hl : (flat f (l.take k)).length = k * s := by rw [flat_len hf, List.length_take, Nat.min_eq_left hk]
  rw [e, List.getElem?_append_right (by omega), hl, Nat.add_sub_cancel_left]
  exact hu
theorem Blk.set_other {w : World} {b b' j t : Nat} {vs : List Value} (h : Blk w b vs t) (hb : b ≠ b') (u : Value) : Blk (w.setCell ⟨b', j, none⟩ u) b vs t := by
  unfold Blk at h ⊢
  rw [heap_setCell_other _ ⟨b', j, none⟩ b _ (by simp; omega)]
  exact h
theorem Blk.box {w : World} {b t : Nat} {vs : List Value} (h : Blk w b vs t) : BoxAt w b vs := ⟨h.lt, fun j u hu => (h.cell j).trans hu⟩
theorem prog_part {ps : List Prt} {is : List Int} {xs ys : List Ins} {os : List Int} (h : progErr ps is xs os = 0) (hs : ∀ x ∈ ys, x ∈ xs) (hl : ys.length ≤ xs.length) : progErr ps is ys os = 0 := by
  unfold progErr at h ⊢
  obtain ⟨h1, h2⟩ := ite_zero h (by decide)
  rw [if_neg (by omega)]
  have hz := firstErr_zero h2
  refine firstErr_of (fun x hx => ?_)
  simp only [List.mem_append, List.mem_map] at hx
  rcases hx with ⟨p, hp, rfl⟩ | ⟨n, hn, rfl⟩ | ⟨y, hy, rfl⟩ | ⟨o, ho, rfl⟩
  · exact hz _ (by simp only [List.mem_append, List.mem_map]; exact .inl ⟨p, hp, rfl⟩)
  · exact hz _ (by simp only [List.mem_append, List.mem_map]; exact .inr (.inl ⟨n, hn, rfl⟩))
  · exact hz _ (by simp only [List.mem_append, List.mem_map]; exact .inr (.inr (.inl ⟨y, hs y hy, rfl⟩)))
  · exact hz _ (by simp only [List.mem_append, List.mem_map]; exact .inr (.inr (.inr ⟨o, ho, rfl⟩)))
/-- The three runs of the law. -/
theorem join_runs {ps : List Prt} {is : List Int} {xs : List Ins} {os : List Int} (xc xi : List Int) (k : Nat) (h : progErr ps is xs os = 0) :
    ∃ (c0 cF c1 oF o1 : List Int) (a b : Bool), c0.length = is.length ∧ cF.length = is.length ∧ c1.length = is.length ∧ oF.length = os.length ∧
      runErr ps is xs os (fitC xc is.length) (fitI ps xi ps.length) = 0 ∧ runM ps is xs os (fitC xc is.length) (fitI ps xi ps.length) = ⟨cF, oF, (a || b)⟩ ∧
      runErr ps is (xs.take k) os (fitC xc is.length) (fitI ps xi ps.length) = 0 ∧ runM ps is (xs.take k) os (fitC xc is.length) (fitI ps xi ps.length) = ⟨c1, o1, a⟩ ∧
      runErr ps is (xs.drop k) os c1 (fitI ps xi ps.length) = 0 ∧ runM ps is (xs.drop k) os c1 (fitI ps xi ps.length) = ⟨cF, oF, b⟩ ∧ o1.length = os.length := by
  have ht := prog_part h (ys := xs.take k) (fun x hx => List.mem_of_mem_take hx) (by rw [List.length_take]; omega)
  have hd := prog_part h (ys := xs.drop k) (fun x hx => List.mem_of_mem_drop hx) (by simp)
  have e0 := fit_noerr xc xi h
  have e1 := fit_noerr xc xi ht
  have hc1 : (runR (fitI ps xi ps.length) (xs.take k) (fitC xc is.length, false)).1.length = is.length := by rw [runR_len, fitC_len]
  have e2 := run_noerr (cs := (runR (fitI ps xi ps.length) (xs.take k) (fitC xc is.length, false)).1) (inn := fitI ps xi ps.length) hd hc1 (runR_short _ _ _ (fit_short _ _)) (fitI_len _ _ _) (zip_fit ps xi (fun p hp => ((pOk h).port p hp).2.2.1))
  obtain ⟨h1, h2⟩ := runR_over (fitI ps xi ps.length) (xs.drop k) (runR (fitI ps xi ps.length) (xs.take k) (fitC xc is.length, false)).1 (runR (fitI ps xi ps.length) (xs.take k) (fitC xc is.length, false)).2
  have hj := runR_append (fitI ps xi ps.length) (xs.take k) (xs.drop k) (fitC xc is.length, false)
  rw [List.take_append_drop] at hj
  have j1 : (runR (fitI ps xi ps.length) xs (fitC xc is.length, false)).1 = (runR (fitI ps xi ps.length) (xs.drop k) ((runR (fitI ps xi ps.length) (xs.take k) (fitC xc is.length, false)).1, false)).1 := by rw [hj]; exact h1
  have j2 : (runR (fitI ps xi ps.length) xs (fitC xc is.length, false)).2 = ((runR (fitI ps xi ps.length) (xs.take k) (fitC xc is.length, false)).2 || (runR (fitI ps xi ps.length) (xs.drop k) ((runR (fitI ps xi ps.length) (xs.take k) (fitC xc is.length, false)).1, false)).2) := by rw [hj]; exact h2
  refine ⟨fitC xc is.length, (runR (fitI ps xi ps.length) xs (fitC xc is.length, false)).1, (runR (fitI ps xi ps.length) (xs.take k) (fitC xc is.length, false)).1, outsOf (runR (fitI ps xi ps.length) xs (fitC xc is.length, false)).1 os, outsOf (runR (fitI ps xi ps.length) (xs.take k) (fitC xc is.length, false)).1 os, (runR (fitI ps xi ps.length) (xs.take k) (fitC xc is.length, false)).2, (runR (fitI ps xi ps.length) (xs.drop k) ((runR (fitI ps xi ps.length) (xs.take k) (fitC xc is.length, false)).1, false)).2, fitC_len _ _, by rw [runR_len, fitC_len], hc1, outs_len _ _, e0, ?_, e1, runM_ok e1, e2, ?_, outs_len _ _⟩
  · rw [runM_ok e0, j2]
  · rw [runM_ok e2, j1]
end Go.Proofs.Ytdhlmbnmgioeeaa
