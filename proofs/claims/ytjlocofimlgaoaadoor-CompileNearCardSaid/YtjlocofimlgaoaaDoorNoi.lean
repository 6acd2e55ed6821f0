/- A statement whose order is left open, with calls that make memory and blocks that are made beside them: one walk in the text's order serves every order. No conditions. -/
import Derived.Test.YtjlocofimlgaoaaDoorCut
namespace Go.Proofs.YtjlocofimlgaoaaDoor
set_option linter.unusedVariables false
set_option linter.unusedSimpArgs false
set_option linter.unusedSectionVars false
open Go.RowKit

/-- Memory may have been added. -/
def MoreW (w w' : World) : Prop := Below w.heap.size w w'
theorem MoreW.refl (w : World) : MoreW w w := Below.refl _ _
theorem MoreW.trans {a b c : World} (h : MoreW a b) (k : MoreW b c) : MoreW a c := Below.trans h (k.mono h.size)
theorem MoreW.alloc (w : World) (o : Obj) : MoreW w (w.alloc o) := (Below.refl _ w).alloc (Nat.le_refl _) o
theorem MoreW.heap {w w' : World} {g : Nat} {o : Obj} (h : MoreW w w') (hg : w.heap[g]? = some o) : w'.heap[g]? = some o :=
  (h.block g (Array.getElem?_eq_some_iff.1 hg).1).trans hg
/-- Memory may have been added, and the blocks of U may have been written. -/
structure GrowU (U : Nat → Prop) (w w' : World) : Prop where
  os : w'.os = w.os
  tape : w'.tape = w.tape
  output : w'.output = w.output
  size : w.heap.size ≤ w'.heap.size
  block : ∀ k, k < w.heap.size → ¬ U k → w'.heap[k]? = w.heap[k]?
theorem GrowU.refl (U : Nat → Prop) (w : World) : GrowU U w w := ⟨rfl, rfl, rfl, Nat.le_refl _, fun _ _ _ => rfl⟩
theorem MoreW.growU {U : Nat → Prop} {w w' : World} (h : MoreW w w') : GrowU U w w' := ⟨h.os, h.tape, h.output, h.size, fun k hk _ => h.block k hk⟩
theorem GrowU.more {U : Nat → Prop} {a b c : World} (h : MoreW a b) (k : GrowU U b c) : GrowU U a c :=
  ⟨k.os.trans h.os, k.tape.trans h.tape, k.output.trans h.output, Nat.le_trans h.size k.size, fun i hi hu => (k.block i (Nat.lt_of_lt_of_le hi h.size) hu).trans (h.block i hi)⟩
theorem GrowU.then_ {U U' : Nat → Prop} {a b c : World} (h : GrowU U a b) (k : GrowU U' b c) (hU : ∀ i, i < a.heap.size → U' i → U i) : GrowU U a c :=
  ⟨k.os.trans h.os, k.tape.trans h.tape, k.output.trans h.output, Nat.le_trans h.size k.size, fun i hi hu => (k.block i (Nat.lt_of_lt_of_le hi h.size) (fun hc => hu (hU i hi hc))).trans (h.block i hi hu)⟩
theorem GrowU.weak {U U' : Nat → Prop} {a b : World} (h : GrowU U a b) (hU : ∀ i, U i → U' i) : GrowU U' a b := ⟨h.os, h.tape, h.output, h.size, fun i hi hu => h.block i hi (fun hc => hu (hU i hc))⟩
theorem GrowU.heap {U : Nat → Prop} {w w' : World} {g : Nat} {o : Obj} (h : GrowU U w w') (hU : ¬ U g) (hg : w.heap[g]? = some o) : w'.heap[g]? = some o :=
  (h.block g (Array.getElem?_eq_some_iff.1 hg).1 hU).trans hg
theorem GrowU.below {U : Nat → Prop} {w w' : World} {B : Nat} (h : GrowU U w w') (hU : ∀ b, U b → B ≤ b) (hB : B ≤ w.heap.size) : Below B w w' :=
  ⟨h.os, h.tape, h.output, h.size, fun k hk => h.block k (Nat.lt_of_lt_of_le hk hB) (fun hc => by have := hU k hc; omega)⟩
theorem GrowU.more0 {w w' : World} (h : GrowU (fun _ => False) w w') : MoreW w w' := h.below (fun _ hb => hb.elim) (Nat.le_refl _)

section
variable {P : Program} {ops : Array Oper} {Q : Exit → Act → World → Prop} {md : Region.Mode}

/-- Whatever order is picked from here on, memory being added from outside ahead of each operation. U: the blocks made on the way. -/
def wpE (P : Program) (md : Region.Mode) (ops : Array Oper) (Q : Exit → Act → World → Prop) (T : (Nat → Prop) → Act → World → Prop) : Nat → Array Bool → (Nat → Prop) → Act → World → Prop
  | 0, l, U, a, w => Region.ready md ops l = [] ∧ ∀ w', MoreW w w' → T U a w'
  | f + 1, l, U, a, w => ∀ w', MoreW w w' → (Region.ready md ops l = [] → T U a w') ∧
    ∀ j ∈ Region.ready md ops l, wpOp P ops Q j (fun a2 w2 => GrowU U w' w2 ∧ wpE P md ops Q T f (l.setIfInBounds j true) (fun b => U b ∨ (w'.heap.size ≤ b ∧ b < w2.heap.size)) a2 w2) a w'
variable {T : (Nat → Prop) → Act → World → Prop}
theorem wpE.ext {w w' : World} {l : Array Bool} {U : Nat → Prop} {a : Act} : ∀ {f : Nat}, wpE P md ops Q T f l U a w → MoreW w w' → wpE P md ops Q T f l U a w'
  | 0, h, he => ⟨h.1, fun w2 h2 => h.2 w2 (he.trans h2)⟩
  | _ + 1, h, he => fun w2 h2 => h w2 (he.trans h2)
theorem wpAny_of_E : ∀ (f : Nat) (l : Array Bool) (U : Nat → Prop) (a : Act) (w : World), wpE P md ops Q (fun _ a w => Q .normal a w) f l U a w → wpAny P md ops Q f l a w
  | 0, _, _, _, _, h => ⟨h.1, h.2 _ (MoreW.refl _)⟩
  | f + 1, _, _, _, w, h => ⟨(h w (MoreW.refl w)).1, fun i hi => wpOp_mono (fun a' w' h' => wpAny_of_E f _ _ a' w' h'.2) ((h w (MoreW.refl w)).2 i hi)⟩

/-- One operation, apart from oi: it does the same where oi's value is in its temporary already. -/
theorem wpOp_onto {j : Nat} {oi oj : Oper} {v : Value} (hj : ops[j]? = some oj) (hap : oi.apart ops oj = true) (hsj : ∀ cs b, oj.op ≠ .select cs b)
    (hQ : ∀ c a w, Q (.panic c) a w → Q (.panic c) (a.put oi.dst v) w) {K : Act → World → Prop} {a : Act} {w : World} (h : wpOp P ops Q j K a w) :
    wpOp P ops Q j (fun a' w' => ∃ a0, a' = a0.put oi.dst v ∧ K a0 w') (a.put oi.dst v) w := by
  obtain ⟨h1, h2, h3⟩ := Oper.apart_spec hap
  unfold wpOp at *
  simp only [hj] at *
  rw [wanted_put oj a oi.dst v h1]
  split
  · rename_i hw
    simp only [hw, if_true] at h
    rcases h with h | ⟨hasks, hlets⟩
    case inr => exact .inr ⟨by unfold Oper.asks at *; rw [execOp_put oj hsj a oi.dst v h1]; exact hasks, hlets⟩
    refine .inl ?_
    unfold Oper.wp at *
    rw [execOp_put oj hsj a oi.dst v h1]
    generalize (execOp a.eval oj).run P w = r at *
    cases r with
    | ok n w' =>
      cases n <;> simp only [Oper.upon] at h ⊢
      case value u => exact ⟨_, Act.put_comm a v u h2, h⟩
      case skip => exact ⟨_, Act.put_comm a v undef h2, h⟩
      case defer d => exact ⟨_, by rw [Act.put_defers, Act.put_comm _ v undef h2], h⟩
      case enter f args =>
        refine Calls.mono h fun e w'' he => ?_
        cases e with
        | returned u => exact ⟨_, Act.put_comm a v u h2, he⟩
        | panicked c => exact hQ _ _ _ he
        | outgrown => exact he
      case row row args => exact Rows.mono h fun u w'' he => ⟨_, Act.put_comm a v u h2, he⟩
    | halt x w' =>
      cases x <;> simp only [Oper.upon] at h ⊢
      case panic u => exact hQ _ _ _ h
  · rename_i hw
    simp only [hw] at h
    exact ⟨_, Act.put_comm a v undef h2, h⟩
/-- What an operation that makes one block does. -/
def Makes (P : Program) (ops : Array Oper) (oi : Oper) (mk : Nat → Value) (o : Obj) (a : Act) : Prop :=
  Region.wanted oi (yielded ops a.tmps) = true ∧ ∀ w, (execOp a.eval oi).run P w = .ok (.value (mk w.heap.size)) (w.alloc o)
/-- One operation, apart from oi, leaves what oi makes as it is. -/
theorem wpOp_keep {j : Nat} {oi oj : Oper} {mk : Nat → Value} {o : Obj} (hj : ops[j]? = some oj) (hap : oi.apart ops oj = true) (hsi : ∀ cs b, oi.op ≠ .select cs b)
    {K : Act → World → Prop} {a : Act} {w : World} (hy : Makes P ops oi mk o a) (h : wpOp P ops Q j K a w) :
    wpOp P ops Q j (fun a' w' => Makes P ops oi mk o a' ∧ K a' w') a w := by
  obtain ⟨h1, h2, h3⟩ := Oper.apart_spec hap
  have same : ∀ a', execOp a'.eval oi = execOp a.eval oi → Region.wanted oi (yielded ops a'.tmps) = Region.wanted oi (yielded ops a.tmps) → Makes P ops oi mk o a' := fun a' he hw => by
    unfold Makes at *
    rw [he, hw]
    exact hy
  have keep : ∀ u, Makes P ops oi mk o (a.put oj.dst u) := fun u => same _ (execOp_put oi hsi a oj.dst u h3) (wanted_put oi a oj.dst u h3)
  have keepD : ∀ d u, Makes P ops oi mk o (({ a with defers := d :: a.defers } : Act).put oj.dst u) := fun d u =>
    same _ (execOp_put oi hsi ({ a with defers := d :: a.defers } : Act) oj.dst u h3) (wanted_put oi ({ a with defers := d :: a.defers } : Act) oj.dst u h3)
  unfold wpOp at *
  simp only [hj] at *
  split
  · rename_i hw
    simp only [hw, if_true] at h
    rcases h with h | h
    case inr => exact .inr h
    refine .inl ?_
    unfold Oper.wp at *
    generalize (execOp a.eval oj).run P w = r at *
    cases r with
    | ok n w' =>
      cases n <;> simp only [Oper.upon] at h ⊢
      case value u => exact ⟨keep u, h⟩
      case skip => exact ⟨keep _, h⟩
      case defer d => exact ⟨keepD d _, h⟩
      case enter f args =>
        refine Calls.mono h fun e w'' he => ?_
        cases e with
        | returned u => exact ⟨keep u, he⟩
        | panicked c => exact he
        | outgrown => exact he
      case row row args => exact Rows.mono h fun u w'' he => ⟨keep u, he⟩
    | halt x w' => cases x <;> simp only [Oper.upon] at h ⊢ <;> exact h
  · rename_i hw
    simp only [hw] at h
    exact ⟨keep _, h⟩
/-- Nobody who has not come up yet touches what number i touches, nor waits for it. -/
def LoneAt (md : Region.Mode) (ops : Array Oper) (oi : Oper) (i : Nat) (l : Array Bool) : Prop :=
  ∀ j oj, ops[j]? = some oj → j ≠ i → l.getD j true = false → oi.apart ops oj = true
theorem LoneAt.next {oi : Oper} {i j : Nat} {l : Array Bool} (h : LoneAt md ops oi i l) : LoneAt md ops oi i (l.setIfInBounds j true) := fun k ok hk hki hun => by
  by_cases hjk : j = k
  · subst hjk
    refine h j ok hk hki ?_
    rcases Nat.lt_or_ge j l.size with h' | h'
    · simp [h'] at hun
    · rw [show l.setIfInBounds j true = l from by simp [Array.setIfInBounds, Nat.not_lt.2 h']] at hun
      exact hun
  · rw [getD_set_ne true hjk] at hun
    exact h k ok hk hki hun
/-- Where the block has been made. -/
theorem E_after {i g B : Nat} {oi : Oper} {mk : Nat → Value} {o : Obj} (hsel : ∀ (j : Nat) (o : Oper) cs b, ops[j]? = some o → o.op ≠ .select cs b)
    (hQ : ∀ v c a w, Q (.panic c) a w → Q (.panic c) (a.put oi.dst v) w) (hB : B ≤ g) :
    ∀ (f : Nat) (l : Array Bool) (U U' : Nat → Prop) (a : Act) (w : World), LoneAt md ops oi i l → l.getD i true = true → ¬ U g → (∀ b, U' b ↔ U b ∨ b = g) → w.heap[g]? = some o →
      wpE P md ops Q (fun U a w => ∀ g, B ≤ g → ¬ U g → w.heap[g]? = some o → T (fun b => U b ∨ b = g) (a.put oi.dst (mk g)) w) f l U a w →
      wpE P md ops Q T f l U' (a.put oi.dst (mk g)) w
  | 0, l, U, U', a, w, hl, hli, hU, hUU, hg, h => by
    obtain rfl : U' = fun b => U b ∨ b = g := funext fun b => propext (hUU b)
    exact ⟨h.1, fun w' he => h.2 w' he g hB hU (he.heap hg)⟩
  | f + 1, l, U, U', a, w, hl, hli, hU, hUU, hg, h => by
    obtain rfl : U' = fun b => U b ∨ b = g := funext fun b => propext (hUU b)
    intro w' he
    have hg' := he.heap hg
    have hlt : g < w'.heap.size := (Array.getElem?_eq_some_iff.1 hg').1
    refine ⟨fun h0 => (h w' he).1 h0 g hB hU hg', fun j hj => ?_⟩
    obtain ⟨hjun, oj, hoj, hall⟩ := mem_ready.1 hj
    have hji : j ≠ i := fun e => by rw [e, hli] at hjun; cases hjun
    refine wpOp_mono (fun a' w2 h2 => ?_) (wpOp_onto hoj (hl j oj hoj hji hjun) (fun cs b => hsel j oj cs b hoj) (hQ (mk g)) ((h w' he).2 j hj))
    obtain ⟨a0, rfl, hx, hE⟩ := h2
    refine ⟨hx.weak fun _ h => .inl h, E_after hsel hQ hB f _ _ _ a0 w2 hl.next (by rw [getD_set_ne true hji]; exact hli) (fun hc => ?_) (fun b => ?_) (hx.heap hU hg') hE⟩
    · rcases hc with hc | hc
      · exact hU hc
      · omega
    · constructor
      · rintro ((h1 | h1) | h1)
        · exact .inl (.inl h1)
        · exact .inr h1
        · exact .inl (.inr h1)
      · rintro ((h1 | h1) | h1)
        · exact .inl (.inl h1)
        · exact .inr h1
        · exact .inl (.inr h1)
/-- **A block that is made beside the others may be passed over**: at the end it stands somewhere, apart from all that was made on the way. -/
theorem E_make {i B : Nat} {oi : Oper} {mk : Nat → Value} {o : Obj} (hi : ops[i]? = some oi) (hsel : ∀ (j : Nat) (o : Oper) cs b, ops[j]? = some o → o.op ≠ .select cs b)
    (hQ : ∀ v c a w, Q (.panic c) a w → Q (.panic c) (a.put oi.dst v) w) :
    ∀ (f : Nat) (l : Array Bool) (U : Nat → Prop) (a : Act) (w : World), LoneAt md ops oi i l → i ∈ Region.ready md ops l → Makes P ops oi mk o a → B ≤ w.heap.size → (∀ b, U b → b < w.heap.size) →
      wpE P md ops Q (fun U a w => ∀ g, B ≤ g → ¬ U g → w.heap[g]? = some o → T (fun b => U b ∨ b = g) (a.put oi.dst (mk g)) w) f (l.setIfInBounds i true) U a w →
      wpE P md ops Q T (f + 1) l U a w := by
  have mat : ∀ (f : Nat) (l : Array Bool) (U : Nat → Prop) (a : Act) (w w' : World), LoneAt md ops oi i l → i ∈ Region.ready md ops l → Makes P ops oi mk o a → B ≤ w.heap.size → (∀ b, U b → b < w.heap.size) → MoreW w w' →
      wpE P md ops Q (fun U a w => ∀ g, B ≤ g → ¬ U g → w.heap[g]? = some o → T (fun b => U b ∨ b = g) (a.put oi.dst (mk g)) w) f (l.setIfInBounds i true) U a w →
      wpOp P ops Q i (fun a2 w2 => GrowU U w' w2 ∧ wpE P md ops Q T f (l.setIfInBounds i true) (fun b => U b ∨ (w'.heap.size ≤ b ∧ b < w2.heap.size)) a2 w2) a w' := fun f l U a w w' hl hr hy hB hU he H => by
    unfold wpOp
    simp only [hi, hy.1, if_true]
    refine .inl ?_
    unfold Oper.wp
    rw [hy.2 w']
    simp only [Oper.upon]
    have hs := he.size
    have hlt : i < l.size := by
      have h0 := (mem_ready.1 hr).1
      rcases Nat.lt_or_ge i l.size with h' | h'
      · exact h'
      · simp [Array.getElem?_eq_none h'] at h0
    refine ⟨(MoreW.alloc _ _).growU, E_after hsel hQ (Nat.le_trans hB hs) f _ U _ a _ hl.next (by simp [hlt]) (fun hc => by have := hU _ hc; omega) (fun b => ?_) (heap_alloc_new w' o) (H.ext (he.trans (MoreW.alloc _ _)))⟩
    simp only [World.size_alloc]
    constructor
    · rintro (h1 | h1)
      · exact .inl h1
      · exact .inr (by omega)
    · rintro (h1 | h1)
      · exact .inl h1
      · exact .inr (by omega)
  intro f
  induction f with
  | zero =>
    intro l U a w hl hr hy hB hU H w' he
    refine ⟨fun h => (by rw [h] at hr; cases hr), fun j hj => ?_⟩
    by_cases hji : j = i
    · subst hji
      exact mat 0 l U a w w' hl hr hy hB hU he H
    · have := ready_mono hj hji
      rw [H.1] at this
      cases this
  | succ f ih =>
    intro l U a w hl hr hy hB hU H w' he
    refine ⟨fun h => (by rw [h] at hr; cases hr), fun j hj => ?_⟩
    by_cases hji : j = i
    · subst hji
      exact mat (f + 1) l U a w w' hl hr hy hB hU he H
    · obtain ⟨hjun, oj, hoj, hall⟩ := mem_ready.1 hj
      have h1 := (H w' he).2 j (ready_mono hj hji)
      have hs := he.size
      refine wpOp_mono (fun a' w2 h2 => ⟨h2.2.1, ih _ _ a' w2 hl.next (ready_mono hr (Ne.symm hji)) h2.1 (Nat.le_trans hB (Nat.le_trans hs h2.2.1.size)) (fun b hb => ?_) ?_⟩) (wpOp_keep hoj (hl j oj hoj hji hjun) (fun cs b => hsel i oi cs b hi) hy h1)
      · have := h2.2.1.size
        rcases hb with hb | hb
        · have := hU b hb; omega
        · exact hb.2
      · rw [Array.setIfInBounds_comm _ _ hji]
        exact h2.2.2
/-- An operation that yields its value in every world with added memory may be taken first. -/
theorem E_first {i : Nat} {oi : Oper} {v : Value} (hi : ops[i]? = some oi) (hsel : ∀ (j : Nat) (o : Oper) cs b, ops[j]? = some o → o.op ≠ .select cs b)
    (hQ : ∀ c a w, Q (.panic c) (a.put oi.dst v) w → Q (.panic c) a w) :
    ∀ (f : Nat) (l : Array Bool) (U : Nat → Prop) (a : Act) (w : World),
      (∀ j oj, ops[j]? = some oj → j ≠ i → l.getD j true = false → (∀ e ∈ oj.after, Region.binds md e = true → e.on ≠ i) → oi.apart ops oj = true) →
      i ∈ Region.ready md ops l → YieldsIf P ops (GrowU U w) oi v a →
      wpE P md ops Q T f (l.setIfInBounds i true) U (a.put oi.dst v) w → wpE P md ops Q T (f + 1) l U a w := by
  have sameU : ∀ (U : Nat → Prop) (s : Nat), (fun b => U b ∨ (s ≤ b ∧ b < s)) = U := fun U s => funext fun b => propext ⟨fun h => by
    rcases h with h | h
    · exact h
    · omega, .inl⟩
  intro f
  induction f with
  | zero =>
    intro l U a w _ hr hy H w' he
    refine ⟨fun h => (by rw [h] at hr; cases hr), fun j hj => ?_⟩
    by_cases hji : j = i
    · subst hji
      exact hy.wpOp hi he.growU ⟨GrowU.refl _ _, by rw [sameU]; exact H.ext he⟩
    · have := ready_mono hj hji
      rw [H.1] at this
      cases this
  | succ f ih =>
    intro l U a w hfree hr hy H w' he
    refine ⟨fun h => (by rw [h] at hr; cases hr), fun j hj => ?_⟩
    by_cases hji : j = i
    · subst hji
      exact hy.wpOp hi he.growU ⟨GrowU.refl _ _, by rw [sameU]; exact H.ext he⟩
    · have h1 := (H w' he).2 j (ready_mono hj hji)
      obtain ⟨hjun, oj, hoj, hall⟩ := mem_ready.1 hj
      have hnot : ∀ e ∈ oj.after, Region.binds md e = true → e.on ≠ i := fun e he hb heq => by
        have h1 := hall e he hb
        have h0 := (mem_ready.1 hr).1
        rw [heq] at h1
        rcases Nat.lt_or_ge i l.size with h' | h'
        · simp [h'] at h0 h1; rw [h0] at h1; cases h1
        · simp [Array.getElem?_eq_none h'] at h1
      have h2 := wpOp_putIf hoj (hfree j oj hoj hji hjun hnot) (fun cs b => hsel i oi cs b hi) (fun cs b => hsel j oj cs b hoj) hQ hy h1
      have hfree' : ∀ k ok, ops[k]? = some ok → k ≠ i → (l.setIfInBounds j true).getD k true = false →
          (∀ e ∈ ok.after, Region.binds md e = true → e.on ≠ i) → oi.apart ops ok = true := fun k ok hk hki hun hno => by
        refine hfree k ok hk hki ?_ hno
        by_cases hjk : j = k
        · subst hjk; exact hjun
        · rw [getD_set_ne true hjk] at hun; exact hun
      refine wpOp_mono (fun a' w2 h3 => ⟨h3.2.1, ih _ _ a' w2 hfree' (ready_mono hr (Ne.symm hji)) ?_ ?_⟩) h2
      · exact h3.1.imp (fun ⟨x, y⟩ => ⟨x, fun w3 h4 => y w3 ((GrowU.more he h3.2.1).then_ h4 (fun k hk hc => by
          rcases hc with hc | hc
          · exact hc
          · have := he.size
            omega))⟩) id
      · rw [Array.setIfInBounds_comm _ _ hji]
        exact h3.2.2
end
section
variable {P : Program} {l : List Oper} {Q : Exit → Act → World → Prop} {md : Region.Mode} {T : (Nat → Prop) → Act → World → Prop} {listed : Array Bool} {f : Nat} {U : Nat → Prop} {a : Act} {w : World}
def loneB (md : Region.Mode) (ops : Array Oper) (listed : Array Bool) (i : Nat) : Bool :=
  match ops[i]? with
  | none => false
  | some oi => (List.range ops.size).all fun j => j == i || listed.getD j true || match ops[j]? with
      | some oj => oi.apart ops oj
      | none => true
theorem loneB_spec {ops : Array Oper} {i : Nat} {oi : Oper} (hi : ops[i]? = some oi) (h : loneB md ops listed i = true) : LoneAt md ops oi i listed := fun j oj hj hne hun => by
  simp only [loneB, hi, List.all_eq_true, List.mem_range] at h
  have h1 := h j (Array.getElem?_eq_some_iff.1 hj).1
  simpa only [hj, Bool.or_eq_true, beq_iff_eq, hne, false_or, hun, Bool.false_eq_true] using h1
/-- Pass over the making of a block. -/
theorem makeE {oi : Oper} (i : Nat) (mk : Nat → Value) (o : Obj) (B : Nat) (hi : l[i]? = some oi) (hB : (Region.noSelect l.toArray && loneB md l.toArray listed i && (Region.ready md l.toArray listed).contains i) = true)
    (hQ : ∀ v c a w, Q (.panic c) a w → Q (.panic c) (a.put oi.dst v) w) (hw : Region.wanted oi (yielded l.toArray a.tmps) = true) (hy : ∀ w, (execOp a.eval oi).run P w = .ok (.value (mk w.heap.size)) (w.alloc o))
    (hb : B ≤ w.heap.size) (hU : ∀ b, U b → b < w.heap.size)
    (h : wpE P md l.toArray Q (fun U a w => ∀ g, B ≤ g → ¬ U g → w.heap[g]? = some o → T (fun b => U b ∨ b = g) (a.put oi.dst (mk g)) w) f (listed.setIfInBounds i true) U a w) : wpE P md l.toArray Q T (f + 1) listed U a w := by
  simp only [Bool.and_eq_true] at hB
  have hi' : l.toArray[i]? = some oi := by simpa using hi
  exact E_make hi' (Region.noSelect_spec hB.1.1) hQ f listed U a w (loneB_spec hi' hB.1.2) (by simpa using hB.2) ⟨hw, hy⟩ hb hU h
/-- Take a reading first. -/
theorem takeE {oi : Oper} (i : Nat) (v : Value) (hi : l[i]? = some oi) (hB : (Region.noSelect l.toArray && Region.free md l.toArray listed i && (Region.ready md l.toArray listed).contains i) = true)
    (hQ : ∀ c a w, Q (.panic c) (a.put oi.dst v) w → Q (.panic c) a w) (hw : Region.wanted oi (yielded l.toArray a.tmps) = true)
    (hy : ∀ w', GrowU U w w' → (execOp a.eval oi).run P w' = .ok (.value v) w')
    (h : wpE P md l.toArray Q T f (listed.setIfInBounds i true) U (a.put oi.dst v) w) : wpE P md l.toArray Q T (f + 1) listed U a w := by
  simp only [Bool.and_eq_true] at hB
  have hi' : l.toArray[i]? = some oi := by simpa using hi
  exact E_first hi' (Region.noSelect_spec hB.1.1) hQ f listed U a w (Region.free_spec hi' hB.1.2) (by simpa using hB.2) (.inl ⟨hw, hy⟩) h
/-- The one operation that may come up. -/
theorem stepE {o : Oper} (i : Nat) (hi : l[i]? = some o) (hr : Region.ready md l.toArray listed = [i]) (hw : Region.wanted o (yielded l.toArray a.tmps) = true)
    (h : ∀ w1, MoreW w w1 → ∀ K : Act → World → Prop, Hid (∀ a2 w2, GrowU U w1 w2 → wpE P md l.toArray Q T f (listed.setIfInBounds i true) (fun b => U b ∨ (w1.heap.size ≤ b ∧ b < w2.heap.size)) a2 w2 → K a2 w2) → Oper.wp P o a w1 K Q) :
    wpE P md l.toArray Q T (f + 1) listed U a w := by
  intro w1 he
  refine ⟨fun h0 => (by rw [hr] at h0; cases h0), fun j hj => ?_⟩
  rw [hr] at hj
  obtain rfl : j = i := by simpa using hj
  have hi' : l.toArray[j]? = some o := by simpa using hi
  unfold wpOp
  simp only [hi', hw, if_true]
  exact .inl (h w1 he _ (Lib.hid fun a2 w2 hs h => ⟨hs, h⟩))
theorem endE (hr : Region.ready md l.toArray listed = []) (h : ∀ w', MoreW w w' → T U a w') : ∀ {f : Nat}, wpE P md l.toArray Q T f listed U a w
  | 0 => ⟨hr, h⟩
  | _ + 1 => fun w' he => ⟨fun _ => h w' he, by rw [hr]; simp⟩
/-- The head's post: the tail in the text's order; no panic. -/
def HeadN (P : Program) (ops : Array Oper) (Q : Exit → Act → World → Prop) (rest : List Oper) : Exit → Act → World → Prop
  | .normal, a, w => wpList P ops Q rest a w
  | .panic _, _, _ => False
  | e, a, w => Q e a w
theorem HeadN.imp {ops : Array Oper} {rest : List Oper} : ∀ (e : Exit) (a : Act) (w : World), HeadN P ops Q rest e a w → PartQ P ops Q rest e a w := fun e a w h => by
  cases e <;> first | exact h | exact (h : False).elim
theorem wpOp_imp {ops : Array Oper} {Q' : Exit → Act → World → Prop} (hq : ∀ e a w, Q e a w → Q' e a w) {j : Nat} {K : Act → World → Prop} {a : Act} {w : World} (h : wpOp P ops Q j K a w) : wpOp P ops Q' j K a w := by
  have hlet : LetsOut Q → LetsOut Q' := fun ⟨a, w, h⟩ => ⟨a, w, hq _ _ _ h⟩
  unfold wpOp at *
  split
  · rename_i ho
    simp only [ho] at h
    exact h
  · rename_i o ho
    simp only [ho] at h
    split
    · rename_i hw
      simp only [hw, if_true] at h
      rcases h with h | h
      case inr => exact .inr ⟨h.1, hlet h.2⟩
      refine .inl ?_
      unfold Oper.wp at *
      generalize (execOp a.eval o).run P w = r at *
      cases r with
      | ok n w' =>
        cases n <;> simp only [Oper.upon] at h ⊢
        case value u => exact h
        case skip => exact h
        case defer d => exact h
        case enter f args =>
          refine Calls.mono h fun e w'' he => ?_
          cases e with
          | returned u => exact he
          | panicked c => exact hq _ _ _ he
          | outgrown => exact hlet he
        case row row args => exact h
      | halt x w' =>
        cases x <;> simp only [Oper.upon] at h ⊢
        case panic u => exact hq _ _ _ h
    · rename_i hw
      simp only [hw] at h
      exact h
theorem wpAny_imp {ops : Array Oper} {Q' : Exit → Act → World → Prop} (hq : ∀ e a w, Q e a w → Q' e a w) : ∀ (f : Nat) (l : Array Bool) (a : Act) (w : World), wpAny P md ops Q f l a w → wpAny P md ops Q' f l a w
  | 0, _, _, _, h => ⟨h.1, hq _ _ _ h.2⟩
  | f + 1, _, _, _, h => ⟨fun h0 => hq _ _ _ (h.1 h0), fun i hi => wpOp_mono (fun a w h => wpAny_imp hq f _ a w h) (wpOp_imp hq (h.2 i hi))⟩
/-- The beginning: the first n operations in whatever order, the others behind them in the text's. -/
theorem wp_region_E {id : Nat} (n : Nat) (hm : P.follows .mixedOrders = true) (hB : partB .any l.toArray n = true)
    (h : wpE P .any (l.take n).toArray (HeadN P l.toArray Q (l.drop n)) (fun _ a w => wpList P l.toArray Q (l.drop n) a w) n (Array.replicate n false) (fun _ => False) a w.drew) : (Code.region id l.toArray true).wp P Q a w :=
  wp_region_part n hm hB (wpAny_imp HeadN.imp _ _ _ _ (wpAny_of_E (Q := HeadN P l.toArray Q (l.drop n)) _ _ _ _ _ h))
end
/-- l with operation k waiting for operation p besides. -/
def addEdge (l : List Oper) (k p : Nat) : List Oper := l.modify k fun o => { o with after := o.after.push ⟨p, .data⟩ }
def isExtract (o : Oper) : Bool := match o.op with | .extract .. => true | _ => false
def edgeB (md : Region.Mode) (l : List Oper) (k p : Nat) : Bool :=
  Region.noSelect l.toArray && match l[p]?, l[k]? with
  | some op, some ok => decide (p ≠ k) && isExtract op && op.guard.isNone && (op.after.all fun e => !Region.binds md e || ok.after.any fun e2 => Region.binds md e2 && e2.on == e.on) &&
    (List.range l.length).all fun j => j == p || op.after.any (fun e => Region.binds md e && e.on == j) || match l[j]? with
      | some oj => oj.after.any (fun e => Region.binds md e && e.on == p) || op.apart l.toArray oj
      | none => true
  | _, _ => false
theorem addEdge_get (l : List Oper) (k p j : Nat) : (addEdge l k p).toArray[j]? = (l.toArray[j]?).map fun o => if k = j then { o with after := o.after.push ⟨p, .data⟩ } else o := by
  unfold addEdge
  simp only [List.getElem?_toArray, List.getElem?_modify]
  by_cases h : k = j
  · simp [h]
  · simp [h]
theorem yielded_edge (l : List Oper) (k p : Nat) : yielded (addEdge l k p).toArray = yielded l.toArray := by
  funext tmps j
  unfold yielded
  rw [addEdge_get]
  have : ((l.toArray[j]?).map fun o : Oper => if k = j then { o with after := o.after.push ⟨p, .data⟩ } else o).bind (·.dst) = (l.toArray[j]?).bind (·.dst) := by
    cases l.toArray[j]? with
    | none => rfl
    | some o => by_cases h : k = j <;> simp [h]
  rw [this]
section
variable {P : Program} {Q : Exit → Act → World → Prop} {md : Region.Mode} {l : List Oper} {k p : Nat}
theorem wpOp_edge (j : Nat) (K : Act → World → Prop) (a : Act) (w : World) : wpOp P (addEdge l k p).toArray Q j K a w = wpOp P l.toArray Q j K a w := by
  unfold wpOp
  rw [addEdge_get, yielded_edge]
  cases l.toArray[j]? with
  | none => rfl
  | some o => by_cases h : k = j <;> simp only [Option.map_some, h, if_true, if_false] <;> rfl
theorem ready_edge {listed : Array Bool} {j : Nat} : j ∈ Region.ready md (addEdge l k p).toArray listed ↔ j ∈ Region.ready md l.toArray listed ∧ (j = k → listed.getD p false = true) := by
  rw [mem_ready, mem_ready, addEdge_get]
  cases ho : l.toArray[j]? with
  | none => simp
  | some o =>
    by_cases h : k = j
    · subst h
      simp only [Option.map_some, if_true, Option.some.injEq, exists_eq_left', Array.mem_push, forall_const]
      constructor
      · rintro ⟨h0, h1⟩
        exact ⟨⟨h0, fun e he hb => h1 e (.inl he) hb⟩, h1 ⟨p, .data⟩ (.inr rfl) rfl⟩
      · rintro ⟨⟨h0, h1⟩, h2⟩
        refine ⟨h0, fun e he hb => ?_⟩
        rcases he with he | rfl
        · exact h1 e he hb
        · exact h2
    · simp only [Option.map_some, h, if_false, Option.some.injEq, exists_eq_left']
      constructor
      · exact fun h1 => ⟨h1, fun h2 => absurd h2.symm h⟩
      · exact fun h1 => h1.1
theorem extract_pure {o : Oper} {a : Act} {w : World} {K : Act → World → Prop} (h : isExtract o = true) (hh : o.wp P a w K Q ∨ (o.asks P a w ∧ LetsOut Q)) :
    ∃ v, (∀ w, (execOp a.eval o).run P w = .ok (.value v) w) ∧ K (a.put o.dst v) w := by
  obtain ⟨dst, op, type, pos, after, guard⟩ := o
  cases op <;> simp only [isExtract, Bool.false_eq_true] at h
  rename_i x ix
  have hv : (∃ v, execOp a.eval { dst := dst, op := .extract x ix, type := type, pos := pos, after := after, guard := guard } = Sem.pure (.value v)) ∨ (∃ s, execOp a.eval { dst := dst, op := .extract x ix, type := type, pos := pos, after := after, guard := guard } = stuck s) := by
    simp only [execOp]
    generalize a.eval x = y
    by_cases hy : ∃ vs v, y = .tuple vs ∧ vs[ix]? = some v
    · obtain ⟨vs, v, rfl, hi⟩ := hy
      refine .inl ⟨v, ?_⟩
      simp only [Instr.extract, hi]
      rfl
    · unfold Instr.extract
      split
      · rename_i vs
        cases hi : vs[ix]? with
        | some v => exact absurd ⟨vs, v, rfl, hi⟩ hy
        | none => exact .inr ⟨_, rfl⟩
      · exact .inr ⟨_, rfl⟩
  rcases hv with ⟨v, hv⟩ | ⟨s, hs⟩
  · refine ⟨v, fun w => by rw [hv]; rfl, ?_⟩
    rcases hh with hh | ⟨⟨hh, _⟩, _⟩
    · unfold Oper.wp at hh
      rw [hv] at hh
      exact hh
    · rw [hv] at hh
      exact absurd hh (by show ¬ noRoomEvent ∈ (#[] : Array Event); simp)
  · exfalso
    rcases hh with hh | ⟨⟨hh, _⟩, _⟩
    · unfold Oper.wp at hh
      rw [hs] at hh
      exact hh
    · rw [hs] at hh
      exact absurd hh (by show ¬ noRoomEvent ∈ (#[] : Array Event); simp)
theorem wpAny_edge (hB : edgeB md l k p = true) (hQ : ∀ (d : Option Tmp) v c a w, Q (.panic c) (Act.put a d v) w → Q (.panic c) a w) :
    ∀ (f : Nat) (listed : Array Bool) (a : Act) (w : World), listed.size = l.length → wpAny P md (addEdge l k p).toArray Q f listed a w → wpAny P md l.toArray Q f listed a w := by
  unfold edgeB at hB
  cases hp : l[p]? with
  | none => simp [hp] at hB
  | some op =>
    cases hk : l[k]? with
    | none => simp [hp, hk] at hB
    | some ok =>
      simp only [hp, hk, Bool.and_eq_true, decide_eq_true_eq, List.all_eq_true, List.mem_range] at hB
      obtain ⟨hsel, ⟨⟨⟨hne, hex⟩, hgd⟩, hsub⟩, hap⟩ := hB
      have hp' : l.toArray[p]? = some op := by simpa using hp
      have hk' : l.toArray[k]? = some ok := by simpa using hk
      have hfree : ∀ (listed : Array Bool), p ∈ Region.ready md l.toArray listed → ∀ j oj, l.toArray[j]? = some oj → j ≠ p → listed.getD j true = false → (∀ e ∈ oj.after, Region.binds md e = true → e.on ≠ p) → op.apart l.toArray oj = true := fun listed hpr j oj hj hjp hun hno => by
        have hlt : j < l.length := by simpa using (Array.getElem?_eq_some_iff.1 hj).1
        have h1 := hap j hlt
        have hj2 : l[j]? = some oj := by simpa using hj
        simp only [hj2, Bool.or_eq_true, beq_iff_eq, hjp, false_or] at h1
        rcases h1 with h1 | h1 | h1
        · exfalso
          obtain ⟨e, he, hb⟩ := Array.any_eq_true'.1 h1
          simp only [Bool.and_eq_true, beq_iff_eq] at hb
          obtain ⟨_, o, ho, hall⟩ := mem_ready.1 hpr
          rw [hp'] at ho
          cases ho
          have h2 := hall e he hb.1
          rw [hb.2] at h2
          rcases Nat.lt_or_ge j listed.size with h' | h'
          · simp [h'] at h2 hun; rw [h2] at hun; cases hun
          · simp [Array.getElem?_eq_none h'] at h2
        · obtain ⟨e, he, hb⟩ := Array.any_eq_true'.1 h1
          simp only [Bool.and_eq_true, beq_iff_eq] at hb
          exact absurd hb.2 (hno e he hb.1)
        · exact h1
      have hkp : ∀ (listed : Array Bool), listed.size = l.length → p ∉ Region.ready md l.toArray listed → ∀ j, j ∈ Region.ready md l.toArray listed → j ∈ Region.ready md (addEdge l k p).toArray listed := fun listed hs hr j hj => by
        refine ready_edge.2 ⟨hj, fun hjk => ?_⟩
        subst hjk
        cases hun : listed.getD p false with
        | true => rfl
        | false =>
          exfalso
          have hlt : p < listed.size := by rw [hs]; simpa using (Array.getElem?_eq_some_iff.1 hp').1
          refine hr (mem_ready.2 ⟨by simpa [hlt] using hun, op, hp', fun e he hb => ?_⟩)
          have h1 := Array.all_eq_true_iff_forall_mem.1 hsub e he
          simp only [hb, Bool.not_true, Bool.false_or] at h1
          obtain ⟨e2, he2, hb2⟩ := Array.any_eq_true'.1 h1
          simp only [Bool.and_eq_true, beq_iff_eq] at hb2
          obtain ⟨_, o, ho, hall⟩ := mem_ready.1 hj
          rw [hk'] at ho
          cases ho
          rw [← hb2.2]
          exact hall e2 he2 hb2.1
      have hpe : ∀ (listed : Array Bool), p ∈ Region.ready md l.toArray listed → p ∈ Region.ready md (addEdge l k p).toArray listed := fun listed hr => ready_edge.2 ⟨hr, fun h => absurd h hne⟩
      intro f
      induction f with
      | zero =>
        intro listed a w hs h
        refine ⟨?_, h.2⟩
        by_cases hpr : p ∈ Region.ready md l.toArray listed
        · have := hpe listed hpr
          rw [h.1] at this
          cases this
        · refine List.eq_nil_iff_forall_not_mem.2 fun j hj => ?_
          have := hkp listed hs hpr j hj
          rw [h.1] at this
          cases this
      | succ f ih =>
        intro listed a w hs h
        by_cases hpr : p ∈ Region.ready md l.toArray listed
        · have h1 := h.2 p (hpe listed hpr)
          rw [wpOp_edge] at h1
          unfold wpOp at h1
          have hwa : Region.wanted op (yielded l.toArray a.tmps) = true := by unfold Region.wanted; rw [Option.isNone_iff_eq_none.1 hgd]
          simp only [hp', hwa, if_true] at h1
          obtain ⟨v, hv, hK⟩ := extract_pure hex h1
          exact wpAny_first hp' (Region.noSelect_spec hsel) (hQ op.dst v) f listed a w (hfree listed hpr) hpr (.inl ⟨hwa, hv⟩) (ih _ _ _ (by simp [hs]) hK)
        · refine ⟨fun h0 => h.1 (List.eq_nil_iff_forall_not_mem.2 fun j hj => by have := (ready_edge.1 hj).1; rw [h0] at this; cases this), fun j hj => ?_⟩
          have h1 := h.2 j (hkp listed hs hpr j hj)
          rw [wpOp_edge] at h1
          exact wpOp_mono (fun a' w' h' => ih _ _ _ (by simp [hs]) h') h1
theorem wpList_same {Q' : Exit → Act → World → Prop} : ∀ (rest : List Oper), wpList P (addEdge l k p).toArray Q' rest = wpList P l.toArray Q' rest
  | [] => rfl
  | o :: rest => by
    funext a w
    simp only [wpList, yielded_edge, wpList_same rest]
theorem wpList_edge {Q' : Exit → Act → World → Prop} : ∀ (rest : List Oper) (j : Nat) (a : Act) (w : World), wpList P (addEdge l k p).toArray Q' (rest.modify j fun o => { o with after := o.after.push ⟨p, .data⟩ }) a w = wpList P l.toArray Q' rest a w
  | [], j, a, w => by cases j <;> rfl
  | o :: rest, 0, a, w => by
    simp only [List.modify_zero_cons, wpList, yielded_edge, wpList_same]
    rfl
  | o :: rest, j + 1, a, w => by
    have ih : wpList P (addEdge l k p).toArray Q' (rest.modify j fun o => { o with after := o.after.push ⟨p, .data⟩ }) = wpList P l.toArray Q' rest := funext fun a => funext fun w => wpList_edge rest j a w
    simp only [List.modify_succ_cons, wpList, yielded_edge, ih]
/-- The beginning, where a part of a result (operation p) might be taken out as late as behind operation k. -/
theorem wp_region_E1 {id : Nat} {a : Act} {w : World} (n k p : Nat) (hm : P.follows .mixedOrders = true) (hE : edgeB .any l k p = true) (hB : partB .any (addEdge l k p).toArray n = true) (hnk : n ≤ k)
    (h : wpE P .any (l.take n).toArray (HeadN P l.toArray (NoPanic Q) (l.drop n)) (fun _ a w => wpList P l.toArray (NoPanic Q) (l.drop n) a w) n (Array.replicate n false) (fun _ => False) a w.drew) : (Code.region id l.toArray true).wp P Q a w := by
  have hB0 := hB
  simp only [partB, Bool.and_eq_true, decide_eq_true_eq] at hB0
  have hn := hB0.1.1.1.1
  have hlen : (addEdge l k p).length = l.length := by simp [addEdge]
  refine wp_region_noPanic (wp_region_any hm ?_)
  have ht : (addEdge l k p).take n = l.take n := by
    refine List.ext_getElem? fun j => ?_
    simp only [List.getElem?_take, addEdge, List.getElem?_modify]
    by_cases hj : j < n
    · rw [if_pos hj, if_pos hj]
      have hkj : ¬ k = j := by omega
      cases l[j]? <;> simp [hkj]
    · rw [if_neg hj, if_neg hj]
  have hd : (addEdge l k p).drop n = (l.drop n).modify (k - n) fun o => { o with after := o.after.push ⟨p, .data⟩ } := by
    refine List.ext_getElem? fun j => ?_
    simp only [List.getElem?_drop, addEdge, List.getElem?_modify]
    have hkj : k = n + j ↔ k - n = j := by omega
    cases l[n + j]? <;> simp [hkj]
  have hPQ : PartQ P (addEdge l k p).toArray (NoPanic Q) ((addEdge l k p).drop n) = PartQ P l.toArray (NoPanic Q) (l.drop n) := by
    funext e a w
    cases e <;> first
      | (show wpList P _ (NoPanic Q) _ a w = wpList P _ (NoPanic Q) _ a w
         rw [hd, wpList_edge])
      | rfl
  have h' := wpAny_imp HeadN.imp _ _ _ _ (wpAny_of_E (Q := HeadN P l.toArray (NoPanic Q) (l.drop n)) _ _ _ _ _ h)
  rw [← ht, ← hPQ] at h'
  have inv0 : HeadInv .any (addEdge l k p).toArray n (Array.replicate (addEdge l k p).toArray.size false) :=
    ⟨by simp, fun j oj _ hl => (by rw [getD_replicate_false] at hl; cases hl), fun t _ ht => getD_in (by simpa using ht) (getD_replicate_false _ _)⟩
  have h2 := wpAny_part hB n (Array.replicate (addEdge l k p).toArray.size false) (Array.replicate n false) a w.drew inv0 (by simp) (fun i _ => by rw [getD_replicate_false, getD_replicate_false]) h'
  rw [show n + ((addEdge l k p).toArray.size - n) = l.toArray.size by simp [hlen] at hn ⊢; omega, show (addEdge l k p).toArray.size = l.toArray.size by simp [hlen]] at h2
  exact wpAny_edge hE (by intro _ _ _ _ _ h; exact h) _ _ _ _ (by simp) h2
end
end Go.Proofs.YtjlocofimlgaoaaDoor
