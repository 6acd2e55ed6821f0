/- What the proofs of this claim share, part 3. No conditions. -/
import Derived.Test.YtfooonellkgaeaaDoorKe2
import Derived.Deep.RegionHeld3
import Derived.Lib.Hide
set_option linter.unusedVariables false
set_option linter.unusedSimpArgs false
set_option linter.unusedSectionVars false
namespace Go.Proofs.YtfooonellkgaeaaDoor
open Go.RowKit
def PartQ (P : Program) (ops : Array Oper) (Q : Exit → Act → World → Prop) (rest : List Oper) : Exit → Act → World → Prop
  | .normal, a, w => wpList P ops Q rest a w
  | e, a, w => Q e a w
section
variable {P : Program} {md : Region.Mode} {Q : Exit → Act → World → Prop}
theorem wpAny_more {ops : Array Oper} : ∀ (f : Nat) (listed : Array Bool) (a : Act) (w : World), wpAny P md ops Q f listed a w → wpAny P md ops Q (f + 1) listed a w
  | 0, listed, a, w, h => ⟨fun _ => h.2, by rw [h.1]; intro i hi; cases hi⟩
  | f + 1, listed, a, w, h => ⟨h.1, fun i hi => wpOp_mono (fun a' w' h' => wpAny_more f _ a' w' h') (h.2 i hi)⟩
theorem wpAny_plus {ops : Array Oper} {g : Nat} {listed : Array Bool} {a : Act} {w : World} (h : wpAny P md ops Q g listed a w) : ∀ f, wpAny P md ops Q (f + g) listed a w
  | 0 => by rw [Nat.zero_add]; exact h
  | f + 1 => by rw [show f + 1 + g = (f + g) + 1 by omega]; exact wpAny_more _ _ _ _ (wpAny_plus h f)
def backB (md : Region.Mode) (ops : Array Oper) (n : Nat) : Bool := (List.range n).all fun i => match ops[i]? with
  | none => false
  | some o => (o.after.all fun e => !Region.binds md e || decide (e.on < i)) && (match o.guard with | none => true | some (g, _) => decide (g < n))
def headDone (N n : Nat) : Array Bool := ((List.range N).map fun j => decide (j < n)).toArray
def partB (md : Region.Mode) (ops : Array Oper) (n : Nat) : Bool :=
  decide (n < ops.size) && Region.sinkB md ops n && Region.chainB md ops n && backB md ops n && Region.seqB md ops (ops.size - n) n (headDone ops.size n)
theorem backB_at {ops : Array Oper} {n i : Nat} {o : Oper} (h : backB md ops n = true) (hi : i < n) (ho : ops[i]? = some o) :
    (∀ e ∈ o.after, Region.binds md e = true → e.on < i) ∧ (∀ g b, o.guard = some (g, b) → g < n) := by
  have h1 := List.all_eq_true.1 h i (List.mem_range.2 hi)
  simp only [ho, Bool.and_eq_true, Array.all_eq_true_iff_forall_mem, Bool.or_eq_true, Bool.not_eq_true', decide_eq_true_eq] at h1
  refine ⟨fun e he hb => ?_, fun g b hg => ?_⟩
  · rcases h1.1 e he with h2 | h2
    · rw [h2] at hb; cases hb
    · exact h2
  · have h2 := h1.2
    rw [hg] at h2
    simpa using h2
theorem getD_two {listed : Array Bool} {i : Nat} (hi : i < listed.size) : listed.getD i true = listed.getD i false := by simp [hi]
section
variable {l : List Oper} {n : Nat} {listed listed' : Array Bool}
theorem take_at (hn : n < l.toArray.size) {i : Nat} (hi : i < n) : (l.take n).toArray[i]? = l.toArray[i]? := by
  simp [List.getElem?_take, hi]
theorem ready_part (hb : backB md l.toArray n = true) (hn : n < l.toArray.size) (hs : listed.size = l.toArray.size) (hs' : listed'.size = n) (he : ∀ i, i < n → listed'.getD i false = listed.getD i false) {i : Nat} (hi : i < n) :
    i ∈ Region.ready md (l.take n).toArray listed' ↔ i ∈ Region.ready md l.toArray listed := by
  rw [mem_ready, mem_ready, take_at hn hi, getD_two (by omega), getD_two (by omega), he i hi]
  refine and_congr_right fun _ => exists_congr fun o => and_congr_right fun ho => ?_
  have hk := (backB_at hb hi ho).1
  refine forall_congr' fun e => forall_congr' fun hm => forall_congr' fun hbd => ?_
  rw [he e.on (by have := hk e hm hbd; omega)]
theorem ready_lt {i : Nat} (h : i ∈ Region.ready md (l.take n).toArray listed') : i < n := by
  obtain ⟨_, o, ho, _⟩ := mem_ready.1 h
  have := (Array.getElem?_eq_some_iff.1 ho).1
  simp at this
  omega
theorem all_listed (hb : backB md l.toArray n = true) (hn : n < l.toArray.size) (hs' : listed'.size = n) (hr : Region.ready md (l.take n).toArray listed' = []) : ∀ i, i < n → listed'.getD i false = true := by
  intro i
  induction i using Nat.strongRecOn with
  | _ i ih =>
    intro hi
    cases hl : listed'.getD i false with
    | true => rfl
    | false =>
      exfalso
      have ho : l.toArray[i]? = some (l.toArray[i]'(by omega)) := Array.getElem?_eq_getElem (by omega)
      have hk := (backB_at hb hi ho).1
      have : i ∈ Region.ready md (l.take n).toArray listed' := mem_ready.2 ⟨by rw [getD_two (by omega)]; exact hl, _, (take_at hn hi).trans ho, fun e he hbd => ih e.on (hk e he hbd) (by have := hk e he hbd; omega)⟩
      rw [hr] at this
      cases this
theorem head_is (inv : HeadInv md l.toArray n listed) (hn : n < l.toArray.size) (h : ∀ i, i < n → listed.getD i false = true) : listed = headDone l.toArray.size n := by
  refine Array.ext (by rw [inv.size]; simp [headDone]) fun i h1 h2 => ?_
  have hi : i < l.toArray.size := by rw [← inv.size]; exact h1
  have e : (headDone l.toArray.size n)[i] = decide (i < n) := by simp [headDone]
  rw [e]
  by_cases hin : i < n
  · have := h i hin
    rw [decide_eq_true hin]
    simpa [h1] using this
  · have := inv.tail i (by omega) hi
    rw [decide_eq_false hin]
    simpa [h1] using this
theorem letsOut_part {rest : List Oper} {ops : Array Oper} (h : LetsOut (PartQ P ops Q rest)) : LetsOut Q := h
theorem wp_part {o : Oper} {rest : List Oper} {ops : Array Oper} {a : Act} {w : World} {K K' : Act → World → Prop} (hK : ∀ a w, K a w → K' a w) (h : o.wp P a w K (PartQ P ops Q rest)) : o.wp P a w K' Q := by
  unfold Oper.wp at *
  generalize (execOp a.eval o).run P w = r at *
  cases r with
  | ok n w' =>
    cases n <;> simp only [Oper.upon] at h ⊢ <;>
      first
        | exact hK _ _ h
        | exact Calls.mono h (fun e w'' he => by cases e <;> first | exact hK _ _ he | exact he)
        | exact Rows.mono h (fun _ _ he => hK _ _ he)
  | halt x w' => cases x <;> simp only [Oper.upon] at h ⊢ <;> exact h
theorem wanted_part (hb : backB md l.toArray n = true) (hn : n < l.toArray.size) {i : Nat} {o : Oper} (hi : i < n) (ho : l.toArray[i]? = some o) (tmps : Array Value) :
    Region.wanted o (yielded (l.take n).toArray tmps) = Region.wanted o (yielded l.toArray tmps) := by
  have hg := (backB_at hb hi ho).2
  unfold Region.wanted
  cases h : o.guard with
  | none => rfl
  | some gw =>
    obtain ⟨g, b⟩ := gw
    have e : yielded (l.take n).toArray tmps g = yielded l.toArray tmps g := by
      unfold yielded
      rw [take_at hn (hg g b h)]
    simp only [e]
theorem wpOp_part (hb : backB md l.toArray n = true) (hn : n < l.toArray.size) {i : Nat} (hi : i < n) {rest : List Oper} {a : Act} {w : World} {K K' : Act → World → Prop} (hK : ∀ a w, K a w → K' a w)
    (h : wpOp P (l.take n).toArray (PartQ P l.toArray Q rest) i K a w) : wpOp P l.toArray Q i K' a w := by
  have ho : l.toArray[i]? = some (l.toArray[i]'(by omega)) := Array.getElem?_eq_getElem (by omega)
  unfold wpOp at *
  rw [take_at hn hi] at h
  simp only [ho] at h ⊢
  rw [wanted_part hb hn hi ho] at h
  split
  · rename_i hw
    rw [if_pos hw] at h
    rcases h with h | ⟨h1, h2⟩
    · exact .inl (wp_part hK h)
    · exact .inr ⟨h1, letsOut_part h2⟩
  · rename_i hw
    rw [if_neg hw] at h
    exact hK _ _ h
theorem wpAny_part (hB : partB md l.toArray n = true) : ∀ (f : Nat) (listed listed' : Array Bool) (a : Act) (w : World), HeadInv md l.toArray n listed → listed'.size = n → (∀ i, i < n → listed'.getD i false = listed.getD i false) →
    wpAny P md (l.take n).toArray (PartQ P l.toArray Q (l.drop n)) f listed' a w → wpAny P md l.toArray Q (f + (l.toArray.size - n)) listed a w := by
  simp only [partB, Bool.and_eq_true, decide_eq_true_eq] at hB
  obtain ⟨⟨⟨⟨hn, hs⟩, hc⟩, hb⟩, hq⟩ := hB
  have hend : ∀ (listed listed' : Array Bool) (a : Act) (w : World), HeadInv md l.toArray n listed → listed'.size = n → (∀ i, i < n → listed'.getD i false = listed.getD i false) → Region.ready md (l.take n).toArray listed' = [] →
      wpList P l.toArray Q (l.drop n) a w → wpAny P md l.toArray Q (l.toArray.size - n) listed a w := fun listed listed' a w inv hs' he hr h => by
    have hall := all_listed hb hn hs' hr
    have hl := head_is inv hn (fun i hi => by rw [← he i hi]; exact hall i hi)
    rw [hl]
    have := wpAny_of_seq (md := md) (Q' := Q) (P := P) (l.drop n) n (headDone l.toArray.size n) a w (fun j => by simp [List.getElem?_drop]) (by
      rw [show (l.drop n).length = l.toArray.size - n by simp]; exact hq) h
    rwa [show (l.drop n).length = l.toArray.size - n by simp] at this
  intro f
  induction f with
  | zero =>
    intro listed listed' a w inv hs' he h
    rw [Nat.zero_add]
    exact hend listed listed' a w inv hs' he h.1 h.2
  | succ f ih =>
    intro listed listed' a w inv hs' he h
    by_cases hr : Region.ready md (l.take n).toArray listed' = []
    · exact wpAny_plus (hend listed listed' a w inv hs' he hr (h.1 hr)) _
    · obtain ⟨i0, hi0⟩ := List.exists_mem_of_ne_nil _ hr
      have hin0 := ready_lt hi0
      have hr0 := (ready_part hb hn inv.size hs' he hin0).1 hi0
      have hun0 := (mem_ready.1 hr0).1
      rw [show f + 1 + (l.toArray.size - n) = (f + (l.toArray.size - n)) + 1 by omega]
      refine ⟨fun h0 => (by rw [h0] at hr0; cases hr0), fun i hi => ?_⟩
      have hin : i < n := Nat.lt_of_not_le fun hle => tail_waits hs hc hn inv _ i0 rfl hin0 hun0 i hle hi
      refine wpOp_part hb hn hin (fun a' w' h' => ?_) (h.2 i ((ready_part hb hn inv.size hs' he hin).2 hi))
      refine ih _ _ a' w' (inv.set hi hin) (by simp [hs']) (fun j hj => ?_) h'
      by_cases hij : i = j
      · subst hij
        rw [Array.getD_eq_getD_getElem?, Array.getD_eq_getD_getElem?, Array.getElem?_setIfInBounds_self_of_lt (by omega), Array.getElem?_setIfInBounds_self_of_lt (by rw [inv.size]; omega)]
      · rw [getD_set_ne false hij, getD_set_ne false hij]
        exact he j hj
theorem wp_region_part {id : Nat} {a : Act} {w : World} (n : Nat) (hm : P.follows .mixedOrders = true) (hB : partB .any l.toArray n = true)
    (h : wpAny P .any (l.take n).toArray (PartQ P l.toArray Q (l.drop n)) n (Array.replicate n false) a w.drew) : (Code.region id l.toArray true).wp P Q a w := by
  have hB0 := hB
  simp only [partB, Bool.and_eq_true, decide_eq_true_eq] at hB0
  have hn := hB0.1.1.1.1
  refine wp_region_any hm ?_
  have inv0 : HeadInv .any l.toArray n (Array.replicate l.toArray.size false) :=
    ⟨by simp, fun j oj _ hl => (by rw [getD_replicate_false] at hl; cases hl), fun t _ ht => getD_in (by simpa using ht) (getD_replicate_false _ _)⟩
  have := wpAny_part hB n (Array.replicate l.toArray.size false) (Array.replicate n false) a w.drew inv0 (by simp) (fun i _ => by rw [getD_replicate_false, getD_replicate_false]) h
  rwa [show n + (l.toArray.size - n) = l.toArray.size by omega] at this
end
/- A statement whose order is left open, walked by hand, under a condition S on the world. -/
end
end Go.Proofs.YtfooonellkgaeaaDoor
