/- What the proofs of this claim share, part 16. No conditions. -/
import Derived.Test.YtfooonellkgaeaaDoorKd15
import Derived.Test.YtfooonellkgaeaaDoorKd13
set_option linter.unusedVariables false
set_option linter.unusedSimpArgs false
set_option linter.unusedSectionVars false
namespace Go.Proofs.YtfooonellkgaeaaDoor
open Go.ChangeShapes Go.WideShapes Go.ChangeAt Go.RowKit Go.Joins Go.Deep
def AllF (w : World) : Sets := fun _ b => b < w.heap.size
theorem AllF.of {w : World} {x : A} {v : Value} (h : ARel w (AllS w) x v) : ARel w (AllF w) x v := h.mono (fun _ _ hb => hb.2) fun _ _ _ => rfl
theorem cv_lawA {f : FuncId} {args : List A} (h : CV Tryd.prog TabAt f args [aB true]) {w : World} (ht : TabAt w) {vs : List Value} (ha : LRel (ARel w (AllF w)) args vs) :
    Calls Tryd.prog f vs.toArray w fun e w' => e = .returned (.bool true) ∧ Below w.heap.size w w' :=
  (h w _ vs ht (fun t b hb => hb) ha).mono fun e w' ⟨v, h1, h2, h3⟩ => by
    have h4 : DRel w' _ (dB true) v := h2
    cases h4
    exact ⟨h1, h3⟩
structure RowA (α : Type) (s : Nat) where
  cs : List Value
  len : cs.length = s
  a : α
instance {α : Type} {s : Nat} [Inhabited α] : Inhabited (RowA α s) := ⟨⟨List.replicate s undef, List.length_replicate, default⟩⟩
section
variable {H : Type} {enc : TypeId × Value → H} {w : World} {spare : Nat → Bool} {held : Bool}
instance : Inhabited Rv := ⟨⟨false, [], 0⟩⟩
def RvIn (r : Rv) : Prop := wordsOk r.ws ∧ r.ws.length ≤ maxLen ∧ -9223372036854775808 ≤ r.den ∧ r.den ≤ 9223372036854775807
end
end Go.Proofs.YtfooonellkgaeaaDoor
