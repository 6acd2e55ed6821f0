/- What the proofs of this claim share, part 4. No conditions. -/
import Derived.Test.YtmdfjbpggbhgnaaDoorKw1
import Derived.StillTail
import Derived.BigQuiet
set_option linter.unusedVariables false
set_option linter.unusedSimpArgs false
set_option linter.unusedSectionVars false
namespace Go.Proofs.YtmdfjbpggbhgnaaDoor
open Go.RowKit
structure ExtW (w : World) (m : Nat) where
  val : World
  is : Below m w val
  fits : m ≤ val.heap.size
@[go_sem] theorem cell_set_is {w : World} {a : Addr} {v : Value} (h : (w.cell? a).isSome = true) : (w.setCell a v).cell? a = some v := by
  obtain ⟨u, hu⟩ := Option.isSome_iff_exists.1 h
  exact World.cell?_setCell_same w a v hu
instance extW_some (w : World) : Nonempty (ExtW w w.heap.size) := ⟨⟨w, Below.refl _ _, Nat.le_refl _⟩⟩
@[go_sem] theorem ExtW.cell {w : World} {m : Nat} (x : ExtW w m) {b o : Nat} (h : b < m) : x.val.cell? ⟨b, o, none⟩ = w.cell? ⟨b, o, none⟩ := x.is.cell (p := ⟨b, o, none⟩) h
@[go_sem] theorem ExtW.frozen {w : World} {m : Nat} (x : ExtW w m) {b o : Nat} (h : b < m) : x.val.frozen? ⟨b, o, none⟩ = w.frozen? ⟨b, o, none⟩ := x.is.frozen (p := ⟨b, o, none⟩) h
theorem qext_call {P : Program} {f : FuncId} {args : Array Value} {w : World} {m : Nat} {x : ExtW w m} {v : Value}
    (h : Calls P f args x.val fun e w' => e = .returned v ∧ Below x.val.heap.size x.val w') : Calls P f args x.val fun e w'' => e = .returned v ∧ ∃ y : ExtW w m, w'' = y.val :=
  h.mono fun _ w' ⟨he, hb⟩ => ⟨he, ⟨w', x.is.trans (hb.mono x.fits), Nat.le_trans x.fits hb.size⟩, rfl⟩
theorem quiet_left {P : Program} {f : FuncId} {args : Array Value} {w : World} {n : Nat} {v : Value}
    (h : Calls P f args (w.drewN n) fun e w' => e = .returned v ∧ w.drewN n = w') : Calls P f args (w.drewN n) fun e w'' => e = .returned v ∧ ∃ m, w'' = w.drewN m :=
  h.mono fun _ _ ⟨he, hm⟩ => ⟨he, n, hm.symm⟩
theorem wp_region_qext {P : Program} {id : Nat} {Q : Exit → Act → World → Prop} {a : Act} {w : World} {l : List Oper} (m : Nat) (hle : m ≤ w.heap.size) (hm : P.follows .mixedOrders = true) (hB : Region.lexB .any l.toArray = true)
    (h : Nonempty (ExtW w m) → wpQuiet P l.toArray (fun w' => ∃ x : ExtW w m, w' = x.val) (fun a' => ∀ w', (∃ x : ExtW w m, w' = x.val) → Q .normal a' w') l a) : (Code.region id l.toArray true).wp P Q a w :=
  wp_region_quiet (C := fun w' => ∃ x : ExtW w m, w' = x.val) hm hB ⟨⟨w.drew, (Below.refl _ _).drew, hle⟩, rfl⟩ (by simpa using h ⟨⟨w, Below.refl _ _, hle⟩⟩)
section
variable {P : Program} {ops : Array Oper} {md : Region.Mode} {C : World → Prop}
def headQ (P : Program) (md : Region.Mode) (ops : Array Oper) (C : World → Prop) (n : Nat) (L : Array Bool → Act → Prop) : Nat → Array Bool → Act → Prop
  | 0, listed, a => L listed a
  | f + 1, listed, a => Region.ready md ops listed ≠ [] ∧ ∀ i ∈ Region.ready md ops listed, i < n ∧ qOp P ops C i (headQ P md ops C n L f (listed.setIfInBounds i true)) a
end
end Go.Proofs.YtmdfjbpggbhgnaaDoor
