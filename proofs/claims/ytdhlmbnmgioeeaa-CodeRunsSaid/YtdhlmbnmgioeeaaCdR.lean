/- What the laws have in common: a program that came in, and what is left of it while the call goes on. No conditions. -/
import Derived.Test.YtdhlmbnmgioeeaaCdN
import Derived.Test.YtdhlmbnmgioeeaaStr
namespace Go.Proofs.Ytdhlmbnmgioeeaa
set_option linter.unusedVariables false
set_option linter.unusedSimpArgs false
set_option linter.unusedSectionVars false
open Go.ChangeShapes Go.WideShapes Go.ChangeAt Go.RowKit Go.Joins Go.Deep

theorem own : ownKnob Try.prog.godebug = none := by kernel_rfl
theorem laidOut : laidOutB Try.prog = true := by kernel_rfl
/-- A program's four lists. -/
structure PAt (w : World) (m : Nat) (A1 A2 A3 A4 : Option Addr) (ps : List Prt) (is : List Int) (xs : List Ins) (os : List Int) : Prop where
  p : CellsAt w m A1 (flat Prt.cells ps)
  i : CellsAt w m A2 (ints is)
  x : CellsAt w m A3 (flat Ins.cells xs)
  o : CellsAt w m A4 (ints os)
theorem PAt.below {w w' : World} {m B : Nat} {A1 A2 A3 A4 : Option Addr} {ps : List Prt} {is : List Int} {xs : List Ins} {os : List Int} (h : PAt w m A1 A2 A3 A4 ps is xs os) (hb : Below B w w') (hm : m ≤ B) : PAt w' m A1 A2 A3 A4 ps is xs os :=
  ⟨h.p.below hb hm, h.i.below hb hm, h.x.below hb hm, h.o.below hb hm⟩
/-- What stands while a law goes on: its boxed program (and a second box), and all that came in. -/
structure Cx (w wi : World) (vp : List Value) (A1 A2 A3 A4 : Option Addr) (ps : List Prt) (is : List Int) (xs : List Ins) (os : List Int) : Prop where
  box : BoxAt wi w.heap.size vp
  prog : PAt wi w.heap.size A1 A2 A3 A4 ps is xs os
  bel : Below w.heap.size w wi
section
variable {w wi wj : World} {vp : List Value} {A1 A2 A3 A4 : Option Addr} {ps : List Prt} {is : List Int} {xs : List Ins} {os : List Int}
theorem Cx.next (h : Cx w wi vp A1 A2 A3 A4 ps is xs os) (hb : Below wi.heap.size wi wj) : Cx w wj vp A1 A2 A3 A4 ps is xs os :=
  ⟨h.box.below hb h.box.1, h.prog.below hb (Nat.le_of_lt h.box.1), h.bel.trans (hb.mono (Nat.le_of_lt h.box.1))⟩
theorem Cx.alloc (h : Cx w wi vp A1 A2 A3 A4 ps is xs os) (o : Obj) : Cx w (wi.alloc o) vp A1 A2 A3 A4 ps is xs os := h.next ((Below.refl _ wi).alloc (Nat.le_refl _) o)
theorem Cx.le (h : Cx w wi vp A1 A2 A3 A4 ps is xs os) : w.heap.size ≤ wi.heap.size := Nat.le_of_lt h.box.1
theorem Cx.start (h : PAt w w.heap.size A1 A2 A3 A4 ps is xs os) (vs : List Value) (t : TypeId) : Cx w (w.alloc (.cells vs.toArray t)) vs A1 A2 A3 A4 ps is xs os :=
  ⟨BoxAt.new_ w vs t, h.below ((Below.refl _ w).alloc (Nat.le_refl _) _) (Nat.le_refl _), (Below.refl _ w).alloc (Nat.le_refl _) _⟩
theorem Cx.low (h : Cx w wi vp A1 A2 A3 A4 ps is xs os) {B : Nat} (hB : w.heap.size < B) (hb : Below B wi wj) : Cx w wj vp A1 A2 A3 A4 ps is xs os :=
  ⟨h.box.below hb hB, h.prog.below hb (Nat.le_of_lt hB), h.bel.trans (hb.mono (Nat.le_of_lt hB))⟩
theorem Cx.set (h : Cx w wi vp A1 A2 A3 A4 ps is xs os) {b j : Nat} (hB : w.heap.size < b) (u : Value) : Cx w (wi.setCell ⟨b, j, none⟩ u) vp A1 A2 A3 A4 ps is xs os :=
  h.low hB ((Below.refl _ wi).setCell (p := ⟨b, j, none⟩) (Nat.le_refl _) u)
end

section
variable {H : Type} {enc : TypeId × Value → H} {w : World} {spare : Nat → Bool} {held : Bool}
def insOf (zs : List Int) : Ins := ⟨zs.getD 0 0, zs.getD 1 0, zs.getD 2 0, zs.getD 3 0, zs.getD 4 0, zs.getD 5 0, zs.getD 6 0⟩
def prtOf (zs : List Int) : Prt := ⟨zs.getD 0 0, zs.getD 1 0, zs.getD 2 0⟩
theorem insOf_cells (zs : List Int) (h : zs.length = 7) : (insOf zs).cells = ints zs := by
  match zs, h with
  | [_, _, _, _, _, _, _], _ => rfl
theorem prtOf_cells (zs : List Int) (h : zs.length = 3) : (prtOf zs).cells = ints zs := by
  match zs, h with
  | [_, _, _], _ => rfl
theorem fields_int {fs : Array Field} (h : fs.all (fun f => f.type == 3) = true) : ∀ (i : Nat) (f : Field), fs[i]? = some f → Try.prog.underlying f.type = some (.int .i64) := by
  intro i f hf
  have hi := (Array.getElem?_eq_some_iff.1 hf)
  have := Array.all_eq_true.1 h i hi.1
  rw [hi.2] at this
  have e : f.type = 3 := by simpa using this
  rw [e]
  exact Try.underlying3
def i64B (z : Int) : Prop := -9223372036854775808 ≤ z ∧ z ≤ 9223372036854775807
def insB (x : Ins) : Prop := i64B x.op ∧ i64B x.dst ∧ i64B x.a ∧ i64B x.b ∧ i64B x.sa ∧ i64B x.sb ∧ i64B x.imm
def prtB (x : Prt) : Prop := i64B x.lo ∧ i64B x.hi ∧ i64B x.fr
theorem open_prog {r : Reach} {b0 : Nat} {v : Value} {d : DataW H} {p : List MemPlace} (hv : Value.okWide Try.prog w r b0 26 v) (h : DataW.Trod enc Try.prog w 0 spare held 26 v d p) :
    ∃ (A1 A2 A3 A4 : Option Addr) (ps : List Prt) (is : List Int) (xs : List Ins) (os : List Int) (c1 c2 c3 c4 : Nat), v = .agg #[.slice A1 ps.length c1, .slice A2 is.length c2, .slice A3 xs.length c3, .slice A4 os.length c4] ∧ (A2 = none → c2 = 0) ∧ PAt w w.heap.size A1 A2 A3 A4 ps is xs os ∧
      (∀ x ∈ ps, prtB x) ∧ (∀ z ∈ is, i64B z) ∧ (∀ x ∈ xs, insB x) ∧ (∀ z ∈ os, i64B z) ∧ xs.length ≤ c3 ∧ xs.length ≤ maxLen := by
  obtain ⟨v0, v1, v2, v3, y0, y1, y2, y3, m, rfl, rfl, rfl, g0, g1, g2, g3⟩ := open_agg4 Try.underlying26 (by kernel_rfl) (by kernel_rfl) hv h
  obtain ⟨A1, c1, ps, rfl, _, _, _, h1, b1⟩ := rows_of_cell prtOf prtOf_cells (fun _ => rfl) (by decide) Try.underlying22 Try.underlying53 (by kernel_rfl) (fields_int (by kernel_rfl)) (by kernel_rfl) rfl g0
  obtain ⟨A2, c2, is, rfl, hn, _, _, h2, b2⟩ := ints_of_cell' Try.underlying23 Try.underlying3 (by kernel_rfl) g1
  obtain ⟨A3, c3, xs, rfl, _, k3, k4, h3, b3⟩ := rows_of_cell insOf insOf_cells (fun _ => rfl) (by decide) Try.underlying24 Try.underlying49 (by kernel_rfl) (fields_int (by kernel_rfl)) (by kernel_rfl) rfl g2
  obtain ⟨A4, c4, os, rfl, _, _, _, h4, b4⟩ := ints_of_cell' Try.underlying23 Try.underlying3 (by kernel_rfl) g3
  refine ⟨A1, A2, A3, A4, ps, is, xs, os, c1, c2, c3, c4, rfl, hn, ⟨h1, h2, h3, h4⟩, fun x hx => ?_, b2, fun x hx => ?_, b4, k3, k4⟩
  · obtain ⟨zs, rfl, hl, hz⟩ := b1 x hx
    match zs, hl with
    | [a0, a1, a2], _ => exact ⟨hz _ (by simp [prtOf]), hz _ (by simp [prtOf]), hz _ (by simp [prtOf])⟩
  · obtain ⟨zs, rfl, hl, hz⟩ := b3 x hx
    match zs, hl with
    | [a0, a1, a2, a3, a4, a5, a6], _ => exact ⟨hz _ (by simp [insOf]), hz _ (by simp [insOf]), hz _ (by simp [insOf]), hz _ (by simp [insOf]), hz _ (by simp [insOf]), hz _ (by simp [insOf]), hz _ (by simp [insOf])⟩
theorem open_load {r : Reach} {b0 : Nat} {v : Value} {d : DataW H} {p : List MemPlace} (hv : Value.okWide Try.prog w r b0 28 v) (h : DataW.Trod enc Try.prog w 0 spare held 28 v d p) :
    ∃ (X1 X2 : Option Addr) (xc xi : List Int) (d1 d2 : Nat), v = .agg #[.slice X1 xc.length d1, .slice X2 xi.length d2] ∧ (X1 = none → d1 = 0) ∧ CellsAt w w.heap.size X1 (ints xc) ∧ CellsAt w w.heap.size X2 (ints xi) ∧ (∀ z ∈ xc, i64B z) ∧ (∀ z ∈ xi, i64B z) := by
  obtain ⟨v0, v1, y0, y1, m, rfl, rfl, rfl, g0, g1⟩ := open_agg2 Try.underlying28 (by kernel_rfl) (by kernel_rfl) hv h
  obtain ⟨X1, d1, xc, rfl, hn, _, _, h1, b1⟩ := ints_of_cell' Try.underlying23 Try.underlying3 (by kernel_rfl) g0
  obtain ⟨X2, d2, xi, rfl, _, _, _, h2, b2⟩ := ints_of_cell' Try.underlying23 Try.underlying3 (by kernel_rfl) g1
  exact ⟨X1, X2, xc, xi, d1, d2, rfl, hn, h1, h2, b1, b2⟩
end
end Go.Proofs.Ytdhlmbnmgioeeaa
