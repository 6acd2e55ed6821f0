/- What the proofs of this claim share, part 15. No conditions. -/
import Derived.Test.YtilbehepmkpdbaaGreatDoorKj6
import Derived.Defers
import Derived.Recover
set_option linter.unusedVariables false
set_option linter.unusedSimpArgs false
set_option linter.unusedSectionVars false
namespace Go.Proofs.YtilbehepmkpdbaaGreatDoor
open Go.RowKit
section
variable (P : Program) (G : World → Prop)
def PnOk (o : Oper) (F : Frm) (H : List Ob) (chain : List PanicEntry) : Prop :=
  ∀ (b0 : Nat) (m : Mm) (a : Act), m.H = H → Cx b0 m → G m.w → b0 ≤ m.w.heap.size → ORel m F a o →
    ∀ (K : Act → World → Prop) (Q : Exit → Act → World → Prop), (∀ w', Below m.w.heap.size m.w w' → Q (.panic chain) a w') → o.wp P a m.w K Q
def CVP (f : FuncId) (args : List A) (chain : List PanicEntry) : Prop :=
  ∀ (w : World) (S : Sets) (vs : List Value), G w → (∀ t b, S t b → b < w.heap.size) → LRel (ARel w S) args vs →
    Calls P f vs.toArray w fun e w' => e = .panicked chain ∧ Below w.heap.size w w'
end
section
variable {P : Program} {G : World → Prop} {N : Nat}
def deadB (md : Region.Mode) (ops : Array Oper) (p : Nat) : Nat → Nat → Bool
  | 0, _ => false
  | n + 1, i => match ops[i]? with
    | none => false
    | some o => o.after.any fun e => Region.binds md e && (Nat.beq e.on p || deadB md ops p n e.on)
section
variable (P G)
def ChP (ops : Array Oper) (p : Nat) (chain : List PanicEntry) : Nat → List Oper → Frm → List Ob → Prop
  | _, [], _, _ => True
  | i, o :: l, F, H => o.guard = none ∧ ((deadB .any ops p ops.size i = true ∧ ChP ops p chain (i + 1) l (F.put o.dst .any) H) ∨ (i = p ∧ PnOk P G o F H chain ∧ ChP ops p chain (i + 1) l (F.put o.dst .any) H) ∨
      (Nat.beq i p = false ∧ ∃ x, OpOk P G o F H x [] ∧ ChP ops p chain (i + 1) l (F.put o.dst x) H))
end
def fgt (l : List Oper) (F : Frm) : Frm := fun t => match l.any (fun o => match o.dst with | some d => Nat.beq d t | none => false) with | true => .any | false => F t
structure HInvP (b0 N : Nat) (w0 : World) (S0 : SD) (ops : Array Oper) (p : Nat) (Fs : Nat → Frm) (H : List Ob) (listed : Array Bool) (a : Act) (m : Mm) : Prop where
  H : m.H = H
  cx : Cx b0 m
  tot : Tot m
  frame : ∀ t, (∀ (i : Nat) (o : Oper), ops[i]? = some o → listed.getD i true = false → o.dst ≠ some t) → XRel m (Fs ops.size t) (a.tmps.getD t undef)
  size : a.tmps.size = N
  defers : a.defers = S0.ds
  below : Below b0 w0 m.w
  base : b0 ≤ w0.heap.size
  S : ∀ b, m.S false b → S0 false b ∨ b0 ≤ b
  T : m.S true = S0 true
  ls : listed.size = ops.size
  un : ∀ n i, (i = p ∨ deadB .any ops p n i = true) → i < ops.size → listed.getD i true = false
end
def ptrV (g : Nat) : Value := .pointer (some ⟨g, 0, none⟩)
def cloV (fc : FuncId) (g1 g2 g3 : Nat) : Deferred := { target := .fn (.func fc) #[ptrV g1, ptrV g2, ptrV g3], args := #[] }
abbrev pin3 (i1 i2 i3 g1 g2 g3 : Nat) : X := .pin [(i1, g1), (i2, g2), (i3, g3)]
def CWD (P : Program) (G : World → Prop) (N : Nat) (fc : FuncId) (i1 i2 i3 : Nat) (c : Code) (F : Frm) (H : List Ob) (Q QD : Post) : Prop :=
  ∀ (b0 : Nat) (w0 : World) (S0 : SD) (a : Act) (m : Mm), (∀ w', Below b0 w0 w' → G w') → S0.ds = [] → m.H = H → St b0 N w0 S0 F a m →
    c.wp P (fun e a w => ∃ F' m', m'.w = w ∧ ((St b0 N w0 S0 F' a m' ∧ Q e F' m'.H) ∨ ∃ g1 g2 g3, St b0 N w0 ⟨S0.S, [cloV fc g1 g2 g3]⟩ F' a m' ∧ F' N = pin3 i1 i2 i3 g1 g2 g3 ∧ QD e F' m'.H)) a m.w
section
variable {P : Program} {G : World → Prop} {o : Oper} {F : Frm} {H : List Ob}
theorem xexp_refD {id : Nat} {ty : TypeId} {ds : List D} (hH : H[id]? = some (.box ty (ds.map C.d))) : XExp true H (.one (.ref id 0 none)) (.one (.ptr true ds)) :=
  .one (.ref rfl hH (by simp) fun j c d hc hd => by
    simp only [List.drop_zero, List.getElem?_map, hd, Option.map_some, Option.some.injEq] at hc
    subst hc
    exact .d fun h => by cases h)
theorem xMf (rs : List (Nat × Nat × Option Nat)) {fn : Fn} {caps : Array Operand} (ho : o.op = .makeFunc fn #[] caps := by with_unfolding_all exact rfl) (hc : caps.toList.map F.ev = rs.map (fun p => X.one (.ref p.1 p.2.1 p.2.2)) := by with_unfolding_all exact rfl) : OpOk P G o F H (.one (.clo fn rs)) [] :=
  ok_makeFunc ho ⟨by have := congrArg List.length hc; simpa using this, fun j x p hx hp => by
    have h1 := congrArg (fun l => l[j]?) hc
    simp only [List.getElem?_map, hx, hp, Option.map_some, Option.some.injEq] at h1
    exact h1⟩
theorem xCc {f : FuncId} {fn : Func} {cd : Code} {r : Operand} {xs : Array Operand} {ts : Array TypeId} {rs : List (Nat × Nat × Option Nat)} {l args cargs res : List A} {x : X} (h1 : P.funcs[f]? = some fn) (h : CV P G f l res) (hl : l = args ++ cargs) (h2 : (fn.name == "runtime.NumGoroutine") = false := by kernel_rfl) (h3 : fn.body = some cd := by with_unfolding_all exact rfl)
    (ho : o.op = .call { callee := .value r, args := xs, argTypes := ts } := by with_unfolding_all exact rfl) (hr : F.ev r = .one (.clo (.func f) rs) := by with_unfolding_all exact rfl)
    (ha : LRel (fun x y => XExp true H (F.ev x) y) xs.toList args := by with_unfolding_all first | ((repeat' first | exact lrel_n rfl rfl | refine lrel_c rfl rfl ?_ ?_ | refine xexp_1 rfl rfl ?_ | refine xexp_a rfl rfl ?_ | exact cexp_d rfl (fun h => by cases h) | exact cexp_n rfl rfl | exact cexp_e rfl rfl | refine cexp_o rfl rfl rfl ?_) <;> fail) | fail)
    (hcl : LRel (fun (p : Nat × Nat × Option Nat) y => XExp true H (.one (.ref p.1 p.2.1 p.2.2)) y) rs cargs := by with_unfolding_all first | ((repeat' first | exact lrel_n rfl rfl | refine lrel_c rfl rfl ?_ ?_ | exact xexp_refD rfl) <;> fail) | fail)
    (hx : resX res = x := by with_unfolding_all exact rfl) : OpOk P G o F H x [] := hx ▸ ok_callclo ho hr h1 h2 h3 (hl ▸ h) ha hcl
end
end Go.Proofs.YtilbehepmkpdbaaGreatDoor
