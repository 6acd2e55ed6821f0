/- A run of a program as plain data. No conditions. -/
import Derived.Test.YtdhlmbnmgioeeaaCdH
namespace Go.Proofs.Ytdhlmbnmgioeeaa
set_option linter.unusedVariables false
set_option linter.unusedSimpArgs false
set_option linter.unusedSectionVars false
open Go.RowKit

/-- What an instruction's operation gives, before it is cut to 32 bits. -/
def insVal (x : Ins) (cs inn : List Int) : Int :=
  if x.op = 0 then scl (inn[x.a.toNat]?.getD 0) x.sa
  else if x.op = 1 then x.imm
  else if x.op = 2 then scl (cs[x.a.toNat]?.getD 0) x.sa
  else if x.op = 3 then wrap64 (scl (cs[x.a.toNat]?.getD 0) x.sa + scl (cs[x.b.toNat]?.getD 0) x.sb)
  else if x.op = 4 then wrap64 (scl (cs[x.a.toNat]?.getD 0) x.sa - scl (cs[x.b.toNat]?.getD 0) x.sb)
  else if x.op = 5 then wrap64 (-scl (cs[x.a.toNat]?.getD 0) x.sa)
  else if x.op = 10 then max (scl (cs[x.a.toNat]?.getD 0) x.sa) (wrap64 (-scl (cs[x.a.toNat]?.getD 0) x.sa))
  else if x.op = 6 then scl (wrap64 (cs[x.a.toNat]?.getD 0 * x.imm)) x.sa
  else if x.op = 7 then scl (wrap64 (cs[x.a.toNat]?.getD 0 * cs[x.b.toNat]?.getD 0)) x.sa
  else if x.op = 8 then min (scl (cs[x.a.toNat]?.getD 0) x.sa) (scl (cs[x.b.toNat]?.getD 0) x.sb)
  else max (scl (cs[x.a.toNat]?.getD 0) x.sa) (scl (cs[x.b.toNat]?.getD 0) x.sb)
def cut32 (n : Int) : Int := max (-2147483648) (min n 2147483647)
def stepR (inn : List Int) (st : List Int × Bool) (x : Ins) : List Int × Bool := (st.1.set x.dst.toNat (cut32 (insVal x st.1 inn)), st.2 || !shortB (insVal x st.1 inn))
def runR (inn : List Int) (xs : List Ins) (st : List Int × Bool) : List Int × Bool := xs.foldl (stepR inn) st
theorem runR_len (inn : List Int) (xs : List Ins) (st : List Int × Bool) : (runR inn xs st).1.length = st.1.length := by
  induction xs generalizing st with
  | nil => rfl
  | cons x xs ih =>
    show (runR inn xs (stepR inn st x)).1.length = _
    rw [ih]
    simp [stepR]
theorem runR_step {inn : List Int} {xs : List Ins} {st : List Int × Bool} {k : Nat} {x : Ins} (h : xs[k]? = some x) : runR inn (xs.take (k + 1)) st = stepR inn (runR inn (xs.take k) st) x := by
  rw [List.take_add_one, h]
  simp [runR, List.foldl_append]
theorem cut_short {n : Int} (h : shortB n = true) : cut32 n = n := by have := shortB_t h; unfold cut32; omega

def inErr (p : Prt) (n : Int) : Int := if p.lo ≤ n ∧ n ≤ p.hi then 0 else 3
def runErr (ps : List Prt) (is : List Int) (xs : List Ins) (os : List Int) (cs inn : List Int) : Int :=
  if progErr ps is xs os ≠ 0 then progErr ps is xs os
  else if cs.length ≠ is.length then 11
  else if firstErr (cs.map initErr) ≠ 0 then firstErr (cs.map initErr)
  else if inn.length ≠ ps.length then 11
  else firstErr (List.zipWith inErr ps inn)
def outsOf (cs os : List Int) : List Int := os.map fun o => (cs[o.toNat]?.getD 0)
theorem outs_step {cs os : List Int} {k : Nat} {o : Int} (h : os[k]? = some o) : outsOf cs (os.take (k + 1)) = outsOf cs (os.take k) ++ [(cs[o.toNat]?.getD 0)] := by
  rw [List.take_add_one, h]
  simp [outsOf]
theorem outs_len (cs os : List Int) : (outsOf cs os).length = os.length := by simp [outsOf]
def runM (ps : List Prt) (is : List Int) (xs : List Ins) (os : List Int) (cs inn : List Int) : RunD :=
  if runErr ps is xs os cs inn = 0 then ⟨(runR inn xs (cs, false)).1, outsOf (runR inn xs (cs, false)).1 os, (runR inn xs (cs, false)).2⟩ else .zero
theorem runErr_prog {ps : List Prt} {is : List Int} {xs : List Ins} {os : List Int} {cs inn : List Int} (h : progErr ps is xs os ≠ 0) : runErr ps is xs os cs inn = progErr ps is xs os := if_pos h
theorem runErr_len {ps : List Prt} {is : List Int} {xs : List Ins} {os : List Int} {cs inn : List Int} (h : progErr ps is xs os = 0) (h2 : cs.length ≠ is.length) : runErr ps is xs os cs inn = 11 := by simp [runErr, h, h2]
theorem runErr_cell {ps : List Prt} {is : List Int} {xs : List Ins} {os : List Int} {cs inn : List Int} {e : Int} (h : progErr ps is xs os = 0) (h2 : cs.length = is.length) (h3 : firstErr (cs.map initErr) = e) (he : e ≠ 0) : runErr ps is xs os cs inn = e := by simp [runErr, h, h2, h3, he]
theorem runErr_in {ps : List Prt} {is : List Int} {xs : List Ins} {os : List Int} {cs inn : List Int} (h : progErr ps is xs os = 0) (h2 : cs.length = is.length) (h3 : firstErr (cs.map initErr) = 0) (h4 : inn.length ≠ ps.length) : runErr ps is xs os cs inn = 11 := by simp [runErr, h, h2, h3, h4]
theorem runErr_val {ps : List Prt} {is : List Int} {xs : List Ins} {os : List Int} {cs inn : List Int} {e : Int} (h : progErr ps is xs os = 0) (h2 : cs.length = is.length) (h3 : firstErr (cs.map initErr) = 0) (h4 : inn.length = ps.length) (h5 : firstErr (List.zipWith inErr ps inn) = e) : runErr ps is xs os cs inn = e := by simp [runErr, h, h2, h3, h4, h5]
theorem runM_err {ps : List Prt} {is : List Int} {xs : List Ins} {os : List Int} {cs inn : List Int} {e : Int} (h : runErr ps is xs os cs inn = e) (he : e ≠ 0) : runM ps is xs os cs inn = .zero := if_neg (by rw [h]; exact he)
end Go.Proofs.Ytdhlmbnmgioeeaa
