/- Cells and inputs that a program accepts (fit). No conditions. -/
import Derived.Test.YtdhlmbnmgioeeaaCdK0
namespace Go.Proofs.Ytdhlmbnmgioeeaa
set_option linter.unusedVariables false
set_option linter.unusedSimpArgs false
set_option linter.unusedSectionVars false
open Go.RowKit

def fitC (xc : List Int) (n : Nat) : List Int := (List.range n).map fun i => clipI (xc[i]?.getD 0) (-2147483648) 2147483647
def prtAt (ps : List Prt) (i : Nat) : Prt := ps[i]?.getD ⟨0, 0, 0⟩
def fitI (ps : List Prt) (xi : List Int) (n : Nat) : List Int := (List.range n).map fun i => clipI (xi[i]?.getD 0) (prtAt ps i).lo (prtAt ps i).hi
theorem fitC_step (xc : List Int) (n : Nat) : fitC xc (n + 1) = fitC xc n ++ [clipI (xc[n]?.getD 0) (-2147483648) 2147483647] := by simp [fitC, List.range_succ]
theorem fitI_step (ps : List Prt) (xi : List Int) (n : Nat) : fitI ps xi (n + 1) = fitI ps xi n ++ [clipI (xi[n]?.getD 0) (prtAt ps n).lo (prtAt ps n).hi] := by simp [fitI, List.range_succ]
theorem fitC_len (xc : List Int) (n : Nat) : (fitC xc n).length = n := by simp [fitC]
theorem fitI_len (ps : List Prt) (xi : List Int) (n : Nat) : (fitI ps xi n).length = n := by simp [fitI]

def FitPost (w : World) (cs inn : List Int) (e : Ending) (w' : World) : Prop :=
  ∃ A c B d, e = .returned (.agg #[.slice A cs.length c, .slice B inn.length d]) ∧ (A = none → c = 0) ∧ (B = none → d = 0) ∧ CellsAt w' w'.heap.size A (ints cs) ∧ CellsAt w' w'.heap.size B (ints inn) ∧ Below w.heap.size w w'
theorem res_fit {tmps : Array Value} {w : World} {b : Nat} {v0 v1 : Value} (h4 : tmps.getD 4 undef = .pointer (some ⟨b, 0, none⟩)) (hB : Blk w b [v0, v1] 28) :
    (results Try.f17 tmps).run Try.prog w = .ok (.agg #[v0, v1]) w := by
  have k0 := hB.cell 0
  have k1 := hB.cell 1
  simp at k0 k1
  simp at h4
  simp [results, Try.results17, go_sem, h4, k0, k1]

def f1Rel (w : World) (vp vx : List Value) (xc : List Int) (n : Nat) (i : Value) (wr : World) : Prop :=
  ∃ k v, k ≤ n ∧ i = .int .i64 ((k : Nat) : Int) ∧ BoxAt wr w.heap.size vp ∧ BoxAt wr (w.heap.size + 1) vx ∧ Blk wr (w.heap.size + 2) [.slice none 0 0, .slice none 0 0] 28 ∧ Blk wr (w.heap.size + 3) [v, .slice none 0 0] 28 ∧
    OwnI wr (w.heap.size + 4) v (fitC xc k) ∧ Below w.heap.size w wr
def f2Rel (w : World) (vp vx : List Value) (M : Nat) (A : Option Addr) (na ca : Nat) (cf : List Int) (ps : List Prt) (xi : List Int) (i : Value) (wr : World) : Prop :=
  ∃ k v, k ≤ ps.length ∧ i = .int .i64 ((k : Nat) : Int) ∧ BoxAt wr w.heap.size vp ∧ BoxAt wr (w.heap.size + 1) vx ∧ Blk wr (w.heap.size + 2) [.slice none 0 0, .slice none 0 0] 28 ∧ Blk wr (w.heap.size + 3) [.slice A na ca, v] 28 ∧
    OwnI wr (w.heap.size + 4) (.slice A na ca) cf ∧ OwnI wr M v (fitI ps xi k) ∧ M ≤ wr.heap.size ∧ Below w.heap.size w wr
section
variable {w wr w' : World} {vp vx : List Value} {xc xi cf : List Int} {n k M na ca : Nat} {A : Option Addr} {v v' : Value} {ps : List Prt} {z : Int}
theorem f1_low (hP : BoxAt wr w.heap.size vp) (hX : BoxAt wr (w.heap.size + 1) vx) (hR : Blk wr (w.heap.size + 2) [.slice none 0 0, .slice none 0 0] 28) (hO : Blk wr (w.heap.size + 3) [v, .slice none 0 0] 28) (hb : Below w.heap.size w wr)
    (hk : k < n) (hv' : OwnI w' (w.heap.size + 4) v' (fitC xc k ++ [z])) (hz : z = clipI (xc[k]?.getD 0) (-2147483648) 2147483647) (h' : Below (w.heap.size + 4) wr w') : f1Rel w vp vx xc n (.int .i64 ((k : Int) + 1)) (w'.setCell ⟨w.heap.size + 3, 0, none⟩ v') := by
  have hs : Below (w.heap.size + 3) w' (w'.setCell ⟨w.heap.size + 3, 0, none⟩ v') := (Below.refl _ w').setCell (p := ⟨w.heap.size + 3, 0, none⟩) (Nat.le_refl _) v'
  refine ⟨k + 1, v', by omega, by simp, (hP.below h' (by omega)).below hs (by omega), (hX.below h' (by omega)).below hs (by omega), (hR.below h' (by omega)).below hs (by omega), (hO.below h' (by omega)).set_ 0 v', ?_, (hb.trans (h'.mono (by omega))).trans (hs.mono (by omega))⟩
  rw [fitC_step, ← hz]
  exact hv'.set_below v' (by omega)
theorem f2_low (hP : BoxAt wr w.heap.size vp) (hX : BoxAt wr (w.heap.size + 1) vx) (hR : Blk wr (w.heap.size + 2) [.slice none 0 0, .slice none 0 0] 28) (hO : Blk wr (w.heap.size + 3) [.slice A na ca, v] 28) (hC : OwnI wr (w.heap.size + 4) (.slice A na ca) cf) (hM : w.heap.size + 4 ≤ M) (hA : ∀ g, A = some ⟨g, 0, none⟩ → g < M) (hb : Below w.heap.size w wr)
    (hk : k < ps.length) (hv' : OwnI w' M v' (fitI ps xi k ++ [z])) (hz : z = clipI (xi[k]?.getD 0) (prtAt ps k).lo (prtAt ps k).hi) (h' : Below M wr w') (hs' : M ≤ w'.heap.size) : f2Rel w vp vx M A na ca cf ps xi (.int .i64 ((k : Int) + 1)) (w'.setCell ⟨w.heap.size + 3, 1, none⟩ v') := by
  have hs : Below (w.heap.size + 3) w' (w'.setCell ⟨w.heap.size + 3, 1, none⟩ v') := (Below.refl _ w').setCell (p := ⟨w.heap.size + 3, 1, none⟩) (Nat.le_refl _) v'
  refine ⟨k + 1, v', by omega, by simp, (hP.below h' (by omega)).below hs (by omega), (hX.below h' (by omega)).below hs (by omega), (hR.below h' (by omega)).below hs (by omega), (hO.below h' (by omega)).set_ 1 v', ?_, ?_, by simpa using hs', (hb.trans (h'.mono (by omega))).trans (hs.mono (by omega))⟩
  · refine (hC.below h' (fun q hq => ?_)).set_below v' (by omega)
    rcases hC.2 with ⟨h0, _⟩ | ⟨g, cap, cur, h0, _⟩
    · cases h0
      simp [Value.ownBlock] at hq
    · cases h0
      simp [Value.ownBlock] at hq
      subst hq
      exact hA _ rfl
  · rw [fitI_step, ← hz]
    exact hv'.set_below v' (by omega)
end
end Go.Proofs.Ytdhlmbnmgioeeaa
