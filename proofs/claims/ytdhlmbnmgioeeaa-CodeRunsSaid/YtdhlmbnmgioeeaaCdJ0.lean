/- code.Run: what it leaves, or the first error. No conditions. -/
import Derived.Test.YtdhlmbnmgioeeaaCdI
namespace Go.Proofs.Ytdhlmbnmgioeeaa
set_option linter.unusedVariables false
set_option linter.unusedSimpArgs false
set_option linter.unusedSectionVars false
open Go.RowKit

/-- What a call that hands back a run and an error leaves. -/
def RunPost (w : World) (r : RunD) (er : Int) (e : Ending) (w' : World) : Prop :=
  ∃ A c B d, e = .returned (.tuple #[.agg #[.slice A r.cells.length c, .slice B r.outs.length d, .bool r.over], errV er]) ∧ (A = none → c = 0) ∧ (B = none → d = 0) ∧
    CellsAt w' w'.heap.size A (ints r.cells) ∧ CellsAt w' w'.heap.size B (ints r.outs) ∧ Below w.heap.size w w' ∧ (∀ a : Addr, A = some a → w.heap.size ≤ a.block) ∧ (∀ a : Addr, B = some a → w.heap.size ≤ a.block)
theorem RunPost.zero {w w' : World} {r : RunD} {er : Int} {v : Value} (hr : r = .zero) (hb : Below w.heap.size w w') (hv : v = .tuple #[.agg #[.slice none 0 0, .slice none 0 0, .bool false], errV er]) : RunPost w r er (.returned v) w' := by
  subst hr
  exact ⟨none, 0, none, 0, by rw [hv]; rfl, fun _ => rfl, fun _ => rfl, CellsAt.nil_, CellsAt.nil_, hb, by simp, by simp⟩

theorem res_run {tmps : Array Value} {w : World} {b : Nat} {v0 v1 v2 ev : Value} (h6 : tmps.getD 6 undef = .pointer (some ⟨b, 0, none⟩)) (h7 : tmps.getD 7 undef = ev) (hB : Blk w b [v0, v1, v2] 32) :
    (results Try.f12 tmps).run Try.prog w = .ok (.tuple #[.agg #[v0, v1, v2], ev]) w := by
  have k0 := hB.cell 0
  have k1 := hB.cell 1
  have k2 := hB.cell 2
  simp at k0 k1 k2
  simp at h6 h7
  simp [results, Try.results12, go_sem, h6, h7, k0, k1, k2]
end Go.Proofs.Ytdhlmbnmgioeeaa
