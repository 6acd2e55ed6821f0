/- A pruned diagram pruned again, as plain data. No conditions. -/
import Derived.Test.YtaheedieingpiaaDoorDhF
namespace Go.Proofs.YtaheedieingpiaaDoor
set_option linter.unusedVariables false
set_option linter.unusedSimpArgs false
set_option linter.unusedSectionVars false
open Go.RowKit

theorem core_keptL {l l' : List Bk} (h : l.map core = l'.map core) (os : List Int) : keptL l os = keptL l' os := by
  unfold keptL keptM
  rw [core_len h, core_passes h]
theorem core_prB (L : List Nat) {b b' : Bk} (h : core b = core b') : core (prB L b) = core (prB L b') := by
  obtain ⟨h1, h2, h3, h4, h5, h6⟩ := core_parts h
  unfold core prB
  simp only [h1, h2, h3, h4, h5, h6]
theorem core_prBs {l l' : List Bk} (h : l.map core = l'.map core) (os : List Int) : (prBs l os).map core = (prBs l' os).map core := by
  unfold prBs
  rw [core_keptL h, List.map_map, List.map_map]
  exact List.map_congr_left fun i _ => core_prB _ (core_getD h i)
theorem core_prOs {l l' : List Bk} (h : l.map core = l'.map core) (os : List Int) : prOs l os = prOs l' os := by unfold prOs; rw [core_keptL h]
section
variable {ps : List Prt} {bs l : List Bk} {os : List Int} (he : dgErr ps bs os = 0) (hc : l.map core = (prBs bs os).map core)
include he hc
theorem ag_err : dgErr ps l (prOs bs os) = 0 := (core_err hc ps _).trans (pr_err he)
theorem ag_kept : keptL l (prOs bs os) = List.range (keptL bs os).length := (core_keptL hc _).trans (pr_kept he)
theorem ag_bs : (prBs l (prOs bs os)).map core = l.map core := (core_prBs hc _).trans ((pr_pr_bs he).trans hc.symm)
theorem ag_os : prOs l (prOs bs os) = prOs bs os := (core_prOs hc _).trans (pr_pr_os he)
omit he in
theorem ag_len : l.length = (keptL bs os).length := (core_len hc).trans (prBs_len _ _)
theorem ag_kind {k i : Nat} (h : (keptL bs os)[k]? = some i) : kindAt l k = kindAt bs i := by rw [core_kind hc]; exact pr_kind he h
end
theorem kept_sorted {bs : List Bk} {os : List Int} {k i j : Nat} (h1 : (keptL bs os)[k]? = some i) (h2 : (keptL bs os)[k + 1]? = some j) : i < j := by
  obtain ⟨q1, rfl⟩ := List.getElem?_eq_some_iff.1 h1
  obtain ⟨q2, rfl⟩ := List.getElem?_eq_some_iff.1 h2
  exact List.pairwise_iff_getElem.1 (markL_sorted (keptM bs os)) k (k + 1) q1 q2 (by omega)
theorem prOs_get {bs : List Bk} {os : List Int} {t : Nat} {o : Int} (h : os[t]? = some o) : (prOs bs os)[t]? = some (renA (keptL bs os) o) := by simp [prOs, h]
end Go.Proofs.YtaheedieingpiaaDoor
