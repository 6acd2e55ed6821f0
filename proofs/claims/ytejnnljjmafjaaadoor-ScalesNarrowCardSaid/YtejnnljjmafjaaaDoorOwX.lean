/- Own lists of numbers: stores into them. No conditions. -/
import Derived.Test.YtejnnljjmafjaaaDoorDgK
namespace Go.Proofs.YtejnnljjmafjaaaDoor
set_option linter.unusedVariables false
set_option linter.unusedSimpArgs false
set_option linter.unusedSectionVars false
open Go.RowKit

theorem ints_set (l : List Int) (i : Nat) (x : Int) : ints (l.set i x) = (ints l).set i (.int .i64 x) := by simp [ints, List.map_set]
theorem ints_get {l : List Int} {i : Nat} {z : Int} (h : l[i]? = some z) : (ints l)[i]? = some (.int .i64 z) := by simp [ints, h]
theorem OwnI.lit0n {w : World} {base n : Nat} (hn : w.heap.size = n) (h : base ≤ n) : OwnI (w.alloc (.cells #[] 3)) base (.slice (some ⟨n, 0, none⟩) 0 0) [] := by
  subst hn
  exact OwnI.lit0 h
theorem OwnI.put {w : World} {base g n c : Nat} {xs : List Int} (h : OwnI w base (.slice (some ⟨g, 0, none⟩) n c) xs) (hn : n = xs.length) (j : Nat) (z : Int) : OwnI (w.setCell ⟨g, j, none⟩ (.int .i64 z)) base (.slice (some ⟨g, 0, none⟩) n c) (xs.set j z) := by
  subst hn
  have h2 : w.ownsRow base 3 1 (.slice (some ⟨g, 0, none⟩) xs.length c) xs.length (ints xs) := h
  have h3 := (World.ownsRow.stored h2 j (.int .i64 z)).1
  unfold OwnI
  rw [ints_set, List.length_set]
  exact h3
theorem OwnI.freeA {w : World} {base g n c : Nat} {xs : List Int} (h : OwnI w base (.slice (some ⟨g, 0, none⟩) n c) xs) (hn : n = xs.length) (j : Nat) : w.frozen? ⟨g, j, none⟩ = false := by
  subst hn
  have h2 : w.ownsRow base 3 1 (.slice (some ⟨g, 0, none⟩) xs.length c) xs.length (ints xs) := h
  exact World.ownsRow.frozenAt h2 j
theorem OwnI.cellA {w : World} {base g n c j : Nat} {z : Int} {xs : List Int} (h : OwnI w base (.slice (some ⟨g, 0, none⟩) n c) xs) (hz : xs[j]? = some z) : w.cell? ⟨g, j, none⟩ = some (.int .i64 z) := by
  have hj : j < xs.length := (List.getElem?_eq_some_iff.1 hz).1
  obtain ⟨b, off, z', hA, _, _, hx, hcc⟩ := h.cells.int_ hj
  cases hA
  rw [hz] at hx
  cases hx
  simpa using hcc
theorem OwnI.some_ {w : World} {base n c : Nat} {A : Option Addr} {xs : List Int} (h : OwnI w base (.slice A n c) xs) (hp : 0 < xs.length) : ∃ g, A = some ⟨g, 0, none⟩ ∧ base ≤ g ∧ g < w.heap.size := by
  rcases h.2 with ⟨he, h0⟩ | ⟨g, cap, cur, he, hb, hg, _⟩
  · omega
  · simp only [Value.slice.injEq] at he
    exact ⟨g, he.1, hb, (Array.getElem?_eq_some_iff.1 hg).1⟩
def mix (zs args : List Int) (t : Nat) : List Int := zs.take t ++ args.drop t
theorem mix_len {zs args : List Int} {t : Nat} (h : zs.length = args.length) (ht : t ≤ args.length) : (mix zs args t).length = args.length := by simp [mix]; omega
theorem mix_get {zs args : List Int} {t : Nat} (h : zs.length = args.length) {a : Int} (ha : args[t]? = some a) : (mix zs args t)[t]? = some a := by
  have ht := (List.getElem?_eq_some_iff.1 ha).1
  unfold mix
  rw [List.getElem?_append_right (by simp; omega)]
  simp only [List.length_take, List.getElem?_drop]
  rw [← ha]
  congr 1
  omega
theorem mix_set {zs args : List Int} {t : Nat} (h : zs.length = args.length) {z : Int} (hz : zs[t]? = some z) : (mix zs args t).set t z = mix zs args (t + 1) := by
  have ht := (List.getElem?_eq_some_iff.1 hz).1
  unfold mix
  rw [List.set_append_right _ _ (by simp; omega), List.take_add_one, hz]
  have e : t - (List.take t zs).length = 0 := by simp; omega
  rw [e, List.drop_eq_getElem_cons (by omega), List.set_cons_zero]
  simp
theorem mix_all {zs args : List Int} {t : Nat} (h : zs.length = args.length) (ht : args.length ≤ t) : mix zs args t = zs := by
  unfold mix
  rw [List.take_of_length_le (by omega), List.drop_eq_nil_of_le ht, List.append_nil]
theorem mix_zero (zs args : List Int) : mix zs args 0 = args := by simp [mix]
end Go.Proofs.YtejnnljjmafjaaaDoor
