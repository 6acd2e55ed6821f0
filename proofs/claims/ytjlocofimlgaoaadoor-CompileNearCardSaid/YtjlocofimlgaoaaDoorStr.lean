/- Slices of structs of whole numbers that came in, told in one way. No conditions. -/
import Derived.Test.YtjlocofimlgaoaaDoorMod
namespace Go.Proofs.YtjlocofimlgaoaaDoor
set_option linter.unusedVariables false
set_option linter.unusedSimpArgs false
set_option linter.unusedSectionVars false
open Go.ChangeShapes Go.WideShapes Go.ChangeAt Go.RowKit Go.Joins Go.Deep

theorem flat_len {α : Type} {f : α → List Value} {s : Nat} (hf : ∀ x, (f x).length = s) (l : List α) : (flat f l).length = l.length * s := by
  induction l with
  | nil => simp [flat]
  | cons x l ih =>
    simp only [flat, List.map_cons, List.flatten_cons, List.length_append, hf] at ih ⊢
    rw [ih, List.length_cons, Nat.succ_mul, Nat.add_comm]
theorem all_ints {cs : List Value} (h : ∀ c ∈ cs, ∃ z : Int, c = .int .i64 z ∧ -9223372036854775808 ≤ z ∧ z ≤ 9223372036854775807) : ∃ zs : List Int, cs = ints zs ∧ ∀ z ∈ zs, -9223372036854775808 ≤ z ∧ z ≤ 9223372036854775807 := by
  induction cs with
  | nil => exact ⟨[], rfl, by simp⟩
  | cons c cs ih =>
    obtain ⟨zs, rfl, hz⟩ := ih (fun c hc => h c (by simp [hc]))
    obtain ⟨z, rfl, hb⟩ := h c (by simp)
    exact ⟨z :: zs, rfl, fun y hy => by
      rcases List.mem_cons.1 hy with rfl | hy
      · exact hb
      · exact hz y hy⟩
section
variable {H : Type} {enc : TypeId × Value → H} {P : Program} {w : World} {spare : Nat → Bool} {held : Bool}
theorem row_ints {e : TypeId} {fs : Array Field} {fuel : Nat} {cs : List Value} {x : DataW H × List MemPlace} (hs : P.underlying e = some (.struct fs)) (hone : oneCellFields P fs = true) (hint : ∀ (i : Nat) (f : Field), fs[i]? = some f → P.underlying f.type = some (.int .i64)) (hC : P.cellsOf e = fs.size)
    (h : DataW.trod enc P w 0 spare held fuel e cs = some x) : ∃ zs : List Int, cs = ints zs ∧ zs.length = fs.size ∧ ∀ z ∈ zs, -9223372036854775808 ≤ z ∧ z ≤ 9223372036854775807 := by
  obtain ⟨xs, n, _, _, hlen, hxl, hg⟩ := DataW.trod_struct hs h
  obtain ⟨zs, rfl, hz⟩ := all_ints (cs := cs) (fun c hc => by
    obtain ⟨i, hi⟩ := List.getElem?_of_mem hc
    have hil : i < cs.length := (List.getElem?_eq_some_iff.1 hi).1
    have hif : i < fs.size := by omega
    have hf : fs[i]? = some fs[i] := by simp [hif]
    obtain ⟨o0, k0⟩ := hone_of hone i fs[i] hf
    have hgi := hg i fs[i] hf
    rw [o0, k0, take1_drop cs i undef hil, List.getElem?_eq_getElem (by omega)] at hgi
    obtain ⟨z, hz, _, hw⟩ := DataW.trod_int (hint i fs[i] hf) hgi
    have hd : cs.getD i undef = c := by simp [List.getD, hi]
    rw [hd] at hz
    exact ⟨z, by simpa using hz, bounds_i64 hw⟩)
  exact ⟨zs, rfl, by rw [← ints_len, hlen, hC], hz⟩
theorem rows_of_cell {α : Type} {f : α → List Value} {s : Nat} (mk : List Int → α) (hmk : ∀ zs, zs.length = s → f (mk zs) = ints zs) (hfl : ∀ x, (f x).length = s) (hs0 : 0 < s) {t e : TypeId} {fs : Array Field} {fuel : Nat} {v : Value} {x : DataW H × List MemPlace} (ht : P.underlying t = some (.slice e)) (hs : P.underlying e = some (.struct fs)) (hone : oneCellFields P fs = true) (hint : ∀ (i : Nat) (f : Field), fs[i]? = some f → P.underlying f.type = some (.int .i64)) (hC : P.cellsOf e = fs.size) (hsz : fs.size = s)
    (h : DataW.trod enc P w 0 spare held fuel t [v] = some x) :
    ∃ (A : Option Addr) (cap : Nat) (l : List α), v = .slice A l.length cap ∧ (A = none → cap = 0) ∧ l.length ≤ cap ∧ l.length ≤ maxLen ∧ CellsAt w w.heap.size A (flat f l) ∧ (∀ x ∈ l, ∃ zs, x = mk zs ∧ zs.length = s ∧ ∀ z ∈ zs, -9223372036854775808 ≤ z ∧ z ≤ 9223372036854775807) := by
  rcases open_slice ht h with ⟨hcs, _⟩ | ⟨a, len, cap, m, n, D, Pl, hcs, _, hl, hm, hmm, _, hx⟩
  · exact ⟨none, 0, [], by simpa using hcs, fun _ => rfl, Nat.le_refl _, Nat.zero_le _, CellsAt.nil_, by simp⟩
  · have hle : len ≤ m := by rw [hmm]; split <;> omega
    rw [hC, hsz] at hx
    obtain ⟨R, hR⟩ := choose_lt (α := List Int) (n := len) (p := fun i zs => zs.length = s ∧ (∀ z ∈ zs, -9223372036854775808 ≤ z ∧ z ≤ 9223372036854775807) ∧ ∀ j, j < s → w.cell? (a.add (i * s + j)) = (ints zs)[j]?) (fun i hi => by
      obtain ⟨cs', h1, h2⟩ := hx i (by omega)
      obtain ⟨zs, rfl, hzl, hzb⟩ := row_ints hs hone hint hC h2
      obtain ⟨_, hlen, hcell⟩ := World.cells?_some h1
      exact ⟨zs, hzl.trans hsz, hzb, fun j hj => by rw [← add_add]; exact hcell j hj⟩)
    refine ⟨some a, cap, (List.range len).map (fun i => mk (R i)), by simpa using hcs, by simp, by simpa using hl, by simp; omega, fun hne => ?_, ?_⟩
    · have hpos : 0 < len := by
        rcases Nat.eq_zero_or_pos len with h0 | h0
        · subst h0; simp [flat] at hne
        · exact h0
      obtain ⟨b, off, spot⟩ := a
      have h00 := (hR 0 hpos).2.2 0 hs0
      have hz0 : (ints (R 0))[0]? = some ((ints (R 0))[0]'(by rw [ints_len, (hR 0 hpos).1]; exact hs0)) := List.getElem?_eq_getElem _
      rw [hz0] at h00
      have hspot : spot = none := by simpa [Addr.add] using World.cell?_spot h00
      subst hspot
      have hb : b < w.heap.size := by
        rcases Nat.lt_or_ge b w.heap.size with h | h
        · exact h
        · simp [World.cell?, Addr.add, Array.getElem?_eq_none h] at h00
      refine ⟨b, off, rfl, hb, hb, fun j u hu => ?_⟩
      have hjl : j < len * s := by
        have := (List.getElem?_eq_some_iff.1 hu).1
        rw [flat_len hfl] at this
        simpa using this
      have hk : j / s < len := Nat.div_lt_of_lt_mul (by rw [Nat.mul_comm]; exact hjl)
      have hr : j % s < s := Nat.mod_lt _ hs0
      have hj : j / s * s + j % s = j := by rw [Nat.mul_comm]; exact Nat.div_add_mod j s
      have hg : ((List.range len).map (fun i => mk (R i)))[j / s]? = some (mk (R (j / s))) := by simp [hk]
      have h1 := flat_get hfl hg hr
      rw [hj, hu, hmk _ (hR _ hk).1] at h1
      have h2 := (hR _ hk).2.2 (j % s) hr
      rw [hj, ← h1] at h2
      rw [← Go.WideShapes.add_plain]
      exact h2
    · intro y hy
      obtain ⟨i, hi, rfl⟩ := List.mem_map.1 hy
      have := hR i (by simpa using hi)
      exact ⟨_, rfl, this.1, this.2.1⟩
/-- A cell that is a slice of ints, with its room where it is nil. -/
theorem ints_of_cell' {t e : TypeId} {fuel : Nat} {v : Value} {x : DataW H × List MemPlace} (ht : P.underlying t = some (.slice e)) (he : P.underlying e = some (.int .i64)) (hc : P.cellsOf e = 1)
    (h : DataW.trod enc P w 0 spare held fuel t [v] = some x) :
    ∃ (A : Option Addr) (cap : Nat) (zs : List Int), v = .slice A zs.length cap ∧ (A = none → cap = 0) ∧ zs.length ≤ cap ∧ zs.length ≤ maxLen ∧ CellsAt w w.heap.size A (ints zs) ∧ (∀ z ∈ zs, -9223372036854775808 ≤ z ∧ z ≤ 9223372036854775807) := by
  obtain ⟨A, cap, zs, hv, h1, h2, h3, h4⟩ := ints_of_cell ht he hc h
  refine ⟨A, cap, zs, hv, fun hA => ?_, h1, h2, h3, h4⟩
  subst hA hv
  rcases open_slice ht h with ⟨hcs, _⟩ | ⟨a, len, cap', m, n, D, Pl, hcs, _⟩
  · simp at hcs
    exact hcs.2
  · simp at hcs
end
end Go.Proofs.YtjlocofimlgaoaaDoor
