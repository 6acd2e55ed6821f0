/- Contracts of the statements' own helpers: the number of an error, two lists of numbers. No conditions. -/
import Derived.Test.YtjlocofimlgaoaaDoorQ
import Derived.Test.YtjlocofimlgaoaaDoorRead
import Derived.Test.YtjlocofimlgaoaaDoorRows
import Derived.BigGuardPart
namespace Go.Proofs.YtjlocofimlgaoaaDoor
set_option linter.unusedVariables false
set_option linter.unusedSimpArgs false
set_option linter.unusedSectionVars false
open Go.RowKit

def clipI (x lo hi : Int) : Int := max lo (min x hi)
set_option maxHeartbeats 400000 in
theorem bclip_any (x lo hi : Int) (w : World) :
    Calls Tryd.prog 58 #[.int .i64 x, .int .i64 lo, .int .i64 hi] w fun e w' => e = .returned (.int .i64 (clipI x lo hi)) ∧ w = w' := by
  go_enter Tryd.func58, Tryd.ntmps58
  go_wp2
  go_ret
  exact ⟨rfl, rfl⟩

/-- An error of the program as a value: 0 is none. -/
def errV (n : Int) : Value := if n = 0 then .nilIface else .iface 34 (.int .i64 n)
theorem errV_0 : errV 0 = .nilIface := rfl
theorem errV_n {n : Int} (h : n ≠ 0) : errV n = .iface 34 (.int .i64 n) := if_neg h

set_option maxHeartbeats 400000 in
theorem num_any (n : Int) (w : World) : Calls Tryd.prog 12 #[errV n] w fun e w' => e = .returned (.int .i64 n) ∧ w = w' := by
  by_cases h : n = 0
  · subst h
    rw [errV_0]
    go_enter Tryd.func12, Tryd.ntmps12
    go_wp2
    go_ret
    exact ⟨rfl, rfl⟩
  · rw [errV_n h]
    clear h
    have hta : ∀ w, (Instr.typeAssert (.iface 34 (.int .i64 n)) 26 34 true).run Tryd.prog w = .ok (.tuple #[.int .i64 n, .bool true]) w := fun _ => by kernel_rfl
    go_enter Tryd.func12, Tryd.ntmps12
    go_wp2
    go_ret
    exact ⟨rfl, rfl⟩

def intsB (xs ys : List Int) : Bool := decide (xs = ys)
def intsRel (A B : Option Addr) (xs ys : List Int) (i : Value) (w wr : World) : Prop := ∃ k : Nat, k ≤ xs.length ∧ i = .int .i64 k ∧ xs.take k = ys.take k ∧ ∃ n, wr = w.drewN n

theorem take_next {α : Type} {xs ys : List α} {k : Nat} {x y : α} (hx : xs[k]? = some x) (hy : ys[k]? = some y) (h : xs.take k = ys.take k) : xs.take (k + 1) = ys.take (k + 1) ↔ x = y := by
  rw [List.take_add_one, List.take_add_one, hx, hy, h]
  simp
theorem take_not {α : Type} {xs ys : List α} {k : Nat} {x y : α} (hx : xs[k]? = some x) (hy : ys[k]? = some y) (hne : x ≠ y) : xs ≠ ys := by
  rintro rfl
  rw [hx] at hy
  injection hy with h
  exact hne h

set_option maxHeartbeats 1000000 in
theorem ints_any (A B : Option Addr) (xs ys : List Int) (c1 c2 m : Nat) (w : World) (h1 : CellsAt w m A (ints xs)) (h2 : CellsAt w m B (ints ys)) (l1 : xs.length ≤ 9223372036854775807) (l2 : ys.length ≤ 9223372036854775807) :
    Calls Tryd.prog 32 #[.slice A xs.length c1, .slice B ys.length c2] w fun e w' => e = .returned (.bool (intsB xs ys)) ∧ Below w.heap.size w w' := by
  have H1 : Hid (CellsAt w m A (ints xs)) := h1
  have H2 : Hid (CellsAt w m B (ints ys)) := h2
  clear h1 h2
  by_cases hl : xs.length = ys.length
  · have HL : Hid (xs.length = ys.length) := hl
    have e1 : ((xs.length : Int) != (ys.length : Int)) = false := by simp; omega
    clear hl
    go_enter Tryd.func32, Tryd.ntmps32
    go_wp2
    go_loopw [13] (fun i wr => intsRel A B xs ys i w wr) (fun i _ => xs.length - (intOf i).toNat)
    case atStart => exact ⟨0, Nat.zero_le _, rfl, rfl, 0, rfl⟩
    case round =>
      obtain ⟨k, hk, rfl, ht, n, rfl⟩ := hrel
      have HT : Hid (xs.take k = ys.take k) := ht
      clear ht
      by_cases hlt : k < xs.length
      · have hlt2 : k < ys.length := by have := HL.out; omega
        obtain ⟨b1, o1, x, rfl, _, _, hx, g1⟩ := H1.out.int_ hlt
        obtain ⟨b2, o2, y, rfl, _, _, hy, g2⟩ := H2.out.int_ hlt2
        have HX : Hid (xs[k]? = some x) := hx
        have HY : Hid (ys[k]? = some y) := hy
        clear hx hy
        by_cases hxy : x = y
        · subst hxy
          have e2 : (x != x) = false := by simp
          go_wp2_with fail
          go_quiet (fail)
          go_wp2
          refine ⟨⟨k + 1, by omega, by go_num, (take_next HX.out HY.out HT.out).2 rfl, _, rfl⟩, by simp [intOf]; omega⟩
        · have e2 : (x != y) = true := by simpa using hxy
          have HN : Hid (¬ x = y) := hxy
          clear hxy
          go_wp2_with fail
          go_quiet (fail)
          go_wp2
          go_ret
          exact ⟨ret_bool (by simp only [intsB]; exact (decide_eq_false (take_not HX.out HY.out HN.out)).symm), by repeat (first | exact Below.refl _ _ | refine ext_drewN ?_ _)⟩
      · go_wp2
        go_ret
        refine ⟨ret_bool ?_, ext_drewN (Below.refl _ _) _⟩
        have h1 := HT.out
        have h2 := HL.out
        rw [List.take_of_length_le (by omega), List.take_of_length_le (by omega)] at h1
        simp only [intsB]
        exact (decide_eq_true h1).symm
  · have e1 : ((xs.length : Int) != (ys.length : Int)) = true := by simp; omega
    have HL : Hid (¬ xs.length = ys.length) := hl
    clear hl
    go_enter Tryd.func32, Tryd.ntmps32
    go_wp2
    go_ret
    exact ⟨ret_bool (by simp only [intsB]; exact (decide_eq_false (fun h => HL.out (by rw [h]))).symm), Below.refl _ _⟩
end Go.Proofs.YtjlocofimlgaoaaDoor
