/- The program's numbers: a number of at most two words as a machine's number. No conditions. -/
import Derived.Test.YtjlocofimlgaoaaDoorPdL
namespace Go.Proofs.YtjlocofimlgaoaaDoor
set_option linter.unusedVariables false
set_option linter.unusedSimpArgs false
set_option linter.unusedSectionVars false
open Go.RowKit

def puRel (w : World) (a : List Nat) (u i : Value) (wr : World) : Prop := ∃ k : Nat, k ≤ a.length ∧ i = .int .i64 ((k : Int) - 1) ∧ u = .int .u64 (wval (a.drop k) : Int) ∧ w = wr
set_option maxRecDepth 100000 in
set_option maxHeartbeats 4000000 in
theorem puint_any (A : Option Addr) (a : List Nat) (c m : Nat) (w : World) (h : CellsAt w m A (w32 a)) (ha : wordsOk a) (hl : a.length ≤ 2) :
    Calls Tryd.prog 83 #[.slice A a.length c] w fun e w' => e = .returned (.int .u64 (wval a : Int)) ∧ w = w' := by
  have H := Lib.hid h
  have HA := Lib.hid ha
  clear h ha
  go_enter Tryd.func83, Tryd.ntmps83
  go_wp2_with fail
  go_loopw [3, 4] (fun u i wr => puRel w a u i wr) (fun _ i _ => (intOf i + 1).toNat)
  case atStart => exact ⟨a.length, Nat.le_refl _, by go_num, by simp [wval], rfl⟩
  case round =>
    obtain ⟨k, hk, rfl, rfl, rfl⟩ := hrel
    by_cases hk0 : k = 0
    · subst hk0
      have e : ((0 : Nat) : Int) - 1 = -1 := rfl
      rw [e, List.drop_zero]
      go_wp2_with fail
      go_ret
      exact ⟨rfl, rfl⟩
    · obtain ⟨j, rfl⟩ : ∃ j, k = j + 1 := ⟨k - 1, by omega⟩
      have e : ((j + 1 : Nat) : Int) - 1 = (j : Int) := by omega
      rw [e]
      have hj : j < a.length := by omega
      obtain ⟨b1, o1, x, rfl, q1, _, hx, g1⟩ := H.out.w32_ hj
      have bx := HA.out x (List.mem_of_getElem? hx)
      obtain ⟨mm, hm⟩ : ∃ mm, mm = wval (a.drop (j + 1)) := ⟨_, rfl⟩
      have bm : mm < 4294967296 := by
        have h1 := wval_lt (ws := a.drop (j + 1)) (fun z hz => HA.out z (List.mem_of_mem_drop hz))
        have h2 : (a.drop (j + 1)).length ≤ 1 := by simp; omega
        have h3 : 4294967296 ^ (a.drop (j + 1)).length ≤ 4294967296 ^ 1 := Nat.pow_le_pow_right (by decide) h2
        omega
      have hd : wval (a.drop j) = x + 4294967296 * mm := by
        rw [hm, List.drop_eq_getElem_cons hj]
        have : a[j] = x := by rw [List.getElem?_eq_getElem hj] at hx; simpa using hx
        rw [this]
        rfl
      rw [← hm]
      have HD := Lib.hid hd
      have w3 : IntKind.u64.wrap ((mm : Int) * 4294967296) = (mm : Int) * 4294967296 := by rw [IntKind.wrap_u64]; omega
      obtain ⟨s, hs⟩ : ∃ s, s = x + 4294967296 * mm := ⟨_, rfl⟩
      have hor : bits .or .u64 ((mm : Int) * 4294967296) (x : Int) = (s : Int) := by rw [hs]; exact it_or bm bx
      have HS := Lib.hid hs
      have hji : (j : Int) < (a.length : Int) := by omega
      clear hx hm hd hs hk0 e
      go_wp2_with fail
      exact ⟨⟨j, by omega, by go_num, by rw [HD.out, ← HS.out], rfl⟩, by simp [intOf]⟩
end Go.Proofs.YtjlocofimlgaoaaDoor
