/- The program's numbers: Int. No conditions. -/
import Derived.Test.YtjlocofimlgaoaaDoorPdM
namespace Go.Proofs.YtjlocofimlgaoaaDoor
set_option linter.unusedVariables false
set_option linter.unusedSimpArgs false
set_option linter.unusedSectionVars false
open Go.RowKit

/-- A whole number that is one of the machine's. -/
def i64In (x : Int) : Bool := decide (-9223372036854775808 ≤ x ∧ x < 9223372036854775808)
def i64V (x : Int) : Int := if i64In x = true then x else 0
theorem i64_no {x : Int} (h : ¬ (-9223372036854775808 ≤ x ∧ x < 9223372036854775808)) : i64In x = false ∧ i64V x = 0 := by
  have h1 : i64In x = false := decide_eq_false h
  exact ⟨h1, by unfold i64V; rw [h1]; rfl⟩
theorem i64_yes {x : Int} (h : -9223372036854775808 ≤ x ∧ x < 9223372036854775808) : i64In x = true ∧ i64V x = x := by
  have h1 : i64In x = true := decide_eq_true h
  exact ⟨h1, by unfold i64V; rw [h1]; rfl⟩
set_option maxRecDepth 100000 in
set_option maxHeartbeats 4000000 in
theorem pint_any {v : Value} {x : Int} {d lo m : Nat} {w : World} (D : DyR w lo m v x d) (hd0 : d = 0) (hm : m ≤ w.heap.size) (hl : (canon x.natAbs).length ≤ 50000) :
    Calls Tryd.prog 42 #[v] w fun e w' => e = .returned (.tuple #[.int .i64 (i64V x), .bool (i64In x)]) ∧ Below w.heap.size w w' := by
  obtain ⟨nb, A, L, c, rfl, HD⟩ := D.form
  have D' := Lib.hid D
  have b0 : Below w.heap.size w (w.alloc (.cells #[.bool nb, .slice A L c, .int .i64 (d : Int)] 37)) := ext_alloc (Below.refl _ _) _
  have hL : L = (canon x.natAbs).length := HD.out.2.1
  have HNB := Lib.hid HD.out.1
  have HL := Lib.hid hL
  have hdi : decide ((0 : Int) < (d : Int)) = false := decide_eq_false (by omega)
  have hdz : ¬ (0 : Int) < (d : Int) := by omega
  clear D hd0 hL
  go_enter Tryd.func42, Tryd.ntmps42
  go_wp2_with fail
  go_at_call 79
  refine (parts_w (D'.out.below b0 hm) (by simp; omega) (by omega)).mono ?_
  rintro e w1 ⟨nb', A', L', c', he, rfl, hb1⟩
  cases he
  have hL := HL.out
  have b1 := b0.trans (hb1.mono (by simp))
  have X := HD.out.2.2.2.2.1.below b1 hm
  obtain ⟨n, hn⟩ : ∃ n, n = x.natAbs := ⟨_, rfl⟩
  rw [← hn] at hL HL hl X
  have HX := Lib.hid X
  have HN := Lib.hid hn
  have HB := Lib.hid b1
  clear X hn HD D' b0 hb1 b1
  by_cases hbig : 2 < L
  · have hx : ¬ (-9223372036854775808 ≤ x ∧ x < 9223372036854775808) := by
      intro h
      have : (canon n).length ≤ 2 := canon_len_le (by have := HN.out; omega)
      omega
    have HV := Lib.hid (i64_no hx)
    have hbi : (2 : Int) < (L : Int) := by omega
    clear hx hL
    go_wp2_with fail
    exact bodyPost_ret (v := .tuple #[.int .i64 0, .bool false]) (by simp [results, Tryd.results42, go_sem]) rfl ⟨by rw [HV.out.1, HV.out.2], HB.out⟩
  · have hbi : decide ((2 : Int) < (L : Int)) = false := decide_eq_false (by omega)
    have hpu := puint_any A (canon n) c m w1 HX.out (canon_ok n) (by omega)
    rw [← hL, wval_canon] at hpu
    have hn64 : n < 18446744073709551616 := by
      have h1 := wval_lt (canon_ok n)
      rw [wval_canon] at h1
      have h3 : 4294967296 ^ (canon n).length ≤ 4294967296 ^ 2 := Nat.pow_le_pow_right (by decide) (by omega)
      omega
    have HPU := Lib.hid hpu
    have hbn : ¬ (2 : Int) < (L : Int) := by omega
    have hbl : (L : Int) ≤ 2 := by omega
    clear hpu hL hbig
    go_wp2_with fail
    go_at_call 83
    refine HPU.out.mono ?_
    rintro e wq ⟨rfl, rfl⟩
    cases nb with
    | true =>
      have hx : x < 0 := by simpa using HNB.out.symm
      by_cases h63 : n ≤ 9223372036854775808
      · have HV := Lib.hid (i64_yes (x := x) (by have := HN.out; omega))
        have hd : decide ((n : Int) ≤ 9223372036854775808) = true := decide_eq_true (by omega)
        have hxe : x = -(n : Int) := by have := HN.out; omega
        have hmp : (1 : Int) ≤ (n : Int) := by omega
        have HXE := Lib.hid hxe
        clear hx hxe
        go_wp2_with fail
        exact bodyPost_ret (v := .tuple #[.int .i64 x, .bool true]) (by simp [results, Tryd.results42, go_sem]; rw [HXE.out]; first | (rw [IntKind.wrap_u64]; unfold wrap64; omega) | (show IntKind.i64.wrap _ = _; rw [IntKind.wrap_u64, IntKind.wrap_i64]; omega)) rfl ⟨by rw [HV.out.1, HV.out.2], HB.out⟩
      · have HV := Lib.hid (i64_no (x := x) (by have := HN.out; omega))
        have hd : decide ((n : Int) ≤ 9223372036854775808) = false := decide_eq_false (by omega)
        clear hx
        go_wp2_with fail
        exact bodyPost_ret (v := .tuple #[.int .i64 0, .bool false]) (by simp [results, Tryd.results42, go_sem]) rfl ⟨by rw [HV.out.1, HV.out.2], HB.out⟩
    | false =>
      have hx : 0 ≤ x := by simpa using HNB.out.symm
      by_cases h63 : n < 9223372036854775808
      · have HV := Lib.hid (i64_yes (x := x) (by have := HN.out; omega))
        have hd : decide ((n : Int) < 9223372036854775808) = true := decide_eq_true (by omega)
        have hxe : x = (n : Int) := by have := HN.out; omega
        have HXE := Lib.hid hxe
        clear hx hxe
        go_wp2_with fail
        exact bodyPost_ret (v := .tuple #[.int .i64 x, .bool true]) (by simp [results, Tryd.results42, go_sem]; rw [HXE.out]) rfl ⟨by rw [HV.out.1, HV.out.2], HB.out⟩
      · have HV := Lib.hid (i64_no (x := x) (by have := HN.out; omega))
        have hd : decide ((n : Int) < 9223372036854775808) = false := decide_eq_false (by omega)
        clear hx
        go_wp2_with fail
        exact bodyPost_ret (v := .tuple #[.int .i64 0, .bool false]) (by simp [results, Tryd.results42, go_sem]) rfl ⟨by rw [HV.out.1, HV.out.2], HB.out⟩
end Go.Proofs.YtjlocofimlgaoaaDoor
