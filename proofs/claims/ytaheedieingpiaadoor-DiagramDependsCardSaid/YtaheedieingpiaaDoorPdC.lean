/- The zeros at the low end of a number. No conditions. -/
import Derived.Test.YtaheedieingpiaaDoorPdB
namespace Go.Proofs.YtaheedieingpiaaDoor
set_option linter.unusedVariables false
set_option linter.unusedSimpArgs false
set_option linter.unusedSectionVars false
open Go.RowKit

/-- z is the number of zero bits at n's low end. -/
def TzOf (n z : Nat) : Prop := n % 2 ^ z = 0 ∧ n / 2 ^ z % 2 = 1
theorem pow32_ (k : Nat) : 2 ^ (32 * k) = 4294967296 ^ k := by rw [Nat.pow_mul]
theorem zr_hit {a : List Nat} {k t x : Nat} (h : wordsOk a) (h0 : wval (a.take k) = 0) (hx : a[k]?.getD 0 = x) (ht : t < 32) (h1 : x % 2 ^ t = 0) (h2 : x / 2 ^ t % 2 = 1) : TzOf (wval a) (32 * k + t) := by
  refine ⟨?_, ?_⟩
  · rw [Nat.pow_add, Nat.mod_mul, pow32_, wval_drop h]
    have e1 : wval a % 4294967296 ^ k = 0 := by
      have e := wval_append (a.take k) (a.drop k)
      rw [List.take_append_drop, h0, Nat.zero_add] at e
      by_cases hk : k ≤ a.length
      · rw [List.length_take, Nat.min_eq_left hk] at e
        rw [e]
        exact Nat.mul_mod_right _ _
      · rw [List.drop_eq_nil_of_le (by omega)] at e
        rw [e]
        simp [wval]
    rw [e1, wval_drop_get, hx]
    have es : (4294967296 : Nat) = 2 ^ t * 2 ^ (32 - t) := by rw [← Nat.pow_add, show t + (32 - t) = 32 by omega]
    rw [es, Nat.mul_assoc, Nat.add_mul_mod_self_left, h1]
    simp
  · rw [wval_bit h, show (32 * k + t) / 32 = k by omega, show (32 * k + t) % 32 = t by omega, hx]
    exact h2
theorem tzOf_ne {n z : Nat} (h : TzOf n z) : n ≠ 0 := fun h0 => by
  have := h.2
  rw [h0] at this
  simp at this
def zrRel (a : List Nat) (w : World) (i : Value) (wr : World) : Prop := ∃ k : Nat, k ≤ a.length ∧ i = .int .i64 (k : Int) ∧ wval (a.take k) = 0 ∧ w = wr
set_option maxRecDepth 100000 in
set_option maxHeartbeats 4000000 in
theorem zeros_any (A : Option Addr) (n c m : Nat) (w : World) (hm : m ≤ w.heap.size) (h : CellsAt w m A (w32 (canon n))) (hl : (canon n).length ≤ 100000) (ht : TabAt w) :
    Calls Tryd.prog 61 #[.slice A (canon n).length c] w fun e w' => (∃ z : Nat, e = .returned (.int .i64 (z : Int)) ∧ (n = 0 → z = 1099511627776) ∧ (n ≠ 0 → TzOf n z ∧ z ≤ 3200000)) ∧ w = w' := by
  have H := Lib.hid h
  have HT := Lib.hid ht
  clear h ht
  go_enter Tryd.func61, Tryd.ntmps61
  go_wp2_with fail
  go_loopw [7] (fun i wr => zrRel (canon n) w i wr) (fun i _ => (canon n).length - (intOf i).toNat)
  case atStart => exact ⟨0, Nat.zero_le _, rfl, rfl, rfl⟩
  case round =>
    obtain ⟨k, hk, rfl, h0, rfl⟩ := hrel
    have H0 := Lib.hid h0
    clear h0
    by_cases hlt : k < (canon n).length
    · obtain ⟨b1, o1, x, rfl, q1, q2, hx, g1⟩ := H.out.w32_ hlt
      have bx := canon_ok n x (List.mem_of_getElem? hx)
      have HX := Lib.hid (show (canon n)[k]?.getD 0 = x by rw [hx]; rfl)
      have ka' : (k : Int) < ((canon n).length : Int) := by omega
      have HXX := Lib.hid hx
      clear hx
      by_cases hz : x = 0
      · subst hz
        go_wp2_with fail
        refine ⟨⟨k + 1, by omega, by go_num, ?_, rfl⟩, by simp [intOf]; try omega⟩
        rw [wval_take_succ, H0.out, HX.out]
        simp
      · obtain ⟨t, ht, h1, h2⟩ := low_bit 32 (x := x) (by omega) (by omega)
        have hz' : ((x : Int) != 0) = true := by simp; omega
        have H1 := Lib.hid h1
        have H2 := Lib.hid h2
        clear h1 h2
        go_wp2_with (go_at_call 63; refine (tz_any x t w bx ht H1.out H2.out HT.out).mono ?_; rintro e w1 ⟨rfl, rfl⟩)
        go_ret
        have hhit := zr_hit (canon_ok n) H0.out HX.out ht H1.out H2.out
        rw [wval_canon] at hhit
        refine ⟨⟨32 * k + t, ?_, fun hn => absurd hn (tzOf_ne hhit), fun _ => ⟨hhit, by omega⟩⟩, rfl⟩
        have : ((32 * k + t : Nat) : Int) = 32 * (k : Int) + (t : Int) := by omega
        rw [this]
        rfl
    · have hle : ¬ (k : Int) < ((canon n).length : Int) := by omega
      go_wp2_with fail
      go_ret
      refine ⟨⟨1099511627776, rfl, fun _ => rfl, fun hn => ?_⟩, rfl⟩
      exfalso
      have := H0.out
      rw [List.take_of_length_le (by omega), wval_canon] at this
      exact hn this
end Go.Proofs.YtaheedieingpiaaDoor
