/- The document's comparison of two scalars. Condition: both are within their bounds. -/
import Derived.Test.YtaheedieingpiaaDoorDgD
namespace Go.Proofs.YtaheedieingpiaaDoor
set_option linter.unusedVariables false
set_option linter.unusedSimpArgs false
set_option linter.unusedSectionVars false
open Go.RowKit

def exOf (w : World) (b : Nat) : Int := intOf ((w.cell? ⟨b, 1, none⟩).getD undef)
def cm1Rel (w : World) (an ae bn be : Int) (wr : World) : Prop :=
  ∃ n e, RowD wr w.heap.size [.int .i64 n, .int .i64 e] 42 ∧ RowD wr (w.heap.size + 1) [.int .i64 bn, .int .i64 be] 42 ∧ DblAt n e an ae be ∧ Below w.heap.size w wr
def cm2Rel (w : World) (an ae bn be : Int) (wr : World) : Prop :=
  ∃ n e, RowD wr (w.heap.size + 1) [.int .i64 n, .int .i64 e] 42 ∧ RowD wr w.heap.size [.int .i64 an, .int .i64 ae] 42 ∧ DblAt n e bn be ae ∧ Below w.heap.size w wr
theorem exOf_row {w : World} {b t : Nat} {x : Value} {e : Int} (h : RowD w b [x, .int .i64 e] t) : exOf w b = e := by
  unfold exOf
  rw [show w.cell? ⟨b, 1, none⟩ = some (.int .i64 e) from h.cell 1]
  rfl
theorem cm_store {w wr : World} {b c t : Nat} {u v n e : Int} {vs : List Value} (h : RowD wr b [.int .i64 u, .int .i64 v] t) (h2 : RowD wr c vs t) (hbc : c ≠ b) (hb : w.heap.size ≤ b) (hw : Below w.heap.size w wr) :
    RowD ((wr.setCell ⟨b, 0, none⟩ (.int .i64 n)).setCell ⟨b, 1, none⟩ (.int .i64 e)) b [.int .i64 n, .int .i64 e] t ∧ RowD ((wr.setCell ⟨b, 0, none⟩ (.int .i64 n)).setCell ⟨b, 1, none⟩ (.int .i64 e)) c vs t ∧
      Below w.heap.size w ((wr.setCell ⟨b, 0, none⟩ (.int .i64 n)).setCell ⟨b, 1, none⟩ (.int .i64 e)) :=
  ⟨(h.set_ 0 _).set_ 1 _, (h2.other_ hbc 0 _).other_ hbc 1 _, (hw.setCell hb _).setCell hb _⟩
set_option maxRecDepth 100000 in
set_option maxHeartbeats 4000000 in
theorem cmp_any (an ae bn be : Int) (w : World) (h1 : scOk an ae) (h2 : scOk bn be) :
    Calls Tryd.prog 44 #[.agg #[.int .i64 an, .int .i64 ae], .agg #[.int .i64 bn, .int .i64 be]] w fun e w' => e = .returned (.int .i64 (scCmp an ae bn be)) ∧ Below w.heap.size w w' := by
  obtain ⟨a1, a2, a3, a4⟩ := h1
  obtain ⟨b1, b2, b3, b4⟩ := h2
  have b0 : Below w.heap.size w ((w.alloc (.cells #[.int .i64 an, .int .i64 ae] 42)).alloc (.cells #[.int .i64 bn, .int .i64 be] 42)) := ext_alloc (ext_alloc (Below.refl _ _) _) _
  have r0 := (RowD.new_ w [.int .i64 an, .int .i64 ae] 42).call (al_ _ (.cells #[.int .i64 bn, .int .i64 be] 42))
  have r1 := RowD.new_ (w.alloc (.cells #[.int .i64 an, .int .i64 ae] 42)) [.int .i64 bn, .int .i64 be] 42
  rw [show (w.alloc (.cells #[.int .i64 an, .int .i64 ae] 42)).heap.size = w.heap.size + 1 by simp] at r1
  go_enter Tryd.func44, Tryd.ntmps44
  go_wp2_with fail
  obtain ⟨W, hW⟩ : ∃ W, W = ((w.alloc (.cells #[.int .i64 an, .int .i64 ae] 42)).alloc (.cells #[.int .i64 bn, .int .i64 be] 42)) := ⟨_, rfl⟩
  rw [← hW]
  rw [← hW] at b0 r0 r1
  clear hW
  go_loopw [] (fun wr => cm1Rel w an ae bn be wr) (fun wr => (exOf wr w.heap.size - be).toNat)
  case atStart => exact ⟨an, ae, r0, r1, ⟨rfl, by omega, by omega, .inl rfl, by omega, fun _ => rfl⟩, b0⟩
  case round =>
    clear b0 r0 r1
    obtain ⟨n, e, r0, r1, hd, hb⟩ := hrel
    have c0 : wr.cell? ⟨w.heap.size, 0, none⟩ = some (.int .i64 n) := r0.cell 0
    have c1 : wr.cell? ⟨w.heap.size, 1, none⟩ = some (.int .i64 e) := r0.cell 1
    have c2 : wr.cell? ⟨w.heap.size + 1, 0, none⟩ = some (.int .i64 bn) := r1.cell 0
    have c3 : wr.cell? ⟨w.heap.size + 1, 1, none⟩ = some (.int .i64 be) := r1.cell 1
    have z0 := r0.lt
    have z1 := r1.lt
    have f0 := r0.free
    have f1 := r1.free
    have d1 := hd.small.1
    have d2 := hd.small.2
    have d3 := hd.lo
    have d4 := hd.hi
    have HD := Lib.hid hd
    have R0 := Lib.hid r0
    have R1 := Lib.hid r1
    clear hd r0 r1
    by_cases hgo : be < e ∧ n ≠ 0 ∧ -2147483648 < n ∧ n < 2147483648
    · obtain ⟨g1, g2, g3, g4⟩ := hgo
      have g2 : (n == 0) = false := by simpa using g2
      go_wp2_with fail
      obtain ⟨s0, s1, s2⟩ := cm_store (n := 2 * n) (e := e - 1) R0.out R1.out (by omega) (by omega) hb
      refine ⟨⟨2 * n, e - 1, by first | exact s0 | (rw [wrap64_in' (by omega) (by omega)]; exact s0), s1, dbl_step HD.out ⟨g3, g4⟩ g1 (by omega), s2⟩, ?_⟩
      rw [exOf_row s0, exOf_row R0.out]
      omega
    · have hx : e ≤ be ∨ n = 0 ∨ 2147483648 ≤ n ∨ n ≤ -2147483648 := by omega
      have X1 := Lib.hid hx
      clear hgo
      have key : (decide (be < e) = false) ∨ (decide (be < e) = true ∧ (n == 0) = true) ∨ (decide (be < e) = true ∧ (n == 0) = false ∧ 2147483648 ≤ n) ∨ (decide (be < e) = true ∧ (n == 0) = false ∧ n ≤ -2147483648) := by
        simp only [decide_eq_false_iff_not, decide_eq_true_eq, beq_iff_eq, beq_eq_false_iff_ne]
        omega
      clear hx
      rcases key with k1 | ⟨k1, k2⟩ | ⟨k1, k2, k3⟩ | ⟨k1, k2, k3⟩
      all_goals
        go_wp2_with fail
        all_goals try (exfalso; omega)
        clear c0 c1 c2 c3 f0 f1 k1
        obtain ⟨w1, hw1⟩ : ∃ w1, w1 = wr := ⟨_, rfl⟩
        rw [← hw1] at R0 R1 hb
        rw [← hw1]
        clear hw1 z0 z1
        go_loopw [] (fun wr => cm2Rel w n e bn be wr) (fun wr => (exOf wr (w.heap.size + 1) - e).toNat)
        case atStart => exact ⟨bn, be, R1.out, R0.out, ⟨rfl, by omega, by omega, .inl rfl, by omega, fun _ => rfl⟩, hb⟩
        case round =>
          clear hb R0 R1
          obtain ⟨n2, e2, r0, r1, hd, hb⟩ := hrel
          have c0 : wr.cell? ⟨w.heap.size + 1, 0, none⟩ = some (.int .i64 n2) := r0.cell 0
          have c1 : wr.cell? ⟨w.heap.size + 1, 1, none⟩ = some (.int .i64 e2) := r0.cell 1
          have c2 : wr.cell? ⟨w.heap.size, 0, none⟩ = some (.int .i64 n) := r1.cell 0
          have c3 : wr.cell? ⟨w.heap.size, 1, none⟩ = some (.int .i64 e) := r1.cell 1
          have z0 := r0.lt
          have z1 := r1.lt
          have f0 := r0.free
          have f1 := r1.free
          have j1 := hd.small.1
          have j2 := hd.small.2
          have j3 := hd.lo
          have j4 := hd.hi
          have HD2 := Lib.hid hd
          have R0 := Lib.hid r0
          have R1 := Lib.hid r1
          clear hd r0 r1
          by_cases hgo : e < e2 ∧ n2 ≠ 0 ∧ -2147483648 < n2 ∧ n2 < 2147483648
          · obtain ⟨g1, g2, g3, g4⟩ := hgo
            have g2 : (n2 == 0) = false := by simpa using g2
            clear d1 d2 d4
            go_wp2_with fail
            all_goals try (exfalso; omega)
            obtain ⟨s0, s1, s2⟩ := cm_store (n := 2 * n2) (e := e2 - 1) R0.out R1.out (by omega) (by omega) hb
            refine ⟨⟨2 * n2, e2 - 1, by first | exact s0 | (rw [wrap64_in' (by omega) (by omega)]; exact s0), s1, dbl_step HD2.out ⟨g3, g4⟩ g1 (by omega), s2⟩, ?_⟩
            rw [exOf_row s0, exOf_row R0.out]
            omega
          · have hx : e2 ≤ e ∨ n2 = 0 ∨ 2147483648 ≤ n2 ∨ n2 ≤ -2147483648 := by omega
            have HV := Lib.hid (cmp_done HD.out X1.out HD2.out hx ⟨a1, a2⟩ ⟨b1, b2⟩)
            have HV2 := Lib.hid (HV.out.trans (sgI_three n n2))
            clear HV hgo
            have key : (decide (e < e2) = false) ∨ (decide (e < e2) = true ∧ (n2 == 0) = true) ∨ (decide (e < e2) = true ∧ (n2 == 0) = false ∧ 2147483648 ≤ n2) ∨ (decide (e < e2) = true ∧ (n2 == 0) = false ∧ n2 ≤ -2147483648) := by
              simp only [decide_eq_false_iff_not, decide_eq_true_eq, beq_iff_eq, beq_eq_false_iff_ne]
              omega
            clear hx
            rcases key with k1 | ⟨k1, k2⟩ | ⟨k1, k2, k3⟩ | ⟨k1, k2, k3⟩
            all_goals
              go_wp2_with fail
              all_goals try (exfalso; omega)
              all_goals try go_wp2_with fail
              all_goals
                go_ret
                refine ⟨?_, hb⟩
                rw [HV2.out]
                first
                  | (rw [if_pos (by omega)]; rfl)
                  | (rw [if_neg (by omega), if_pos (by omega)]; rfl)
                  | (rw [if_neg (by omega), if_neg (by omega)]; rfl)
end Go.Proofs.YtaheedieingpiaaDoor
