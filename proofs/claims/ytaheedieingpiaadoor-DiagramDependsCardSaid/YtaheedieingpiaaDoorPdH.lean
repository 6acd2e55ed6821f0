/- The program's numbers: Of, Shift. No conditions. -/
import Derived.Test.YtaheedieingpiaaDoorPdG
namespace Go.Proofs.YtaheedieingpiaaDoor
set_option linter.unusedVariables false
set_option linter.unusedSimpArgs false
set_option linter.unusedSectionVars false
open Go.RowKit

theorem nf_mul (m : Int) : ∀ (k d : Nat), nf (m * 2 ^ k) d = if k ≤ d then nf m (d - k) else (m * 2 ^ (k - d), 0)
  | 0, d => by simp
  | k + 1, 0 => rfl
  | k + 1, d + 1 => by
    have e1 : m * 2 ^ (k + 1) = 2 * (m * 2 ^ k) := by rw [Int.pow_succ, ← Int.mul_assoc, Int.mul_comm]
    have h : nf (m * 2 ^ (k + 1)) (d + 1) = nf (m * 2 ^ k) d := by
      rw [e1]
      show (if (2 * (m * 2 ^ k)) % 2 = 0 then nf (2 * (m * 2 ^ k) / 2) d else _) = _
      rw [if_pos (by omega), show 2 * (m * 2 ^ k) / 2 = m * 2 ^ k by omega]
    rw [h, nf_mul m k d]
    by_cases hk : k ≤ d
    · rw [if_pos hk, if_pos (by omega), show d + 1 - (k + 1) = d - k by omega]
    · rw [if_neg hk, if_neg (by omega), show k + 1 - (d + 1) = k - d by omega]
set_option maxHeartbeats 2000000 in
theorem ofUint_any (u : Nat) (w : World) (hu : u < 18446744073709551616) :
    Calls Tryd.prog 58 #[.int .u64 (u : Int)] w fun e w' => ∃ v', e = .returned v' ∧ WdR w' w'.heap.size v' u ∧ Below w.heap.size w w' := by
  obtain ⟨lo, hlo⟩ : ∃ lo : Nat, (u : Int) % 4294967296 = (lo : Int) := ⟨(u % 4294967296 : Nat), by omega⟩
  obtain ⟨hi, hhi⟩ : ∃ hi : Nat, (u : Int) / 4294967296 = (hi : Int) := ⟨(u / 4294967296 : Nat), by omega⟩
  have hib : hi < 4294967296 := by omega
  have lob : lo < 4294967296 := by omega
  have hval : wval [lo, hi] = u := by rw [of_words]; omega
  have HV := Lib.hid hval
  have c0 : CellsAt (w.alloc (.cells #[.int .u32 (lo : Int), .int .u32 (hi : Int)] 88)) (w.heap.size + 1) (some ⟨w.heap.size, 0, none⟩) (w32 [lo, hi]) :=
    (RowD.new_ w (w32 [lo, hi]) 88).cells_ (by omega)
  have C0 := Lib.hid c0
  clear hval c0
  go_enter Tryd.func58, Tryd.ntmps58
  go_wp2_with fail
  go_at_call 60
  refine (ptrim_any (some ⟨w.heap.size, 0, none⟩) [lo, hi] 2 (w.heap.size + 1) _ C0.out (by simp) (by simp)).mono ?_
  rintro e w3 ⟨rfl, rfl⟩
  go_wp2_with fail
  go_ret
  have hcan := trim_canon (of_ok lob hib)
  rw [HV.out] at hcan
  refine ⟨_, rfl, ⟨some ⟨w.heap.size, 0, none⟩, 2, by rw [hcan]; rfl, by simp, ?_, ?_⟩, al_ _ _⟩
  · rw [← hcan, trimL_len]
    exact trimN_le _ _
  · rw [← hcan]
    exact (C0.out.takeW _).more (by simp)
theorem res_pOf {tmps : Array Value} {w : World} {b : Nat} {v0 v1 v2 : Value} (h2 : tmps.getD 2 undef = .pointer (some ⟨b, 0, none⟩)) (hB : RowD w b [v0, v1, v2] 76) :
    (results Tryd.f54 tmps).run Tryd.prog w = .ok (.agg #[v0, v1, v2]) w := by
  have k0 := hB.cell 0
  have k1 := hB.cell 1
  have k2 := hB.cell 2
  simp at k0 k1 k2
  simp at h2
  simp [results, Tryd.results54, go_sem, h2, k0, k1, k2]
set_option maxRecDepth 100000 in
set_option maxHeartbeats 4000000 in
theorem pof_any (n : Int) (h1 : -9223372036854775808 ≤ n) (h2 : n < 9223372036854775808) (w : World) (ht : TabAt w) :
    Calls Tryd.prog 54 #[.int .i64 n] w fun e w' => ∃ v', e = .returned v' ∧ DyR w' w.heap.size w'.heap.size v' n 0 ∧ Below w.heap.size w w' := by
  by_cases h : n < 0
  · as_aux_lemma =>
    obtain ⟨u, hu⟩ : ∃ u : Nat, -n = (u : Int) := ⟨(-n).toNat, by omega⟩
    obtain ⟨vv, hvv⟩ : ∃ vv : Nat, n + 18446744073709551616 = (vv : Int) := ⟨(n + 18446744073709551616).toNat, by omega⟩
    have hu1 : IntKind.u64.wrap n = (vv : Int) := by rw [IntKind.wrap_u64]; omega
    have hu2 : IntKind.u64.wrap (-(vv : Int)) = (u : Int) := by rw [IntKind.wrap_u64]; omega
    have hsg : sg true u = n := by unfold sg; simp; omega
    have hub : u < 18446744073709551616 := by omega
    have hcl : (canon u).length ≤ 2 := canon_len_le (by omega)
    have HSG := Lib.hid hsg
    have HT := Lib.hid ht
    clear hsg ht hvv hu
    have b0 : Below w.heap.size w (w.alloc (.cells #[.bool false, .slice none 0 0, .int .i64 0] 76)) := ext_alloc (Below.refl _ _) _
    have r0 := RowD.new_ w [.bool false, .slice none 0 0, .int .i64 0] 76
    go_enter Tryd.func54, Tryd.ntmps54
    go_wp2_with fail
    go_at_call 58
    refine (ofUint_any u _ hub).mono ?_
    rintro e w1 ⟨v1, rfl, Y, hb1⟩
    have r1 := r0.call hb1
    have b1 := b0.trans (hb1.mono (by simp))
    have hw1 := r1.lt
    have HT1 := HT.out.below b1 HT.out.1
    obtain ⟨A1, L1, c1, rfl⟩ := Y.form
    have Y' := Lib.hid Y
    clear hb1 r0 b0 Y
    go_wp2_with fail
    go_at_call 57
    refine (presult_v (d := 0) Y'.out (Nat.le_refl _) (by omega) (by omega) HT1).mono ?_
    rintro e w3 ⟨v', rfl, D3, hb3⟩
    rw [HSG.out] at D3
    have D3 : DyR w3 (w.heap.size + 1) w3.heap.size v' n 0 := D3.low (by omega)
    have u1 := r1.call hb3
    have bv := b1.trans (hb3.mono (by have := b1.size; omega))
    obtain ⟨nb3, A3, L3, c3, rfl, _⟩ := D3.form
    have D3' := Lib.hid D3
    clear D3 hb3 r1 b1
    have q0 : w3.cell? ⟨w.heap.size, 0, none⟩ = some (.bool false) := u1.cell 0
    have q1 : w3.cell? ⟨w.heap.size, 1, none⟩ = some (.slice none 0 0) := u1.cell 1
    have q2 : w3.cell? ⟨w.heap.size, 2, none⟩ = some (.int .i64 0) := u1.cell 2
    have qf := u1.free
    have hu1 := u1.lt
    go_wp2_with fail
    refine bodyPost_ret (res_pOf rfl (((u1.set_ 0 _).set_ 1 _).set_ 2 _)) rfl ⟨_, rfl, ?_, ((bv.setCell (by simp) _).setCell (by simp) _).setCell (by simp) _⟩
    exact ((((D3'.out.set_ (by omega) 0 _).set_ (by omega) 1 _).set_ (by omega) 2 _).low (by omega)).more (by simp)
  · as_aux_lemma =>
    obtain ⟨u, rfl⟩ : ∃ u : Nat, n = (u : Int) := ⟨n.toNat, by omega⟩
    have hsg : sg false u = (u : Int) := by unfold sg; simp
    have hub : u < 18446744073709551616 := by omega
    have hcl : (canon u).length ≤ 2 := canon_len_le (by omega)
    have HSG := Lib.hid hsg
    have HT := Lib.hid ht
    clear hsg ht
    have b0 : Below w.heap.size w (w.alloc (.cells #[.bool false, .slice none 0 0, .int .i64 0] 76)) := ext_alloc (Below.refl _ _) _
    have r0 := RowD.new_ w [.bool false, .slice none 0 0, .int .i64 0] 76
    go_enter Tryd.func54, Tryd.ntmps54
    go_wp2_with fail
    go_at_call 58
    refine (ofUint_any u _ hub).mono ?_
    rintro e w1 ⟨v1, rfl, Y, hb1⟩
    have r1 := r0.call hb1
    have b1 := b0.trans (hb1.mono (by simp))
    have hw1 := r1.lt
    have HT1 := HT.out.below b1 HT.out.1
    obtain ⟨A1, L1, c1, rfl⟩ := Y.form
    have Y' := Lib.hid Y
    clear hb1 r0 b0 Y
    go_wp2_with fail
    go_at_call 57
    refine (presult_v (d := 0) Y'.out (Nat.le_refl _) (by omega) (by omega) HT1).mono ?_
    rintro e w3 ⟨v', rfl, D3, hb3⟩
    rw [HSG.out] at D3
    have D3 : DyR w3 (w.heap.size + 1) w3.heap.size v' (u : Int) 0 := D3.low (by omega)
    have u1 := r1.call hb3
    have bv := b1.trans (hb3.mono (by have := b1.size; omega))
    obtain ⟨nb3, A3, L3, c3, rfl, _⟩ := D3.form
    have D3' := Lib.hid D3
    clear D3 hb3 r1 b1
    have q0 : w3.cell? ⟨w.heap.size, 0, none⟩ = some (.bool false) := u1.cell 0
    have q1 : w3.cell? ⟨w.heap.size, 1, none⟩ = some (.slice none 0 0) := u1.cell 1
    have q2 : w3.cell? ⟨w.heap.size, 2, none⟩ = some (.int .i64 0) := u1.cell 2
    have qf := u1.free
    have hu1 := u1.lt
    go_wp2_with fail
    refine bodyPost_ret (res_pOf rfl (((u1.set_ 0 _).set_ 1 _).set_ 2 _)) rfl ⟨_, rfl, ?_, ((bv.setCell (by simp) _).setCell (by simp) _).setCell (by simp) _⟩
    exact ((((D3'.out.set_ (by omega) 0 _).set_ (by omega) 1 _).set_ (by omega) 2 _).low (by omega)).more (by simp)
end Go.Proofs.YtaheedieingpiaaDoor
