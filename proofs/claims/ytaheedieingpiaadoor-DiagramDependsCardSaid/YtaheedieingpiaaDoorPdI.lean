/- The program's numbers: Shift. No conditions. -/
import Derived.Test.YtaheedieingpiaaDoorPdH
namespace Go.Proofs.YtaheedieingpiaaDoor
set_option linter.unusedVariables false
set_option linter.unusedSimpArgs false
set_option linter.unusedSectionVars false
open Go.RowKit

theorem res_pShift {tmps : Array Value} {w : World} {b : Nat} {v0 v1 v2 : Value} (h2 : tmps.getD 4 undef = .pointer (some ⟨b, 0, none⟩)) (hB : RowD w b [v0, v1, v2] 76) :
    (results Tryd.f53 tmps).run Tryd.prog w = .ok (.agg #[v0, v1, v2]) w := by
  have k0 := hB.cell 0
  have k1 := hB.cell 1
  have k2 := hB.cell 2
  simp at k0 k1 k2
  simp at h2
  simp [results, Tryd.results53, go_sem, h2, k0, k1, k2]
set_option maxRecDepth 100000 in
set_option maxHeartbeats 4000000 in
theorem pshift_any {v : Value} {x : Int} {d lo m : Nat} {n : Int} {w : World} (D : DyR w lo m v x d) (hm : m ≤ w.heap.size) (hl : (canon x.natAbs).length ≤ 50000) (hd : (d : Int) - max (-65536) (min n 65536) ≤ 65536) (ht : TabAt w) :
    Calls Tryd.prog 53 #[v, .int .i64 n] w fun e w' => ∃ v', e = .returned v' ∧ DyR w' w.heap.size w'.heap.size v' (dyShift x d n).1 (dyShift x d n).2 ∧ Below w.heap.size w w' := by
  obtain ⟨nn, hnn⟩ : ∃ nn : Int, max (-65536) (min n 65536) = nn := ⟨_, rfl⟩
  have hb1 : -65536 ≤ nn := by omega
  have hb2 : nn ≤ 65536 := by omega
  rw [hnn] at hd
  have hdd := D.bound.1
  by_cases hneg : (d : Int) - nn < 0
  · as_aux_lemma =>
    obtain ⟨p, hp⟩ : ∃ p : Nat, -((d : Int) - nn) = (p : Int) := ⟨(nn - d).toNat, by omega⟩
    have HV := Lib.hid (show dyShift x d n = (x * 2 ^ p, 0) by
      unfold dyShift
      rw [hnn, if_neg (by omega)]
      rw [nf_mul, if_neg (by omega)]
      congr 3
      omega)
    have hp6 : p ≤ 1000000 := by omega
    have hlen : (canon (x.natAbs * 2 ^ p)).length ≤ 100000 := by
      have := canon_len_shift x.natAbs p
      omega
    have hpn : (d : Int) - nn < 0 := by omega
    obtain ⟨nb, A, L, c, rfl, HD⟩ := D.form
    have hd6 := D.bound.1
    have D' := Lib.hid D
    have HT := Lib.hid ht
    have HN := Lib.hid hnn
    have b0 : Below w.heap.size w ((w.alloc (.cells #[.bool nb, .slice A L c, .int .i64 (d : Int)] 76)).alloc (.cells #[.bool false, .slice none 0 0, .int .i64 0] 76)) := ext_alloc (ext_alloc (Below.refl _ _) _) _
    have r0 := RowD.new_ (w.alloc (.cells #[.bool nb, .slice A L c, .int .i64 (d : Int)] 76)) [.bool false, .slice none 0 0, .int .i64 0] 76
    rw [show (w.alloc (.cells #[.bool nb, .slice A L c, .int .i64 (d : Int)] 76)).heap.size = w.heap.size + 1 by simp] at r0
    clear D ht
    go_enter Tryd.func53, Tryd.ntmps53
    go_wp2_with fail
    go_at_call 55
    refine (parts_w (D'.out.below b0 hm) (by simp; omega) (by omega)).mono ?_
    rintro e w1 ⟨nb', A', L', c', he, rfl, hb1⟩
    cases he
    have r1 := r0.call hb1
    have b1 := b0.trans (hb1.mono (by simp; omega))
    have hw1 := r1.lt
    have HT1 := HT.out.below b1 HT.out.1
    have X1 := (D'.out.below b1 hm).words
    clear hb1 r0 b0
    go_wp2_with fail
    go_at_call 56
    refine (pleft_w X1 (by omega) (by omega) hp6).mono ?_
    rintro e w2 ⟨v2, rfl, Y, hb2⟩
    have r2 := r1.call hb2
    have b2 := b1.trans (hb2.mono (by omega))
    have HT2 := HT1.call hb2
    obtain ⟨A2, L2, c2, rfl⟩ := Y.form
    have hw2 := r2.lt
    clear hb2 r1 b1 HT1 X1
    go_wp2_with fail
    go_at_call 57
    refine (presult_v (d := 0) Y (Nat.le_refl _) hlen (by omega) HT2).mono ?_
    rintro e w3 ⟨v', rfl, D3, hb3⟩
    rw [show nf (sg nb (x.natAbs * 2 ^ p)) 0 = dyShift x d n by rw [HD.out.1, sg_mul, HV.out]; rfl] at D3
    have r1 := r2
    have b1 := b2
    clear r2 b2
    have u1 := r1.call hb3
    have bv := b1.trans (hb3.mono (by have := b1.size; omega))
    obtain ⟨nb3, A3, L3, c3, rfl, _⟩ := D3.form
    have D3' := Lib.hid D3
    clear D3 hb3 r1 b1
    have q0 : w3.cell? ⟨w.heap.size + 1, 0, none⟩ = some (.bool false) := u1.cell 0
    have q1 : w3.cell? ⟨w.heap.size + 1, 1, none⟩ = some (.slice none 0 0) := u1.cell 1
    have q2 : w3.cell? ⟨w.heap.size + 1, 2, none⟩ = some (.int .i64 0) := u1.cell 2
    have qf := u1.free
    have hu1 := u1.lt
    go_wp2_with fail
    refine bodyPost_ret (res_pShift rfl (((u1.set_ 0 _).set_ 1 _).set_ 2 _)) rfl ⟨_, rfl, ?_, ((bv.setCell (by simp) _).setCell (by simp) _).setCell (by simp) _⟩
    exact ((((D3'.out.set_ (by omega) 0 _).set_ (by omega) 1 _).set_ (by omega) 2 _).low (by omega)).more (by simp)
  · as_aux_lemma =>
    obtain ⟨p, hp⟩ : ∃ p : Nat, (d : Int) - nn = (p : Int) := ⟨(d - nn).toNat, by omega⟩
    have HV := Lib.hid (show dyShift x d n = nf x p by
      unfold dyShift
      rw [hnn]
      by_cases h0 : nn < 0
      · rw [if_pos h0]
        congr 1
        omega
      · rw [if_neg h0, nf_mul, if_pos (by omega)]
        congr 1
        omega)
    have hp6 : p ≤ 65536 := by omega
    have hpn : ¬ (d : Int) - nn < 0 := by omega
    obtain ⟨nb, A, L, c, rfl, HD⟩ := D.form
    have hd6 := D.bound.1
    have D' := Lib.hid D
    have HT := Lib.hid ht
    have HN := Lib.hid hnn
    have b0 : Below w.heap.size w ((w.alloc (.cells #[.bool nb, .slice A L c, .int .i64 (d : Int)] 76)).alloc (.cells #[.bool false, .slice none 0 0, .int .i64 0] 76)) := ext_alloc (ext_alloc (Below.refl _ _) _) _
    have r0 := RowD.new_ (w.alloc (.cells #[.bool nb, .slice A L c, .int .i64 (d : Int)] 76)) [.bool false, .slice none 0 0, .int .i64 0] 76
    rw [show (w.alloc (.cells #[.bool nb, .slice A L c, .int .i64 (d : Int)] 76)).heap.size = w.heap.size + 1 by simp] at r0
    clear D ht
    go_enter Tryd.func53, Tryd.ntmps53
    go_wp2_with fail
    go_at_call 55
    refine (parts_w (D'.out.below b0 hm) (by simp; omega) (by omega)).mono ?_
    rintro e w1 ⟨nb', A', L', c', he, rfl, hb1⟩
    cases he
    have r1 := r0.call hb1
    have b1 := b0.trans (hb1.mono (by simp; omega))
    have hw1 := r1.lt
    have HT1 := HT.out.below b1 HT.out.1
    have X1 := (D'.out.below b1 hm).words
    clear hb1 r0 b0
    go_wp2_with fail
    go_at_call 57
    refine (presult_v (d := p) X1 (by omega) (by omega) hp6 HT1).mono ?_
    rintro e w3 ⟨v', rfl, D3, hb3⟩
    rw [show nf (sg nb x.natAbs) p = dyShift x d n by rw [HD.out.1, sg_back, HV.out]] at D3
    have u1 := r1.call hb3
    have bv := b1.trans (hb3.mono (by have := b1.size; omega))
    obtain ⟨nb3, A3, L3, c3, rfl, _⟩ := D3.form
    have D3' := Lib.hid D3
    clear D3 hb3 r1 b1
    have q0 : w3.cell? ⟨w.heap.size + 1, 0, none⟩ = some (.bool false) := u1.cell 0
    have q1 : w3.cell? ⟨w.heap.size + 1, 1, none⟩ = some (.slice none 0 0) := u1.cell 1
    have q2 : w3.cell? ⟨w.heap.size + 1, 2, none⟩ = some (.int .i64 0) := u1.cell 2
    have qf := u1.free
    have hu1 := u1.lt
    go_wp2_with fail
    refine bodyPost_ret (res_pShift rfl (((u1.set_ 0 _).set_ 1 _).set_ 2 _)) rfl ⟨_, rfl, ?_, ((bv.setCell (by simp) _).setCell (by simp) _).setCell (by simp) _⟩
    exact ((((D3'.out.set_ (by omega) 0 _).set_ (by omega) 1 _).set_ (by omega) 2 _).low (by omega)).more (by simp)
end Go.Proofs.YtaheedieingpiaaDoor
