/- The program's numbers: Floor. Condition: the table of math/bits stands in block 0. -/
import Derived.Test.YtjlocofimlgaoaaDoorPdI
import Derived.Test.YtjlocofimlgaoaaDoorPdN
namespace Go.Proofs.YtjlocofimlgaoaaDoor
set_option linter.unusedVariables false
set_option linter.unusedSimpArgs false
set_option linter.unusedSectionVars false
open Go.RowKit

theorem padd_w {v v2 : Value} {a b m : Nat} {w : World} (h : WdR w m v a) (h2 : WdR w m v2 b) (hm : m ≤ w.heap.size) (l1 : (canon a).length ≤ 90000) (l2 : (canon b).length ≤ 90000) :
    Calls Tryd.prog 81 #[v, v2] w fun e w' => ∃ v', e = .returned v' ∧ WdR w' w'.heap.size v' (a + b) ∧ Below w.heap.size w w' := by
  obtain ⟨A, c, rfl, _, _, h3⟩ := h
  obtain ⟨B, c', rfl, _, _, h4⟩ := h2
  have hc := padd_any A B (canon a) (canon b) c c' m w hm h3 h4 (canon_ok a) (canon_ok b) l1 l2
  rw [wval_canon, wval_canon] at hc
  refine hc.mono ?_
  rintro e w' ⟨G, g, rfl, hG, hg, hC, hb⟩
  exact ⟨_, rfl, ⟨G, g, rfl, hG, hg, hC⟩, hb⟩
theorem fl_odd {x : Int} {k : Nat} (hx : x % 2 = 1) (hk : 0 < k) : cutB x.natAbs k = true := by
  unfold cutB
  refine decide_eq_true ?_
  intro h0
  obtain ⟨j, rfl⟩ : ∃ j, k = j + 1 := ⟨k - 1, by omega⟩
  have h1 : 2 ∣ x.natAbs := Nat.dvd_trans ⟨2 ^ j, by rw [Nat.pow_succ, Nat.mul_comm]⟩ (Nat.dvd_of_mod_eq_zero h0)
  omega
theorem canon_one1 : canon 1 = [1] := by rw [canon_pos (by decide), show 1 / 4294967296 = 0 by decide, canon_zero]
theorem canon_one_len : (canon 1).length = 1 := by rw [canon_one1]; rfl
theorem one_words (w : World) : WdR (w.alloc (.cells #[.int .u32 1] 130)) (w.heap.size + 1) (.slice (some ⟨w.heap.size, 0, none⟩) 1 1) 1 :=
  ⟨some ⟨w.heap.size, 0, none⟩, 1, by rw [canon_one1]; rfl, by simp, by rw [canon_one1]; decide, by
    rw [canon_one1]
    exact (RowD.new_ w [.int .u32 1] 130).cells_ (Nat.lt_succ_self _)⟩
theorem res_pFloor {tmps : Array Value} {w : World} {b : Nat} {v0 v1 v2 v5 : Value} (h2 : tmps.getD 4 undef = .pointer (some ⟨b, 0, none⟩)) (h5 : tmps.getD 5 undef = v5) (hB : RowD w b [v0, v1, v2] 37) :
    (results Tryd.f40 tmps).run Tryd.prog w = .ok (.tuple #[.agg #[v0, v1, v2], v5]) w := by
  have k0 := hB.cell 0
  have k1 := hB.cell 1
  have k2 := hB.cell 2
  simp at k0 k1 k2
  simp at h2 h5
  simp [results, Tryd.results40, go_sem, h2, h5, k0, k1, k2]
set_option maxRecDepth 100000 in
set_option maxHeartbeats 4000000 in
theorem pfloor_any {v : Value} {x : Int} {d lo m den : Nat} {w : World} (D : DyR w lo m v x d) (hm : m ≤ w.heap.size) (hl : (canon x.natAbs).length ≤ 50000) (hden : den ≤ 65536) (ht : TabAt w) :
    Calls Tryd.prog 40 #[v, .int .i64 (den : Int)] w fun e w' => ∃ v', e = .returned (.tuple #[v', .nilIface]) ∧ DyR w' w.heap.size w'.heap.size v' (dyFloor x d den).1 (dyFloor x d den).2 ∧ Below w.heap.size w w' := by
  have n1 : decide ((den : Int) < 0) = false := decide_eq_false (by omega)
  have n2 : decide ((65536 : Int) < (den : Int)) = false := decide_eq_false (by omega)
  have n3 : ¬ (den : Int) < 0 := by omega
  have n4 : ¬ (65536 : Int) < (den : Int) := by omega
  have hdr := D.bound
  have hd6 := hdr.1
  have HDR := Lib.hid hdr.2
  clear hdr
  by_cases hle : d ≤ den
  · as_aux_lemma =>
    have HV := Lib.hid (show dyFloor x d den = (x, d) from if_pos hle)
    have n5 : (d : Int) ≤ (den : Int) := by omega
    obtain ⟨nb, A, L, c, rfl, HD⟩ := D.form
    have D' := Lib.hid D
    have HT := Lib.hid ht
    clear D ht
    have b0 : Below w.heap.size w ((w.alloc (.cells #[.bool nb, .slice A L c, .int .i64 (d : Int)] 37)).alloc (.cells #[.bool false, .slice none 0 0, .int .i64 0] 37)) := ext_alloc (ext_alloc (Below.refl _ _) _) _
    have r0 := RowD.new_ (w.alloc (.cells #[.bool nb, .slice A L c, .int .i64 (d : Int)] 37)) [.bool false, .slice none 0 0, .int .i64 0] 37
    rw [show (w.alloc (.cells #[.bool nb, .slice A L c, .int .i64 (d : Int)] 37)).heap.size = w.heap.size + 1 by simp] at r0
    go_enter Tryd.func40, Tryd.ntmps40
    go_wp2_with fail
    go_at_call 79
    refine (parts_w (D'.out.below b0 hm) (by simp; omega) (by omega)).mono ?_
    rintro e w1 ⟨nb', A', L', c', he, rfl, hb1⟩
    cases he
    have r1 := r0.call hb1
    have b1 := b0.trans (hb1.mono (by simp; omega))
    have hw1 := r1.lt
    have HT1 := HT.out.below b1 HT.out.1
    have X1 := (D'.out.below b1 hm).words
    clear hb1 r0 b0
    go_wp2_with fail
    go_at_call 77
    refine (presult_v (d := d) X1 (by omega) (by omega) hd6 HT1).mono ?_
    rintro e w3 ⟨v', rfl, D3, hb3⟩
    rw [HD.out.1, sg_back, nf_done HDR.out, ← HV.out] at D3
    have u1 := r1.call hb3
    have bv := b1.trans (hb3.mono (by have := b1.size; omega))
    obtain ⟨nb3, A3, L3, c3, rfl, _⟩ := D3.form
    have D3' := Lib.hid D3
    clear D3 hb3 r1 b1
    have q0 : w3.cell? ⟨w.heap.size + 1, 0, none⟩ = some (.bool false) := u1.cell 0
    have q1 : w3.cell? ⟨w.heap.size + 1, 1, none⟩ = some (.slice none 0 0) := u1.cell 1
    have q2 : w3.cell? ⟨w.heap.size + 1, 2, none⟩ = some (.int .i64 0) := u1.cell 2
    have qf := u1.free
    have hu1 := u1.lt
    go_wp2_with fail
    refine bodyPost_ret (res_pFloor rfl rfl (((u1.set_ 0 _).set_ 1 _).set_ 2 _)) rfl ⟨_, rfl, ?_, ((bv.setCell (by simp) _).setCell (by simp) _).setCell (by simp) _⟩
    exact ((((D3'.out.set_ (by omega) 0 _).set_ (by omega) 1 _).set_ (by omega) 2 _).low (by omega)).more (by simp)
  · as_aux_lemma =>
    have n5 : ¬ (d : Int) ≤ (den : Int) := by omega
    obtain ⟨k, hk⟩ : ∃ k : Nat, k = d - den := ⟨_, rfl⟩
    have HV := Lib.hid (show dyFloor x d den = nf (x / 2 ^ k) den by rw [hk]; exact if_neg hle)
    have n6 : (d : Int) - (den : Int) = (k : Int) := by omega
    have hk6 : k ≤ 1000000 := by omega
    have HC := Lib.hid (fl_odd (x := x) (k := k) (HDR.out (by omega)) (by omega))
    have hln : (canon (x.natAbs / 2 ^ k)).length ≤ 50000 := Nat.le_trans (canon_len_mono (Nat.div_le_self _ _)) hl
    have hln1 : (canon (x.natAbs / 2 ^ k + 1)).length ≤ 100000 := by
      have h1 := canon_len_add (x.natAbs / 2 ^ k) 1
      have h2 := canon_one_len
      omega
    clear hk
    obtain ⟨nb, A, L, c, rfl, HD⟩ := D.form
    have D' := Lib.hid D
    have HT := Lib.hid ht
    clear D ht
    have b0 : Below w.heap.size w ((w.alloc (.cells #[.bool nb, .slice A L c, .int .i64 (d : Int)] 37)).alloc (.cells #[.bool false, .slice none 0 0, .int .i64 0] 37)) := ext_alloc (ext_alloc (Below.refl _ _) _) _
    have r0 := RowD.new_ (w.alloc (.cells #[.bool nb, .slice A L c, .int .i64 (d : Int)] 37)) [.bool false, .slice none 0 0, .int .i64 0] 37
    rw [show (w.alloc (.cells #[.bool nb, .slice A L c, .int .i64 (d : Int)] 37)).heap.size = w.heap.size + 1 by simp] at r0
    go_enter Tryd.func40, Tryd.ntmps40
    go_wp2_with fail
    go_at_call 79
    refine (parts_w (D'.out.below b0 hm) (by simp; omega) (by omega)).mono ?_
    rintro e w1 ⟨nb', A', L', c', he, rfl, hb1⟩
    cases he
    have r1 := r0.call hb1
    have b1 := b0.trans (hb1.mono (by simp; omega))
    have hw1 := r1.lt
    have HT1 := HT.out.below b1 HT.out.1
    have X1 := (D'.out.below b1 hm).words
    clear hb1 r0 b0
    go_wp2_with fail
    go_at_call 80
    refine (pright_w X1 (by omega) (by omega) hk6).mono ?_
    rintro e w2 ⟨v2, rfl, Y, hb2⟩
    have r2 := r1.call hb2
    have b2 := b1.trans (hb2.mono (by have := b1.size; omega))
    have HT2 := HT1.call hb2
    obtain ⟨A2, L2, c2, rfl⟩ := Y.form
    have hw2 := r2.lt
    clear hb2 r1 b1 HT1
    have hnb := HD.out.1
    cases nb with
    | false =>
      as_aux_lemma =>
      have hx : 0 ≤ x := by simpa using hnb.symm
      have HX := Lib.hid hx
      clear hnb hx
      go_wp2_with fail
      go_at_call 77
      refine (presult_v (d := den) Y (Nat.le_refl _) (by omega) hden HT2).mono ?_
      rintro e w3 ⟨v', rfl, D3, hb3⟩
      rw [fl_pos HX.out, ← HV.out] at D3
      have u1 := r2.call hb3
      have bv := b2.trans (hb3.mono (by have := b2.size; omega))
      obtain ⟨nb3, A3, L3, c3, rfl, _⟩ := D3.form
      have D3' := Lib.hid D3
      clear D3 hb3 r2 b2
      have q0 : w3.cell? ⟨w.heap.size + 1, 0, none⟩ = some (.bool false) := u1.cell 0
      have q1 : w3.cell? ⟨w.heap.size + 1, 1, none⟩ = some (.slice none 0 0) := u1.cell 1
      have q2 : w3.cell? ⟨w.heap.size + 1, 2, none⟩ = some (.int .i64 0) := u1.cell 2
      have qf := u1.free
      have hu1 := u1.lt
      go_wp2_with fail
      refine bodyPost_ret (res_pFloor rfl rfl (((u1.set_ 0 _).set_ 1 _).set_ 2 _)) rfl ⟨_, rfl, ?_, ((bv.setCell (by simp) _).setCell (by simp) _).setCell (by simp) _⟩
      exact ((((D3'.out.set_ (by omega) 0 _).set_ (by omega) 1 _).set_ (by omega) 2 _).low (by omega)).more (by simp)
    | true =>
      as_aux_lemma =>
      have hx : x < 0 := by simpa using hnb.symm
      have HX := Lib.hid hx
      clear hnb hx
      have BA := al_ w2 (.cells #[.int .u32 1] 130)
      have r4 := r2.call BA
      have b4 := b2.trans (BA.mono (by have := b2.size; omega))
      have HT4 := HT2.call BA
      have Y4 := (Y.below BA (Nat.le_refl _)).more (show w2.heap.size ≤ w2.heap.size + 1 by omega)
      have O4 := one_words w2
      clear BA Y r2 b2 HT2
      go_wp2_with fail
      go_at_call 81
      refine (padd_w Y4 O4 (by simp) (by omega) (by rw [canon_one_len]; decide)).mono ?_
      rintro e w5 ⟨v5, rfl, Z, hb5⟩
      have r5 := r4.call hb5
      have b5 := b4.trans (hb5.mono (by have := b4.size; omega))
      have HT5 := HT4.call hb5
      obtain ⟨A5, L5, c5, rfl⟩ := Z.form
      have hw5 := r5.lt
      clear hb5 r4 b4 HT4
      go_wp2_with fail
      go_at_call 77
      refine (presult_v (d := den) Z (Nat.le_refl _) (by omega) hden HT5).mono ?_
      rintro e w3 ⟨v', rfl, D3, hb3⟩
      rw [fl_neg_cut HX.out HC.out, ← HV.out] at D3
      have u1 := r5.call hb3
      have bv := b5.trans (hb3.mono (by have := b5.size; omega))
      obtain ⟨nb3, A3, L3, c3, rfl, _⟩ := D3.form
      have D3' := Lib.hid D3
      clear D3 hb3 r5 b5
      have q0 : w3.cell? ⟨w.heap.size + 1, 0, none⟩ = some (.bool false) := u1.cell 0
      have q1 : w3.cell? ⟨w.heap.size + 1, 1, none⟩ = some (.slice none 0 0) := u1.cell 1
      have q2 : w3.cell? ⟨w.heap.size + 1, 2, none⟩ = some (.int .i64 0) := u1.cell 2
      have qf := u1.free
      have hu1 := u1.lt
      go_wp2_with fail
      refine bodyPost_ret (res_pFloor rfl rfl (((u1.set_ 0 _).set_ 1 _).set_ 2 _)) rfl ⟨_, rfl, ?_, ((bv.setCell (by simp) _).setCell (by simp) _).setCell (by simp) _⟩
      exact ((((D3'.out.set_ (by omega) 0 _).set_ (by omega) 1 _).set_ (by omega) 2 _).low (by omega)).more (by simp)
end Go.Proofs.YtjlocofimlgaoaaDoor
