/- The program's numbers: result, Of. No conditions. The program's numbers: Of, Shift. No conditions. The program's numbers: Shift. No conditions. -/
import Derived.Test.YtjlocofimlgaoaaDoorPdF
namespace Go.Proofs.YtjlocofimlgaoaaDoor
set_option linter.unusedVariables false
set_option linter.unusedSimpArgs false
set_option linter.unusedSectionVars false
open Go.RowKit

theorem ptrim_w {v : Value} {n m : Nat} {w : World} (h : WdR w m v n) (hl : (canon n).length ≤ 1000000) : Calls Tryd.prog 113 #[v] w fun e w' => e = .returned v ∧ w = w' := by
  obtain ⟨A, c, rfl, h1, h2, h3⟩ := h
  have h := ptrim_any A (canon n) c m w h3 h2 hl
  have e : trimL (canon n) = canon n := by rw [trim_canon (canon_ok n), wval_canon]
  rw [e] at h
  exact h
theorem pright_w {v : Value} {n k m : Nat} {w : World} (h : WdR w m v n) (hm : m ≤ w.heap.size) (hl : (canon n).length ≤ 100000) (hk : k ≤ 1000000) :
    Calls Tryd.prog 80 #[v, .int .i64 (k : Int)] w fun e w' => ∃ v', e = .returned v' ∧ WdR w' w'.heap.size v' (n / 2 ^ k) ∧ Below w.heap.size w w' := by
  obtain ⟨A, c, rfl, h1, h2, h3⟩ := h
  refine (pright_any A (canon n) c k m w hm h3 (canon_ok n) hl hk).mono ?_
  rintro e w' ⟨G, g, rfl, g1, g2, g3, hb⟩
  rw [wval_canon] at g2 g3 ⊢
  exact ⟨_, rfl, ⟨G, g, rfl, g1, g2, g3⟩, hb⟩
theorem pleft_w {v : Value} {n k m : Nat} {w : World} (h : WdR w m v n) (hm : m ≤ w.heap.size) (hl : (canon n).length ≤ 100000) (hk : k ≤ 1000000) :
    Calls Tryd.prog 82 #[v, .int .i64 (k : Int)] w fun e w' => ∃ v', e = .returned v' ∧ WdR w' w'.heap.size v' (n * 2 ^ k) ∧ Below w.heap.size w w' := by
  obtain ⟨A, c, rfl, h1, h2, h3⟩ := h
  refine (pleft_any A n c k m w hm h3 h1 h2 hl hk).mono ?_
  rintro e w' ⟨G, g, rfl, g1, g2, g3, hb⟩
  exact ⟨_, rfl, ⟨G, g, rfl, g1, g2, g3⟩, hb⟩
theorem pcompare_w {v v2 : Value} {a b m : Nat} {w : World} (h : WdR w m v a) (h2 : WdR w m v2 b) (hl : (canon a).length ≤ 100000) (hl2 : (canon b).length ≤ 100000) :
    Calls Tryd.prog 76 #[v, v2] w fun e w' => e = .returned (.int .i64 (sgI ((a : Int) - (b : Int)))) ∧ Below w.heap.size w w' := by
  obtain ⟨A, c, rfl, h1, h1', h3⟩ := h
  obtain ⟨A2, c2, rfl, k1, k1', k3⟩ := h2
  exact compare_any A A2 a b c c2 m w h3 k3 hl hl2
theorem zeros_w {v : Value} {n m : Nat} {w : World} (h : WdR w m v n) (hm : m ≤ w.heap.size) (hl : (canon n).length ≤ 100000) (ht : TabAt w) :
    Calls Tryd.prog 114 #[v] w fun e w' => (∃ z : Nat, e = .returned (.int .i64 (z : Int)) ∧ (n = 0 → z = 1099511627776) ∧ (n ≠ 0 → TzOf n z ∧ z ≤ 3200000)) ∧ w = w' := by
  obtain ⟨A, c, rfl, h1, h2, h3⟩ := h
  exact zeros_any A n c m w hm h3 hl ht
theorem nf_upto {neg : Bool} {n den z : Nat} (hz : n % 2 ^ z = 0) : ∀ k, k ≤ z → k ≤ den → nf (sg neg n) den = nf (sg neg (n / 2 ^ k)) (den - k)
  | 0, _, _ => by simp
  | k + 1, h1, h2 => by
    rw [nf_upto hz k (by omega) (by omega), nf_step (by omega) ?_]
    have e := Nat.div_add_mod n (2 ^ z)
    rw [hz, Nat.add_zero] at e
    have es : 2 ^ z = 2 ^ k * (2 * 2 ^ (z - k - 1)) := by rw [← Nat.pow_succ', ← Nat.pow_add]; congr 1; omega
    rw [← e, es, Nat.mul_assoc, Nat.mul_assoc, Nat.mul_div_cancel_left _ (Nat.two_pow_pos k)]
    omega
theorem nf_tz {neg : Bool} {n den z : Nat} (h : TzOf n z) : nf (sg neg n) den = (sg neg (n / 2 ^ (min z den)), den - min z den) := by
  rw [nf_upto h.1 (min z den) (by omega) (by omega)]
  refine nf_done (fun h0 => ?_)
  have : min z den = z := by omega
  rw [this]
  have := h.2
  unfold sg
  split <;> omega
theorem res_presult {tmps : Array Value} {w : World} {b : Nat} {v0 v1 v2 : Value} (h2 : tmps.getD 6 undef = .pointer (some ⟨b, 0, none⟩)) (hB : RowD w b [v0, v1, v2] 37) :
    (results Tryd.f77 tmps).run Tryd.prog w = .ok (.agg #[v0, v1, v2]) w := by
  have k0 := hB.cell 0
  have k1 := hB.cell 1
  have k2 := hB.cell 2
  simp at k0 k1 k2
  simp at h2
  simp [results, Tryd.results77, go_sem, h2, k0, k1, k2]
theorem al_ (u : World) (o : Obj) : Below u.heap.size u (u.alloc o) := (Below.refl _ u).alloc (Nat.le_refl _) o
set_option maxRecDepth 100000 in
set_option maxHeartbeats 4000000 in
theorem presult_v {neg : Bool} {v : Value} {n d m : Nat} {w : World} (h : WdR w m v n) (hm : m ≤ w.heap.size) (hl : (canon n).length ≤ 100000) (hd : d ≤ 65536) (ht : TabAt w) :
    Calls Tryd.prog 77 #[.bool neg, v, .int .i64 (d : Int)] w fun e w' =>
      ∃ v', e = .returned v' ∧ DyR w' w.heap.size w'.heap.size v' (nf (sg neg n) d).1 (nf (sg neg n) d).2 ∧ Below w.heap.size w w' := by
  obtain ⟨A0, L0, c0, rfl⟩ := h.form
  have X := Lib.hid h
  have HT := Lib.hid ht
  clear h ht
  have b0 : Below w.heap.size w (w.alloc (.cells #[.bool false, .slice none 0 0, .int .i64 0] 37)) := ext_alloc (Below.refl _ _) _
  have r0 := RowD.new_ w [.bool false, .slice none 0 0, .int .i64 0] 37
  go_enter Tryd.func77, Tryd.ntmps77
  go_wp2_with fail
  go_at_call 113
  refine (ptrim_w (X.out.below b0 hm) (by omega)).mono ?_
  rintro e w3 ⟨rfl, rfl⟩
  go_wp2_with fail
  go_at_call 114
  refine (zeros_w (X.out.below b0 hm) (by simp; omega) (by omega) (HT.out.call (al_ _ _))).mono ?_
  rintro e w3 ⟨⟨z, rfl, hz1, hz2⟩, rfl⟩
  obtain ⟨k, hk⟩ : ∃ k : Nat, k = min z d := ⟨_, rfl⟩
  have hmin : min (z : Int) (d : Int) = (k : Int) := by omega
  have hkd : k ≤ d := by omega
  have hdk : ¬ (65536 : Int) < (d : Int) - (k : Int) := by omega
  have hdk0 : ¬ (65536 : Int) < (d : Int) := by omega
  have hzz : z ≤ 1099511627776 := by
    by_cases h0 : n = 0
    · have := hz1 h0; omega
    · have := (hz2 h0).2; omega
  have hval : n ≠ 0 → nf (sg neg n) d = (sg neg (n / 2 ^ k), d - k) := fun h0 => by rw [hk]; exact nf_tz (hz2 h0).1
  have hn2 : n ≠ 0 → n / 2 ^ k ≠ 0 := fun h0 h1 => by
    have h3 := (hz2 h0).1
    have h4 : n / 2 ^ z = 0 := by
      have hle : 2 ^ k ≤ 2 ^ z := Nat.pow_le_pow_right (by decide) (by omega)
      have := Nat.lt_of_div_eq_zero (Nat.two_pow_pos k) h1
      exact Nat.div_eq_of_lt (Nat.lt_of_lt_of_le this hle)
    have := h3.2
    rw [h4] at this
    simp at this
  have hk0 : n = 0 → k = d := fun h0 => by have := hz1 h0; omega
  have HVAL := Lib.hid hval
  have HN2 := Lib.hid hn2
  have HK0 := Lib.hid hk0
  clear hz1 hz2 hk hval hn2 hk0
  by_cases hk1 : k = 0
  · as_aux_lemma =>
    have hkp : ¬ 0 < k := by omega
    have hkp' : ¬ (0 : Int) < (k : Int) := by omega
    by_cases hn : n = 0
    · as_aux_lemma =>
      obtain ⟨wv, hwv⟩ : ∃ wv, wv = w.alloc (.cells #[.bool false, .slice none 0 0, .int .i64 0] 37) := ⟨_, rfl⟩
      rw [← hwv]
      have rv : RowD wv w.heap.size [.bool false, .slice none 0 0, .int .i64 0] 37 := by rw [hwv]; exact r0
      have bv : Below w.heap.size w wv := by rw [hwv]; exact b0
      have Y0 := X.out.below bv hm
      clear hwv r0 b0
      have HRES := Lib.hid (show nf (sg neg n) d = (0, 0) by rw [hn, show sg neg 0 = 0 by unfold sg; split <;> rfl]; exact nf_zero d)
      have hL : (L0 : Int) = 0 := by
        obtain ⟨A, c, he, _⟩ := Y0
        cases he
        rw [hn, canon_zero]; rfl
      have hLb : ((L0 : Int) == 0) = true := by rw [hL]; rfl
      have HLZ := Lib.hid hL
      subst hk1
      clear hL hn Y0
      have u1 := rv
      have q0 : wv.cell? ⟨w.heap.size, 0, none⟩ = some (.bool false) := u1.cell 0
      have q1 : wv.cell? ⟨w.heap.size, 1, none⟩ = some (.slice none 0 0) := u1.cell 1
      have q2 : wv.cell? ⟨w.heap.size, 2, none⟩ = some (.int .i64 0) := u1.cell 2
      have qf := u1.free
      have hu1 := u1.lt
      go_wp2_with fail
      refine bodyPost_ret (res_presult rfl (((u1.set_ 0 _).set_ 1 _).set_ 2 _)) rfl ⟨_, rfl, ?_, ((bv.setCell (by simp) _).setCell (by simp) _).setCell (by simp) _⟩
      rw [HRES.out]
      exact DyR.zero_ _ _ _
    · as_aux_lemma =>
      obtain ⟨wv, hwv⟩ : ∃ wv, wv = w.alloc (.cells #[.bool false, .slice none 0 0, .int .i64 0] 37) := ⟨_, rfl⟩
      rw [← hwv]
      have rv : RowD wv w.heap.size [.bool false, .slice none 0 0, .int .i64 0] 37 := by rw [hwv]; exact r0
      have bv : Below w.heap.size w wv := by rw [hwv]; exact b0
      have Y0 := X.out.below bv hm
      clear hwv r0 b0
      obtain ⟨y, hy⟩ : ∃ y, y = n / 2 ^ k := ⟨_, rfl⟩
      have HRES := Lib.hid (show nf (sg neg n) d = (sg neg y, d - k) by rw [HVAL.out hn, hy])
      have HODD := Lib.hid (show d - k ≠ 0 → sg neg y % 2 = 1 by
        have h5 := nf_odd (sg neg n) d
        rw [HRES.out] at h5
        exact h5)
      have HY0 := Lib.hid (show y ≠ 0 by rw [hy]; exact HN2.out hn)
      have hyl : (canon y).length ≤ 100000 := Nat.le_trans (canon_len_mono (by rw [hy]; exact Nat.div_le_self _ _)) hl
      have hyp := canon_ne HY0.out
      have e0 : (((canon y).length : Int) == 0) = false := by rw [beq_eq_false_iff_ne]; omega
      have hyn : y = n := by rw [hy, hk1]; simp
      subst hk1
      rw [← hyn] at Y0
      obtain ⟨A5, c5, he5, g1, g2, g3⟩ := Y0
      cases he5
      have G3 := Lib.hid g3
      obtain ⟨hi5, hhi5⟩ : ∃ hi5, hi5 = m := ⟨_, rfl⟩
      rw [← hhi5] at g3
      clear hy hn hyn hhi5
      go_wp2_with (at_builtin
                   refine app_nat rfl _ _ rfl wv.heap.size _ [] (canon y) A0 c0 hi5 rfl (OwnW.nil_ _ _) rfl g1 g3 (by simp; omega) (Nat.le_refl _) ?_
                   intro v' w4 hown4 hb4
                   rw [List.nil_append] at hown4
                   obtain ⟨A', c', rfl, _, _⟩ := hown4.view
                   have u1 := rv.call hb4
                   have bv4 := bv.trans (hb4.mono (by have := bv.size; omega))
                   have hsv := rv.lt
                   have hsz4 := hb4.size
                   clear hb4
                   have q0 : w4.cell? ⟨w.heap.size, 0, none⟩ = some (.bool false) := u1.cell 0
                   have q1 : w4.cell? ⟨w.heap.size, 1, none⟩ = some (.slice none 0 0) := u1.cell 1
                   have q2 : w4.cell? ⟨w.heap.size, 2, none⟩ = some (.int .i64 0) := u1.cell 2
                   have qf := u1.free
                   have hu1 := u1.lt)
      have hown5 : OwnW (((w4.setCell ⟨w.heap.size, 0, none⟩ (.bool neg)).setCell ⟨w.heap.size, 1, none⟩ (.slice A' (canon y).length c')).setCell ⟨w.heap.size, 2, none⟩ (.int .i64 (d : Int))) wv.heap.size (.slice A' (canon y).length c') (canon y) := ownsRow_setCell_below (ownsRow_setCell_below (ownsRow_setCell_below hown4 (by simp; omega) _) (by simp; omega) _) (by simp; omega) _
      refine bodyPost_ret (res_presult rfl (((u1.set_ 0 _).set_ 1 _).set_ 2 _)) rfl ⟨_, rfl, ?_, ((bv4.setCell (by simp) _).setCell (by simp) _).setCell (by simp) _⟩
      rw [HRES.out]
      obtain ⟨_, hcl, hn', hc'⟩ := hown5.cap_
      refine ⟨A', c', ?_, hn', ?_, ?_, ?_, by show d - 0 ≤ 65536; omega, ?_⟩
      · rw [sg_abs, sg_neg HY0.out]
        have : (d : Int) = ((d - 0 : Nat) : Int) := by omega
        rw [this]
      · rw [sg_abs]; exact hcl
      · rw [sg_abs]; exact hc'
      · intro a ha
        have := (World.ownsRow.lt hown5 a.block (by rw [ha]; rfl)).1
        have := bv.size
        omega
      · intro h
        have h5 := HODD.out h
        exact h5
  · have hkp : 0 < k := by omega
    have hkp' : (0 : Int) < (k : Int) := by omega
    by_cases hn : n = 0
    · as_aux_lemma =>
      have HRES := Lib.hid (show nf (sg neg n) d = (0, 0) by rw [hn, show sg neg 0 = 0 by unfold sg; split <;> rfl]; exact nf_zero d)
      have hkd0 := HK0.out hn
      go_wp2_with fail
      go_at_call 80
      refine (pright_w (X.out.below b0 hm) (by simp; omega) hl (by omega)).mono ?_
      rintro e wv ⟨v5, rfl, Y0, hb5⟩
      have rv := r0.call hb5
      have bv := b0.trans (hb5.mono (by simp))
      clear hb5 r0 b0
      rw [hn, Nat.zero_div] at Y0
      obtain ⟨A5, c5, he5, g1, g2, g3⟩ := Y0
      rw [canon_zero] at he5
      subst he5
      clear hn g1 g2 g3
      have u1 := rv
      have q0 : wv.cell? ⟨w.heap.size, 0, none⟩ = some (.bool false) := u1.cell 0
      have q1 : wv.cell? ⟨w.heap.size, 1, none⟩ = some (.slice none 0 0) := u1.cell 1
      have q2 : wv.cell? ⟨w.heap.size, 2, none⟩ = some (.int .i64 0) := u1.cell 2
      have qf := u1.free
      have hu1 := u1.lt
      go_wp2_with fail
      refine bodyPost_ret (res_presult rfl (((u1.set_ 0 _).set_ 1 _).set_ 2 _)) rfl ⟨_, rfl, ?_, ((bv.setCell (by simp) _).setCell (by simp) _).setCell (by simp) _⟩
      rw [HRES.out]
      exact DyR.zero_ _ _ _
    · as_aux_lemma =>
      obtain ⟨y, hy⟩ : ∃ y, y = n / 2 ^ k := ⟨_, rfl⟩
      have HRES := Lib.hid (show nf (sg neg n) d = (sg neg y, d - k) by rw [HVAL.out hn, hy])
      have HODD := Lib.hid (show d - k ≠ 0 → sg neg y % 2 = 1 by
        have h5 := nf_odd (sg neg n) d
        rw [HRES.out] at h5
        exact h5)
      have HY0 := Lib.hid (show y ≠ 0 by rw [hy]; exact HN2.out hn)
      have hyl : (canon y).length ≤ 100000 := Nat.le_trans (canon_len_mono (by rw [hy]; exact Nat.div_le_self _ _)) hl
      have hyp := canon_ne HY0.out
      have e0 : (((canon y).length : Int) == 0) = false := by rw [beq_eq_false_iff_ne]; omega
      clear hn
      go_wp2_with fail
      go_at_call 80
      refine (pright_w (X.out.below b0 hm) (by simp; omega) hl (by omega)).mono ?_
      rintro e wv ⟨v5, rfl, Y0, hb5⟩
      have rv := r0.call hb5
      have bv := b0.trans (hb5.mono (by simp))
      clear hb5 r0 b0
      rw [← hy] at Y0
      obtain ⟨A5, c5, rfl, g1, g2, g3⟩ := Y0
      obtain ⟨hi5, hhi5⟩ : ∃ hi5, hi5 = wv.heap.size := ⟨_, rfl⟩
      rw [← hhi5] at g3
      clear hy hhi5
      go_wp2_with (at_builtin
                   refine app_nat rfl _ _ rfl wv.heap.size _ [] (canon y) A5 c5 hi5 rfl (OwnW.nil_ _ _) rfl g1 g3 (by simp; omega) (Nat.le_refl _) ?_
                   intro v' w4 hown4 hb4
                   rw [List.nil_append] at hown4
                   obtain ⟨A', c', rfl, _, _⟩ := hown4.view
                   have u1 := rv.call hb4
                   have bv4 := bv.trans (hb4.mono (by have := bv.size; omega))
                   have hsv := rv.lt
                   have hsz4 := hb4.size
                   clear hb4
                   have q0 : w4.cell? ⟨w.heap.size, 0, none⟩ = some (.bool false) := u1.cell 0
                   have q1 : w4.cell? ⟨w.heap.size, 1, none⟩ = some (.slice none 0 0) := u1.cell 1
                   have q2 : w4.cell? ⟨w.heap.size, 2, none⟩ = some (.int .i64 0) := u1.cell 2
                   have qf := u1.free
                   have hu1 := u1.lt)
      have hown5 : OwnW (((w4.setCell ⟨w.heap.size, 0, none⟩ (.bool neg)).setCell ⟨w.heap.size, 1, none⟩ (.slice A' (canon y).length c')).setCell ⟨w.heap.size, 2, none⟩ (.int .i64 ((d : Int) - (k : Int)))) wv.heap.size (.slice A' (canon y).length c') (canon y) := ownsRow_setCell_below (ownsRow_setCell_below (ownsRow_setCell_below hown4 (by simp; omega) _) (by simp; omega) _) (by simp; omega) _
      refine bodyPost_ret (res_presult rfl (((u1.set_ 0 _).set_ 1 _).set_ 2 _)) rfl ⟨_, rfl, ?_, ((bv4.setCell (by simp) _).setCell (by simp) _).setCell (by simp) _⟩
      rw [HRES.out]
      obtain ⟨_, hcl, hn', hc'⟩ := hown5.cap_
      refine ⟨A', c', ?_, hn', ?_, ?_, ?_, by show d - k ≤ 65536; omega, ?_⟩
      · rw [sg_abs, sg_neg HY0.out]
        have : ((d : Int) - (k : Int)) = ((d - k : Nat) : Int) := by omega
        rw [this]
      · rw [sg_abs]; exact hcl
      · rw [sg_abs]; exact hc'
      · intro a ha
        have := (World.ownsRow.lt hown5 a.block (by rw [ha]; rfl)).1
        have := bv.size
        omega
      · intro h
        have h5 := HODD.out h
        exact h5

end Go.Proofs.YtjlocofimlgaoaaDoor
namespace Go.Proofs.YtjlocofimlgaoaaDoor
set_option linter.unusedVariables false
set_option linter.unusedSimpArgs false
set_option linter.unusedSectionVars false
open Go.RowKit

theorem nf_mul (m : Int) : ∀ (k d : Nat), nf (m * 2 ^ k) d = if k ≤ d then nf m (d - k) else (m * 2 ^ (k - d), 0)
  | 0, d => by simp
  | k + 1, 0 => rfl
  | k + 1, d + 1 => by
    have e1 : m * 2 ^ (k + 1) = 2 * (m * 2 ^ k) := by rw [Int.pow_succ, ← Int.mul_assoc, Int.mul_comm]
    have h : nf (m * 2 ^ (k + 1)) (d + 1) = nf (m * 2 ^ k) d := by
      rw [e1]
      show (if (2 * (m * 2 ^ k)) % 2 = 0 then nf (2 * (m * 2 ^ k) / 2) d else _) = _
      rw [if_pos (by omega), show 2 * (m * 2 ^ k) / 2 = m * 2 ^ k by omega]
    rw [h, nf_mul m k d]
    by_cases hk : k ≤ d
    · rw [if_pos hk, if_pos (by omega), show d + 1 - (k + 1) = d - k by omega]
    · rw [if_neg hk, if_neg (by omega), show k + 1 - (d + 1) = k - d by omega]
set_option maxHeartbeats 2000000 in
theorem ofUint_any (u : Nat) (w : World) (hu : u < 18446744073709551616) :
    Calls Tryd.prog 78 #[.int .u64 (u : Int)] w fun e w' => ∃ v', e = .returned v' ∧ WdR w' w'.heap.size v' u ∧ Below w.heap.size w w' := by
  obtain ⟨lo, hlo⟩ : ∃ lo : Nat, (u : Int) % 4294967296 = (lo : Int) := ⟨(u % 4294967296 : Nat), by omega⟩
  obtain ⟨hi, hhi⟩ : ∃ hi : Nat, (u : Int) / 4294967296 = (hi : Int) := ⟨(u / 4294967296 : Nat), by omega⟩
  have hib : hi < 4294967296 := by omega
  have lob : lo < 4294967296 := by omega
  have hval : wval [lo, hi] = u := by rw [of_words]; omega
  have HV := Lib.hid hval
  have c0 : CellsAt (w.alloc (.cells #[.int .u32 (lo : Int), .int .u32 (hi : Int)] 130)) (w.heap.size + 1) (some ⟨w.heap.size, 0, none⟩) (w32 [lo, hi]) :=
    (RowD.new_ w (w32 [lo, hi]) 130).cells_ (by omega)
  have C0 := Lib.hid c0
  clear hval c0
  go_enter Tryd.func78, Tryd.ntmps78
  go_wp2_with fail
  go_at_call 113
  refine (ptrim_any (some ⟨w.heap.size, 0, none⟩) [lo, hi] 2 (w.heap.size + 1) _ C0.out (by simp) (by simp)).mono ?_
  rintro e w3 ⟨rfl, rfl⟩
  go_wp2_with fail
  go_ret
  have hcan := trim_canon (of_ok lob hib)
  rw [HV.out] at hcan
  refine ⟨_, rfl, ⟨some ⟨w.heap.size, 0, none⟩, 2, by rw [hcan]; rfl, by simp, ?_, ?_⟩, al_ _ _⟩
  · rw [← hcan, trimL_len]
    exact trimN_le _ _
  · rw [← hcan]
    exact (C0.out.takeW _).more (by simp)
theorem res_pOf {tmps : Array Value} {w : World} {b : Nat} {v0 v1 v2 : Value} (h2 : tmps.getD 2 undef = .pointer (some ⟨b, 0, none⟩)) (hB : RowD w b [v0, v1, v2] 37) :
    (results Tryd.f38 tmps).run Tryd.prog w = .ok (.agg #[v0, v1, v2]) w := by
  have k0 := hB.cell 0
  have k1 := hB.cell 1
  have k2 := hB.cell 2
  simp at k0 k1 k2
  simp at h2
  simp [results, Tryd.results38, go_sem, h2, k0, k1, k2]
set_option maxRecDepth 100000 in
set_option maxHeartbeats 4000000 in
theorem pof_any (n : Int) (h1 : -9223372036854775808 ≤ n) (h2 : n < 9223372036854775808) (w : World) (ht : TabAt w) :
    Calls Tryd.prog 38 #[.int .i64 n] w fun e w' => ∃ v', e = .returned v' ∧ DyR w' w.heap.size w'.heap.size v' n 0 ∧ Below w.heap.size w w' := by
  by_cases h : n < 0
  · as_aux_lemma =>
    obtain ⟨u, hu⟩ : ∃ u : Nat, -n = (u : Int) := ⟨(-n).toNat, by omega⟩
    obtain ⟨vv, hvv⟩ : ∃ vv : Nat, n + 18446744073709551616 = (vv : Int) := ⟨(n + 18446744073709551616).toNat, by omega⟩
    have hu1 : IntKind.u64.wrap n = (vv : Int) := by rw [IntKind.wrap_u64]; omega
    have hu2 : IntKind.u64.wrap (-(vv : Int)) = (u : Int) := by rw [IntKind.wrap_u64]; omega
    have hsg : sg true u = n := by unfold sg; simp; omega
    have hub : u < 18446744073709551616 := by omega
    have hcl : (canon u).length ≤ 2 := canon_len_le (by omega)
    have HSG := Lib.hid hsg
    have HT := Lib.hid ht
    clear hsg ht hvv hu
    have b0 : Below w.heap.size w (w.alloc (.cells #[.bool false, .slice none 0 0, .int .i64 0] 37)) := ext_alloc (Below.refl _ _) _
    have r0 := RowD.new_ w [.bool false, .slice none 0 0, .int .i64 0] 37
    go_enter Tryd.func38, Tryd.ntmps38
    go_wp2_with fail
    go_at_call 78
    refine (ofUint_any u _ hub).mono ?_
    rintro e w1 ⟨v1, rfl, Y, hb1⟩
    have r1 := r0.call hb1
    have b1 := b0.trans (hb1.mono (by simp))
    have hw1 := r1.lt
    have HT1 := HT.out.below b1 HT.out.1
    obtain ⟨A1, L1, c1, rfl⟩ := Y.form
    have Y' := Lib.hid Y
    clear hb1 r0 b0 Y
    go_wp2_with fail
    go_at_call 77
    refine (presult_v (d := 0) Y'.out (Nat.le_refl _) (by omega) (by omega) HT1).mono ?_
    rintro e w3 ⟨v', rfl, D3, hb3⟩
    rw [HSG.out] at D3
    have D3 : DyR w3 (w.heap.size + 1) w3.heap.size v' n 0 := D3.low (by omega)
    have u1 := r1.call hb3
    have bv := b1.trans (hb3.mono (by have := b1.size; omega))
    obtain ⟨nb3, A3, L3, c3, rfl, _⟩ := D3.form
    have D3' := Lib.hid D3
    clear D3 hb3 r1 b1
    have q0 : w3.cell? ⟨w.heap.size, 0, none⟩ = some (.bool false) := u1.cell 0
    have q1 : w3.cell? ⟨w.heap.size, 1, none⟩ = some (.slice none 0 0) := u1.cell 1
    have q2 : w3.cell? ⟨w.heap.size, 2, none⟩ = some (.int .i64 0) := u1.cell 2
    have qf := u1.free
    have hu1 := u1.lt
    go_wp2_with fail
    refine bodyPost_ret (res_pOf rfl (((u1.set_ 0 _).set_ 1 _).set_ 2 _)) rfl ⟨_, rfl, ?_, ((bv.setCell (by simp) _).setCell (by simp) _).setCell (by simp) _⟩
    exact ((((D3'.out.set_ (by omega) 0 _).set_ (by omega) 1 _).set_ (by omega) 2 _).low (by omega)).more (by simp)
  · as_aux_lemma =>
    obtain ⟨u, rfl⟩ : ∃ u : Nat, n = (u : Int) := ⟨n.toNat, by omega⟩
    have hsg : sg false u = (u : Int) := by unfold sg; simp
    have hub : u < 18446744073709551616 := by omega
    have hcl : (canon u).length ≤ 2 := canon_len_le (by omega)
    have HSG := Lib.hid hsg
    have HT := Lib.hid ht
    clear hsg ht
    have b0 : Below w.heap.size w (w.alloc (.cells #[.bool false, .slice none 0 0, .int .i64 0] 37)) := ext_alloc (Below.refl _ _) _
    have r0 := RowD.new_ w [.bool false, .slice none 0 0, .int .i64 0] 37
    go_enter Tryd.func38, Tryd.ntmps38
    go_wp2_with fail
    go_at_call 78
    refine (ofUint_any u _ hub).mono ?_
    rintro e w1 ⟨v1, rfl, Y, hb1⟩
    have r1 := r0.call hb1
    have b1 := b0.trans (hb1.mono (by simp))
    have hw1 := r1.lt
    have HT1 := HT.out.below b1 HT.out.1
    obtain ⟨A1, L1, c1, rfl⟩ := Y.form
    have Y' := Lib.hid Y
    clear hb1 r0 b0 Y
    go_wp2_with fail
    go_at_call 77
    refine (presult_v (d := 0) Y'.out (Nat.le_refl _) (by omega) (by omega) HT1).mono ?_
    rintro e w3 ⟨v', rfl, D3, hb3⟩
    rw [HSG.out] at D3
    have D3 : DyR w3 (w.heap.size + 1) w3.heap.size v' (u : Int) 0 := D3.low (by omega)
    have u1 := r1.call hb3
    have bv := b1.trans (hb3.mono (by have := b1.size; omega))
    obtain ⟨nb3, A3, L3, c3, rfl, _⟩ := D3.form
    have D3' := Lib.hid D3
    clear D3 hb3 r1 b1
    have q0 : w3.cell? ⟨w.heap.size, 0, none⟩ = some (.bool false) := u1.cell 0
    have q1 : w3.cell? ⟨w.heap.size, 1, none⟩ = some (.slice none 0 0) := u1.cell 1
    have q2 : w3.cell? ⟨w.heap.size, 2, none⟩ = some (.int .i64 0) := u1.cell 2
    have qf := u1.free
    have hu1 := u1.lt
    go_wp2_with fail
    refine bodyPost_ret (res_pOf rfl (((u1.set_ 0 _).set_ 1 _).set_ 2 _)) rfl ⟨_, rfl, ?_, ((bv.setCell (by simp) _).setCell (by simp) _).setCell (by simp) _⟩
    exact ((((D3'.out.set_ (by omega) 0 _).set_ (by omega) 1 _).set_ (by omega) 2 _).low (by omega)).more (by simp)
end Go.Proofs.YtjlocofimlgaoaaDoor
namespace Go.Proofs.YtjlocofimlgaoaaDoor
set_option linter.unusedVariables false
set_option linter.unusedSimpArgs false
set_option linter.unusedSectionVars false
open Go.RowKit

theorem res_pShift {tmps : Array Value} {w : World} {b : Nat} {v0 v1 v2 : Value} (h2 : tmps.getD 4 undef = .pointer (some ⟨b, 0, none⟩)) (hB : RowD w b [v0, v1, v2] 37) :
    (results Tryd.f41 tmps).run Tryd.prog w = .ok (.agg #[v0, v1, v2]) w := by
  have k0 := hB.cell 0
  have k1 := hB.cell 1
  have k2 := hB.cell 2
  simp at k0 k1 k2
  simp at h2
  simp [results, Tryd.results41, go_sem, h2, k0, k1, k2]
set_option maxRecDepth 100000 in
set_option maxHeartbeats 4000000 in
theorem pshift_any {v : Value} {x : Int} {d lo m : Nat} {n : Int} {w : World} (D : DyR w lo m v x d) (hm : m ≤ w.heap.size) (hl : (canon x.natAbs).length ≤ 50000) (hd : (d : Int) - max (-65536) (min n 65536) ≤ 65536) (ht : TabAt w) :
    Calls Tryd.prog 41 #[v, .int .i64 n] w fun e w' => ∃ v', e = .returned v' ∧ DyR w' w.heap.size w'.heap.size v' (dyShift x d n).1 (dyShift x d n).2 ∧ Below w.heap.size w w' := by
  obtain ⟨nn, hnn⟩ : ∃ nn : Int, max (-65536) (min n 65536) = nn := ⟨_, rfl⟩
  have hb1 : -65536 ≤ nn := by omega
  have hb2 : nn ≤ 65536 := by omega
  rw [hnn] at hd
  have hdd := D.bound.1
  by_cases hneg : (d : Int) - nn < 0
  · as_aux_lemma =>
    obtain ⟨p, hp⟩ : ∃ p : Nat, -((d : Int) - nn) = (p : Int) := ⟨(nn - d).toNat, by omega⟩
    have HV := Lib.hid (show dyShift x d n = (x * 2 ^ p, 0) by
      unfold dyShift
      rw [hnn, if_neg (by omega)]
      rw [nf_mul, if_neg (by omega)]
      congr 3
      omega)
    have hp6 : p ≤ 1000000 := by omega
    have hlen : (canon (x.natAbs * 2 ^ p)).length ≤ 100000 := by
      have := canon_len_shift x.natAbs p
      omega
    have hpn : (d : Int) - nn < 0 := by omega
    obtain ⟨nb, A, L, c, rfl, HD⟩ := D.form
    have hd6 := D.bound.1
    have D' := Lib.hid D
    have HT := Lib.hid ht
    have HN := Lib.hid hnn
    have b0 : Below w.heap.size w ((w.alloc (.cells #[.bool nb, .slice A L c, .int .i64 (d : Int)] 37)).alloc (.cells #[.bool false, .slice none 0 0, .int .i64 0] 37)) := ext_alloc (ext_alloc (Below.refl _ _) _) _
    have r0 := RowD.new_ (w.alloc (.cells #[.bool nb, .slice A L c, .int .i64 (d : Int)] 37)) [.bool false, .slice none 0 0, .int .i64 0] 37
    rw [show (w.alloc (.cells #[.bool nb, .slice A L c, .int .i64 (d : Int)] 37)).heap.size = w.heap.size + 1 by simp] at r0
    clear D ht
    go_enter Tryd.func41, Tryd.ntmps41
    go_wp2_with fail
    go_at_call 79
    refine (parts_w (D'.out.below b0 hm) (by simp; omega) (by omega)).mono ?_
    rintro e w1 ⟨nb', A', L', c', he, rfl, hb1⟩
    cases he
    have r1 := r0.call hb1
    have b1 := b0.trans (hb1.mono (by simp; omega))
    have hw1 := r1.lt
    have HT1 := HT.out.below b1 HT.out.1
    have X1 := (D'.out.below b1 hm).words
    clear hb1 r0 b0
    go_wp2_with fail
    go_at_call 82
    refine (pleft_w X1 (by omega) (by omega) hp6).mono ?_
    rintro e w2 ⟨v2, rfl, Y, hb2⟩
    have r2 := r1.call hb2
    have b2 := b1.trans (hb2.mono (by omega))
    have HT2 := HT1.call hb2
    obtain ⟨A2, L2, c2, rfl⟩ := Y.form
    have hw2 := r2.lt
    clear hb2 r1 b1 HT1 X1
    go_wp2_with fail
    go_at_call 77
    refine (presult_v (d := 0) Y (Nat.le_refl _) hlen (by omega) HT2).mono ?_
    rintro e w3 ⟨v', rfl, D3, hb3⟩
    rw [show nf (sg nb (x.natAbs * 2 ^ p)) 0 = dyShift x d n by rw [HD.out.1, sg_mul, HV.out]; rfl] at D3
    have r1 := r2
    have b1 := b2
    clear r2 b2
    have u1 := r1.call hb3
    have bv := b1.trans (hb3.mono (by have := b1.size; omega))
    obtain ⟨nb3, A3, L3, c3, rfl, _⟩ := D3.form
    have D3' := Lib.hid D3
    clear D3 hb3 r1 b1
    have q0 : w3.cell? ⟨w.heap.size + 1, 0, none⟩ = some (.bool false) := u1.cell 0
    have q1 : w3.cell? ⟨w.heap.size + 1, 1, none⟩ = some (.slice none 0 0) := u1.cell 1
    have q2 : w3.cell? ⟨w.heap.size + 1, 2, none⟩ = some (.int .i64 0) := u1.cell 2
    have qf := u1.free
    have hu1 := u1.lt
    go_wp2_with fail
    refine bodyPost_ret (res_pShift rfl (((u1.set_ 0 _).set_ 1 _).set_ 2 _)) rfl ⟨_, rfl, ?_, ((bv.setCell (by simp) _).setCell (by simp) _).setCell (by simp) _⟩
    exact ((((D3'.out.set_ (by omega) 0 _).set_ (by omega) 1 _).set_ (by omega) 2 _).low (by omega)).more (by simp)
  · as_aux_lemma =>
    obtain ⟨p, hp⟩ : ∃ p : Nat, (d : Int) - nn = (p : Int) := ⟨(d - nn).toNat, by omega⟩
    have HV := Lib.hid (show dyShift x d n = nf x p by
      unfold dyShift
      rw [hnn]
      by_cases h0 : nn < 0
      · rw [if_pos h0]
        congr 1
        omega
      · rw [if_neg h0, nf_mul, if_pos (by omega)]
        congr 1
        omega)
    have hp6 : p ≤ 65536 := by omega
    have hpn : ¬ (d : Int) - nn < 0 := by omega
    obtain ⟨nb, A, L, c, rfl, HD⟩ := D.form
    have hd6 := D.bound.1
    have D' := Lib.hid D
    have HT := Lib.hid ht
    have HN := Lib.hid hnn
    have b0 : Below w.heap.size w ((w.alloc (.cells #[.bool nb, .slice A L c, .int .i64 (d : Int)] 37)).alloc (.cells #[.bool false, .slice none 0 0, .int .i64 0] 37)) := ext_alloc (ext_alloc (Below.refl _ _) _) _
    have r0 := RowD.new_ (w.alloc (.cells #[.bool nb, .slice A L c, .int .i64 (d : Int)] 37)) [.bool false, .slice none 0 0, .int .i64 0] 37
    rw [show (w.alloc (.cells #[.bool nb, .slice A L c, .int .i64 (d : Int)] 37)).heap.size = w.heap.size + 1 by simp] at r0
    clear D ht
    go_enter Tryd.func41, Tryd.ntmps41
    go_wp2_with fail
    go_at_call 79
    refine (parts_w (D'.out.below b0 hm) (by simp; omega) (by omega)).mono ?_
    rintro e w1 ⟨nb', A', L', c', he, rfl, hb1⟩
    cases he
    have r1 := r0.call hb1
    have b1 := b0.trans (hb1.mono (by simp; omega))
    have hw1 := r1.lt
    have HT1 := HT.out.below b1 HT.out.1
    have X1 := (D'.out.below b1 hm).words
    clear hb1 r0 b0
    go_wp2_with fail
    go_at_call 77
    refine (presult_v (d := p) X1 (by omega) (by omega) hp6 HT1).mono ?_
    rintro e w3 ⟨v', rfl, D3, hb3⟩
    rw [show nf (sg nb x.natAbs) p = dyShift x d n by rw [HD.out.1, sg_back, HV.out]] at D3
    have u1 := r1.call hb3
    have bv := b1.trans (hb3.mono (by have := b1.size; omega))
    obtain ⟨nb3, A3, L3, c3, rfl, _⟩ := D3.form
    have D3' := Lib.hid D3
    clear D3 hb3 r1 b1
    have q0 : w3.cell? ⟨w.heap.size + 1, 0, none⟩ = some (.bool false) := u1.cell 0
    have q1 : w3.cell? ⟨w.heap.size + 1, 1, none⟩ = some (.slice none 0 0) := u1.cell 1
    have q2 : w3.cell? ⟨w.heap.size + 1, 2, none⟩ = some (.int .i64 0) := u1.cell 2
    have qf := u1.free
    have hu1 := u1.lt
    go_wp2_with fail
    refine bodyPost_ret (res_pShift rfl (((u1.set_ 0 _).set_ 1 _).set_ 2 _)) rfl ⟨_, rfl, ?_, ((bv.setCell (by simp) _).setCell (by simp) _).setCell (by simp) _⟩
    exact ((((D3'.out.set_ (by omega) 0 _).set_ (by omega) 1 _).set_ (by omega) 2 _).low (by omega)).more (by simp)
end Go.Proofs.YtjlocofimlgaoaaDoor
