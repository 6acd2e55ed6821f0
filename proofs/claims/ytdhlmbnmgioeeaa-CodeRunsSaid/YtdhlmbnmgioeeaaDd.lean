/- The document's dyadic numbers: Add. And more of the kind. No conditions. -/
import Derived.Test.YtdhlmbnmgioeeaaDc
/- The document's dyadic numbers: Add. No conditions. -/
namespace Go.Proofs.Ytdhlmbnmgioeeaa
set_option linter.unusedVariables false
set_option linter.unusedSimpArgs false
set_option linter.unusedSectionVars false
open Go.RowKit

/-- The value v is the words of n without leading zeros. -/
def WdR (w : World) (hi : Nat) (v : Value) (n : Nat) : Prop := ∃ A c, v = .slice A (canon n).length c ∧ (A = none → c = 0) ∧ (canon n).length ≤ c ∧ CellsAt w hi A (w32 (canon n))
theorem WdR.below {w w' : World} {hi B n : Nat} {v : Value} (h : WdR w hi v n) (hb : Below B w w') (hB : hi ≤ B) : WdR w' hi v n := by
  obtain ⟨A, c, e, h1, h2, h3⟩ := h
  exact ⟨A, c, e, h1, h2, h3.below hb hB⟩
theorem WdR.more {w : World} {hi hi' n : Nat} {v : Value} (h : WdR w hi v n) (hB : hi ≤ hi') : WdR w hi' v n := by
  obtain ⟨A, c, e, h1, h2, h3⟩ := h
  exact ⟨A, c, e, h1, h2, h3.more hB⟩
theorem WdR.form {w : World} {hi n : Nat} {v : Value} (h : WdR w hi v n) : ∃ A L c, v = .slice A L c := by
  obtain ⟨A, c, e, _⟩ := h
  exact ⟨A, _, c, e⟩
theorem DyR.words {w : World} {lo hi d : Nat} {nb : Bool} {A : Option Addr} {L c : Nat} {x : Int} (h : DyR w lo hi (.agg #[.bool nb, .slice A L c, .int .i64 (d : Int)]) x d) : WdR w hi (.slice A L c) x.natAbs := by
  obtain ⟨A', c', e, h1, h2, h3, _⟩ := h
  cases e
  exact ⟨_, _, rfl, h1, h2, h3⟩
theorem left_w {v : Value} {n k m : Nat} {w : World} (h : WdR w m v n) (hm : m ≤ w.heap.size) (hl : (canon n).length ≤ 100000) (hk : k ≤ 1000000) :
    Calls Try.prog 52 #[v, .int .i64 (k : Int)] w fun e w' => ∃ v', e = .returned v' ∧ WdR w' w'.heap.size v' (n * 2 ^ k) ∧ Below w.heap.size w w' := by
  obtain ⟨A, c, rfl, h1, h2, h3⟩ := h
  refine (left_any A (canon n) c k m w hm h3 (canon_ok n) hl hk).mono ?_
  rintro e w' ⟨G, g, rfl, g1, g2, g3, hb⟩
  rw [wval_canon] at g2 g3 ⊢
  exact ⟨_, rfl, ⟨G, g, rfl, g1, g2, g3⟩, hb⟩
theorem plus_w {v v2 : Value} {a b m m2 : Nat} {w : World} (h : WdR w m v a) (h2 : WdR w m2 v2 b) (hm : m ≤ w.heap.size) (hm2 : m2 ≤ w.heap.size) (hl : (canon a).length ≤ 100000) (hl2 : (canon b).length ≤ 100000) :
    Calls Try.prog 53 #[v, v2] w fun e w' => ∃ v', e = .returned v' ∧ WdR w' w'.heap.size v' (a + b) ∧ Below w.heap.size w w' := by
  obtain ⟨A, c, rfl, h1, h1', h3⟩ := h
  obtain ⟨A2, c2, rfl, k1, k1', k3⟩ := h2
  refine (plus_any A A2 (canon a) (canon b) c c2 w.heap.size w (Nat.le_refl _) (h3.more hm) (k3.more hm2) (canon_ok a) (canon_ok b) hl hl2).mono ?_
  rintro e w' ⟨G, g, rfl, g1, g2, g3, hb⟩
  rw [wval_canon, wval_canon] at g2 g3 ⊢
  exact ⟨_, rfl, ⟨G, g, rfl, g1, g2, g3⟩, hb⟩
theorem minus_w {v v2 : Value} {a b m m2 : Nat} {w : World} (h : WdR w m v a) (h2 : WdR w m2 v2 b) (hm : m ≤ w.heap.size) (hm2 : m2 ≤ w.heap.size) (hl : (canon a).length ≤ 100000) (hle : b ≤ a) :
    Calls Try.prog 55 #[v, v2] w fun e w' => ∃ v', e = .returned v' ∧ WdR w' w'.heap.size v' (a - b) ∧ Below w.heap.size w w' := by
  obtain ⟨A, c, rfl, h1, h1', h3⟩ := h
  obtain ⟨A2, c2, rfl, k1, k1', k3⟩ := h2
  refine (minus_any A A2 (canon a) (canon b) c c2 w.heap.size w (Nat.le_refl _) (h3.more hm) (k3.more hm2) (canon_ok a) (canon_ok b) hl (canon_len_mono hle) (by rw [wval_canon, wval_canon]; exact hle)).mono ?_
  rintro e w' ⟨G, g, rfl, g1, g2, g3, hb⟩
  rw [wval_canon, wval_canon] at g2 g3 ⊢
  exact ⟨_, rfl, ⟨G, g, rfl, g1, g2, g3⟩, hb⟩
theorem lessB_canon (a b : Nat) : lessB (canon a) (canon b) = decide (a < b) := by
  unfold lessB
  by_cases h : (canon a).length = (canon b).length
  · rw [if_pos h, wval_canon, wval_canon]
  · rw [if_neg h]
    by_cases h2 : a < b
    · have := canon_len_mono (Nat.le_of_lt h2)
      rw [decide_eq_true h2, decide_eq_true (by omega)]
    · have := canon_len_mono (Nat.le_of_not_lt h2)
      rw [decide_eq_false h2, decide_eq_false (by omega)]
theorem less_w {v v2 : Value} {a b m m2 : Nat} {w : World} (h : WdR w m v a) (h2 : WdR w m2 v2 b) (hl : (canon a).length ≤ 100000) (hl2 : (canon b).length ≤ 100000) :
    Calls Try.prog 54 #[v, v2] w fun e w' => e = .returned (.bool (decide (a < b))) ∧ Below w.heap.size w w' := by
  obtain ⟨A, c, rfl, h1, h1', h3⟩ := h
  obtain ⟨A2, c2, rfl, k1, k1', k3⟩ := h2
  have := less_any A A2 (canon a) (canon b) c c2 (max m m2) w (h3.more (by omega)) (k3.more (by omega)) (canon_ok a) (canon_ok b) hl hl2
  rw [lessB_canon] at this
  exact this
theorem number_v {neg : Bool} {v : Value} {n d m : Nat} {w : World} (h : WdR w m v n) (hm : m ≤ w.heap.size) (hl : (canon n).length ≤ 100000) (hd : d ≤ 65536) :
    Calls Try.prog 48 #[.bool neg, v, .int .i64 (d : Int)] w fun e w' =>
      ∃ v', e = .returned v' ∧ DyR w' w.heap.size w'.heap.size v' (nf (sg neg n) d).1 (nf (sg neg n) d).2 ∧ Below w.heap.size w w' := by
  obtain ⟨A, c, rfl, h1, h1', h3⟩ := h
  exact number_w rfl h3 h1' hm hl hd

/-- The sum of x / 2^dx and y / 2^dy. -/
def dySum (x : Int) (dx : Nat) (y : Int) (dy : Nat) : Int × Nat := nf (x * 2 ^ (max dx dy - dx) + y * 2 ^ (max dx dy - dy)) (max dx dy)
theorem sg_mul (x : Int) (k : Nat) : sg (decide (x < 0)) (x.natAbs * 2 ^ k) = x * 2 ^ k := by
  have e : ((x.natAbs * 2 ^ k : Nat) : Int) = (x.natAbs : Int) * 2 ^ k := by simp
  unfold sg
  by_cases h : x < 0
  · have : (x.natAbs : Int) = -x := by omega
    rw [if_pos (by simpa using h), e, this, Int.neg_mul, Int.neg_neg]
  · have : (x.natAbs : Int) = x := by omega
    rw [if_neg (by simpa using h), e, this]
theorem ad_same (nb : Bool) (a b : Nat) : sg nb (a + b) = sg nb a + sg nb b := by
  unfold sg
  split <;> omega
theorem ad_less {nb nb2 : Bool} {a b : Nat} (hn : nb ≠ nb2) (h : a < b) : sg nb2 (b - a) = sg nb a + sg nb2 b := by
  unfold sg
  cases nb <;> cases nb2 <;> simp at hn ⊢ <;> omega
theorem ad_more {nb nb2 : Bool} {a b : Nat} (hn : nb ≠ nb2) (h : b ≤ a) : sg nb (a - b) = sg nb a + sg nb2 b := by
  unfold sg
  cases nb <;> cases nb2 <;> simp at hn ⊢ <;> omega
theorem res_Add {tmps : Array Value} {w : World} {b : Nat} {v0 v1 v2 : Value} (h2 : tmps.getD 4 undef = .pointer (some ⟨b, 0, none⟩)) (hB : RowD w b [v0, v1, v2] 75) :
    (results Try.f41 tmps).run Try.prog w = .ok (.agg #[v0, v1, v2]) w := by
  have k0 := hB.cell 0
  have k1 := hB.cell 1
  have k2 := hB.cell 2
  simp at k0 k1 k2
  simp at h2
  simp [results, Try.results41, go_sem, h2, k0, k1, k2]
set_option maxRecDepth 100000 in
set_option maxHeartbeats 4000000 in
theorem add_any {v v2 : Value} {x y : Int} {dx dy lo1 lo2 m m2 : Nat} {w : World} (D1 : DyR w lo1 m v x dx) (D2 : DyR w lo2 m2 v2 y dy) (hm : m ≤ w.heap.size) (hm2 : m2 ≤ w.heap.size) (l1 : (canon x.natAbs).length ≤ 50000) (l2 : (canon y.natAbs).length ≤ 50000) :
    Calls Try.prog 41 #[v, v2] w fun e w' => ∃ v', e = .returned v' ∧ DyR w' w.heap.size w'.heap.size v' (dySum x dx y dy).1 (dySum x dx y dy).2 ∧ Below w.heap.size w w' := by
  replace D2 := D2.more (Nat.le_max_right m m2)
  replace D1 := D1.more (Nat.le_max_left m m2)
  replace hm : max m m2 ≤ w.heap.size := by omega
  generalize max m m2 = m at D1 D2 hm
  obtain ⟨nb1, A1, L1, c1, rfl, HD1⟩ := D1.form
  obtain ⟨nb2, A2, L2, c2, rfl, HD2⟩ := D2.form
  have b0 : Below w.heap.size w (((w.alloc (.cells #[.bool nb1, .slice A1 L1 c1, .int .i64 (dx : Int)] 75)).alloc (.cells #[.bool nb2, .slice A2 L2 c2, .int .i64 (dy : Int)] 75)).alloc (.cells #[.bool false, .slice none 0 0, .int .i64 0] 75)) := ext_alloc (ext_alloc (ext_alloc (Below.refl _ _) _) _) _
  have D1' := D1.below b0 hm
  have D2' := D2.below b0 hm
  clear D1 D2
  have r2 := RowD.new_ ((w.alloc (.cells #[.bool nb1, .slice A1 L1 c1, .int .i64 (dx : Int)] 75)).alloc (.cells #[.bool nb2, .slice A2 L2 c2, .int .i64 (dy : Int)] 75)) [.bool false, .slice none 0 0, .int .i64 0] 75
  have r1 := (RowD.new_ (w.alloc (.cells #[.bool nb1, .slice A1 L1 c1, .int .i64 (dx : Int)] 75)) [.bool nb2, .slice A2 L2 c2, .int .i64 (dy : Int)] 75).call ((Below.refl _ _).alloc (Nat.le_refl _) (.cells #[.bool false, .slice none 0 0, .int .i64 0] 75))
  have r0 := ((RowD.new_ w [.bool nb1, .slice A1 L1 c1, .int .i64 (dx : Int)] 75).call ((Below.refl _ _).alloc (Nat.le_refl _) (.cells #[.bool nb2, .slice A2 L2 c2, .int .i64 (dy : Int)] 75))).call ((Below.refl _ _).alloc (Nat.le_refl _) (.cells #[.bool false, .slice none 0 0, .int .i64 0] 75))
  rw [show ((w.alloc (.cells #[.bool nb1, .slice A1 L1 c1, .int .i64 (dx : Int)] 75)).alloc (.cells #[.bool nb2, .slice A2 L2 c2, .int .i64 (dy : Int)] 75)).heap.size = w.heap.size + 2 by simp] at r2
  rw [show (w.alloc (.cells #[.bool nb1, .slice A1 L1 c1, .int .i64 (dx : Int)] 75)).heap.size = w.heap.size + 1 by simp] at r1
  go_enter Try.func41, Try.ntmps41
  go_wp2_with fail
  obtain ⟨W, hW⟩ : ∃ W, W = (((w.alloc (.cells #[.bool nb1, .slice A1 L1 c1, .int .i64 (dx : Int)] 75)).alloc (.cells #[.bool nb2, .slice A2 L2 c2, .int .i64 (dy : Int)] 75)).alloc (.cells #[.bool false, .slice none 0 0, .int .i64 0] 75)) := ⟨_, rfl⟩
  have hWs : W.heap.size = w.heap.size + 3 := by rw [hW]; simp
  rw [← hW]
  rw [← hW] at b0 D1' D2' r0 r1 r2
  clear hW
  have a0 : W.cell? ⟨w.heap.size, 0, none⟩ = some (.bool nb1) := r0.cell 0
  have a1 : W.cell? ⟨w.heap.size, 1, none⟩ = some (.slice A1 L1 c1) := r0.cell 1
  have a2 : W.cell? ⟨w.heap.size, 2, none⟩ = some (.int .i64 (dx : Int)) := r0.cell 2
  have e0 : W.cell? ⟨w.heap.size + 1, 0, none⟩ = some (.bool nb2) := r1.cell 0
  have e1 : W.cell? ⟨w.heap.size + 1, 1, none⟩ = some (.slice A2 L2 c2) := r1.cell 1
  have e2 : W.cell? ⟨w.heap.size + 1, 2, none⟩ = some (.int .i64 (dy : Int)) := r1.cell 2
  have hle : m ≤ w.heap.size + 3 := by omega
  have hle2 : m ≤ w.heap.size + 2 := by omega
  have hz : w.heap.size + 3 ≤ W.heap.size := by omega
  refine wp_region_qtail 4 (w.heap.size + 3) hz (by kernel_rfl) (by kernel_rfl) ?_
  intro _
  simp only [List.take_succ_cons, List.take_zero, List.drop_succ_cons, List.drop_zero]
  repeat (go_big_quiet_step ((first
    | (go_at_call 49; exact qext_call (norm_w (D1'.below (ExtW.is _) hle) (Nat.le_trans hle (ExtW.fits _)) (Nat.le_trans l1 (by omega))))
    | (go_at_call 49; exact qext_call (norm_w (D2'.below (ExtW.is _) hle) (Nat.le_trans hle (ExtW.fits _)) (Nat.le_trans l2 (by omega)))))))
  refine wpQuiet_nil ?_
  intro w2 hw'
  obtain ⟨⟨_, hb2, hz2⟩, rfl⟩ := hw'
  have s0 := r0.below hb2 (by omega)
  have s1 := r1.below hb2 (by omega)
  have s2 := r2.below hb2 (by omega)
  have b2 := b0.trans (hb2.mono (by omega))
  replace D1' := D1'.below hb2 hle
  replace D2' := D2'.below hb2 hle
  clear r0 r1 r2 b0 a0 a1 a2 e0 e1 e2 hWs hz hb2
  have a0 : w2.cell? ⟨w.heap.size, 0, none⟩ = some (.bool nb1) := s0.cell 0
  have a1 : w2.cell? ⟨w.heap.size, 1, none⟩ = some (.slice A1 L1 c1) := s0.cell 1
  have a2 : w2.cell? ⟨w.heap.size, 2, none⟩ = some (.int .i64 (dx : Int)) := s0.cell 2
  have e0 : w2.cell? ⟨w.heap.size + 1, 0, none⟩ = some (.bool nb2) := s1.cell 0
  have e1 : w2.cell? ⟨w.heap.size + 1, 1, none⟩ = some (.slice A2 L2 c2) := s1.cell 1
  have e2 : w2.cell? ⟨w.heap.size + 1, 2, none⟩ = some (.int .i64 (dy : Int)) := s1.cell 2
  have f0 := s0.free
  have f1 := s1.free
  have hd1 := HD1.out.2.2.2.2.2.1
  have hd2 := HD2.out.2.2.2.2.2.1
  obtain ⟨D, hD⟩ : ∃ D : Nat, D = max dx dy := ⟨_, rfl⟩
  have hDD : max (dx : Int) (dy : Int) = (D : Int) := by omega
  have hD6 : D ≤ 65536 := by omega
  obtain ⟨p, hp⟩ : ∃ p : Nat, p = D - dx := ⟨_, rfl⟩
  obtain ⟨q, hq⟩ : ∃ q : Nat, q = D - dy := ⟨_, rfl⟩
  have hpp : IntKind.i64.wrap ((D : Int) - (dx : Int)) = (p : Int) := by rw [IntKind.wrap_i64]; omega
  have hqq : IntKind.i64.wrap ((D : Int) - (dy : Int)) = (q : Int) := by rw [IntKind.wrap_i64]; omega
  have hp6 : p ≤ 65536 := by omega
  have hq6 : q ≤ 65536 := by omega
  have HV := Lib.hid (show dySum x dx y dy = nf (x * 2 ^ p + y * 2 ^ q) D by unfold dySum; rw [← hD, ← hp, ← hq])
  have hp6' : p ≤ 1000000 := by omega
  have hq6' : q ≤ 1000000 := by omega
  clear hD hp hq
  go_wp2_with fail
  obtain ⟨W, hW⟩ : ∃ W, W = (((((w2.setCell ⟨w.heap.size, 0, none⟩ (.bool nb1)).setCell ⟨w.heap.size, 1, none⟩ (.slice A1 L1 c1)).setCell ⟨w.heap.size, 2, none⟩ (.int .i64 (dx : Int))).setCell ⟨w.heap.size + 1, 0, none⟩ (.bool nb2)).setCell ⟨w.heap.size + 1, 1, none⟩ (.slice A2 L2 c2)).setCell ⟨w.heap.size + 1, 2, none⟩ (.int .i64 (dy : Int)) := ⟨_, rfl⟩
  rw [← hW]
  have t0 : RowD W w.heap.size [.bool nb1, .slice A1 L1 c1, .int .i64 (dx : Int)] 75 := by
    rw [hW]
    exact ((((((s0.set_ 0 _).set_ 1 _).set_ 2 _).other_ (by omega) _ _).other_ (by omega) _ _).other_ (by omega) _ _)
  have t1 : RowD W (w.heap.size + 1) [.bool nb2, .slice A2 L2 c2, .int .i64 (dy : Int)] 75 := by
    rw [hW]
    exact ((((((s1.other_ (by omega) _ _).other_ (by omega) _ _).other_ (by omega) _ _).set_ 0 _).set_ 1 _).set_ 2 _)
  have t2 : RowD W (w.heap.size + 2) [.bool false, .slice none 0 0, .int .i64 0] 75 := by
    rw [hW]
    exact ((((((s2.other_ (by omega) _ _).other_ (by omega) _ _).other_ (by omega) _ _).other_ (by omega) _ _).other_ (by omega) _ _).other_ (by omega) _ _)
  have b0 : Below w.heap.size w W := by
    rw [hW]
    exact (((((b2.setCell (by simp) _).setCell (by simp) _).setCell (by simp) _).setCell (by simp) _).setCell (by simp) _).setCell (by simp) _
  have hWs : w.heap.size + 3 ≤ W.heap.size := by rw [hW]; simpa using hz2
  have bW : Below w.heap.size w2 W := by
    rw [hW]
    exact ((((((Below.refl _ w2).setCell (by simp) _).setCell (by simp) _).setCell (by simp) _).setCell (by simp) _).setCell (by simp) _).setCell (by simp) _
  have X1 : WdR W m (.slice A1 L1 c1) x.natAbs := D1'.words.below bW hm
  have X2 : WdR W m (.slice A2 L2 c2) y.natAbs := D2'.words.below bW hm
  clear hW bW s0 s1 s2 b2 a0 a1 a2 e0 e1 e2 f0 f1 D1' D2'
  have a0 : W.cell? ⟨w.heap.size, 0, none⟩ = some (.bool nb1) := t0.cell 0
  have a1 : W.cell? ⟨w.heap.size, 1, none⟩ = some (.slice A1 L1 c1) := t0.cell 1
  have a2 : W.cell? ⟨w.heap.size, 2, none⟩ = some (.int .i64 (dx : Int)) := t0.cell 2
  have e0 : W.cell? ⟨w.heap.size + 1, 0, none⟩ = some (.bool nb2) := t1.cell 0
  have e1 : W.cell? ⟨w.heap.size + 1, 1, none⟩ = some (.slice A2 L2 c2) := t1.cell 1
  have e2 : W.cell? ⟨w.heap.size + 1, 2, none⟩ = some (.int .i64 (dy : Int)) := t1.cell 2
  have hk : SK W (w.heap.size + 2) (w.heap.size + 2) W := SK.refl (by omega) ⟨_, _, _, t2⟩
  go_cut [6, 7] (fun s6 s7 wx => ∃ A6 L6 c6 A7 L7 c7, s6 = .slice A6 L6 c6 ∧ s7 = .slice A7 L7 c7 ∧ WdR wx wx.heap.size (.slice A6 L6 c6) (x.natAbs * 2 ^ p) ∧ WdR wx wx.heap.size (.slice A7 L7 c7) (y.natAbs * 2 ^ q) ∧ SK W (w.heap.size + 2) (w.heap.size + 2) wx)
  case first =>
    go_region_held3 (fun w' => (∀ b o, b < w.heap.size + 2 → w'.cell? ⟨b, o, none⟩ = W.cell? ⟨b, o, none⟩) ∧ SK W (w.heap.size + 2) (w.heap.size + 2) w')
      (first
      | (refine SK.all ?_
         first
           | assumption
           | exact hk
           | exact hk.drew
           | exact ((SK.set (by assumption) (by omega) _ _).set (by omega) _ _).set (by omega) _ _))
      (first
        | (go_at_call_of 52 (Value.slice A1 L1 c1); refine (left_w (X1.below (SK.is (m := w.heap.size + 2) (r := w.heap.size + 2) (by first | exact hk | exact hk.drew | assumption)) hle2) ?_ ?_ hp6').mono ?_; exact (Nat.le_trans hle2 (SK.fits (m := w.heap.size + 2) (r := w.heap.size + 2) (by first | exact hk | exact hk.drew | assumption))); exact (by omega); (rintro e w5 ⟨v5, rfl, Y1, hb5⟩; have hk5 := SK.call (W := W) (m := w.heap.size + 2) (r := w.heap.size + 2) (by first | exact hk | exact hk.drew | assumption) hb5; obtain ⟨A5, L5, c5, rfl⟩ := Y1.form))
        | (go_at_call_of 52 (Value.slice A2 L2 c2); refine (left_w (X2.below (SK.is (m := w.heap.size + 2) (r := w.heap.size + 2) (by first | exact hk | exact hk.drew | assumption)) hle2) ?_ ?_ hq6').mono ?_; exact (Nat.le_trans hle2 (SK.fits (m := w.heap.size + 2) (r := w.heap.size + 2) (by first | exact hk | exact hk.drew | assumption))); exact (by omega); (rintro e w4 ⟨v4, rfl, Y2, hb4⟩; have hk4 := SK.call (W := W) (m := w.heap.size + 2) (r := w.heap.size + 2) (by first | exact hk | exact hk.drew | assumption) hb4; obtain ⟨A4, L4, c4, rfl⟩ := Y2.form)))
    all_goals (go_wp2_with fail; go_meet; exact ⟨A5, L5, c5, A4, L4, c4, rfl, rfl, (Y1.below hb4 (Nat.le_refl _)).more hb4.size, Y2, hk4⟩)
  case rest =>
    obtain ⟨A6, L6, c6, A7, L7, c7, rfl, rfl, Y1, Y2, hkx⟩ := hcut
    have g0 : wc.cell? ⟨w.heap.size, 0, none⟩ = some (.bool nb1) := (hkx.all.1 _ _ (by omega)).trans a0
    have g1 : wc.cell? ⟨w.heap.size + 1, 0, none⟩ = some (.bool nb2) := (hkx.all.1 _ _ (by omega)).trans e0
    obtain ⟨a, ha⟩ : ∃ a, a = x.natAbs * 2 ^ p := ⟨_, rfl⟩
    obtain ⟨b, hb⟩ : ∃ b, b = y.natAbs * 2 ^ q := ⟨_, rfl⟩
    have hx := sg_mul x p
    have hy := sg_mul y q
    rw [← HD1.out.1, ← ha] at hx
    rw [← HD2.out.1, ← hb] at hy
    have hla : (canon a).length ≤ 60000 := by
      have := canon_len_shift x.natAbs p
      rw [← ha] at this
      omega
    have hlb : (canon b).length ≤ 60000 := by
      have := canon_len_shift y.natAbs q
      rw [← hb] at this
      omega
    rw [← ha] at Y1
    rw [← hb] at Y2
    have HX := Lib.hid hx
    have HY := Lib.hid hy
    clear ha hb hx hy X1 X2 hle hle2
    by_cases hn : nb1 = nb2
    · as_aux_lemma =>
      subst hn
      have hlen : (canon (a + b)).length ≤ 100000 := by have := canon_len_add a b; omega
      have hval : nf (sg nb1 (a + b)) D = dySum x dx y dy := by rw [ad_same, HX.out, HY.out, HV.out]
      have HVAL := Lib.hid hval
      clear hval
      go_wp2_with fail
      obtain ⟨wv, hwv⟩ : ∃ wv, wv = wc := ⟨_, rfl⟩
      rw [← hwv]
      rw [← hwv] at Y1 Y2 hkx g0 g1
      have hkv := hkx
      clear hwv hkx
      go_region_held3 (fun w' => (∀ b o, b < w.heap.size + 2 → w'.cell? ⟨b, o, none⟩ = W.cell? ⟨b, o, none⟩) ∧ SK W (w.heap.size + 2) (w.heap.size + 2) w')
        (first
          | (refine SK.all ?_
             first
               | assumption
               | exact hkv
               | exact hkv.drew
               | exact ((SK.set (by assumption) (by omega) _ _).set (by omega) _ _).set (by omega) _ _))
        (first
          | (go_at_call 53; refine (plus_w (Y1.below (Below.refl _ wv).drew (Nat.le_refl _)) (Y2.below (Below.refl _ wv).drew (Nat.le_refl _)) (Nat.le_refl _) (Nat.le_refl _) (by omega) (by omega)).mono ?_; (rintro e w5 ⟨v5, rfl, D5, hb5⟩; have hk5 := SK.call (W := W) (m := w.heap.size + 2) (r := w.heap.size + 2) (by first | exact hkv.drew | assumption) hb5; have hf5 := hk5.lt; obtain ⟨A5, L5, c5, rfl⟩ := D5.form))
          | (go_at_call 48; refine (number_v D5 (Nat.le_refl _) hlen hD6).mono ?_; (rintro e w6 ⟨v6, rfl, D6, hb6⟩; have hk6 := SK.call hk5 hb6; have hf6 := hk6.lt; rw [HVAL.out] at D6; obtain ⟨nb6, A9, L9, c9, rfl, _⟩ := D6.form; obtain ⟨z0, z1, z2, rz, k0, k1, k2, kf⟩ := SK.cells hk6)))
      go_wp2_with fail
      refine bodyPost_ret (res_Add rfl (((rz.set_ 0 _).set_ 1 _).set_ 2 _)) rfl ⟨_, rfl, ?_, (((b0.trans (hk6.is.mono (by omega))).setCell (by simp; omega) _).setCell (by simp; omega) _).setCell (by simp; omega) _⟩
      exact ((((D6.set_ (by omega) 0 _).set_ (by omega) 1 _).set_ (by omega) 2 _).low (by omega)).more (by simp)
    · have hne : (nb1 == nb2) = false := by simpa using hn
      have HN := Lib.hid hn
      clear hn
      go_wp2_with fail
      go_at_call 54
      refine (less_w Y1 Y2 (by omega) (by omega)).mono ?_
      rintro e w4 ⟨rfl, hb4⟩
      have hkv := hkx.call hb4
      have g0' : w4.cell? ⟨w.heap.size, 0, none⟩ = some (.bool nb1) := (hkv.all.1 _ _ (by omega)).trans a0
      have g1' : w4.cell? ⟨w.heap.size + 1, 0, none⟩ = some (.bool nb2) := (hkv.all.1 _ _ (by omega)).trans e0
      replace Y1 := (Y1.below hb4 (Nat.le_refl _)).more hb4.size
      replace Y2 := (Y2.below hb4 (Nat.le_refl _)).more hb4.size
      clear hkx hb4 g0 g1
      obtain ⟨wv, hwv⟩ : ∃ wv, wv = w4 := ⟨_, rfl⟩
      rw [← hwv]
      rw [← hwv] at Y1 Y2 hkv g0' g1'
      clear hwv
      by_cases hlt : a < b
      · as_aux_lemma =>
        have hlen : (canon (b - a)).length ≤ 100000 := Nat.le_trans (canon_len_mono (Nat.sub_le _ _)) (by omega)
        have hval : nf (sg nb2 (b - a)) D = dySum x dx y dy := by rw [ad_less HN.out hlt, HX.out, HY.out, HV.out]
        have HVAL := Lib.hid hval
        rw [decide_eq_true hlt]
        have hle : a ≤ b := by omega
        clear hval hlt
        go_wp2_with fail
        go_region_held3 (fun w' => (∀ b o, b < w.heap.size + 2 → w'.cell? ⟨b, o, none⟩ = W.cell? ⟨b, o, none⟩) ∧ SK W (w.heap.size + 2) (w.heap.size + 2) w')
          (first
            | (refine SK.all ?_
               first
                 | assumption
                 | exact hkv
                 | exact hkv.drew
                 | exact ((SK.set (by assumption) (by omega) _ _).set (by omega) _ _).set (by omega) _ _))
          (first
            | (go_at_call 55; refine (minus_w (Y2.below (Below.refl _ wv).drew (Nat.le_refl _)) (Y1.below (Below.refl _ wv).drew (Nat.le_refl _)) (Nat.le_refl _) (Nat.le_refl _) (by omega) hle).mono ?_; (rintro e w5 ⟨v5, rfl, D5, hb5⟩; have hk5 := SK.call (W := W) (m := w.heap.size + 2) (r := w.heap.size + 2) (by first | exact hkv.drew | assumption) hb5; have hf5 := hk5.lt; obtain ⟨A5, L5, c5, rfl⟩ := D5.form))
            | (go_at_call 48; refine (number_v D5 (Nat.le_refl _) hlen hD6).mono ?_; (rintro e w6 ⟨v6, rfl, D6, hb6⟩; have hk6 := SK.call hk5 hb6; have hf6 := hk6.lt; rw [HVAL.out] at D6; obtain ⟨nb6, A9, L9, c9, rfl, _⟩ := D6.form; obtain ⟨z0, z1, z2, rz, k0, k1, k2, kf⟩ := SK.cells hk6)))
        go_wp2_with fail
        refine bodyPost_ret (res_Add rfl (((rz.set_ 0 _).set_ 1 _).set_ 2 _)) rfl ⟨_, rfl, ?_, (((b0.trans (hk6.is.mono (by omega))).setCell (by simp; omega) _).setCell (by simp; omega) _).setCell (by simp; omega) _⟩
        exact ((((D6.set_ (by omega) 0 _).set_ (by omega) 1 _).set_ (by omega) 2 _).low (by omega)).more (by simp)
      · as_aux_lemma =>
        have hlen : (canon (a - b)).length ≤ 100000 := Nat.le_trans (canon_len_mono (Nat.sub_le _ _)) (by omega)
        have hval : nf (sg nb1 (a - b)) D = dySum x dx y dy := by rw [ad_more HN.out (by omega), HX.out, HY.out, HV.out]
        have HVAL := Lib.hid hval
        rw [decide_eq_false hlt]
        have hle : b ≤ a := by omega
        clear hval hlt
        go_wp2_with fail
        go_region_held3 (fun w' => (∀ b o, b < w.heap.size + 2 → w'.cell? ⟨b, o, none⟩ = W.cell? ⟨b, o, none⟩) ∧ SK W (w.heap.size + 2) (w.heap.size + 2) w')
          (first
            | (refine SK.all ?_
               first
                 | assumption
                 | exact hkv
                 | exact hkv.drew
                 | exact ((SK.set (by assumption) (by omega) _ _).set (by omega) _ _).set (by omega) _ _))
          (first
            | (go_at_call 55; refine (minus_w (Y1.below (Below.refl _ wv).drew (Nat.le_refl _)) (Y2.below (Below.refl _ wv).drew (Nat.le_refl _)) (Nat.le_refl _) (Nat.le_refl _) (by omega) hle).mono ?_; (rintro e w5 ⟨v5, rfl, D5, hb5⟩; have hk5 := SK.call (W := W) (m := w.heap.size + 2) (r := w.heap.size + 2) (by first | exact hkv.drew | assumption) hb5; have hf5 := hk5.lt; obtain ⟨A5, L5, c5, rfl⟩ := D5.form))
            | (go_at_call 48; refine (number_v D5 (Nat.le_refl _) hlen hD6).mono ?_; (rintro e w6 ⟨v6, rfl, D6, hb6⟩; have hk6 := SK.call hk5 hb6; have hf6 := hk6.lt; rw [HVAL.out] at D6; obtain ⟨nb6, A9, L9, c9, rfl, _⟩ := D6.form; obtain ⟨z0, z1, z2, rz, k0, k1, k2, kf⟩ := SK.cells hk6)))
        go_wp2_with fail
        refine bodyPost_ret (res_Add rfl (((rz.set_ 0 _).set_ 1 _).set_ 2 _)) rfl ⟨_, rfl, ?_, (((b0.trans (hk6.is.mono (by omega))).setCell (by simp; omega) _).setCell (by simp; omega) _).setCell (by simp; omega) _⟩
        exact ((((D6.set_ (by omega) 0 _).set_ (by omega) 1 _).set_ (by omega) 2 _).low (by omega)).more (by simp)
end Go.Proofs.Ytdhlmbnmgioeeaa

/- The document's dyadic numbers: Sub. No conditions. -/
namespace Go.Proofs.Ytdhlmbnmgioeeaa
set_option linter.unusedVariables false
set_option linter.unusedSimpArgs false
set_option linter.unusedSectionVars false
open Go.RowKit

theorem res_Sub {tmps : Array Value} {w : World} {b : Nat} {v0 v1 v2 : Value} (h2 : tmps.getD 4 undef = .pointer (some ⟨b, 0, none⟩)) (hB : RowD w b [v0, v1, v2] 75) :
    (results Try.f42 tmps).run Try.prog w = .ok (.agg #[v0, v1, v2]) w := by
  have k0 := hB.cell 0
  have k1 := hB.cell 1
  have k2 := hB.cell 2
  simp at k0 k1 k2
  simp at h2
  simp [results, Try.results42, go_sem, h2, k0, k1, k2]
set_option maxRecDepth 100000 in
set_option maxHeartbeats 4000000 in
theorem sub_any {v v2 : Value} {x y : Int} {dx dy lo1 lo2 m : Nat} {w : World} (D1 : DyR w lo1 m v x dx) (D2 : DyR w lo2 m v2 y dy) (hm : m ≤ w.heap.size) (l1 : (canon x.natAbs).length ≤ 50000) (l2 : (canon y.natAbs).length ≤ 50000) :
    Calls Try.prog 42 #[v, v2] w fun e w' => ∃ v', e = .returned v' ∧ DyR w' w.heap.size w'.heap.size v' (dySum x dx (-y) dy).1 (dySum x dx (-y) dy).2 ∧ Below w.heap.size w w' := by
  obtain ⟨nb1, A1, L1, c1, rfl, HD1⟩ := D1.form
  obtain ⟨nb2, A2, L2, c2, rfl, HD2⟩ := D2.form
  have b0 : Below w.heap.size w (((w.alloc (.cells #[.bool nb1, .slice A1 L1 c1, .int .i64 (dx : Int)] 75)).alloc (.cells #[.bool nb2, .slice A2 L2 c2, .int .i64 (dy : Int)] 75)).alloc (.cells #[.bool false, .slice none 0 0, .int .i64 0] 75)) := ext_alloc (ext_alloc (ext_alloc (Below.refl _ _) _) _) _
  have D1' := D1.below b0 hm
  have D2' := D2.below b0 hm
  clear D1 D2
  have r2 := RowD.new_ ((w.alloc (.cells #[.bool nb1, .slice A1 L1 c1, .int .i64 (dx : Int)] 75)).alloc (.cells #[.bool nb2, .slice A2 L2 c2, .int .i64 (dy : Int)] 75)) [.bool false, .slice none 0 0, .int .i64 0] 75
  have r1 := (RowD.new_ (w.alloc (.cells #[.bool nb1, .slice A1 L1 c1, .int .i64 (dx : Int)] 75)) [.bool nb2, .slice A2 L2 c2, .int .i64 (dy : Int)] 75).call ((Below.refl _ _).alloc (Nat.le_refl _) (.cells #[.bool false, .slice none 0 0, .int .i64 0] 75))
  have r0 := ((RowD.new_ w [.bool nb1, .slice A1 L1 c1, .int .i64 (dx : Int)] 75).call ((Below.refl _ _).alloc (Nat.le_refl _) (.cells #[.bool nb2, .slice A2 L2 c2, .int .i64 (dy : Int)] 75))).call ((Below.refl _ _).alloc (Nat.le_refl _) (.cells #[.bool false, .slice none 0 0, .int .i64 0] 75))
  rw [show ((w.alloc (.cells #[.bool nb1, .slice A1 L1 c1, .int .i64 (dx : Int)] 75)).alloc (.cells #[.bool nb2, .slice A2 L2 c2, .int .i64 (dy : Int)] 75)).heap.size = w.heap.size + 2 by simp] at r2
  rw [show (w.alloc (.cells #[.bool nb1, .slice A1 L1 c1, .int .i64 (dx : Int)] 75)).heap.size = w.heap.size + 1 by simp] at r1
  go_enter Try.func42, Try.ntmps42
  go_wp2_with fail
  obtain ⟨W, hW⟩ : ∃ W, W = (((w.alloc (.cells #[.bool nb1, .slice A1 L1 c1, .int .i64 (dx : Int)] 75)).alloc (.cells #[.bool nb2, .slice A2 L2 c2, .int .i64 (dy : Int)] 75)).alloc (.cells #[.bool false, .slice none 0 0, .int .i64 0] 75)) := ⟨_, rfl⟩
  have hWs : W.heap.size = w.heap.size + 3 := by rw [hW]; simp
  rw [← hW]
  rw [← hW] at b0 D1' D2' r0 r1 r2
  clear hW
  have a0 : W.cell? ⟨w.heap.size, 0, none⟩ = some (.bool nb1) := r0.cell 0
  have a1 : W.cell? ⟨w.heap.size, 1, none⟩ = some (.slice A1 L1 c1) := r0.cell 1
  have a2 : W.cell? ⟨w.heap.size, 2, none⟩ = some (.int .i64 (dx : Int)) := r0.cell 2
  have e0 : W.cell? ⟨w.heap.size + 1, 0, none⟩ = some (.bool nb2) := r1.cell 0
  have e1 : W.cell? ⟨w.heap.size + 1, 1, none⟩ = some (.slice A2 L2 c2) := r1.cell 1
  have e2 : W.cell? ⟨w.heap.size + 1, 2, none⟩ = some (.int .i64 (dy : Int)) := r1.cell 2
  have hk : SK W (w.heap.size + 2) (w.heap.size + 2) W := SK.refl (by omega) ⟨_, _, _, r2⟩
  have hle : m ≤ w.heap.size + 2 := by omega
  go_region_held3 (fun w' => (∀ b o, b < w.heap.size + 2 → w'.cell? ⟨b, o, none⟩ = W.cell? ⟨b, o, none⟩) ∧ SK W (w.heap.size + 2) (w.heap.size + 2) w')
    (first
      | (refine SK.all ?_
         first
           | assumption
           | exact hk
           | exact hk.drew
           | exact ((SK.set (by assumption) (by omega) _ _).set (by omega) _ _).set (by omega) _ _))
    (first
      | (go_at_call 39; refine (neg_w (D2'.below (SK.is (m := w.heap.size + 2) (r := w.heap.size + 2) (by first | exact hk.drew | assumption)) hle) ?_ ?_).mono ?_; (simp; omega); exact (by omega); (rintro e w5 ⟨v5, rfl, D5, hb5⟩; have hk5 := SK.call (W := W) (m := w.heap.size + 2) (r := w.heap.size + 2) (by first | exact hk.drew | assumption) hb5; have hf5 := hk5.lt; obtain ⟨nb5, A5, L5, c5, rfl, _⟩ := D5.form))
      | (go_at_call 41; refine (add_any (D1'.below (SK.is (m := w.heap.size + 2) (r := w.heap.size + 2) hk5) hle) D5 ?_ ?_ ?_ ?_).mono ?_; exact (by omega); exact (Nat.le_refl _); exact l1; (rw [Int.natAbs_neg]; exact l2); (rintro e w6 ⟨v6, rfl, D6, hb6⟩; have hk6 := SK.call hk5 hb6; have hf6 := hk6.lt; have hlo := hf5; obtain ⟨nb6, A6, L6, c6, rfl, _⟩ := D6.form; obtain ⟨z0, z1, z2, rz, k0, k1, k2, kf⟩ := SK.cells hk6)))
  go_wp2_with fail
  refine bodyPost_ret (res_Sub rfl (((rz.set_ 0 _).set_ 1 _).set_ 2 _)) rfl ⟨_, rfl, ?_, (((b0.trans (hk6.is.mono (by omega))).setCell (by simp; omega) _).setCell (by simp; omega) _).setCell (by simp; omega) _⟩
  exact ((((D6.set_ (by omega) 0 _).set_ (by omega) 1 _).set_ (by omega) 2 _).low (by omega)).more (by simp)
end Go.Proofs.Ytdhlmbnmgioeeaa

/- The document's dyadic numbers: Cmp, Min, Max. No conditions. -/
namespace Go.Proofs.Ytdhlmbnmgioeeaa
set_option linter.unusedVariables false
set_option linter.unusedSimpArgs false
set_option linter.unusedSectionVars false
open Go.RowKit

theorem abs_mul_pow (x : Int) (k : Nat) : (x * 2 ^ k).natAbs = x.natAbs * 2 ^ k := by
  rw [Int.natAbs_mul, Int.natAbs_pow]
  rfl
theorem dySum_len {x y : Int} {dx dy : Nat} (l1 : (canon x.natAbs).length ≤ 50000) (l2 : (canon y.natAbs).length ≤ 50000) (h1 : dx ≤ 65536) (h2 : dy ≤ 65536) : (canon (dySum x dx y dy).1.natAbs).length ≤ 100000 := by
  unfold dySum
  refine Nat.le_trans (canon_len_mono (nf_abs_le _ _)) ?_
  refine Nat.le_trans (canon_len_mono (Int.natAbs_add_le _ _)) ?_
  rw [abs_mul_pow, abs_mul_pow]
  have e1 := canon_len_shift x.natAbs (max dx dy - dx)
  have e2 := canon_len_shift y.natAbs (max dx dy - dy)
  have e3 := canon_len_add (x.natAbs * 2 ^ (max dx dy - dx)) (y.natAbs * 2 ^ (max dx dy - dy))
  omega
theorem dySum_zero {x : Int} {dx : Nat} (h : dx ≠ 0 → x % 2 = 1) : dySum x dx 0 0 = (x, dx) := by
  unfold dySum
  rw [show max dx 0 = dx by omega]
  simp
  exact nf_done h
/-- The comparison of x / 2^dx and y / 2^dy. -/
def dyCmp (x : Int) (dx : Nat) (y : Int) (dy : Nat) : Int := sgI (dySum x dx (-y) dy).1
def dyMin (x : Int) (dx : Nat) (y : Int) (dy : Nat) : Int × Nat := if 0 < dyCmp x dx y dy then (y, dy) else (x, dx)
def dyMax (x : Int) (dx : Nat) (y : Int) (dy : Nat) : Int × Nat := if dyCmp x dx y dy < 0 then (y, dy) else (x, dx)
theorem dyCmp_int (x y : Int) : dyCmp x 0 y 0 = sgI (x - y) := by
  show sgI (x * 2 ^ 0 + -y * 2 ^ 0) = sgI (x - y)
  congr 1
  simp
  omega
theorem DyR.bound {w : World} {lo hi d : Nat} {v : Value} {x : Int} (h : DyR w lo hi v x d) : d ≤ 65536 ∧ (d ≠ 0 → x % 2 = 1) := by
  obtain ⟨A, c, e, h1, h2, h3, h4, h5, h6⟩ := h
  exact ⟨h5, h6⟩
set_option maxRecDepth 100000 in
set_option maxHeartbeats 4000000 in
theorem cmp_any {v v2 : Value} {x y : Int} {dx dy lo1 lo2 m : Nat} {w : World} (D1 : DyR w lo1 m v x dx) (D2 : DyR w lo2 m v2 y dy) (hm : m ≤ w.heap.size) (l1 : (canon x.natAbs).length ≤ 50000) (l2 : (canon y.natAbs).length ≤ 50000) :
    Calls Try.prog 35 #[v, v2] w fun e w' => e = .returned (.int .i64 (dyCmp x dx y dy)) ∧ Below w.heap.size w w' := by
  have hlen : (canon (dySum x dx (-y) dy).1.natAbs).length ≤ 100000 := dySum_len l1 (by rw [Int.natAbs_neg]; exact l2) D1.bound.1 D2.bound.1
  obtain ⟨nb1, A1, L1, c1, rfl, HD1⟩ := D1.form
  obtain ⟨nb2, A2, L2, c2, rfl, HD2⟩ := D2.form
  have b0 : Below w.heap.size w ((w.alloc (.cells #[.bool nb1, .slice A1 L1 c1, .int .i64 (dx : Int)] 75)).alloc (.cells #[.bool nb2, .slice A2 L2 c2, .int .i64 (dy : Int)] 75)) := ext_alloc (ext_alloc (Below.refl _ _) _) _
  have D1' := Lib.hid (D1.below b0 hm)
  have D2' := Lib.hid (D2.below b0 hm)
  clear D1 D2
  go_enter Try.func35, Try.ntmps35
  go_wp2_with fail
  go_at_call 42
  refine (sub_any D1'.out D2'.out (by simp; omega) l1 l2).mono ?_
  rintro e w5 ⟨v5, rfl, D5, hb5⟩
  have D5' := Lib.hid D5
  obtain ⟨nb5, A5, L5, c5, rfl, _⟩ := D5.form
  have b5 := b0.trans (hb5.mono (by simp; omega))
  clear D5 hb5
  go_wp2_with fail
  go_at_call 47
  refine (sign_w D5'.out (Nat.le_refl _) hlen).mono ?_
  rintro e w6 ⟨rfl, hb6⟩
  have b6 := b5.trans (hb6.mono (by have := b5.size; omega))
  go_wp2_with fail
  go_ret
  exact ⟨rfl, b6⟩
theorem res_Min {tmps : Array Value} {w : World} {b : Nat} {v0 v1 v2 : Value} (h2 : tmps.getD 4 undef = .pointer (some ⟨b, 0, none⟩)) (hB : RowD w b [v0, v1, v2] 75) :
    (results Try.f43 tmps).run Try.prog w = .ok (.agg #[v0, v1, v2]) w := by
  have k0 := hB.cell 0
  have k1 := hB.cell 1
  have k2 := hB.cell 2
  simp at k0 k1 k2
  simp at h2
  simp [results, Try.results43, go_sem, h2, k0, k1, k2]
set_option maxRecDepth 100000 in
set_option maxHeartbeats 4000000 in
theorem min_any {v v2 : Value} {x y : Int} {dx dy lo1 lo2 m : Nat} {w : World} (D1 : DyR w lo1 m v x dx) (D2 : DyR w lo2 m v2 y dy) (hm : m ≤ w.heap.size) (l1 : (canon x.natAbs).length ≤ 50000) (l2 : (canon y.natAbs).length ≤ 50000) :
    Calls Try.prog 43 #[v, v2] w fun e w' => ∃ v', e = .returned v' ∧ DyR w' w.heap.size w'.heap.size v' (dyMin x dx y dy).1 (dyMin x dx y dy).2 ∧ Below w.heap.size w w' := by
  have HB1 := D1.bound
  have HB2 := D2.bound
  obtain ⟨nb1, A1, L1, c1, rfl, HD1⟩ := D1.form
  obtain ⟨nb2, A2, L2, c2, rfl, HD2⟩ := D2.form
  have b0 : Below w.heap.size w (((w.alloc (.cells #[.bool nb1, .slice A1 L1 c1, .int .i64 (dx : Int)] 75)).alloc (.cells #[.bool nb2, .slice A2 L2 c2, .int .i64 (dy : Int)] 75)).alloc (.cells #[.bool false, .slice none 0 0, .int .i64 0] 75)) := ext_alloc (ext_alloc (ext_alloc (Below.refl _ _) _) _) _
  have D1' := D1.below b0 hm
  have D2' := D2.below b0 hm
  clear D1 D2
  have r2 := RowD.new_ ((w.alloc (.cells #[.bool nb1, .slice A1 L1 c1, .int .i64 (dx : Int)] 75)).alloc (.cells #[.bool nb2, .slice A2 L2 c2, .int .i64 (dy : Int)] 75)) [.bool false, .slice none 0 0, .int .i64 0] 75
  have r1 := (RowD.new_ (w.alloc (.cells #[.bool nb1, .slice A1 L1 c1, .int .i64 (dx : Int)] 75)) [.bool nb2, .slice A2 L2 c2, .int .i64 (dy : Int)] 75).call ((Below.refl _ _).alloc (Nat.le_refl _) (.cells #[.bool false, .slice none 0 0, .int .i64 0] 75))
  have r0 := ((RowD.new_ w [.bool nb1, .slice A1 L1 c1, .int .i64 (dx : Int)] 75).call ((Below.refl _ _).alloc (Nat.le_refl _) (.cells #[.bool nb2, .slice A2 L2 c2, .int .i64 (dy : Int)] 75))).call ((Below.refl _ _).alloc (Nat.le_refl _) (.cells #[.bool false, .slice none 0 0, .int .i64 0] 75))
  rw [show ((w.alloc (.cells #[.bool nb1, .slice A1 L1 c1, .int .i64 (dx : Int)] 75)).alloc (.cells #[.bool nb2, .slice A2 L2 c2, .int .i64 (dy : Int)] 75)).heap.size = w.heap.size + 2 by simp] at r2
  rw [show (w.alloc (.cells #[.bool nb1, .slice A1 L1 c1, .int .i64 (dx : Int)] 75)).heap.size = w.heap.size + 1 by simp] at r1
  go_enter Try.func43, Try.ntmps43
  go_wp2_with fail
  obtain ⟨W, hW⟩ : ∃ W, W = (((w.alloc (.cells #[.bool nb1, .slice A1 L1 c1, .int .i64 (dx : Int)] 75)).alloc (.cells #[.bool nb2, .slice A2 L2 c2, .int .i64 (dy : Int)] 75)).alloc (.cells #[.bool false, .slice none 0 0, .int .i64 0] 75)) := ⟨_, rfl⟩
  have hWs : W.heap.size = w.heap.size + 3 := by rw [hW]; simp
  rw [← hW]
  rw [← hW] at b0 D1' D2' r0 r1 r2
  clear hW
  have a0 : W.cell? ⟨w.heap.size, 0, none⟩ = some (.bool nb1) := r0.cell 0
  have a1 : W.cell? ⟨w.heap.size, 1, none⟩ = some (.slice A1 L1 c1) := r0.cell 1
  have a2 : W.cell? ⟨w.heap.size, 2, none⟩ = some (.int .i64 (dx : Int)) := r0.cell 2
  have e0 : W.cell? ⟨w.heap.size + 1, 0, none⟩ = some (.bool nb2) := r1.cell 0
  have e1 : W.cell? ⟨w.heap.size + 1, 1, none⟩ = some (.slice A2 L2 c2) := r1.cell 1
  have e2 : W.cell? ⟨w.heap.size + 1, 2, none⟩ = some (.int .i64 (dy : Int)) := r1.cell 2
  go_at_call 35
  refine (cmp_any D1' D2' (by omega) l1 l2).mono ?_
  rintro e w2 ⟨rfl, hb2⟩
  have s0 := r0.call hb2
  have s1 := r1.call hb2
  have s2 := r2.call hb2
  have b2 := b0.trans (hb2.mono (by omega))
  replace D1' := D1'.below hb2 (by omega)
  replace D2' := D2'.below hb2 (by omega)
  have hz2 : w.heap.size + 3 ≤ w2.heap.size := by have := hb2.size; omega
  clear r0 r1 r2 b0 a0 a1 a2 e0 e1 e2 hWs hb2
  have a0 : w2.cell? ⟨w.heap.size, 0, none⟩ = some (.bool nb1) := s0.cell 0
  have a1 : w2.cell? ⟨w.heap.size, 1, none⟩ = some (.slice A1 L1 c1) := s0.cell 1
  have a2 : w2.cell? ⟨w.heap.size, 2, none⟩ = some (.int .i64 (dx : Int)) := s0.cell 2
  have e0 : w2.cell? ⟨w.heap.size + 1, 0, none⟩ = some (.bool nb2) := s1.cell 0
  have e1 : w2.cell? ⟨w.heap.size + 1, 1, none⟩ = some (.slice A2 L2 c2) := s1.cell 1
  have e2 : w2.cell? ⟨w.heap.size + 1, 2, none⟩ = some (.int .i64 (dy : Int)) := s1.cell 2
  have f0 := s0.free
  by_cases hc : 0 < dyCmp x dx y dy
  · as_aux_lemma =>
    have HC := Lib.hid hc
    have hodd := HB2.2
    obtain ⟨cv, hcv⟩ : ∃ cv, cv = dyCmp x dx y dy := ⟨_, rfl⟩
    rw [← hcv] at hc
    rw [← hcv]
    have hcb : decide (0 < cv) = true := decide_eq_true hc
    clear hcv HB1 HB2
    go_wp2_with fail
    go_at_call 41
    obtain ⟨W, hW⟩ : ∃ W, W = ((w2.setCell ⟨w.heap.size, 0, none⟩ (.bool nb2)).setCell ⟨w.heap.size, 1, none⟩ (.slice A2 L2 c2)).setCell ⟨w.heap.size, 2, none⟩ (.int .i64 (dy : Int)) := ⟨_, rfl⟩
    have rz : RowD W (w.heap.size + 2) [.bool false, .slice none 0 0, .int .i64 0] 75 := by
      rw [hW]
      exact ((s2.other_ (by omega) _ _).other_ (by omega) _ _).other_ (by omega) _ _
    have bW : Below w.heap.size w W := by
      rw [hW]
      exact ((b2.setCell (by simp) _).setCell (by simp) _).setCell (by simp) _
    have bX : Below w.heap.size w2 W := by
      rw [hW]
      exact (((Below.refl _ w2).setCell (by simp) _).setCell (by simp) _).setCell (by simp) _
    have hWs : w.heap.size + 3 ≤ W.heap.size := by rw [hW]; simpa using hz2
    rw [← hW]
    clear hW s0 s1 s2 a0 a1 a2 e0 e1 e2 f0 b2
    have D0 : DyR W 0 0 (.agg #[.bool false, .slice none 0 0, .int .i64 0]) 0 0 := DyR.zero_ _ _ _
    have hk : SK W (w.heap.size + 2) (w.heap.size + 2) W := SK.refl (by omega) ⟨_, _, _, rz⟩
    refine (add_any (D2'.below bX hm) D0 (by omega) (by omega) l2 (by simp [canon_zero])).mono ?_
    rintro e w6 ⟨v6, rfl, D6, hb6⟩
    have hk6 := SK.call hk hb6
    rw [dySum_zero hodd] at D6
    have D6' := Lib.hid D6
    obtain ⟨nb6, A6, L6, c6, rfl, _⟩ := D6.form
    have hf6 := hk6.lt
    obtain ⟨z0, z1, z2, rw6, k0, k1, k2, kf⟩ := SK.cells hk6
    have b6 := bW.trans (hb6.mono (by omega))
    clear D6 hb6 hk6 hk rz bW
    go_wp2_with fail
    refine bodyPost_ret (res_Min rfl (((rw6.set_ 0 _).set_ 1 _).set_ 2 _)) rfl ⟨_, rfl, ?_, ((b6.setCell (by simp; omega) _).setCell (by simp; omega) _).setCell (by simp; omega) _⟩
    have HE := ((((D6'.out.set_ (b := w.heap.size + 2) (by omega) 0 (.bool nb6)).set_ (b := w.heap.size + 2) (by omega) 1 (.slice A6 L6 c6)).set_ (b := w.heap.size + 2) (by omega) 2 (.int .i64 (dy : Int))).low (show w.heap.size ≤ W.heap.size by omega))
    have hv : dyMin x dx y dy = (y, dy) := by
      unfold dyMin
      exact if_pos (by have := HC.out; omega)
    rw [hv]
    exact HE.more (by simp)
  · as_aux_lemma =>
    have HC := Lib.hid hc
    have hodd := HB1.2
    obtain ⟨cv, hcv⟩ : ∃ cv, cv = dyCmp x dx y dy := ⟨_, rfl⟩
    rw [← hcv] at hc
    rw [← hcv]
    have hcb : decide (0 < cv) = false := decide_eq_false hc
    clear hcv HB1 HB2
    go_wp2_with fail
    go_at_call 41
    obtain ⟨W, hW⟩ : ∃ W, W = w2 := ⟨_, rfl⟩
    have rz := s2
    have bW := b2
    have hWs := hz2
    rw [← hW]
    rw [← hW] at rz bW hWs D1' D2'
    clear hW s0 s1 s2 a0 a1 a2 e0 e1 e2 f0 b2
    have D0 : DyR W 0 0 (.agg #[.bool false, .slice none 0 0, .int .i64 0]) 0 0 := DyR.zero_ _ _ _
    have hk : SK W (w.heap.size + 2) (w.heap.size + 2) W := SK.refl (by omega) ⟨_, _, _, rz⟩
    refine (add_any D1' D0 (by omega) (by omega) l1 (by simp [canon_zero])).mono ?_
    rintro e w6 ⟨v6, rfl, D6, hb6⟩
    have hk6 := SK.call hk hb6
    rw [dySum_zero hodd] at D6
    have D6' := Lib.hid D6
    obtain ⟨nb6, A6, L6, c6, rfl, _⟩ := D6.form
    have hf6 := hk6.lt
    obtain ⟨z0, z1, z2, rw6, k0, k1, k2, kf⟩ := SK.cells hk6
    have b6 := bW.trans (hb6.mono (by omega))
    clear D6 hb6 hk6 hk rz bW
    go_wp2_with fail
    refine bodyPost_ret (res_Min rfl (((rw6.set_ 0 _).set_ 1 _).set_ 2 _)) rfl ⟨_, rfl, ?_, ((b6.setCell (by simp; omega) _).setCell (by simp; omega) _).setCell (by simp; omega) _⟩
    have HE := ((((D6'.out.set_ (b := w.heap.size + 2) (by omega) 0 (.bool nb6)).set_ (b := w.heap.size + 2) (by omega) 1 (.slice A6 L6 c6)).set_ (b := w.heap.size + 2) (by omega) 2 (.int .i64 (dx : Int))).low (show w.heap.size ≤ W.heap.size by omega))
    have hv : dyMin x dx y dy = (x, dx) := by
      unfold dyMin
      exact if_neg (by have := HC.out; omega)
    rw [hv]
    exact HE.more (by simp)
theorem res_Max {tmps : Array Value} {w : World} {b : Nat} {v0 v1 v2 : Value} (h2 : tmps.getD 4 undef = .pointer (some ⟨b, 0, none⟩)) (hB : RowD w b [v0, v1, v2] 75) :
    (results Try.f44 tmps).run Try.prog w = .ok (.agg #[v0, v1, v2]) w := by
  have k0 := hB.cell 0
  have k1 := hB.cell 1
  have k2 := hB.cell 2
  simp at k0 k1 k2
  simp at h2
  simp [results, Try.results44, go_sem, h2, k0, k1, k2]
set_option maxRecDepth 100000 in
set_option maxHeartbeats 4000000 in
theorem max_any {v v2 : Value} {x y : Int} {dx dy lo1 lo2 m : Nat} {w : World} (D1 : DyR w lo1 m v x dx) (D2 : DyR w lo2 m v2 y dy) (hm : m ≤ w.heap.size) (l1 : (canon x.natAbs).length ≤ 50000) (l2 : (canon y.natAbs).length ≤ 50000) :
    Calls Try.prog 44 #[v, v2] w fun e w' => ∃ v', e = .returned v' ∧ DyR w' w.heap.size w'.heap.size v' (dyMax x dx y dy).1 (dyMax x dx y dy).2 ∧ Below w.heap.size w w' := by
  have HB1 := D1.bound
  have HB2 := D2.bound
  obtain ⟨nb1, A1, L1, c1, rfl, HD1⟩ := D1.form
  obtain ⟨nb2, A2, L2, c2, rfl, HD2⟩ := D2.form
  have b0 : Below w.heap.size w (((w.alloc (.cells #[.bool nb1, .slice A1 L1 c1, .int .i64 (dx : Int)] 75)).alloc (.cells #[.bool nb2, .slice A2 L2 c2, .int .i64 (dy : Int)] 75)).alloc (.cells #[.bool false, .slice none 0 0, .int .i64 0] 75)) := ext_alloc (ext_alloc (ext_alloc (Below.refl _ _) _) _) _
  have D1' := D1.below b0 hm
  have D2' := D2.below b0 hm
  clear D1 D2
  have r2 := RowD.new_ ((w.alloc (.cells #[.bool nb1, .slice A1 L1 c1, .int .i64 (dx : Int)] 75)).alloc (.cells #[.bool nb2, .slice A2 L2 c2, .int .i64 (dy : Int)] 75)) [.bool false, .slice none 0 0, .int .i64 0] 75
  have r1 := (RowD.new_ (w.alloc (.cells #[.bool nb1, .slice A1 L1 c1, .int .i64 (dx : Int)] 75)) [.bool nb2, .slice A2 L2 c2, .int .i64 (dy : Int)] 75).call ((Below.refl _ _).alloc (Nat.le_refl _) (.cells #[.bool false, .slice none 0 0, .int .i64 0] 75))
  have r0 := ((RowD.new_ w [.bool nb1, .slice A1 L1 c1, .int .i64 (dx : Int)] 75).call ((Below.refl _ _).alloc (Nat.le_refl _) (.cells #[.bool nb2, .slice A2 L2 c2, .int .i64 (dy : Int)] 75))).call ((Below.refl _ _).alloc (Nat.le_refl _) (.cells #[.bool false, .slice none 0 0, .int .i64 0] 75))
  rw [show ((w.alloc (.cells #[.bool nb1, .slice A1 L1 c1, .int .i64 (dx : Int)] 75)).alloc (.cells #[.bool nb2, .slice A2 L2 c2, .int .i64 (dy : Int)] 75)).heap.size = w.heap.size + 2 by simp] at r2
  rw [show (w.alloc (.cells #[.bool nb1, .slice A1 L1 c1, .int .i64 (dx : Int)] 75)).heap.size = w.heap.size + 1 by simp] at r1
  go_enter Try.func44, Try.ntmps44
  go_wp2_with fail
  obtain ⟨W, hW⟩ : ∃ W, W = (((w.alloc (.cells #[.bool nb1, .slice A1 L1 c1, .int .i64 (dx : Int)] 75)).alloc (.cells #[.bool nb2, .slice A2 L2 c2, .int .i64 (dy : Int)] 75)).alloc (.cells #[.bool false, .slice none 0 0, .int .i64 0] 75)) := ⟨_, rfl⟩
  have hWs : W.heap.size = w.heap.size + 3 := by rw [hW]; simp
  rw [← hW]
  rw [← hW] at b0 D1' D2' r0 r1 r2
  clear hW
  have a0 : W.cell? ⟨w.heap.size, 0, none⟩ = some (.bool nb1) := r0.cell 0
  have a1 : W.cell? ⟨w.heap.size, 1, none⟩ = some (.slice A1 L1 c1) := r0.cell 1
  have a2 : W.cell? ⟨w.heap.size, 2, none⟩ = some (.int .i64 (dx : Int)) := r0.cell 2
  have e0 : W.cell? ⟨w.heap.size + 1, 0, none⟩ = some (.bool nb2) := r1.cell 0
  have e1 : W.cell? ⟨w.heap.size + 1, 1, none⟩ = some (.slice A2 L2 c2) := r1.cell 1
  have e2 : W.cell? ⟨w.heap.size + 1, 2, none⟩ = some (.int .i64 (dy : Int)) := r1.cell 2
  go_at_call 35
  refine (cmp_any D1' D2' (by omega) l1 l2).mono ?_
  rintro e w2 ⟨rfl, hb2⟩
  have s0 := r0.call hb2
  have s1 := r1.call hb2
  have s2 := r2.call hb2
  have b2 := b0.trans (hb2.mono (by omega))
  replace D1' := D1'.below hb2 (by omega)
  replace D2' := D2'.below hb2 (by omega)
  have hz2 : w.heap.size + 3 ≤ w2.heap.size := by have := hb2.size; omega
  clear r0 r1 r2 b0 a0 a1 a2 e0 e1 e2 hWs hb2
  have a0 : w2.cell? ⟨w.heap.size, 0, none⟩ = some (.bool nb1) := s0.cell 0
  have a1 : w2.cell? ⟨w.heap.size, 1, none⟩ = some (.slice A1 L1 c1) := s0.cell 1
  have a2 : w2.cell? ⟨w.heap.size, 2, none⟩ = some (.int .i64 (dx : Int)) := s0.cell 2
  have e0 : w2.cell? ⟨w.heap.size + 1, 0, none⟩ = some (.bool nb2) := s1.cell 0
  have e1 : w2.cell? ⟨w.heap.size + 1, 1, none⟩ = some (.slice A2 L2 c2) := s1.cell 1
  have e2 : w2.cell? ⟨w.heap.size + 1, 2, none⟩ = some (.int .i64 (dy : Int)) := s1.cell 2
  have f0 := s0.free
  by_cases hc : dyCmp x dx y dy < 0
  · as_aux_lemma =>
    have HC := Lib.hid hc
    have hodd := HB2.2
    obtain ⟨cv, hcv⟩ : ∃ cv, cv = dyCmp x dx y dy := ⟨_, rfl⟩
    rw [← hcv] at hc
    rw [← hcv]
    have hcb : decide (cv < 0) = true := decide_eq_true hc
    clear hcv HB1 HB2
    go_wp2_with fail
    go_at_call 41
    obtain ⟨W, hW⟩ : ∃ W, W = ((w2.setCell ⟨w.heap.size, 0, none⟩ (.bool nb2)).setCell ⟨w.heap.size, 1, none⟩ (.slice A2 L2 c2)).setCell ⟨w.heap.size, 2, none⟩ (.int .i64 (dy : Int)) := ⟨_, rfl⟩
    have rz : RowD W (w.heap.size + 2) [.bool false, .slice none 0 0, .int .i64 0] 75 := by
      rw [hW]
      exact ((s2.other_ (by omega) _ _).other_ (by omega) _ _).other_ (by omega) _ _
    have bW : Below w.heap.size w W := by
      rw [hW]
      exact ((b2.setCell (by simp) _).setCell (by simp) _).setCell (by simp) _
    have bX : Below w.heap.size w2 W := by
      rw [hW]
      exact (((Below.refl _ w2).setCell (by simp) _).setCell (by simp) _).setCell (by simp) _
    have hWs : w.heap.size + 3 ≤ W.heap.size := by rw [hW]; simpa using hz2
    rw [← hW]
    clear hW s0 s1 s2 a0 a1 a2 e0 e1 e2 f0 b2
    have D0 : DyR W 0 0 (.agg #[.bool false, .slice none 0 0, .int .i64 0]) 0 0 := DyR.zero_ _ _ _
    have hk : SK W (w.heap.size + 2) (w.heap.size + 2) W := SK.refl (by omega) ⟨_, _, _, rz⟩
    refine (add_any (D2'.below bX hm) D0 (by omega) (by omega) l2 (by simp [canon_zero])).mono ?_
    rintro e w6 ⟨v6, rfl, D6, hb6⟩
    have hk6 := SK.call hk hb6
    rw [dySum_zero hodd] at D6
    have D6' := Lib.hid D6
    obtain ⟨nb6, A6, L6, c6, rfl, _⟩ := D6.form
    have hf6 := hk6.lt
    obtain ⟨z0, z1, z2, rw6, k0, k1, k2, kf⟩ := SK.cells hk6
    have b6 := bW.trans (hb6.mono (by omega))
    clear D6 hb6 hk6 hk rz bW
    go_wp2_with fail
    refine bodyPost_ret (res_Max rfl (((rw6.set_ 0 _).set_ 1 _).set_ 2 _)) rfl ⟨_, rfl, ?_, ((b6.setCell (by simp; omega) _).setCell (by simp; omega) _).setCell (by simp; omega) _⟩
    have HE := ((((D6'.out.set_ (b := w.heap.size + 2) (by omega) 0 (.bool nb6)).set_ (b := w.heap.size + 2) (by omega) 1 (.slice A6 L6 c6)).set_ (b := w.heap.size + 2) (by omega) 2 (.int .i64 (dy : Int))).low (show w.heap.size ≤ W.heap.size by omega))
    have hv : dyMax x dx y dy = (y, dy) := by
      unfold dyMax
      exact if_pos (by have := HC.out; omega)
    rw [hv]
    exact HE.more (by simp)
  · as_aux_lemma =>
    have HC := Lib.hid hc
    have hodd := HB1.2
    obtain ⟨cv, hcv⟩ : ∃ cv, cv = dyCmp x dx y dy := ⟨_, rfl⟩
    rw [← hcv] at hc
    rw [← hcv]
    have hcb : decide (cv < 0) = false := decide_eq_false hc
    clear hcv HB1 HB2
    go_wp2_with fail
    go_at_call 41
    obtain ⟨W, hW⟩ : ∃ W, W = w2 := ⟨_, rfl⟩
    have rz := s2
    have bW := b2
    have hWs := hz2
    rw [← hW]
    rw [← hW] at rz bW hWs D1' D2'
    clear hW s0 s1 s2 a0 a1 a2 e0 e1 e2 f0 b2
    have D0 : DyR W 0 0 (.agg #[.bool false, .slice none 0 0, .int .i64 0]) 0 0 := DyR.zero_ _ _ _
    have hk : SK W (w.heap.size + 2) (w.heap.size + 2) W := SK.refl (by omega) ⟨_, _, _, rz⟩
    refine (add_any D1' D0 (by omega) (by omega) l1 (by simp [canon_zero])).mono ?_
    rintro e w6 ⟨v6, rfl, D6, hb6⟩
    have hk6 := SK.call hk hb6
    rw [dySum_zero hodd] at D6
    have D6' := Lib.hid D6
    obtain ⟨nb6, A6, L6, c6, rfl, _⟩ := D6.form
    have hf6 := hk6.lt
    obtain ⟨z0, z1, z2, rw6, k0, k1, k2, kf⟩ := SK.cells hk6
    have b6 := bW.trans (hb6.mono (by omega))
    clear D6 hb6 hk6 hk rz bW
    go_wp2_with fail
    refine bodyPost_ret (res_Max rfl (((rw6.set_ 0 _).set_ 1 _).set_ 2 _)) rfl ⟨_, rfl, ?_, ((b6.setCell (by simp; omega) _).setCell (by simp; omega) _).setCell (by simp; omega) _⟩
    have HE := ((((D6'.out.set_ (b := w.heap.size + 2) (by omega) 0 (.bool nb6)).set_ (b := w.heap.size + 2) (by omega) 1 (.slice A6 L6 c6)).set_ (b := w.heap.size + 2) (by omega) 2 (.int .i64 (dx : Int))).low (show w.heap.size ≤ W.heap.size by omega))
    have hv : dyMax x dx y dy = (x, dx) := by
      unfold dyMax
      exact if_neg (by have := HC.out; omega)
    rw [hv]
    exact HE.more (by simp)
end Go.Proofs.Ytdhlmbnmgioeeaa
