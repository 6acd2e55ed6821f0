/- CodeOrders: for all numbers and shifts the law returns true: minimum, maximum, sum, difference, negative and absolute value of two shifted cells fit together. No conditions. -/
import Derived.Test.YtdhlmbnmgioeeaaCdY
import Derived.Test.YtdhlmbnmgioeeaaCdV
namespace Go.Proofs.Ytdhlmbnmgioeeaa
set_option linter.unusedVariables false
set_option linter.unusedSimpArgs false
set_option linter.unusedSectionVars false
open Go.ChangeShapes Go.WideShapes Go.ChangeAt Go.RowKit Go.Joins

set_option maxRecDepth 100000 in
set_option maxHeartbeats 4000000 in
theorem orders_walk (a b s0 s1 : Int) (w : World) (a1 : -32768 ≤ a) (a2 : a ≤ 32767) (b1 : -32768 ≤ b) (b2 : b ≤ 32767) (h1 : 0 ≤ s0) (h2 : s0 ≤ 255) (h3 : 0 ≤ s1) (h4 : s1 ≤ 255) :
    Calls Try.prog 5 #[.int .i16 a, .int .i16 b, .agg #[.int .u8 s0, .int .u8 s1]] w fun e w' => e = .returned (.bool true) ∧ Below w.heap.size w w' := by
  go_enter Try.func5, Try.ntmps5
  go_wp2_with fail
  go_at_call 10
  refine (awake_any _).mono ?_
  rintro e w1 ⟨rfl, hb⟩
  obtain ⟨qc, qf, qs, qz⟩ := ext_at (m := w.heap.size + 1) hb (by simp) (by simp)
  go_wp2_with fail
  go_quiet (fail)
  go_wp2_with fail
  go_at_call 12
  obtain ⟨N1, N2, N3, N4, N5⟩ := new3 (w1.drewN nq) (ints [a, b, 0, 0, 0, 0, 0, 0, 0, 0]) (ints [2, 3, 4, 5, 6, 7, 8, 9]) (flat Ins.cells (ordX (s0 % 30 - 15) (s1 % 30 - 15))) 3 3 49 (.cells #[.slice none 0 0, .slice (some ⟨w1.heap.size, 0, none⟩) 10 10, .slice (some ⟨w1.heap.size + 1 + 1, 0, none⟩) 8 8, .slice (some ⟨w1.heap.size + 1, 0, none⟩) 8 8] 26)
  obtain ⟨p, hp⟩ : ∃ p, scl a (s0 % 30 - 15) = p := ⟨_, rfl⟩
  obtain ⟨q, hq⟩ : ∃ q, scl b (s1 % 30 - 15) = q := ⟨_, rfl⟩
  obtain ⟨hr, he⟩ := ord_run a1 a2 b1 b2 (by omega) (by omega) (by omega) (by omega) hp hq
  have bp := scl_bound (k := s0 % 30 - 15) a1 a2 (by omega) (by omega)
  have bq := scl_bound (k := s1 % 30 - 15) b1 b2 (by omega) (by omega)
  rw [hp] at bp
  rw [hq] at bq
  refine (run_any none (some ⟨w1.heap.size, 0, none⟩) (some ⟨w1.heap.size + 1 + 1, 0, none⟩) (some ⟨w1.heap.size + 1, 0, none⟩) (some ⟨w1.heap.size, 0, none⟩) none [] [a, b, 0, 0, 0, 0, 0, 0, 0, 0] (ordX (s0 % 30 - 15) (s1 % 30 - 15)) [2, 3, 4, 5, 6, 7, 8, 9] [a, b, 0, 0, 0, 0, 0, 0, 0, 0] [] 0 10 8 8 10 0 (w1.heap.size + 3) _ (Nat.le_trans (by show w1.heap.size + 3 ≤ w1.heap.size + 4; omega) (Nat.le_of_eq N5.symm)) CellsAt.nil_ N1 N3 N2 N1 CellsAt.nil_ (by simp) _ _ hr he).mono ?_
  rintro e w2 ⟨A, c, B, d, rfl, hA, hB, hcA, hcB, hb2, _, _⟩
  rw [errV_0]
  have hbw : Below w.heap.size w w2 := ((((Below.refl w.heap.size w).alloc (Nat.le_refl _) _).trans (hb.mono (by simp))).trans ((below_drewN (Below.refl w.heap.size w1) nq).trans ((N4.mono (by show w.heap.size ≤ w1.heap.size; omega)).trans (hb2.mono (Nat.le_trans (by show w.heap.size ≤ w1.heap.size + 4; omega) (Nat.le_of_eq N5.symm)))) : Below w.heap.size w1 w2))
  obtain ⟨bb, off, rfl, _, hbb, hc⟩ := hcB (by simp [ints])
  have g0 : w2.cell? ⟨bb, off, none⟩ = some (.int .i64 (min p q)) := hc 0 _ rfl
  have g1 := hc 1 _ rfl
  have g2 := hc 2 _ rfl
  have g3 := hc 3 _ rfl
  have g4 := hc 4 _ rfl
  have g5 := hc 5 _ rfl
  have g6 := hc 6 _ rfl
  have g7 := hc 7 _ rfl
  have HBW := Lib.hid hbw
  clear hc hcA hcB hb2 N1 N2 N3 N4 N5 hr he hp hq hb qc qf qs qz hA hB hbw
  have w1' : wrap64 (p + q) = p + q := wrap_id (by omega) (by omega)
  have w2' : wrap64 (q + p) = p + q := (wrap_id (by omega) (by omega)).trans (Int.add_comm _ _)
  have w3' : wrap64 (p - q) = p - q := wrap_id (by omega) (by omega)
  have w4' : wrap64 (-p) = -p := wrap_id (by omega) (by omega)
  obtain ⟨s, hs⟩ : ∃ s, p + q = s := ⟨_, rfl⟩
  obtain ⟨dd, hd⟩ : ∃ dd, p - q = dd := ⟨_, rfl⟩
  obtain ⟨n, hn⟩ : ∃ n, -p = n := ⟨_, rfl⟩
  obtain ⟨mm, hm⟩ : ∃ mm, max p n = mm := ⟨_, rfl⟩
  rw [hs] at g2
  rw [hd] at g3
  rw [hn] at g6
  have v1 : wrap64 (p + q) = s := w1'.trans hs
  have v2 : wrap64 (q + p) = s := w2'.trans hs
  have v3 : wrap64 (p - q) = dd := w3'.trans hd
  have v4 : wrap64 (-p) = n := w4'.trans hn
  have v5 : (s == s) = true := by simp
  have v6 : (dd == dd) = true := by simp
  have v7 : (n == n) = true := by simp
  have v8 : (mm == mm) = true := by simp
  clear w1' w2' w3' w4'
  rw [hn, hm] at g7
  by_cases hpq : p ≤ q
  · as_aux_lemma =>
    have x0 : min p q = p := by omega
    have x1 : max p q = q := by omega
    rw [x0] at g0
    rw [x1] at g1
    have y0 : decide (p ≤ q) = true := by simpa using hpq
    clear x0 x1 hs hd hn bp bq a1 a2 b1 b2 h1 h2 h3 h4
    go_wp2_with fail
    refine wp_region_qext (w2.heap.size + 1) (by simp) (by kernel_rfl) lex9 ?_
    intro _
    dsimp only [List.append]
    repeat (go_big_quiet_step ((fail)))
    refine wpQuiet_nil ?_
    intro w3 hw'
    obtain ⟨⟨_, hb2, hz2⟩, rfl⟩ := hw'
    go_wp2_with fail
    go_ret
    exact ⟨rfl, HBW.out.trans ((((Below.refl _ w2).alloc (Nat.le_refl _) _).mono HBW.out.size).trans (hb2.mono (by have := HBW.out.size; omega)))⟩
  · as_aux_lemma =>
    have x0 : min p q = q := by omega
    have x1 : max p q = p := by omega
    have x2 : (q == p) = false := by simp; omega
    have x3 : q ≤ p := by omega
    have y0 : decide (q ≤ p) = true := by simpa using x3
    rw [x0] at g0
    rw [x1] at g1
    clear x0 x1 hs hd hn bp bq a1 a2 b1 b2 h1 h2 h3 h4
    go_wp2_with fail
    refine wp_region_qext (w2.heap.size + 1) (by simp) (by kernel_rfl) lex9 ?_
    intro _
    dsimp only [List.append]
    repeat (go_big_quiet_step ((fail)))
    refine wpQuiet_nil ?_
    intro w3 hw'
    obtain ⟨⟨_, hb2, hz2⟩, rfl⟩ := hw'
    go_wp2_with fail
    go_ret
    exact ⟨rfl, HBW.out.trans ((((Below.refl _ w2).alloc (Nat.le_refl _) _).mono HBW.out.size).trans (hb2.mono (by have := HBW.out.size; omega)))⟩
set_option maxRecDepth 100000 in
theorem open_s2 {H : Type} {enc : TypeId × Value → H} {w : World} {spare : Nat → Bool} {held : Bool} {r : Reach} {b0 : Nat} {v : Value} {d : DataW H} {p : List MemPlace} (hv : Value.okWide Try.prog w r b0 47 v) (h : DataW.Trod enc Try.prog w 0 spare held 47 v d p) :
    ∃ x0 x1 : Int, v = .agg #[.int .u8 x0, .int .u8 x1] ∧ 0 ≤ x0 ∧ x0 ≤ 255 ∧ 0 ≤ x1 ∧ x1 ≤ 255 := by
  obtain ⟨cs, rfl, hsz⟩ := okWide_array Try.underlying47 hv
  obtain ⟨l⟩ := cs
  match l, hsz.trans (show Try.prog.cellsOf 47 = 2 by kernel_rfl) with
  | [c0, c1], _ =>
    obtain ⟨fuel, hf⟩ := h
    obtain ⟨xs, n, _, _, _, hlen, hg⟩ := DataW.trod_array Try.underlying47 hf
    have c3 : Try.prog.cellsOf 5 = 1 := by kernel_rfl
    match xs, hlen with
    | [y0, y1], _ =>
      have g0 := hg 0 (by omega)
      have g1 := hg 1 (by omega)
      rw [c3] at g0 g1
      simp [Value.cells] at g0 g1
      obtain ⟨x0, e0, _, w0⟩ := DataW.trod_int Try.underlying5 g0
      obtain ⟨x1, e1, _, w1⟩ := DataW.trod_int Try.underlying5 g1
      simp at e0 e1
      subst e0 e1
      have b0 := bounds_u8 w0
      have b1 := bounds_u8 w1
      exact ⟨_, _, rfl, b0.1, b0.2, b1.1, b1.2⟩
set_option maxRecDepth 100000 in
theorem codeOrders_lifted (os : Os) (started : os.Started) (H : Type) (enc : TypeId × Value → H) :
    ReturnsInHanded {} Try.checked os 5 .any (Rows.codeOrdersSpec.pre6 enc Try.prog Try.f5 Rows.codeOrdersRow.domain false) (Rows.codeOrdersSpec.post enc Try.prog Try.f5 false true false false) := by
  refine law_lift (C := Try.checked) (T := 4) own started (by kernel_rfl) Try.func5
    (ChangeSpec.witness6 (enc := enc) (C := Try.checked) false ⟨#[], #[.int .i16 0, .int .i16 0, .agg #[.int .u8 0, .int .u8 0]], []⟩ 8 (by kernel_rfl) (by kernel_rfl) (by kernel_rfl) (by kernel_rfl))
    laidOut (by kernel_rfl) rfl Try.underlying4 (by kernel_rfl) ?_ ?_
  · intro ds h
    match ds, h with
    | [d1, d2, d3], _ => exact ⟨rfl, rfl, rfl⟩
  · intro W base args ds p hval0 hA0 _ hsz0
    have hval : ∀ (j : Nat) t v, Try.f5.params[j]? = some t → args[j]? = some v → Value.okWide Try.prog W .any base t v := hval0
    have hA : DataW.TrodAll enc Try.prog W 0 (fun _ => true) true Try.f5.params.toList args.toList ds p := hA0
    clear hsz0
    rw [Try.params5] at hA hval
    obtain ⟨v0, vs0, d0, ds0, p0, q0, hargs, rfl, rfl, h0, r0⟩ := trodAll_cons hA
    obtain ⟨v1, vs1, d1, ds1, p1, q1, rfl, rfl, rfl, h1, r1⟩ := trodAll_cons r0
    obtain ⟨v2, vs2, d2, ds2, p2, q2, rfl, rfl, rfl, h2, r2⟩ := trodAll_cons r1
    obtain ⟨rfl, rfl, rfl⟩ := trodAll_nil r2
    obtain rfl : args = #[v0, v1, v2] := by cases args; simp_all
    obtain ⟨a, rfl, aw⟩ := int_of_kind Try.underlying46 (hval 0 46 v0 rfl rfl) h0
    obtain ⟨a1, a2⟩ := bounds_i16 aw
    obtain ⟨b, rfl, bw⟩ := int_of_kind Try.underlying46 (hval 1 46 v1 rfl rfl) h1
    obtain ⟨b1, b2⟩ := bounds_i16 bw
    obtain ⟨s0, s1, rfl, k1, k2, k3, k4⟩ := open_s2 (hval 2 47 v2 rfl rfl) h2
    exact orders_walk a b s0 s1 W a1 a2 b1 b2 k1 k2 k3 k4

theorem codeOrders_over : Rows.codeOrdersRow.holds Try.pinned (OpenSpec.ofChange Rows.codeOrdersSpec) :=
  OpenClaim.holds_of_wide 5 Try.f5 rfl rfl rfl rfl rfl rfl rfl ⟨rfl, rfl, rfl, rfl, rfl⟩ rfl rfl rfl rfl rfl (by kernel_rfl) Try.func5 (by kernel_rfl)
    (of_decide_eq_true (by kernel_rfl)) (by unfold Func.isWrapper; first | (rw [if_pos (by decide +kernel)]; kernel_rfl) | (rw [if_neg (by decide +kernel)]; exact ⟨rfl, rfl⟩))
    (fun os started H enc _ => codeOrders_lifted os started H enc)

theorem codeOrders_holds : Rows.CodeOrdersSaid := codeOrders_over
#print axioms codeOrders_holds

end Go.Proofs.Ytdhlmbnmgioeeaa
