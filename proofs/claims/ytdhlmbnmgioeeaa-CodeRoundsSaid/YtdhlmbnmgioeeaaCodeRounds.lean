/- CodeRounds: for all numbers and shifts the law returns true: a shifted product is the greatest number that times 2^-k is at most the product. No conditions. -/
import Derived.Test.YtdhlmbnmgioeeaaCdV
namespace Go.Proofs.Ytdhlmbnmgioeeaa
set_option linter.unusedVariables false
set_option linter.unusedSimpArgs false
set_option linter.unusedSectionVars false
open Go.ChangeShapes Go.WideShapes Go.ChangeAt Go.RowKit Go.Joins

set_option maxRecDepth 100000 in
set_option maxHeartbeats 800000 in
theorem rounds_walk (a b k : Int) (w : World) (a1 : -2147483648 ≤ a) (a2 : a ≤ 2147483647) (b1 : -2147483648 ≤ b) (b2 : b ≤ 2147483647) (h1 : 0 ≤ k) (h2 : k ≤ 255) :
    Calls Try.prog 7 #[.int .i32 a, .int .i32 b, .int .u8 k] w fun e w' => e = .returned (.bool true) ∧ Below w.heap.size w w' := by
  obtain ⟨n, hn⟩ : ∃ n : Nat, k % 31 = (n : Int) := ⟨(k % 31).toNat, by omega⟩
  have hn30 : n ≤ 30 := by omega
  have sa := short_of a1 a2
  have sb := short_of b1 b2
  have HSA := Lib.hid sa
  have HSB := Lib.hid sb
  have bp := prod_bound sa sb
  obtain ⟨hr, he⟩ := rd_run (n := n) sa sb (by omega) (by omega)
  obtain ⟨l1, l2⟩ := rd_law (p := a * b) hn30
  have HR := Lib.hid hr
  have HE := Lib.hid he
  have L1 := Lib.hid l1
  have L2 := Lib.hid l2
  clear sa sb hr he l1 l2
  go_enter Try.func7, Try.ntmps7
  go_wp2_with fail
  go_at_call 10
  refine (awake_any _).mono ?_
  rintro e w1 ⟨rfl, hb⟩
  go_wp2_with fail
  go_at_call 12
  obtain ⟨N1, N2, N3, N4, N5⟩ := new3 w1 (ints [a, b, 0]) (ints [2]) (flat Ins.cells (rdX n)) 3 3 49 (.cells #[.slice none 0 0, .slice (some ⟨w1.heap.size, 0, none⟩) 3 3, .slice (some ⟨w1.heap.size + 1 + 1, 0, none⟩) 1 1, .slice (some ⟨w1.heap.size + 1, 0, none⟩) 1 1] 26)
  obtain ⟨u, hu⟩ : ∃ u, u = cut32 (scl (a * b) (-(n : Int))) := ⟨_, rfl⟩
  obtain ⟨ov, hov⟩ : ∃ ov, ov = !shortB (scl (a * b) (-(n : Int))) := ⟨_, rfl⟩
  have hr := HR.out
  have l1 := L1.out
  have l2 := L2.out
  have hus : shortB u = true := by rw [hu]; exact cut32_short _
  rw [← hu, ← hov] at hr
  rw [← hu] at l1 l2
  refine (run_any none (some ⟨w1.heap.size, 0, none⟩) (some ⟨w1.heap.size + 1 + 1, 0, none⟩) (some ⟨w1.heap.size + 1, 0, none⟩) (some ⟨w1.heap.size, 0, none⟩) none [] [a, b, 0] (rdX n) [2] [a, b, 0] [] 0 3 1 1 3 0 (w1.heap.size + 3) _ (Nat.le_trans (by omega : w1.heap.size + 3 ≤ w1.heap.size + 4) (Nat.le_of_eq N5.symm)) CellsAt.nil_ N1 N3 N2 N1 CellsAt.nil_ (by simp) _ _ hr HE.out).mono ?_
  rintro e w2 ⟨A, c, B, d, rfl, hA, hB, hcA, hcB, hb2, _, _⟩
  rw [errV_0]
  have HBW := Lib.hid (hb.trans ((N4.mono hb.size).trans (hb2.mono (Nat.le_trans (Nat.le_trans hb.size (by omega : w1.heap.size ≤ w1.heap.size + 4)) (Nat.le_of_eq N5.symm)))))
  obtain ⟨bb, off, rfl, _, hbb, hc⟩ := hcB (by simp [ints])
  have g0 : w2.cell? ⟨bb, off, none⟩ = some (.int .i64 u) := hc 0 _ rfl
  have hw : wrap64 (a * b) = a * b := wrap_id (by omega) (by omega)
  have hws : wrap64 (-(n : Int)) = -(n : Int) := wrap_id (by omega) (by omega)
  clear hc hcA hcB hb2 N1 N2 N3 N4 N5 hr hb hA hB
  cases hsh : shortB (scl (a * b) (-(n : Int))) with
  | false =>
    have l3 := l1 hsh
    have ho : ov = true := by rw [hov, hsh]; rfl
    subst ho
    clear l1 l2 hov hu hsh
    rcases l3 with ⟨rfl, l3⟩ | ⟨rfl, l3⟩
    · clear hus
      have y1 : decide (2147483647 < a * b / 2 ^ n) = true := by simpa using l3
      go_wp2_with fail
      go_ret
      exact ⟨rfl, HBW.out.trans (((Below.refl _ w2).alloc (Nat.le_refl _) _).mono HBW.out.size)⟩
    · clear hus
      have y1 : decide (a * b / 2 ^ n < -2147483648) = true := by simpa using l3
      go_wp2_with fail
      go_ret
      exact ⟨rfl, HBW.out.trans (((Below.refl _ w2).alloc (Nat.le_refl _) _).mono HBW.out.size)⟩
  | true =>
    have l3 := l2 hsh
    have ho : ov = false := by rw [hov, hsh]; rfl
    subst ho
    clear l1 l2 hov hu hsh
    have bu := shortB_t hus
    obtain ⟨x, y, z, hxb, hy, hy1, hmx, hz, hw2, q3, q2, q4, hng, hps⟩ := rd_wide hn30 bu.1 (by omega) bp l3.1 l3.2
    have HXB := Lib.hid hxb
    have HY := Lib.hid hy
    have HY1 := Lib.hid hy1
    have HMX := Lib.hid hmx
    have HZ := Lib.hid hz
    have Q3 := Lib.hid q3
    have Q2 := Lib.hid q2
    have Q4 := Lib.hid q4
    have HNG := Lib.hid hng
    have HPS := Lib.hid hps
    clear hxb hy hy1 hmx hz q3 q2 q4 hng hps l3 HR HE L1 L2 hus
    by_cases hu0 : u < 0
    · skip
      have d0 := Lib.hid (show decide (u < 0) = true by simpa using hu0)
      obtain ⟨c1, c2, c3⟩ := HNG.out hu0
      have D1 := Lib.hid c1
      have D2 := Lib.hid c2
      have D3 := Lib.hid c3
      clear c1 c2 c3 hu0
      go_wp2_with fail
      go_at_call 21
      refine (wide_any u y x y _ HXB.out HY.out HY1.out HMX.out rfl).mono ?_
      rintro e w3 ⟨rfl, rfl⟩
      rw [HZ.out, d0.out]
      have c1 := D1.out
      have c2 := D2.out
      have c3 := D3.out
      rw [Int.sub_neg] at c2 c3
      have q1 := Q3.out
      have q2 := Q2.out
      have q3 := Q4.out
      clear bp hn a1 a2 b1 b2 h1 h2
      go_wp2_with fail
      go_ret
      exact ⟨rfl, HBW.out.trans (((Below.refl _ w2).alloc (Nat.le_refl _) _).mono HBW.out.size)⟩
    · skip
      have d0 := Lib.hid (show decide (u < 0) = false by simpa using hu0)
      obtain ⟨c1, c2, c3⟩ := HPS.out hu0
      have D1 := Lib.hid c1
      have D2 := Lib.hid c2
      have D3 := Lib.hid c3
      clear c1 c2 c3 hu0
      go_wp2_with fail
      go_at_call 21
      refine (wide_any u y x y _ HXB.out HY.out HY1.out HMX.out rfl).mono ?_
      rintro e w3 ⟨rfl, rfl⟩
      rw [HZ.out, d0.out]
      have c1 := D1.out
      have c2 := D2.out
      have c3 := D3.out
      have q1 := Q3.out
      have q2 := Q2.out
      have q3 := Q4.out
      clear bp hn a1 a2 b1 b2 h1 h2
      go_wp2_with fail
      go_ret
      exact ⟨rfl, HBW.out.trans (((Below.refl _ w2).alloc (Nat.le_refl _) _).mono HBW.out.size)⟩

set_option maxRecDepth 100000 in
theorem codeRounds_lifted (os : Os) (started : os.Started) (H : Type) (enc : TypeId × Value → H) :
    ReturnsInHanded {} Try.checked os 7 .any (Rows.codeRoundsSpec.pre6 enc Try.prog Try.f7 Rows.codeRoundsRow.domain false) (Rows.codeRoundsSpec.post enc Try.prog Try.f7 false true false false) := by
  refine law_lift (C := Try.checked) (T := 4) own started (by kernel_rfl) Try.func7
    (ChangeSpec.witness6 (enc := enc) (C := Try.checked) false ⟨#[], #[.int .i32 0, .int .i32 0, .int .u8 0], []⟩ 8 (by kernel_rfl) (by kernel_rfl) (by kernel_rfl) (by kernel_rfl))
    laidOut (by kernel_rfl) rfl Try.underlying4 (by kernel_rfl) ?_ ?_
  · intro ds h
    match ds, h with
    | [d1, d2, d3], _ => exact ⟨rfl, rfl, rfl⟩
  · intro W base args ds p hval0 hA0 _ hsz0
    have hval : ∀ (j : Nat) t v, Try.f7.params[j]? = some t → args[j]? = some v → Value.okWide Try.prog W .any base t v := hval0
    have hA : DataW.TrodAll enc Try.prog W 0 (fun _ => true) true Try.f7.params.toList args.toList ds p := hA0
    clear hsz0
    rw [Try.params7] at hA hval
    obtain ⟨v0, vs0, d0, ds0, p0, q0, hargs, rfl, rfl, h0, r0⟩ := trodAll_cons hA
    obtain ⟨v1, vs1, d1, ds1, p1, q1, rfl, rfl, rfl, h1, r1⟩ := trodAll_cons r0
    obtain ⟨v2, vs2, d2, ds2, p2, q2, rfl, rfl, rfl, h2, r2⟩ := trodAll_cons r1
    obtain ⟨rfl, rfl, rfl⟩ := trodAll_nil r2
    obtain rfl : args = #[v0, v1, v2] := by cases args; simp_all
    obtain ⟨a, rfl, aw⟩ := int_of_kind Try.underlying21 (hval 0 21 v0 rfl rfl) h0
    obtain ⟨a1, a2⟩ := bounds_i32 aw
    obtain ⟨b, rfl, bw⟩ := int_of_kind Try.underlying21 (hval 1 21 v1 rfl rfl) h1
    obtain ⟨b1, b2⟩ := bounds_i32 bw
    obtain ⟨k, rfl, kw⟩ := int_of_kind Try.underlying5 (hval 2 5 v2 rfl rfl) h2
    obtain ⟨k1, k2⟩ := bounds_u8 kw
    exact rounds_walk a b k W a1 a2 b1 b2 k1 k2

theorem codeRounds_over : Rows.codeRoundsRow.holds Try.pinned (OpenSpec.ofChange Rows.codeRoundsSpec) :=
  OpenClaim.holds_of_wide 7 Try.f7 rfl rfl rfl rfl rfl rfl rfl ⟨rfl, rfl, rfl, rfl, rfl⟩ rfl rfl rfl rfl rfl (by kernel_rfl) Try.func7 (by kernel_rfl)
    (of_decide_eq_true (by kernel_rfl)) (by unfold Func.isWrapper; first | (rw [if_pos (by decide +kernel)]; kernel_rfl) | (rw [if_neg (by decide +kernel)]; exact ⟨rfl, rfl⟩))
    (fun os started H enc _ => codeRounds_lifted os started H enc)

theorem codeRounds_holds : Rows.CodeRoundsSaid := codeRounds_over
#print axioms codeRounds_holds

end Go.Proofs.Ytdhlmbnmgioeeaa
