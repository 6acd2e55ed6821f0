/- The product of two numbers as two words; the plain laws behind CodeRounds. No conditions. -/
import Derived.Test.YtdhlmbnmgioeeaaCdT
import Derived.Lib.Mul64
import Derived.Laws.Bits64b
import Derived.OpenShut
namespace Go.Proofs.Ytdhlmbnmgioeeaa
set_option linter.unusedVariables false
set_option linter.unusedSimpArgs false
set_option linter.unusedSectionVars false
open Go.RowKit Go.Lib

theorem maskW (a : Nat) (ha : a < 18446744073709551616) : bits .and .u64 (a : Int) 4294967295 = ((a % 4294967296 : Nat) : Int) := by
  have h := bits_and_u64_nat a 4294967295 ha (by omega)
  have e : a &&& 4294967295 = a % 4294967296 := Nat.and_two_pow_sub_one_eq_mod a 32
  rw [e] at h
  exact h
theorem divW (a : Nat) : (a : Int) / 4294967296 = ((a / 4294967296 : Nat) : Int) := by omega
theorem mulW (a b : Nat) : (a : Int) * (b : Int) = ((a * b : Nat) : Int) := (Int.natCast_mul a b).symm
theorem addW (a b : Nat) : (a : Int) + (b : Int) = ((a + b : Nat) : Int) := (Int.natCast_add a b).symm
theorem wrapW (a : Nat) (ha : a < 18446744073709551616) : IntKind.u64.wrap (a : Int) = (a : Int) := by rw [IntKind.wrap_u64]; omega
theorem wrapWM (a : Nat) : IntKind.u64.wrap (a : Int) = ((a % 18446744073709551616 : Nat) : Int) := by rw [IntKind.wrap_u64]; omega
theorem results_tmp2 {fn : Func} {t u : Tmp} (h : fn.results = #[.tmp t, .tmp u]) (tmps : Array Value) (P : Program) (w : World) :
    (results fn tmps).run P w = .ok (.tuple #[tmps.getD t undef, tmps.getD u undef]) w := by simp [results, h]
theorem results_tmp3 {fn : Func} {t u v : Tmp} (h : fn.results = #[.tmp t, .tmp u, .tmp v]) (tmps : Array Value) (P : Program) (w : World) :
    (results fn tmps).run P w = .ok (.tuple #[tmps.getD t undef, tmps.getD u undef, tmps.getD v undef]) w := by simp [results, h]
set_option maxHeartbeats 1000000 in
theorem mul64_any (x y : Nat) (hx : x < 18446744073709551616) (hy : y < 18446744073709551616) (w : World) :
    Calls Try.prog 32 #[.int .u64 x, .int .u64 y] w fun e w' => e = .returned (.tuple #[.int .u64 ((x * y / 18446744073709551616 : Nat) : Int), .int .u64 ((x * y % 18446744073709551616 : Nat) : Int)]) ∧ w = w' := by
  obtain ⟨bd, bt, bw, hhi⟩ := Lib.mul64_hi x y hx hy
  have ba := Lib.half_mul_le (a := x / 4294967296) (b := y / 4294967296) (by omega) (by omega)
  have bb := Lib.half_mul_le (a := x / 4294967296) (b := y % 4294967296) (by omega) (by omega)
  have bc := Lib.half_mul_le (a := x % 4294967296) (b := y / 4294967296) (by omega) (by omega)
  have ba' : x / 4294967296 * (y / 4294967296) < 18446744073709551616 := by omega
  have bb' : x / 4294967296 * (y % 4294967296) < 18446744073709551616 := by omega
  have bc' : x % 4294967296 * (y / 4294967296) < 18446744073709551616 := by omega
  have bh1 : x / 4294967296 * (y / 4294967296) + (x / 4294967296 * (y % 4294967296) + x % 4294967296 * (y % 4294967296) / 4294967296) / 4294967296 < 18446744073709551616 := by omega
  have bh : x / 4294967296 * (y / 4294967296) + (x / 4294967296 * (y % 4294967296) + x % 4294967296 * (y % 4294967296) / 4294967296) / 4294967296 + ((x / 4294967296 * (y % 4294967296) + x % 4294967296 * (y % 4294967296) / 4294967296) % 4294967296 + x % 4294967296 * (y / 4294967296)) / 4294967296 < 18446744073709551616 := by omega
  go_enter Try.func32, Try.ntmps32
  go_wp2
  simp only [maskW x hx, maskW y hy, divW, mulW, addW, wrapW _ bd, wrapW _ bb', wrapW _ bt, maskW _ bt, wrapW _ bc', wrapW _ bw, wrapW _ ba', wrapW _ bh1, wrapW _ bh, wrapWM (x * y)]
  rw [hhi]
  exact bodyPost_ret (results_tmp2 rfl _ _ _) rfl ⟨rfl, rfl⟩
theorem prod_small {x y : Nat} (hx : x ≤ 2147483648) (hy : y ≤ 1073741824) : x * y ≤ 2305843009213693952 := Nat.mul_le_mul hx hy
set_option maxHeartbeats 1000000 in
theorem wide_any (a b : Int) (x y : Nat) (w : World) (hx : x ≤ 2147483648) (hy : y ≤ 1073741824) (hy0 : 1 ≤ y) (ha : max a (-a) = x) (hb : b = y) :
    Calls Try.prog 21 #[.int .i64 a, .int .i64 b] w fun e w' => e = .returned (.tuple #[.int .u64 0, .int .u64 ((x * y : Nat) : Int), .bool (decide (a < 0))]) ∧ w = w' := by
  have hp := prod_small hx hy
  have hm : max b (-b) = (y : Int) := by omega
  have w1 : wrap64 (-a) = -a := wrap_id (by omega) (by omega)
  have w2 : wrap64 (-b) = -b := wrap_id (by omega) (by omega)
  have u1 : IntKind.u64.wrap (x : Int) = (x : Int) := wrapW _ (by omega)
  have u2 : IntKind.u64.wrap (y : Int) = (y : Int) := wrapW _ (by omega)
  have e1 : x * y / 18446744073709551616 = 0 := Nat.div_eq_of_lt (by omega)
  have e2 : x * y % 18446744073709551616 = x * y := Nat.mod_eq_of_lt (by omega)
  have b0 : decide (b < 0) = false := by simp; omega
  have y0 : ((y : Int) != 0) = true := by simp; omega
  by_cases h0 : a < 0
  · have x0 : ((x : Int) != 0) = true := by simp; omega
    have d0 : decide (a < 0) = true := by simpa using h0
    clear hb
    go_enter Try.func21, Try.ntmps21
    go_wp2_with (go_at_call 32; refine (mul64_any x y (by omega) (by omega) _).mono ?_; rintro e w' ⟨rfl, rfl⟩; rw [e1, e2])
    exact bodyPost_ret (results_tmp3 rfl _ _ _) rfl ⟨by rw [d0]; rfl, rfl⟩
  · have d0 : decide (a < 0) = false := by simpa using h0
    clear hb
    go_enter Try.func21, Try.ntmps21
    go_wp2_with (go_at_call 32; refine (mul64_any x y (by omega) (by omega) _).mono ?_; rintro e w' ⟨rfl, rfl⟩; rw [e1, e2])
    exact bodyPost_ret (results_tmp3 rfl _ _ _) rfl ⟨by rw [d0]; rfl, rfl⟩

section
variable {H : Type} {enc : TypeId × Value → H} {P : Program} {w : World} {spare : Nat → Bool} {held : Bool}
theorem int_of_kind {k : IntKind} {r : Reach} {b0 : Nat} {t : TypeId} {v : Value} {d : DataW H} {p : List MemPlace} (ht : P.underlying t = some (.int k)) (hv : Value.okWide P w r b0 t v) (h : DataW.Trod enc P w 0 spare held t v d p) : ∃ n : Int, v = .int k n ∧ (Lit.int k n).wf = true := by
  obtain ⟨n, rfl⟩ := Go.WideShapes.okWide_int ht hv
  obtain ⟨fuel, hf⟩ := h
  have hf' : DataW.trod enc P w 0 spare held fuel t [.int k n] = some (d, p) := hf
  obtain ⟨m, hm, _, hw⟩ := DataW.trod_int ht hf'
  simp at hm
  subst hm
  exact ⟨n, rfl, hw⟩
end

/-! The plain law. -/
def rdX (n : Int) : List Ins := [⟨7, 2, 0, 1, -n, 0, 0⟩]
theorem rd_err {a b n : Int} (a1 : shortB a = true) (b1 : shortB b = true) (n1 : 0 ≤ n) (n2 : n ≤ 30) : progErr [] [a, b, 0] (rdX n) [2] = 0 := by
  have e3 := shift_of (n := -n) (by omega) (by omega)
  have e5 : shortB 0 = true := by decide
  simp [progErr, rdX, firstErr, initErr, Ins.err, insErr, usesR, outErr, a1, b1, e3, e5]
theorem prod_bound {a b : Int} (a1 : shortB a = true) (b1 : shortB b = true) : -4611686018427387904 ≤ a * b ∧ a * b ≤ 4611686018427387904 := by
  have ha := shortB_t a1
  have hb := shortB_t b1
  have h : (a * b).natAbs ≤ 2147483648 * 2147483648 := by
    rw [Int.natAbs_mul]
    exact Nat.mul_le_mul (by omega) (by omega)
  omega
theorem rd_run {a b n : Int} (a1 : shortB a = true) (b1 : shortB b = true) (n1 : 0 ≤ n) (n2 : n ≤ 30) :
    runM [] [a, b, 0] (rdX n) [2] [a, b, 0] [] = ⟨[a, b, cut32 (scl (a * b) (-n))], [cut32 (scl (a * b) (-n))], !shortB (scl (a * b) (-n))⟩ ∧ runErr [] [a, b, 0] (rdX n) [2] [a, b, 0] [] = 0 := by
  have h0 : runErr [] [a, b, 0] (rdX n) [2] [a, b, 0] [] = 0 := run_noerr (rd_err a1 b1 n1 n2) rfl (fun z hz => by
    simp at hz
    rcases hz with rfl | rfl | rfl
    · exact a1
    · exact b1
    · decide) rfl (by simp)
  refine ⟨?_, h0⟩
  rw [runM_ok h0]
  have hp := prod_bound a1 b1
  have w1 : wrap64 (a * b) = a * b := wrap_id (by omega) (by omega)
  simp [runR, rdX, stepR, insVal, outsOf, w1]
/-- What the law looks at: the shifted product, cut or not. -/
theorem rd_law {p : Int} {n : Nat} (hn : n ≤ 30) :
    (shortB (scl p (-(n : Int))) = false → (cut32 (scl p (-(n : Int))) = 2147483647 ∧ 2147483647 < p / 2 ^ n) ∨ (cut32 (scl p (-(n : Int))) = -2147483648 ∧ p / 2 ^ n < -2147483648)) ∧
    (shortB (scl p (-(n : Int))) = true → cut32 (scl p (-(n : Int))) * 2 ^ n ≤ p ∧ p - cut32 (scl p (-(n : Int))) * 2 ^ n < 2 ^ n) := by
  have hd : (0 : Int) < 2 ^ n := Int.pow_pos (by decide)
  have h1 := Int.mul_ediv_self_le (x := p) (k := 2 ^ n) (by omega)
  have h2 := Int.lt_mul_ediv_self_add (x := p) (k := 2 ^ n) hd
  rw [Int.mul_comm] at h1 h2
  by_cases h0 : n = 0
  · subst h0
    simp only [scl]
    rw [if_neg (by simp)]
    simp
    constructor
    · intro h
      have := shortB_f h
      unfold cut32
      omega
    · intro h
      have := shortB_t h
      unfold cut32
      omega
  · have hs : scl p (-(n : Int)) = p / 2 ^ n := by
      simp only [scl]
      rw [if_pos (by omega)]
      simp
    rw [hs]
    constructor
    · intro h
      have := shortB_f h
      unfold cut32
      omega
    · intro h
      rw [cut_short h]
      exact ⟨h1, by omega⟩
theorem rd_wraps {p z : Int} (h1 : -4611686018427387904 ≤ p ∧ p ≤ 4611686018427387904) (h2 : 0 ≤ z) (h3 : z ≤ 2305843009213693952) :
    wrap64 (p - -z) = p - -z ∧ wrap64 (p - z) = p - z ∧ wrap64 (-z) = -z ∧ wrap64 z = z ∧ decide (4611686018427387904 < z) = false :=
  ⟨wrap_id (by omega) (by omega), wrap_id (by omega) (by omega), wrap_id (by omega) (by omega), wrap_id (by omega) (by omega), decide_eq_false (by omega)⟩
theorem rd_wide {u p : Int} {n : Nat} (hn : n ≤ 30) (u1 : -2147483648 ≤ u) (u2 : u ≤ 2147483647) (bp : -4611686018427387904 ≤ p ∧ p ≤ 4611686018427387904) (l4 : u * 2 ^ n ≤ p) (l5 : p - u * 2 ^ n < 2 ^ n) :
    ∃ x y z : Nat, x ≤ 2147483648 ∧ y ≤ 1073741824 ∧ 1 ≤ y ∧ max u (-u) = (x : Int) ∧ x * y = z ∧ wrap64 (2 ^ n) = (y : Int) ∧ wrap64 (z : Int) = (z : Int) ∧ wrap64 (-(z : Int)) = -(z : Int) ∧ decide (4611686018427387904 < (z : Int)) = false ∧
      (u < 0 → decide (-(z : Int) ≤ p) = true ∧ wrap64 (p - -(z : Int)) = p - -(z : Int) ∧ decide (p - -(z : Int) < (y : Int)) = true) ∧
      (¬ u < 0 → decide ((z : Int) ≤ p) = true ∧ wrap64 (p - (z : Int)) = p - (z : Int) ∧ decide (p - (z : Int) < (y : Int)) = true) := by
  obtain ⟨y, hyN⟩ : ∃ y : Nat, y = 2 ^ n := ⟨_, rfl⟩
  have hy : y ≤ 1073741824 := by rw [hyN]; exact Nat.pow_le_pow_right (by decide) hn
  have hy1 : 1 ≤ y := by rw [hyN]; exact Nat.one_le_two_pow
  have hyI : (2 : Int) ^ n = (y : Int) := by rw [hyN]; simp
  rw [hyI] at l4 l5
  have hw2 : wrap64 (2 ^ n) = (y : Int) := by rw [hyI]; exact wrap_id (by clear l4 l5; omega) (by clear l4 l5; omega)
  obtain ⟨x, hx⟩ : ∃ x : Nat, max u (-u) = (x : Int) := ⟨u.natAbs, by clear l4 l5; omega⟩
  have hxb : x ≤ 2147483648 := by clear l4 l5; omega
  obtain ⟨z, hz⟩ : ∃ z : Nat, x * y = z := ⟨_, rfl⟩
  have hzb : z ≤ 2305843009213693952 := by rw [← hz]; exact prod_small hxb hy
  have hzz : (z : Int) = (x : Int) * (y : Int) := by rw [← hz]; exact Int.natCast_mul x y
  have hz0 : (0 : Int) ≤ (z : Int) := Int.natCast_nonneg z
  have hzI : (z : Int) ≤ 2305843009213693952 := by clear l4 l5 hz hzz; omega
  obtain ⟨q0, q1, q2, q3, q4⟩ := rd_wraps bp hz0 hzI
  refine ⟨x, y, z, hxb, hy, hy1, hx, hz, hw2, q3, q2, q4, fun hu => ?_, fun hu => ?_⟩
  · have hxu : (x : Int) = -u := by clear l4 l5 hz hzz; omega
    have hlow : u * (y : Int) = -(z : Int) := by rw [hzz, hxu, Int.neg_mul, Int.neg_neg]
    rw [hlow] at l4 l5
    exact ⟨decide_eq_true l4, q0, decide_eq_true l5⟩
  · have hxu : (x : Int) = u := by clear l4 l5 hz hzz; omega
    have hlow : u * (y : Int) = (z : Int) := by rw [hzz, hxu]
    rw [hlow] at l4 l5
    exact ⟨decide_eq_true l4, q1, decide_eq_true l5⟩
end Go.Proofs.Ytdhlmbnmgioeeaa
