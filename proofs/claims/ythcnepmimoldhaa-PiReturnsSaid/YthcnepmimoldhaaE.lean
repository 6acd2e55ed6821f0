/- Plain facts on the controller's step, and how the laws' arguments are opened. No conditions. -/
import Derived.Test.YthcnepmimoldhaaD
import Derived.Test.YthcnepmimoldhaaRead
namespace Go.Proofs.Ythcnepmimoldhaa
open Go.ChangeShapes Go.WideShapes Go.ChangeAt Go.RowKit Go.Joins

theorem own : ownKnob Try.prog.godebug = none := by kernel_rfl
theorem laidOut : laidOutB Try.prog = true := by kernel_rfl
theorem cells23 : Try.prog.cellsOf 23 = 4 := by kernel_rfl
theorem cells25 : Try.prog.cellsOf 25 = 1 := by kernel_rfl


section
variable {H : Type} {enc : TypeId × Value → H} {w : World} {spare : Nat → Bool} {held : Bool}
theorem open_cfg {r : Reach} {b0 : Nat} {v : Value} {d : DataW H} {p : List MemPlace} (hv : Value.okWide Try.prog w r b0 23 v) (h : DataW.Trod enc Try.prog w 0 spare held 23 v d p) :
    ∃ x0 x1 x2 x3 : Int, v = .agg #[.int .i64 x0, .int .i64 x1, .int .i64 x2, .int .i64 x3] := by
  obtain ⟨c0, c1, c2, c3, y0, y1, y2, y3, m, rfl, rfl, rfl, g0, g1, g2, g3⟩ := open_agg4 Try.underlying23 (by kernel_rfl) cells23 hv h
  obtain ⟨x0, e0, rfl, w0⟩ := DataW.trod_int Try.underlying3 g0
  obtain ⟨x1, e1, rfl, w1⟩ := DataW.trod_int Try.underlying3 g1
  obtain ⟨x2, e2, rfl, w2⟩ := DataW.trod_int Try.underlying3 g2
  obtain ⟨x3, e3, rfl, w3⟩ := DataW.trod_int Try.underlying3 g3
  simp at e0 e1 e2 e3
  subst e0 e1 e2 e3
  exact ⟨_, _, _, _, rfl⟩
theorem open_state {r : Reach} {b0 : Nat} {v : Value} {d : DataW H} {p : List MemPlace} (hv : Value.okWide Try.prog w r b0 25 v) (h : DataW.Trod enc Try.prog w 0 spare held 25 v d p) :
    ∃ x0 : Int, v = .agg #[.int .i64 x0] ∧ -9223372036854775808 ≤ x0 ∧ x0 ≤ 9223372036854775807 := by
  obtain ⟨s0, z0, m2, rfl, rfl, rfl, k0⟩ := open_agg1 Try.underlying25 (by kernel_rfl) cells25 hv h
  obtain ⟨x4, e4, rfl, w4⟩ := DataW.trod_int Try.underlying3 k0
  simp at e4
  subst e4
  exact ⟨_, rfl, wf_bounds w4⟩
theorem open_pair {r : Reach} {b0 : Nat} {v : Value} {d : DataW H} {p : List MemPlace} (hv : Value.okWide Try.prog w r b0 42 v) (h : DataW.Trod enc Try.prog w 0 spare held 42 v d p) :
    ∃ x0 x1 : Int, v = .agg #[.int .i64 x0, .int .i64 x1] := by
  obtain ⟨cs, rfl, hsz⟩ := okWide_array Try.underlying42 hv
  obtain ⟨l⟩ := cs
  match l, hsz.trans (show Try.prog.cellsOf 42 = 2 by kernel_rfl) with
  | [c0, c1], _ =>
    obtain ⟨fuel, hf⟩ := h
    obtain ⟨xs, n, _, _, _, hlen, hg⟩ := DataW.trod_array Try.underlying42 hf
    have c3 : Try.prog.cellsOf 3 = 1 := by kernel_rfl
    match xs, hlen with
    | [y0, y1], _ =>
      have g0 := hg 0 (by omega)
      have g1 := hg 1 (by omega)
      rw [c3] at g0 g1
      simp [Value.cells] at g0 g1
      obtain ⟨x0, e0, _, _⟩ := DataW.trod_int Try.underlying3 g0
      obtain ⟨x1, e1, _, _⟩ := DataW.trod_int Try.underlying3 g1
      simp at e0 e1
      subst e0 e1
      exact ⟨_, _, rfl⟩
end

theorem clipI_mono {x y lo hi : Int} (h : x ≤ y) : clipI x lo hi ≤ clipI y lo hi := by unfold clipI; omega
theorem clipI_in {x lo hi : Int} (h1 : lo ≤ x) (h2 : x ≤ hi) : clipI x lo hi = x := by unfold clipI; omega
theorem stepS_bd (a b s e : Int) {c d : Int} (h1 : c ≤ 0) (h2 : 0 ≤ d) : c * 4096 ≤ stepS a b c d s e ∧ stepS a b c d s e ≤ d * 4096 := clipI_bd _ _ _ (by omega)
theorem stepO_bd (a b s e : Int) {c d : Int} (h1 : c ≤ 0) (h2 : 0 ≤ d) : c ≤ stepO a b c d s e ∧ stepO a b c d s e ≤ d := clipI_bd _ _ _ (by omega)
theorem eClip_0 : eClip 0 = 0 := by decide
theorem still_S {a b c d s : Int} (h1 : c * 4096 ≤ s) (h2 : s ≤ d * 4096) : stepS a b c d s 0 = s := by
  have ho : oldS c d s = s := clipI_in h1 h2
  unfold stepS
  rw [eClip_0, ho, if_neg (by omega), Int.mul_zero, Int.add_zero]
  exact clipI_in h1 h2
theorem still_O {a b c d s : Int} (h1 : c * 4096 ≤ s) (h2 : s ≤ d * 4096) : stepO a b c d s 0 = s / 4096 := by
  have ho : oldS c d s = s := clipI_in h1 h2
  unfold stepO stepU
  rw [eClip_0, ho, Int.mul_zero, Int.mul_zero, Int.add_zero, Int.add_zero]
  exact clipI_in (by omega) (by omega)
theorem stepO_mono_e {a b c d s e e' : Int} (ha : 0 ≤ a) (hb : 0 ≤ b) (h : e ≤ e') : stepO a b c d s e ≤ stepO a b c d s e' := by
  have he : eClip e ≤ eClip e' := clipI_mono h
  have h1 := Int.mul_le_mul_of_nonneg_left he ha
  have h2 := Int.mul_le_mul_of_nonneg_left he hb
  refine clipI_mono ?_
  have : stepU a b c d s e ≤ stepU a b c d s e' := by unfold stepU; omega
  omega
theorem stepO_mono_s {a b c d s s' e : Int} (h : s ≤ s') : stepO a b c d s e ≤ stepO a b c d s' e := by
  have he : oldS c d s ≤ oldS c d s' := clipI_mono h
  refine clipI_mono ?_
  have : stepU a b c d s e ≤ stepU a b c d s' e := by unfold stepU; omega
  omega
theorem stepO_low {a b c d s e : Int} (h1 : c ≤ 0) (h2 : 0 ≤ d) : stepO a b c d s e ≤ max c ((d * 4096 + (a + b) * eClip e) / 4096) := by
  have ho : oldS c d s ≤ d * 4096 := (clipI_bd s (c * 4096) (d * 4096) (by omega)).2
  have hu : stepU a b c d s e ≤ d * 4096 + (a + b) * eClip e := by unfold stepU; rw [Int.add_mul]; omega
  have : stepU a b c d s e / 4096 ≤ (d * 4096 + (a + b) * eClip e) / 4096 := by omega
  unfold stepO clipI
  omega
theorem stepO_high {a b c d s e : Int} (h1 : c ≤ 0) (h2 : 0 ≤ d) : min d ((c * 4096 + (a + b) * eClip e) / 4096) ≤ stepO a b c d s e := by
  have ho : c * 4096 ≤ oldS c d s := (clipI_bd s (c * 4096) (d * 4096) (by omega)).1
  have hu : c * 4096 + (a + b) * eClip e ≤ stepU a b c d s e := by unfold stepU; rw [Int.add_mul]; omega
  have : (c * 4096 + (a + b) * eClip e) / 4096 ≤ stepU a b c d s e / 4096 := by omega
  unfold stepO clipI
  omega
theorem preset_step {a b c d o e : Int} (h1 : c ≤ 0) (h2 : 0 ≤ d) (he1 : -16777216 ≤ e) (he2 : e ≤ 16777216) (h : presetS a b c d o e = clipI o c d * 4096 - (a + b) * e) : stepO a b c d (presetS a b c d o e) e = clipI o c d := by
  have hb := clipI_bd (clipI o c d * 4096 - (a + b) * eClip e) (c * 4096) (d * 4096) (by omega)
  have ho : oldS c d (presetS a b c d o e) = presetS a b c d o e := clipI_in hb.1 hb.2
  have hc : eClip e = e := clipI_in he1 he2
  have hd := clipI_bd o c d (by omega)
  unfold stepO stepU
  rw [ho, hc, h, Int.add_mul]
  rw [show clipI o c d * 4096 - (a * e + b * e) + b * e + a * e = clipI o c d * 4096 by omega, Int.mul_ediv_cancel _ (by omega)]
  exact clipI_in hd.1 hd.2
end Go.Proofs.Ythcnepmimoldhaa
