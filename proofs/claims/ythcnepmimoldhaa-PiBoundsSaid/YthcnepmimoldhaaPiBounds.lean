/- PiBounds: for every configuration, state and list of errors the law returns true: outputs and integrals stay within their limits. No conditions. -/
import Derived.Test.YthcnepmimoldhaaE
import Derived.BigGuardPart
namespace Go.Proofs.Ythcnepmimoldhaa
open Go.ChangeShapes Go.WideShapes Go.ChangeAt Go.RowKit Go.Joins


def cfgAt (w : World) (n : Nat) (a b c d : Int) : Prop := w.cell? ⟨n, 0, none⟩ = some (.int .i64 a) ∧ w.cell? ⟨n, 1, none⟩ = some (.int .i64 b) ∧ w.cell? ⟨n, 2, none⟩ = some (.int .i64 c) ∧ w.cell? ⟨n, 3, none⟩ = some (.int .i64 d)
def pbRel (w : World) (a b c d : Int) (len : Nat) (i : Value) (wr : World) : Prop := ∃ (k : Nat) (sv : Int), k ≤ len ∧ i = .int .i64 k ∧ cfgAt wr w.heap.size a b c d ∧ wr.cell? ⟨w.heap.size + 1, 0, none⟩ = some (.int .i64 sv) ∧ wr.frozen? ⟨w.heap.size + 1, 0, none⟩ = false ∧ w.heap.size + 2 ≤ wr.heap.size ∧ Below w.heap.size w wr

set_option maxHeartbeats 2000000 in
theorem piBounds_bad (a b c d s : Int) (A : Option Addr) (n cap : Nat) (w : World) (hok : ¬ okC a b c d) :
    Calls Try.prog 4 #[.agg #[.int .i64 a, .int .i64 b, .int .i64 c, .int .i64 d], .agg #[.int .i64 s], .slice A n cap] w fun r w' => r = .returned (.bool true) ∧ Below w.heap.size w w' := by
  have HOK : Hid (¬ okC a b c d) := hok
  clear hok
  go_enter Try.func4, Try.ntmps4
  go_wp2_with (first
    | (go_at_call 13; refine (rcheck_bad HOK.out _).mono ?_; rintro e w1 ⟨rfl, hb1⟩)
    | (go_at_call 8; refine (awake_any _).mono ?_; rintro e w2 ⟨rfl, hb2⟩))
  go_ret
  exact ⟨rfl, ext_trans (ext_trans (ext_alloc (ext_alloc (Below.refl _ _) _) _) hb1) hb2⟩

set_option maxHeartbeats 2000000 in
theorem piBounds_long (a b c d s : Int) (A : Option Addr) (n cap : Nat) (w : World) (hok : okC a b c d) (hn : 60 < n) :
    Calls Try.prog 4 #[.agg #[.int .i64 a, .int .i64 b, .int .i64 c, .int .i64 d], .agg #[.int .i64 s], .slice A n cap] w fun r w' => r = .returned (.bool true) ∧ Below w.heap.size w w' := by
  have HOK : Hid (okC a b c d) := hok
  clear hok
  have hn1 : decide ((n : Int) ≤ 60) = false := by simp; omega
  have hn2 : (60 : Int) < (n : Int) := by omega
  go_enter Try.func4, Try.ntmps4
  go_wp2_with (first
    | (go_at_call 13; refine (rcheck_ok HOK.out _).mono ?_; rintro e w1 ⟨rfl, hb1⟩)
    | (go_at_call 8; refine (awake_any _).mono ?_; rintro e w2 ⟨rfl, hb2⟩))
  go_ret
  exact ⟨rfl, ext_trans (ext_trans (ext_alloc (ext_alloc (Below.refl _ _) _) _) hb1) hb2⟩

set_option maxRecDepth 100000 in
set_option maxHeartbeats 4000000 in
theorem piBounds_ok (a b c d s : Int) (A : Option Addr) (zs : List Int) (cap : Nat) (w : World) (hok : okC a b c d) (hn : zs.length ≤ 60) (hA : CellsAt w w.heap.size A (ints zs)) :
    Calls Try.prog 4 #[.agg #[.int .i64 a, .int .i64 b, .int .i64 c, .int .i64 d], .agg #[.int .i64 s], .slice A zs.length cap] w fun r w' => r = .returned (.bool true) ∧ Below w.heap.size w w' := by
  have hok' := hok
  unfold okC at hok'
  obtain ⟨h1, h2, h3, h4, h5, h6, h7, h8⟩ := hok'
  have HOK : Hid (okC a b c d) := hok
  clear hok
  have HA : Hid (CellsAt w w.heap.size A (ints zs)) := hA
  clear hA
  go_enter Try.func4, Try.ntmps4
  go_wp2_with (first
    | (go_at_call 13; refine (rcheck_ok HOK.out _).mono ?_; rintro e w1 ⟨rfl, hb1⟩; obtain ⟨hc1, hf1, hs1, hz1⟩ := ext_at (m := w.heap.size + 2) hb1 (by simp) (by simp))
    | (go_at_call 8; refine (awake_any _).mono ?_; rintro e w2 ⟨rfl, hb2⟩; obtain ⟨hc2, hf2, hs2, hz2⟩ := ext_at (m := w.heap.size + 2) hb2 hz1 hz1))
  go_loopw [30] (fun i wr => pbRel w a b c d zs.length i wr) (fun i _ => zs.length - (intOf i).toNat)
  case atStart =>
    refine ⟨0, s, by omega, rfl, ⟨?_, ?_, ?_, ?_⟩, ?_, ?_, hz2, ext_trans (ext_trans (ext_alloc (ext_alloc (Below.refl _ _) _) _) hb1) hb2⟩ <;> go_simp
  case round =>
    obtain ⟨k, sv, hk, rfl, ⟨c0, c1, c2, c3⟩, hs, hfs, hz, hb⟩ := hrel
    clear hc1 hf1 hs1 hz1 hc2 hf2 hs2 hz2 hb1 hb2 w2 w1
    by_cases hlt : k < zs.length
    · obtain ⟨blk, off, z, rfl, hbm, hbs, hzk, hcz⟩ := HA.out.int_ hlt
      have hcz' : wr.cell? ⟨blk, off + k, none⟩ = some (.int .i64 z) := (hb.cell (p := ⟨blk, off + k, none⟩) hbm).trans hcz
      have z0 : w.heap.size < wr.heap.size := by omega
      have z1 : w.heap.size + 1 < wr.heap.size := by omega
      have so := stepO_bd a b sv z h6 h7
      have ss := stepS_bd a b sv z h6 h7
      have HS := still_S (a := a) (b := b) ss.1 ss.2
      have HO := still_O (a := a) (b := b) ss.1 ss.2
      have bss : -68719476736 ≤ stepS a b c d sv z ∧ stepS a b c d sv z ≤ 68719476736 := by omega
      clear hcz hzk
      have HHS : Hid (stepS a b c d (stepS a b c d sv z) 0 = stepS a b c d sv z) := HS
      have HHO : Hid (stepO a b c d (stepS a b c d sv z) 0 = stepS a b c d sv z / 4096) := HO
      have e1 : (stepS a b c d (stepS a b c d sv z) 0 != stepS a b c d sv z) = false := by rw [HS]; simp
      have e2 : (stepO a b c d (stepS a b c d sv z) 0 != stepS a b c d sv z / 4096) = false := by rw [HO]; simp
      clear HS HO
      go_wp2_with fail
      refine (step_ok _ _ _ _ _ _ _ HOK.out).mono ?_
      rintro e w3 ⟨rfl, hb3⟩
      obtain ⟨hc3, hf3, hs3, hz3⟩ := ext_at (m := w.heap.size + 2) hb3 hz hz
      have q30 : w.heap.size < w3.heap.size := by omega
      have q31 : w.heap.size + 1 < w3.heap.size := by omega
      go_wp2_with fail
      refine (step_ok _ _ _ _ _ _ _ HOK.out).mono ?_
      rintro e w4 ⟨rfl, hb4⟩
      obtain ⟨hc4, hf4, hs4, hz4⟩ := ext_at (m := w3.heap.size + 1) hb4 (by simp) (by simp)
      have q40 : w.heap.size < w4.heap.size := by omega
      have q41 : w.heap.size + 1 < w4.heap.size := by omega
      have q42 : w3.heap.size < w4.heap.size := by omega
      have q43 : w.heap.size < w3.heap.size + 1 := by omega
      have q44 : w.heap.size + 1 < w3.heap.size + 1 := by omega
      go_wp2_with (go_at_call 14; refine (div_any _ _ (by omega) (by omega)).mono ?_; rintro e w5 ⟨rfl, rfl⟩)
      have k3 := ext_alloc (hb.trans (hb3.mono (by omega))) (.cells #[.int .i64 (stepS a b c d sv z)] 25)
      have k4 := k3.trans (hb4.mono (by simp; omega))
      refine ⟨⟨k + 1, stepS a b c d sv z, by omega, by go_num, ⟨?_, ?_, ?_, ?_⟩, ?_, ?_, ?_, ?_⟩, by simp [intOf]; omega⟩
      · go_simp
      · go_simp
      · go_simp
      · go_simp
      · go_simp
      · go_simp
      · simp; omega
      · exact ext_alloc (ext_set k4 (by simp) _) _
    · go_wp2
      go_ret
      exact ⟨rfl, hb⟩

theorem piBounds_walk (a b c d s : Int) (A : Option Addr) (zs : List Int) (cap : Nat) (w : World) (hA : CellsAt w w.heap.size A (ints zs)) :
    Calls Try.prog 4 #[.agg #[.int .i64 a, .int .i64 b, .int .i64 c, .int .i64 d], .agg #[.int .i64 s], .slice A zs.length cap] w fun r w' => r = .returned (.bool true) ∧ Below w.heap.size w w' := by
  by_cases hok : okC a b c d
  · by_cases hn : zs.length ≤ 60
    · exact piBounds_ok a b c d s A zs cap w hok hn hA
    · exact piBounds_long a b c d s A _ cap w hok (by omega)
  · exact piBounds_bad a b c d s A _ cap w hok

theorem piBounds_lifted (os : Os) (started : os.Started) (H : Type) (enc : TypeId × Value → H) :
    ReturnsInHanded {} Try.checked os 4 .any (Rows.piBoundsSpec.pre6 enc Try.prog Try.f4 Rows.piBoundsRow.domain false) (Rows.piBoundsSpec.post enc Try.prog Try.f4 false true false false) := by
  refine law_lift (C := Try.checked) (T := 4) own started (by kernel_rfl) Try.func4
    (ChangeSpec.witness6 (enc := enc) (C := Try.checked) false ⟨#[], #[.agg #[.int .i64 0, .int .i64 0, .int .i64 0, .int .i64 0], .agg #[.int .i64 0], .slice none 0 0], []⟩ 8 (by kernel_rfl) (by kernel_rfl) (by kernel_rfl) (by kernel_rfl))
    laidOut (by kernel_rfl) rfl Try.underlying4 (by kernel_rfl) ?_ ?_
  · intro ds h
    match ds, h with
    | [d1, d2, d3], _ => exact ⟨rfl, rfl, rfl⟩
  · intro W base args ds p hval0 hA0 _ hsz0
    have hval : ∀ (j : Nat) t v, Try.f4.params[j]? = some t → args[j]? = some v → Value.okWide Try.prog W .any base t v := hval0
    have hA : DataW.TrodAll enc Try.prog W 0 (fun _ => true) true Try.f4.params.toList args.toList ds p := hA0
    clear hsz0
    rw [Try.params4] at hA hval
    obtain ⟨v0, vs0, d0, ds0, p0, q0, hargs, rfl, rfl, h0, r0⟩ := trodAll_cons hA
    obtain ⟨v1, vs1, d1, ds1, p1, q1, rfl, rfl, rfl, h1, r1⟩ := trodAll_cons r0
    obtain ⟨v2, vs2, d2, ds2, p2, q2, rfl, rfl, rfl, h2, r2⟩ := trodAll_cons r1
    obtain ⟨rfl, rfl, rfl⟩ := trodAll_nil r2
    obtain rfl : args = #[v0, v1, v2] := by cases args; simp_all
    obtain ⟨x0, x1, x2, x3, rfl⟩ := open_cfg (hval 0 23 v0 rfl rfl) h0
    obtain ⟨s, rfl, bs1, bs2⟩ := open_state (hval 1 25 v1 rfl rfl) h1
    obtain ⟨A, cap, zs, rfl, hcap, hmax, hcells, hzs⟩ := ints_of Try.underlying37 Try.underlying3 (by kernel_rfl) (hval 2 37 v2 rfl rfl) h2
    exact piBounds_walk x0 x1 x2 x3 s A zs cap W hcells

theorem piBounds_over : Rows.piBoundsRow.holds Try.pinned (OpenSpec.ofChange Rows.piBoundsSpec) :=
  OpenClaim.holds_of_wide 4 Try.f4 rfl rfl rfl rfl rfl rfl rfl ⟨rfl, rfl, rfl, rfl, rfl⟩ rfl rfl rfl rfl rfl (by kernel_rfl) Try.func4 (by kernel_rfl)
    (of_decide_eq_true (by kernel_rfl)) (by unfold Func.isWrapper; first | (rw [if_pos (by decide +kernel)]; kernel_rfl) | (rw [if_neg (by decide +kernel)]; exact ⟨rfl, rfl⟩))
    (fun os started H enc _ => piBounds_lifted os started H enc)

theorem piBounds_holds : Rows.PiBoundsSaid := piBounds_over
#print axioms piBounds_holds
end Go.Proofs.Ythcnepmimoldhaa
