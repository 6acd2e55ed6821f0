/- PiReturns: for every configuration, list of errors and last error the law returns true: there is no windup. No conditions. -/
import Derived.Test.YthcnepmimoldhaaE
import Derived.BigGuardPart
namespace Go.Proofs.Ythcnepmimoldhaa
open Go.ChangeShapes Go.WideShapes Go.ChangeAt Go.RowKit Go.Joins


def cfgAt (w : World) (n : Nat) (a b c d : Int) : Prop := w.cell? ⟨n, 0, none⟩ = some (.int .i64 a) ∧ w.cell? ⟨n, 1, none⟩ = some (.int .i64 b) ∧ w.cell? ⟨n, 2, none⟩ = some (.int .i64 c) ∧ w.cell? ⟨n, 3, none⟩ = some (.int .i64 d)
def prRel (w : World) (B : Nat) (a b c d : Int) (len : Nat) (i : Value) (wr : World) : Prop := ∃ (k : Nat) (sv : Int), k ≤ len ∧ i = .int .i64 k ∧ cfgAt wr w.heap.size a b c d ∧ wr.cell? ⟨B, 0, none⟩ = some (.int .i64 sv) ∧ wr.frozen? ⟨B, 0, none⟩ = false ∧ B + 1 ≤ wr.heap.size ∧ Below w.heap.size w wr

set_option maxHeartbeats 2000000 in
theorem piReturns_bad (a b c d e : Int) (A : Option Addr) (n cap : Nat) (w : World) (hok : ¬ okC a b c d) :
    Calls Try.prog 5 #[.agg #[.int .i64 a, .int .i64 b, .int .i64 c, .int .i64 d], .slice A n cap, .int .i64 e] w fun r w' => r = .returned (.bool true) ∧ Below w.heap.size w w' := by
  have HOK : Hid (¬ okC a b c d) := hok
  clear hok
  go_enter Try.func5, Try.ntmps5
  go_wp2_with (first
    | (go_at_call 13; refine (rcheck_bad HOK.out _).mono ?_; rintro e w1 ⟨rfl, hb1⟩)
    | (go_at_call 8; refine (awake_any _).mono ?_; rintro e w2 ⟨rfl, hb2⟩))
  go_ret
  exact ⟨rfl, ext_trans (ext_trans (ext_alloc (Below.refl _ _) _) hb1) hb2⟩

set_option maxHeartbeats 2000000 in
theorem piReturns_long (a b c d e : Int) (A : Option Addr) (n cap : Nat) (w : World) (hok : okC a b c d) (hn : 60 < n) :
    Calls Try.prog 5 #[.agg #[.int .i64 a, .int .i64 b, .int .i64 c, .int .i64 d], .slice A n cap, .int .i64 e] w fun r w' => r = .returned (.bool true) ∧ Below w.heap.size w w' := by
  have HOK : Hid (okC a b c d) := hok
  clear hok
  have hn1 : decide ((n : Int) ≤ 60) = false := by simp; omega
  have hn2 : (60 : Int) < (n : Int) := by omega
  go_enter Try.func5, Try.ntmps5
  go_wp2_with (first
    | (go_at_call 13; refine (rcheck_ok HOK.out _).mono ?_; rintro e w1 ⟨rfl, hb1⟩)
    | (go_at_call 8; refine (awake_any _).mono ?_; rintro e w2 ⟨rfl, hb2⟩))
  go_ret
  exact ⟨rfl, ext_trans (ext_trans (ext_alloc (Below.refl _ _) _) hb1) hb2⟩

set_option maxRecDepth 100000 in
set_option maxHeartbeats 4000000 in
theorem piReturns_ok (a b c d e : Int) (A : Option Addr) (zs : List Int) (cap : Nat) (w : World) (hok : okC a b c d) (hn : zs.length ≤ 60) (hA : CellsAt w w.heap.size A (ints zs)) :
    Calls Try.prog 5 #[.agg #[.int .i64 a, .int .i64 b, .int .i64 c, .int .i64 d], .slice A zs.length cap, .int .i64 e] w fun r w' => r = .returned (.bool true) ∧ Below w.heap.size w w' := by
  have hok' := hok
  unfold okC at hok'
  obtain ⟨h1, h2, h3, h4, h5, h6, h7, h8⟩ := hok'
  have HOK : Hid (okC a b c d) := hok
  clear hok
  have HA : Hid (CellsAt w w.heap.size A (ints zs)) := hA
  clear hA
  go_enter Try.func5, Try.ntmps5
  go_wp2_with (first
    | (go_at_call 13; refine (rcheck_ok HOK.out _).mono ?_; rintro e w1 ⟨rfl, hb1⟩; obtain ⟨hc1, hf1, hs1, hz1⟩ := ext_at (m := w.heap.size + 1) hb1 (by simp) (by simp))
    | (go_at_call 8; refine (awake_any _).mono ?_; rintro e w2 ⟨rfl, hb2⟩; obtain ⟨hc2, hf2, hs2, hz2⟩ := ext_at (m := w.heap.size + 1) hb2 hz1 hz1; have q2 : w.heap.size < w2.heap.size := (by omega)))
  have K2 : Below w.heap.size w w2 := ext_trans (ext_trans (ext_alloc (Below.refl _ _) _) hb1) hb2
  go_loopw [32] (fun i wr => prRel w w2.heap.size a b c d zs.length i wr) (fun i _ => zs.length - (intOf i).toNat)
  case atStart =>
    refine ⟨0, 0, by omega, rfl, ⟨?_, ?_, ?_, ?_⟩, ?_, ?_, by simp, ext_alloc K2 _⟩ <;> go_simp
  case round =>
    obtain ⟨k, sv, hk, rfl, ⟨c0, c1, c2, c3⟩, hs, hfs, hz, hb⟩ := hrel
    have z2 : w.heap.size < w2.heap.size := q2
    have n2 : w2.heap.size ≠ w.heap.size := by omega
    have n3 : w.heap.size ≠ w2.heap.size := by omega
    clear hc1 hf1 hs1 hz1 hc2 hf2 hs2 hb1 hb2 q2
    have z0 : w.heap.size < wr.heap.size := by omega
    have z1 : w2.heap.size < wr.heap.size := by omega
    by_cases hlt : k < zs.length
    · obtain ⟨blk, off, z, rfl, hbm, hbs, hzk, hcz⟩ := HA.out.int_ hlt
      have hcz' : wr.cell? ⟨blk, off + k, none⟩ = some (.int .i64 z) := (hb.cell (p := ⟨blk, off + k, none⟩) hbm).trans hcz
      clear hcz hzk
      go_wp2_with fail
      refine (step_ok _ _ _ _ _ _ _ HOK.out).mono ?_
      rintro e w3 ⟨rfl, hb3⟩
      obtain ⟨hc3, hf3, hs3, hz3⟩ := ext_at (m := wr.heap.size) hb3 (Nat.le_refl _) (Nat.le_refl _)
      have q30 : w.heap.size < w3.heap.size := by omega
      have q31 : w2.heap.size < w3.heap.size := by omega
      go_wp2_with fail
      have k3 := ext_alloc (hb.trans (hb3.mono (by omega))) (.cells #[.int .i64 (stepS a b c d sv z)] 25)
      refine ⟨⟨k + 1, stepS a b c d sv z, by omega, by go_num, ⟨?_, ?_, ?_, ?_⟩, ?_, ?_, ?_, ?_⟩, by simp [intOf]; omega⟩
      · go_simp
      · go_simp
      · go_simp
      · go_simp
      · go_simp
      · go_simp
      · simp; omega
      · exact ext_alloc ((hb.trans (hb3.mono (by omega))).setCell (p := ⟨w2.heap.size, 0, none⟩) (Nat.le_of_lt z2) _) _
    · have ec := clipI_bd e (-16777216) 16777216 (by omega)
      have bg := gain2_bd (b := a + b) (e := clipI e (-16777216) 16777216) (by omega) (by omega) ec.1 ec.2
      have lo : stepO a b c d sv e ≤ max c ((d * 4096 + (a + b) * clipI e (-16777216) 16777216) / 4096) := stepO_low h6 h7
      have hi : min d ((c * 4096 + (a + b) * clipI e (-16777216) 16777216) / 4096) ≤ stepO a b c d sv e := stepO_high h6 h7
      go_wp2_with fail
      refine (step_ok _ _ _ _ _ _ _ HOK.out).mono ?_
      rintro e w3 ⟨rfl, hb3⟩
      obtain ⟨hc3, hf3, hs3, hz3⟩ := ext_at (m := wr.heap.size) hb3 (Nat.le_refl _) (Nat.le_refl _)
      have q30 : w.heap.size < w3.heap.size := by omega
      have q31 : w2.heap.size < w3.heap.size := by omega
      have k3 := ext_alloc (hb.trans (hb3.mono (by omega))) (.cells #[.int .i64 (stepS a b c d sv e)] 25)
      go_wp2_with (go_at_call 15; refine (bclip_any _ _ _ _).mono ?_; rintro e w6 ⟨rfl, rfl⟩)
      · go_quiet ((go_at_call 14; exact quiet_left (div_any _ _ (by omega) (by omega))))
        go_wp2
        go_ret
        exact ⟨rfl, ext_drewN k3 _⟩
      · go_quiet ((go_at_call 14; exact quiet_left (div_any _ _ (by omega) (by omega))))
        go_wp2
        go_ret
        exact ⟨rfl, ext_drewN k3 _⟩

theorem piReturns_walk (a b c d e : Int) (A : Option Addr) (zs : List Int) (cap : Nat) (w : World) (hA : CellsAt w w.heap.size A (ints zs)) :
    Calls Try.prog 5 #[.agg #[.int .i64 a, .int .i64 b, .int .i64 c, .int .i64 d], .slice A zs.length cap, .int .i64 e] w fun r w' => r = .returned (.bool true) ∧ Below w.heap.size w w' := by
  by_cases hok : okC a b c d
  · by_cases hn : zs.length ≤ 60
    · exact piReturns_ok a b c d e A zs cap w hok hn hA
    · exact piReturns_long a b c d e A _ cap w hok (by omega)
  · exact piReturns_bad a b c d e A _ cap w hok

theorem piReturns_lifted (os : Os) (started : os.Started) (H : Type) (enc : TypeId × Value → H) :
    ReturnsInHanded {} Try.checked os 5 .any (Rows.piReturnsSpec.pre6 enc Try.prog Try.f5 Rows.piReturnsRow.domain false) (Rows.piReturnsSpec.post enc Try.prog Try.f5 false true false false) := by
  refine law_lift (C := Try.checked) (T := 4) own started (by kernel_rfl) Try.func5
    (ChangeSpec.witness6 (enc := enc) (C := Try.checked) false ⟨#[], #[.agg #[.int .i64 0, .int .i64 0, .int .i64 0, .int .i64 0], .slice none 0 0, .int .i64 0], []⟩ 8 (by kernel_rfl) (by kernel_rfl) (by kernel_rfl) (by kernel_rfl))
    laidOut (by kernel_rfl) rfl Try.underlying4 (by kernel_rfl) ?_ ?_
  · intro ds h
    match ds, h with
    | [d1, d2, d3], _ => exact ⟨rfl, rfl, rfl⟩
  · intro W base args ds p hval0 hA0 _ hsz0
    have hval : ∀ (j : Nat) t v, Try.f5.params[j]? = some t → args[j]? = some v → Value.okWide Try.prog W .any base t v := hval0
    have hA : DataW.TrodAll enc Try.prog W 0 (fun _ => true) true Try.f5.params.toList args.toList ds p := hA0
    clear hsz0
    rw [Try.params5] at hA hval
    obtain ⟨v0, vs0, d0, ds0, p0, q0, hargs, rfl, rfl, h0, r0⟩ := trodAll_cons hA
    obtain ⟨v1, vs1, d1, ds1, p1, q1, rfl, rfl, rfl, h1, r1⟩ := trodAll_cons r0
    obtain ⟨v2, vs2, d2, ds2, p2, q2, rfl, rfl, rfl, h2, r2⟩ := trodAll_cons r1
    obtain ⟨rfl, rfl, rfl⟩ := trodAll_nil r2
    obtain rfl : args = #[v0, v1, v2] := by cases args; simp_all
    obtain ⟨x0, x1, x2, x3, rfl⟩ := open_cfg (hval 0 23 v0 rfl rfl) h0
    obtain ⟨A, cap, zs, rfl, hcap, hmax, hcells, hzs⟩ := ints_of Try.underlying37 Try.underlying3 (by kernel_rfl) (hval 1 37 v1 rfl rfl) h1
    obtain ⟨e, rfl, rfl, rfl, we⟩ := open_int Try.underlying3 (hval 2 3 v2 rfl rfl) h2
    have be := wf_bounds we
    exact piReturns_walk x0 x1 x2 x3 e A zs cap W hcells

theorem piReturns_over : Rows.piReturnsRow.holds Try.pinned (OpenSpec.ofChange Rows.piReturnsSpec) :=
  OpenClaim.holds_of_wide 5 Try.f5 rfl rfl rfl rfl rfl rfl rfl ⟨rfl, rfl, rfl, rfl, rfl⟩ rfl rfl rfl rfl rfl (by kernel_rfl) Try.func5 (by kernel_rfl)
    (of_decide_eq_true (by kernel_rfl)) (by unfold Func.isWrapper; first | (rw [if_pos (by decide +kernel)]; kernel_rfl) | (rw [if_neg (by decide +kernel)]; exact ⟨rfl, rfl⟩))
    (fun os started H enc _ => piReturns_lifted os started H enc)

theorem piReturns_holds : Rows.PiReturnsSaid := piReturns_over
#print axioms piReturns_holds
end Go.Proofs.Ythcnepmimoldhaa
