/- PiPresets: for every configuration, output and error the law returns true: Preset is the document's, and Step then returns the wanted output. No conditions. -/
import Derived.Test.YthcnepmimoldhaaE
import Derived.BigGuardPart
namespace Go.Proofs.Ythcnepmimoldhaa
open Go.ChangeShapes Go.WideShapes Go.ChangeAt Go.RowKit Go.Joins


set_option maxHeartbeats 1000000 in
theorem piPresets_bad (a b c d o e : Int) (w : World) (hok : ¬ okC a b c d) :
    Calls Try.prog 7 #[.agg #[.int .i64 a, .int .i64 b, .int .i64 c, .int .i64 d], .int .i64 o, .int .i64 e] w fun r w' => r = .returned (.bool true) ∧ Below w.heap.size w w' := by
  have HOK : Hid (¬ okC a b c d) := hok
  clear hok
  go_enter Try.func7, Try.ntmps7
  go_wp2_with (first
    | (go_at_call 8; refine (awake_any _).mono ?_; rintro e w1 ⟨rfl, hb1⟩; obtain ⟨hc1, hf1, hs1, hz1⟩ := ext_at (m := w.heap.size + 1) hb1 (by simp) (by simp))
    | (go_at_call 16; refine (preset_bad _ _ _ _ _ _ _ HOK.out).mono ?_; rintro e w2 ⟨rfl, hb2⟩; obtain ⟨hc2, hf2, hs2, hz2⟩ := ext_at (m := w.heap.size + 1) hb2 hz1 hz1)
    | (go_at_call 17; refine (rpreset_bad _ _ _ _ _ _ _ HOK.out).mono ?_; rintro e w3 ⟨rfl, hb3⟩; obtain ⟨hc3, hf3, hs3, hz3⟩ := ext_at (m := w2.heap.size + 1) hb3 (by simp) (by simp))
    | (go_at_call 11; refine (num_some _ _).mono ?_; rintro e w4 ⟨rfl, rfl⟩))
  go_quiet (fail)
  go_wp2
  go_ret
  refine ⟨rfl, ?_⟩
  have k1 := ext_trans (ext_alloc (Below.refl _ _) _) hb1
  have k2 := ext_alloc (ext_trans k1 hb2) (.cells #[.int .i64 0] 25)
  have k3 := ext_alloc (ext_trans k2 hb3) (.cells #[.int .i64 0] 25)
  exact ext_drewN k3 _

def wantB (a b c d o e : Int) : Bool := decide (-16777216 ≤ e ∧ e ≤ 16777216 ∧ presetS a b c d o e = clipI o c d * 4096 - (a + b) * e)

set_option maxHeartbeats 2000000 in
theorem piPresets_ok (a b c d o e : Int) (w : World) (hok : okC a b c d) :
    Calls Try.prog 7 #[.agg #[.int .i64 a, .int .i64 b, .int .i64 c, .int .i64 d], .int .i64 o, .int .i64 e] w fun r w' => r = .returned (.bool true) ∧ Below w.heap.size w w' := by
  have hok' := hok
  unfold okC at hok'
  obtain ⟨h1, h2, h3, h4, h5, h6, h7, h8⟩ := hok'
  have HOK : Hid (okC a b c d) := hok
  clear hok
  go_enter Try.func7, Try.ntmps7
  go_wp2_with (first
    | (go_at_call 8; refine (awake_any _).mono ?_; rintro e w1 ⟨rfl, hb1⟩; obtain ⟨hc1, hf1, hs1, hz1⟩ := ext_at (m := w.heap.size + 1) hb1 (by simp) (by simp))
    | (go_at_call 16; refine (preset_ok _ _ _ _ _ _ _ HOK.out).mono ?_; rintro e w2 ⟨rfl, hb2⟩; obtain ⟨hc2, hf2, hs2, hz2⟩ := ext_at (m := w.heap.size + 1) hb2 hz1 hz1)
    | (go_at_call 17; refine (rpreset_ok _ _ _ _ _ _ _ HOK.out).mono ?_; rintro e w3 ⟨rfl, hb3⟩; obtain ⟨hc3, hf3, hs3, hz3⟩ := ext_at (m := w2.heap.size + 1) hb3 (by simp) (by simp))
    | (go_at_call 11; refine (num_nil _).mono ?_; rintro e w4 ⟨rfl, rfl⟩))
  have k1 := ext_trans (ext_alloc (Below.refl _ _) _) hb1
  have k2 := ext_alloc (ext_trans k1 hb2) (.cells #[.int .i64 (presetS a b c d o e)] 25)
  have k3 := ext_alloc (ext_trans k2 hb3) (.cells #[.int .i64 (presetS a b c d o e)] 25)
  have q0 : w.heap.size < w3.heap.size := by omega
  have q1 : w2.heap.size < w3.heap.size := by omega
  have q2 : w.heap.size < w2.heap.size + 1 := by omega
  by_cases g1 : e < -16777216
  · go_quiet (fail)
    go_wp2
    go_ret
    exact ⟨rfl, ext_drewN k3 _⟩
  by_cases g2 : 16777216 < e
  · go_quiet (fail)
    go_wp2
    go_ret
    exact ⟨rfl, ext_drewN k3 _⟩
  have o1 := clipI_bd o c d (by omega)
  have b1 := gain2_bd (b := a + b) (e := e) (by omega) (by omega) (by omega) (by omega)
  by_cases g3 : presetS a b c d o e = clipI o c d * 4096 - (a + b) * e
  · have G3 : Hid (presetS a b c d o e = clipI o c d * 4096 - (a + b) * e) := g3
    have n3 : (presetS a b c d o e != clipI o c d * 4096 - (a + b) * e) = false := by simpa using g3
    have hst : (stepO a b c d (presetS a b c d o e) e == clipI o c d) = true := by simpa using preset_step h6 h7 (by omega) (by omega) g3
    clear g3
    go_quiet ((go_at_call 15; exact quiet_left (bclip_any _ _ _ _)))
    go_wp2_with (first
      | (go_at_call 9; refine (step_ok _ _ _ _ _ _ _ HOK.out).mono ?_; rintro e w5 ⟨rfl, hb5⟩; obtain ⟨hc5, hf5, hs5, hz5⟩ := ext_at (m := w3.heap.size + 1) hb5 (by simp) (by simp); have q5 : w.heap.size < w5.heap.size := (by omega); have q6 : w.heap.size < w3.heap.size + 1 := (by omega))
      | (go_at_call 15; refine (bclip_any _ _ _ _).mono ?_; rintro e w6 ⟨rfl, rfl⟩))
    go_ret
    exact ⟨rfl, ext_alloc (ext_trans (ext_drewN k3 _) hb5) _⟩
  · have n3 : (presetS a b c d o e != clipI o c d * 4096 - (a + b) * e) = true := by simpa using g3
    clear g3
    go_quiet ((go_at_call 15; exact quiet_left (bclip_any _ _ _ _)))
    go_wp2
    go_ret
    exact ⟨rfl, ext_drewN k3 _⟩

theorem piPresets_walk (a b c d o e : Int) (w : World) :
    Calls Try.prog 7 #[.agg #[.int .i64 a, .int .i64 b, .int .i64 c, .int .i64 d], .int .i64 o, .int .i64 e] w fun r w' => r = .returned (.bool true) ∧ Below w.heap.size w w' := by
  by_cases hok : okC a b c d
  · exact piPresets_ok a b c d o e w hok
  · exact piPresets_bad a b c d o e w hok

theorem piPresets_lifted (os : Os) (started : os.Started) (H : Type) (enc : TypeId × Value → H) :
    ReturnsInHanded {} Try.checked os 7 .any (Rows.piPresetsSpec.pre6 enc Try.prog Try.f7 Rows.piPresetsRow.domain false) (Rows.piPresetsSpec.post enc Try.prog Try.f7 false true false false) := by
  refine law_lift (C := Try.checked) (T := 4) own started (by kernel_rfl) Try.func7
    (ChangeSpec.witness6 (enc := enc) (C := Try.checked) false ⟨#[], #[.agg #[.int .i64 0, .int .i64 0, .int .i64 0, .int .i64 0], .int .i64 0, .int .i64 0], []⟩ 8 (by kernel_rfl) (by kernel_rfl) (by kernel_rfl) (by kernel_rfl))
    laidOut (by kernel_rfl) rfl Try.underlying4 (by kernel_rfl) ?_ ?_
  · intro ds h
    match ds, h with
    | [d1, d2, d3], _ => exact ⟨rfl, rfl, rfl⟩
  · intro W base args ds p hval0 hA0 _ hsz0
    have hval : ∀ (j : Nat) t v, Try.f7.params[j]? = some t → args[j]? = some v → Value.okWide Try.prog W .any base t v := hval0
    have hA : DataW.TrodAll enc Try.prog W 0 (fun _ => true) true Try.f7.params.toList args.toList ds p := hA0
    clear hsz0
    rw [Try.params7] at hA hval
    obtain ⟨v0, vs0, d0, ds0, p0, q0, hargs, rfl, rfl, h0, r0⟩ := trodAll_cons hA
    obtain ⟨v1, vs1, d1, ds1, p1, q1, rfl, rfl, rfl, h1, r1⟩ := trodAll_cons r0
    obtain ⟨v2, vs2, d2, ds2, p2, q2, rfl, rfl, rfl, h2, r2⟩ := trodAll_cons r1
    obtain ⟨rfl, rfl, rfl⟩ := trodAll_nil r2
    obtain rfl : args = #[v0, v1, v2] := by cases args; simp_all
    obtain ⟨x0, x1, x2, x3, rfl⟩ := open_cfg (hval 0 23 v0 rfl rfl) h0
    obtain ⟨o, rfl, rfl, rfl, wo⟩ := open_int Try.underlying3 (hval 1 3 v1 rfl rfl) h1
    have bo := wf_bounds wo
    obtain ⟨e, rfl, rfl, rfl, we⟩ := open_int Try.underlying3 (hval 2 3 v2 rfl rfl) h2
    have be := wf_bounds we
    exact piPresets_walk x0 x1 x2 x3 o e W

theorem piPresets_over : Rows.piPresetsRow.holds Try.pinned (OpenSpec.ofChange Rows.piPresetsSpec) :=
  OpenClaim.holds_of_wide 7 Try.f7 rfl rfl rfl rfl rfl rfl rfl ⟨rfl, rfl, rfl, rfl, rfl⟩ rfl rfl rfl rfl rfl (by kernel_rfl) Try.func7 (by kernel_rfl)
    (of_decide_eq_true (by kernel_rfl)) (by unfold Func.isWrapper; first | (rw [if_pos (by decide +kernel)]; kernel_rfl) | (rw [if_neg (by decide +kernel)]; exact ⟨rfl, rfl⟩))
    (fun os started H enc _ => piPresets_lifted os started H enc)

theorem piPresets_holds : Rows.PiPresetsSaid := piPresets_over
#print axioms piPresets_holds
end Go.Proofs.Ythcnepmimoldhaa
