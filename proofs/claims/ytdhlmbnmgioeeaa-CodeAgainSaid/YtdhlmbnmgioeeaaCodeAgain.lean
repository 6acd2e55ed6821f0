/- CodeAgain: for every list of numbers the law returns true: a counter that adds its input each time has the sum of the inputs, until it overflows and stays at the end. No conditions. -/
import Derived.Test.YtdhlmbnmgioeeaaCdU
namespace Go.Proofs.Ytdhlmbnmgioeeaa
set_option linter.unusedVariables false
set_option linter.unusedSimpArgs false
set_option linter.unusedSectionVars false
open Go.ChangeShapes Go.WideShapes Go.ChangeAt Go.RowKit Go.Joins

set_option maxRecDepth 100000 in
set_option maxHeartbeats 2000000 in
theorem again_long (A : Option Addr) (zs : List Int) (c : Nat) (w : World) (hl : 100 < zs.length) :
    Calls Try.prog 6 #[.slice A zs.length c] w fun e w' => e = .returned (.bool true) ∧ Below w.heap.size w w' := by
  have h1 : (100 : Int) < (zs.length : Int) := by omega
  have h2 : decide ((100 : Int) < (zs.length : Int)) = true := by simp; omega
  clear hl
  go_enter Try.func6, Try.ntmps6
  go_wp2_with fail
  go_at_call 10
  refine (awake_any _).mono ?_
  rintro e w1 ⟨rfl, hb1⟩
  go_wp2_with fail
  go_at_call 10
  refine (awake_any _).mono ?_
  rintro e w2 ⟨rfl, hb2⟩
  go_wp2_with fail
  go_ret
  exact ⟨rfl, hb1.trans (hb2.mono hb1.size)⟩

def vpA (n : Nat) : List Value := [.slice (some ⟨n, 0, none⟩) 1 1, .slice (some ⟨n + 1, 0, none⟩) 2 2, .slice (some ⟨n + 1 + 1 + 1, 0, none⟩) 2 2, .slice (some ⟨n + 1 + 1, 0, none⟩) 1 1]
def agRel (w wB : World) (n : Nat) (len : Nat) (i v4 v6 : Value) (wr : World) : Prop :=
  ∃ (k : Nat) (A : Option Addr) (c : Nat) (x sm : Int), k ≤ len ∧ i = .int .i64 k ∧ v4 = .slice A 2 c ∧ v6 = .int .i64 sm ∧ (A = none → c = 0) ∧ shortB x = true ∧ shortB sm = true ∧ CellsAt wr wr.heap.size A (ints [x, sm]) ∧
    Cx wB wr [.slice (some ⟨n, 0, none⟩) 1 1, .slice (some ⟨n + 1, 0, none⟩) 2 2, .slice (some ⟨n + 1 + 1 + 1, 0, none⟩) 2 2, .slice (some ⟨n + 1 + 1, 0, none⟩) 1 1] (some ⟨n, 0, none⟩) (some ⟨n + 1, 0, none⟩) (some ⟨n + 1 + 1 + 1, 0, none⟩) (some ⟨n + 1 + 1, 0, none⟩) agP [0, 0] agX [1] ∧ Below w.heap.size w wr

set_option maxRecDepth 100000 in
set_option maxHeartbeats 4000000 in
theorem again_good (A : Option Addr) (zs : List Int) (c : Nat) (w : World) (hl : zs.length ≤ 100) (hz : ∀ z ∈ zs, -2147483648 ≤ z ∧ z ≤ 2147483647) (hA : CellsAt w w.heap.size A (i32s zs)) :
    Calls Try.prog 6 #[.slice A zs.length c] w fun e w' => e = .returned (.bool true) ∧ Below w.heap.size w w' := by
  have h1 : ¬ (100 : Int) < (zs.length : Int) := by omega
  have h2 : decide ((100 : Int) < (zs.length : Int)) = false := by simp; omega
  have HZ := Lib.hid hz
  have HA := Lib.hid hA
  clear hz hA
  go_enter Try.func6, Try.ntmps6
  go_wp2_with fail
  go_at_call 10
  refine (awake_any _).mono ?_
  rintro e w1 ⟨rfl, hb1⟩
  go_wp2_with fail
  go_at_call 19
  obtain ⟨wB, hB, hBs, hBb, N1, N2, N3, N4⟩ := new4 w1 (flat Prt.cells agP) (ints [0, 0]) (ints [1]) (flat Ins.cells agX) 53 3 3 49
  have K0 := Lib.hid (Cx.start ⟨N1, N2, N4, N3⟩ [.slice (some ⟨w1.heap.size, 0, none⟩) 1 1, .slice (some ⟨w1.heap.size + 1, 0, none⟩) 2 2, .slice (some ⟨w1.heap.size + 1 + 1 + 1, 0, none⟩) 2 2, .slice (some ⟨w1.heap.size + 1 + 1, 0, none⟩) 1 1] 26)
  obtain ⟨W0, hW0⟩ : ∃ W0, W0 = ((((w1.alloc (.cells #[.int .i64 (-2147483648), .int .i64 2147483647, .int .i64 0] 53)).alloc (.cells #[.int .i64 0, .int .i64 0] 3)).alloc (.cells #[.int .i64 1] 3)).alloc (.cells #[.int .i64 0, .int .i64 0, .int .i64 0, .int .i64 0, .int .i64 0, .int .i64 0, .int .i64 0, .int .i64 3, .int .i64 1, .int .i64 0, .int .i64 1, .int .i64 0, .int .i64 0, .int .i64 0] 49)).alloc (.cells #[.slice (some ⟨w1.heap.size, 0, none⟩) 1 1, .slice (some ⟨w1.heap.size + 1, 0, none⟩) 2 2, .slice (some ⟨w1.heap.size + 1 + 1 + 1, 0, none⟩) 2 2, .slice (some ⟨w1.heap.size + 1 + 1, 0, none⟩) 1 1] 26) := ⟨_, rfl⟩
  rw [← hW0]
  have e0 : W0 = wB.alloc (.cells [.slice (some ⟨w1.heap.size, 0, none⟩) 1 1, .slice (some ⟨w1.heap.size + 1, 0, none⟩) 2 2, .slice (some ⟨w1.heap.size + 1 + 1 + 1, 0, none⟩) 2 2, .slice (some ⟨w1.heap.size + 1 + 1, 0, none⟩) 1 1].toArray 26) := hW0.trans (by rw [hB]; rfl)
  rw [← e0] at K0
  have hW : Below w.heap.size w W0 := hb1.trans ((hBb.mono hb1.size).trans (K0.out.bel.mono (by have := hb1.size; omega)))
  have hsw : wB.heap.size = w1.heap.size + 1 + 1 + 1 + 1 := hBs
  clear hW0 e0 hB N1 N2 N3 N4 hBb hb1
  refine (start_any (some ⟨w1.heap.size, 0, none⟩) (some ⟨w1.heap.size + 1, 0, none⟩) (some ⟨w1.heap.size + 1 + 1 + 1, 0, none⟩) (some ⟨w1.heap.size + 1 + 1, 0, none⟩) agP [0, 0] agX [1] 1 2 2 1 wB.heap.size _ K0.out.le K0.out.prog.p K0.out.prog.i K0.out.prog.x K0.out.prog.o (by simp)).mono ?_
  rintro e w2 ⟨S, sc, rfl, hSn, hS, hb⟩
  rw [show startM agP [0, 0] agX [1] = [0, 0] from if_pos ag_err] at hS
  rw [show startM agP [0, 0] agX [1] = [0, 0] from if_pos ag_err, ag_err, errV_0]
  have K1 := Lib.hid (K0.out.next hb)
  have HW1 := Lib.hid (hW.trans (hb.mono hW.size))
  have HS := Lib.hid hS
  clear hb hS hW
  go_wp2_with fail
  clear K0
  go_loopw [4, 6, 37] (fun v4 v6 i wr => agRel w wB w1.heap.size zs.length i v4 v6 wr) (fun _ _ i _ => zs.length - (intOf i).toNat)
  case atStart => exact ⟨0, S, sc, 0, 0, Nat.zero_le _, rfl, rfl, rfl, hSn, by decide, by decide, HS.out, K1.out, HW1.out⟩
  case round =>
    as_aux_lemma =>
    clear HS K1 HW1
    obtain ⟨k, V, vc, x, sm, hk, rfl, rfl, rfl, hVn, hx, hs, hV, hK, hb⟩ := hrel
    have K1 := Lib.hid hK
    have HB := Lib.hid hb
    have HV := Lib.hid hV
    have HX := Lib.hid hx
    have HSM := Lib.hid hs
    have f0 := hK.box.c0
    have f1 := hK.box.c1
    have f2 := hK.box.c2
    have f3 := hK.box.c3
    rw [hsw] at f0 f1 f2 f3
    have z0 : w1.heap.size + 1 + 1 + 1 + 1 < wr.heap.size := by have := hK.box.1; omega
    clear hK hb hV hx hs
    by_cases hlt : k < zs.length
    · obtain ⟨b, off, n, rfl, hbm, hbs, hzk, hc⟩ := HA.out.i32_ hlt
      have hc' := (HB.out.cell (p := ⟨b, off + k, none⟩) hbm).trans hc
      have bn := HZ.out n (List.mem_of_getElem? hzk)
      have HN := Lib.hid (short_of bn.1 bn.2)
      clear hc hzk
      go_wp2_with fail
      go_at_call 12
      have ha : Below wr.heap.size wr (wr.alloc (.cells #[.int .i64 n] 3)) := (Below.refl _ wr).alloc (Nat.le_refl _) _
      have hn1 := Blk.new wr [.int .i64 n] 3 wr.heap.size rfl
      have hle := K1.out.le
      obtain ⟨hr, he⟩ := ag_run HX.out HSM.out HN.out
      obtain ⟨u, hu⟩ : ∃ u, u = cut32 (n + sm) := ⟨_, rfl⟩
      obtain ⟨ov, hov⟩ : ∃ ov, ov = !shortB (n + sm) := ⟨_, rfl⟩
      rw [← hu, ← hov] at hr
      have Q2 := K1.out.alloc (.cells #[.int .i64 n] 3)
      refine (run_any (some ⟨w1.heap.size, 0, none⟩) (some ⟨w1.heap.size + 1, 0, none⟩) (some ⟨w1.heap.size + 1 + 1 + 1, 0, none⟩) (some ⟨w1.heap.size + 1 + 1, 0, none⟩) V (some ⟨wr.heap.size, 0, none⟩) agP [0, 0] agX [1] [x, sm] [n] 1 2 2 1 vc 1 (wr.heap.size + 1) _ (by simp) (Q2.prog.p.more (by omega)) (Q2.prog.i.more (by omega)) (Q2.prog.x.more (by omega)) (Q2.prog.o.more (by omega)) ((HV.out.below ha (Nat.le_refl _)).more (by omega)) (hn1.cells_ (by omega)) hVn _ _ hr he).mono ?_
      rintro e w2 ⟨RA, ra, RB, rb, rfl, hRn, hRm, hRA, hRB, hb2, _, _⟩
      rw [errV_0]
      have K2 := Lib.hid (Q2.next hb2)
      have HB2 := Lib.hid (HB.out.trans ((ha.mono HB.out.size).trans (hb2.mono (by have := HB.out.size; simp; omega))))
      have HRA := Lib.hid hRA
      obtain ⟨bb, off', rfl, _, hbb, hc2⟩ := hRB (by simp [ints])
      have g0 : w2.cell? ⟨bb, off', none⟩ = some (.int .i64 u) := hc2 0 _ rfl
      have bs := shortB_t HSM.out
      have hw : wrap64 (sm + n) = sm + n := wrap_id (by omega) (by omega)
      have hcl : clipI (sm + n) (-2147483648) 2147483647 = u := by rw [hu]; unfold clipI cut32; omega
      have hue : (u != u) = false := by simp
      have huv : (u != sm + n) = ov := by
        rw [hov, hu]
        cases hsb : shortB (n + sm) with
        | true => rw [cut_short hsb]; simp; omega
        | false =>
          have := shortB_f hsb
          have h5 : cut32 (n + sm) ≠ sm + n := by unfold cut32; omega
          simpa using h5
      have hoo : (ov != ov) = false := by simp
      have hus : shortB u = true := by rw [hu]; exact cut32_short _
      have HUS := Lib.hid hus
      have HRN := Lib.hid hRn
      clear hr he hu hov ha hn1 hle Q2 hRn hRm hRA hRB hb2 hc2 hus hVn f0 f1 f2 f3 z0
      go_wp2_with (go_at_call 20; refine (bclip_any _ _ _ _).mono ?_; rintro e w4 ⟨rfl, rfl⟩; rw [hcl])
      go_quiet (fail)
      go_wp2_with fail
      exact ⟨⟨k + 1, RA, ra, n, u, by omega, by go_num, rfl, rfl, HRN.out, HN.out, HUS.out, by first | exact (HRA.out.below ((Below.refl _ w2).alloc (Nat.le_refl _) _) (Nat.le_refl _)).more (by simp), (K2.out.alloc _).next (below_drewN (Below.refl _ _) _), below_drewN (HB2.out.trans (((Below.refl _ w2).alloc (Nat.le_refl _) _).mono HB2.out.size)) _⟩, by simp [intOf]; omega⟩
    · go_wp2_with fail
      go_ret
      exact ⟨rfl, HB.out⟩
theorem codeAgain_walk (A : Option Addr) (zs : List Int) (c : Nat) (w : World) (hz : ∀ z ∈ zs, -2147483648 ≤ z ∧ z ≤ 2147483647) (hA : CellsAt w w.heap.size A (i32s zs)) :
    Calls Try.prog 6 #[.slice A zs.length c] w fun e w' => e = .returned (.bool true) ∧ Below w.heap.size w w' := by
  by_cases hl : zs.length ≤ 100
  · exact again_good A zs c w hl hz hA
  · exact again_long A zs c w (by omega)
set_option maxRecDepth 100000 in
theorem codeAgain_lifted (os : Os) (started : os.Started) (H : Type) (enc : TypeId × Value → H) :
    ReturnsInHanded {} Try.checked os 6 .any (Rows.codeAgainSpec.pre6 enc Try.prog Try.f6 Rows.codeAgainRow.domain false) (Rows.codeAgainSpec.post enc Try.prog Try.f6 false true false false) := by
  refine law_lift (C := Try.checked) (T := 4) own started (by kernel_rfl) Try.func6
    (ChangeSpec.witness6 (enc := enc) (C := Try.checked) false ⟨#[], #[.slice none 0 0], []⟩ 8 (by kernel_rfl) (by kernel_rfl) (by kernel_rfl) (by kernel_rfl))
    laidOut (by kernel_rfl) rfl Try.underlying4 (by kernel_rfl) ?_ ?_
  · intro ds h
    match ds, h with
    | [d1], _ => exact ⟨rfl, rfl, rfl⟩
  · intro W base args ds p hval0 hA0 _ hsz0
    have hval : ∀ (j : Nat) t v, Try.f6.params[j]? = some t → args[j]? = some v → Value.okWide Try.prog W .any base t v := hval0
    have hA : DataW.TrodAll enc Try.prog W 0 (fun _ => true) true Try.f6.params.toList args.toList ds p := hA0
    clear hsz0
    rw [Try.params6] at hA hval
    obtain ⟨v0, vs0, d0, ds0, p0, q0, hargs, rfl, rfl, h0, r0⟩ := trodAll_cons hA
    obtain ⟨rfl, rfl, rfl⟩ := trodAll_nil r0
    obtain rfl : args = #[v0] := by cases args; simp_all
    obtain ⟨A, c, zs, rfl, hA, hz⟩ := i32s_of Try.underlying51 Try.underlying21 (by kernel_rfl) (hval 0 51 v0 rfl rfl) h0
    exact codeAgain_walk A zs c W hz hA

theorem codeAgain_over : Rows.codeAgainRow.holds Try.pinned (OpenSpec.ofChange Rows.codeAgainSpec) :=
  OpenClaim.holds_of_wide 6 Try.f6 rfl rfl rfl rfl rfl rfl rfl ⟨rfl, rfl, rfl, rfl, rfl⟩ rfl rfl rfl rfl rfl (by kernel_rfl) Try.func6 (by kernel_rfl)
    (of_decide_eq_true (by kernel_rfl)) (by unfold Func.isWrapper; first | (rw [if_pos (by decide +kernel)]; kernel_rfl) | (rw [if_neg (by decide +kernel)]; exact ⟨rfl, rfl⟩))
    (fun os started H enc _ => codeAgain_lifted os started H enc)

theorem codeAgain_holds : Rows.CodeAgainSaid := codeAgain_over
#print axioms codeAgain_holds

end Go.Proofs.Ytdhlmbnmgioeeaa
