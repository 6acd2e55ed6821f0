/- Whether ranges fit into scales. Conditions: lists not too long; the table of math/bits stands in block 0. Whether ranges fit into scales, as the document has it. Conditions: lists not too long. -/
import Derived.Test.YtejnnljjmafjaaaDoorScC
import Derived.Test.YtejnnljjmafjaaaDoorScD
namespace Go.Proofs.YtejnnljjmafjaaaDoor
set_option linter.unusedVariables false
set_option linter.unusedSimpArgs false
set_option linter.unusedSectionVars false
open Go.RowKit

/-- Whether ranges fit into scales, or the error; g: the error ahead. -/
def fiE (g : Int) (n : Nat) (F : List Int) : Int := if g = 0 then (if F.length = n then 0 else 11) else g
def fit1 (p : Iv × Int) : Bool := decide (0 ≤ p.2 ∧ p.2 ≤ 30 ∧ roomB p.1 p.2 2147483647 = true)
def fiB (g : Int) (n : Nat) (R : List Iv) (F : List Int) : Bool := decide (fiE g n F = 0) && (R.zip F).all fit1
theorem fi_b0 {g : Int} {n : Nat} {R : List Iv} {F : List Int} (h : ¬ fiE g n F = 0) : fiB g n R F = false := by unfold fiB; rw [decide_eq_false h]; rfl
theorem fit_yes {y : Iv} {f : Int} (h1 : 0 ≤ f) (h2 : f ≤ 30) (h3 : roomB y f 2147483647 = true) : fit1 (y, f) = true := decide_eq_true ⟨h1, h2, h3⟩
theorem fi_bn {n k : Nat} {R : List Iv} {F : List Int} {y : Iv} {f : Int} (h0 : fiE 0 n F = 0) (hy : (R.zip F)[k]? = some (y, f)) (h : ¬ (0 ≤ f ∧ f ≤ 30 ∧ roomB y f 2147483647 = true)) : fiB 0 n R F = false := by
  unfold fiB
  rw [decide_eq_true h0, Bool.true_and]
  refine List.all_eq_false.2 ⟨_, List.mem_of_getElem? hy, ?_⟩
  intro hf
  exact h (of_decide_eq_true hf)
theorem fi_by {n : Nat} {R : List Iv} {F : List Int} (h0 : fiE 0 n F = 0) (h : (R.zip F).all fit1 = true) : fiB 0 n R F = true := by
  unfold fiB
  rw [decide_eq_true h0, h]
  rfl
theorem zip_at {R : List Iv} {F : List Int} {k : Nat} {y : Iv} {f : Int} (h1 : R[k]? = some y) (h2 : F[k]? = some f) : (R.zip F)[k]? = some (y, f) := by
  rw [List.getElem?_zip_eq_some]
  exact ⟨h1, h2⟩
def fiRel (w : World) (R : List Iv) (F : List Int) (i : Value) (wr : World) : Prop := ∃ k : Nat, k ≤ R.length ∧ i = .int .i64 (k : Int) ∧ ((R.zip F).take k).all fit1 = true ∧ Below w.heap.size w wr
set_option maxRecDepth 100000 in
set_option maxHeartbeats 4000000 in
theorem pfits_any (d : Dg) (A : Option Addr) (R : List Iv) (c : Nat) (AF : Option Addr) (F : List Int) (cf m : Nat) (w : World) (hm : m ≤ w.heap.size) (hd : DgAt w m d) (hR : IvsAt w m A R) (hF : CellsAt w m AF (ints F)) (hn : R.length ≤ 1000) (hn2 : F.length ≤ 1000) (ht : TabAt w) :
    Calls Tryd.prog 23 #[d.val, .slice A R.length c, .slice AF F.length cf] w fun e w' => e = .returned (.tuple #[.bool (fiB (gvE d R) d.bs.length R F), errV (fiE (gvE d R) d.bs.length F)]) ∧ Below w.heap.size w w' := by
  have HFC := Lib.hid hF
  have HMM := Lib.hid hm
  clear hF
  have hl2 := hd.l2
  have HD := Lib.hid hd
  have HR := Lib.hid hR
  have HT := Lib.hid ht
  clear hd hR ht
  obtain ⟨A1, ps, c1, A2, bs, c2, A3, os, c3⟩ := d
  dsimp only at hl2
  simp only [Dg.val]
  have R0 := Lib.hid (RowD.new_ w [.slice A1 ps.length c1, .slice A2 bs.length c2, .slice A3 os.length c3] 26)
  have B0 := Lib.hid (al_ w (.cells #[.slice A1 ps.length c1, .slice A2 bs.length c2, .slice A3 os.length c3] 26))
  obtain ⟨E, hE⟩ : ∃ E, gvE ⟨A1, ps, c1, A2, bs, c2, A3, os, c3⟩ R = E := ⟨_, rfl⟩
  have HE := Lib.hid hE
  rw [show (gvE ⟨A1, ps, c1, A2, bs, c2, A3, os, c3⟩ R) = E from hE]
  clear hE
  go_enter Tryd.func23, Tryd.ntmps23
  go_wp2_with fail
  go_at_call 33
  refine (pgiven_any ⟨A1, ps, c1, A2, bs, c2, A3, os, c3⟩ A R c m _ (by simp; omega) (HD.out.below B0.out hm) (HR.out.below B0.out hm) (by omega) (HT.out.below B0.out HT.out.1)).mono ?_
  rintro e w1 ⟨rfl, hb1⟩
  dsimp only
  rw [HE.out]
  have B1 := Lib.hid (B0.out.trans (hb1.mono B0.out.size))
  have R1 := R0.out.call hb1
  have q1 : w1.cell? ⟨w.heap.size, 1, none⟩ = some (.slice A2 bs.length c2) := R1.cell 1
  have hbx := R1.lt
  clear hb1 R0 B0 R1
  by_cases he : E = 0
  case neg =>
    have HF := Lib.hid (show fiE E bs.length F = E from if_neg he)
    have HB := Lib.hid (show fiB E bs.length R F = false from fi_b0 (by rw [HF.out]; exact he))
    have HEN := Lib.hid (errV_n he)
    clear he
    rw [HEN.out]
    go_wp2_with fail
    refine bodyPost_ret (v := .tuple #[.bool false, .iface 44 (.int .i64 E)]) (by simp [results, Tryd.results23, go_sem]) rfl ⟨by rw [HB.out, HF.out, HEN.out], B1.out⟩
  have HG := Lib.hid (gv_ok ((gv_e1 (gv_dz (HE.out.trans he))).symm.trans (HE.out.trans he)))
  obtain rfl : E = 0 := he
  rw [errV_0]
  by_cases hfl : F.length = bs.length
  case neg =>
    have hfb : ((F.length : Int) != (bs.length : Int)) = true := by simp; omega
    have HF := Lib.hid (show fiE 0 bs.length F = 11 from (if_pos rfl).trans (if_neg hfl))
    have HB := Lib.hid (show fiB 0 bs.length R F = false from fi_b0 (by rw [HF.out]; decide))
    clear hfl
    go_wp2_with fail
    refine bodyPost_ret (v := .tuple #[.bool false, .iface 44 (.int .i64 11)]) (by simp [results, Tryd.results23, go_sem]) rfl ⟨by rw [HB.out, HF.out]; rfl, B1.out⟩
  have hfb : ((F.length : Int) != (bs.length : Int)) = false := by simp; omega
  have HF := Lib.hid (show fiE 0 bs.length F = 0 from (if_pos rfl).trans (if_pos hfl))
  have hRF : R.length = F.length := by have h1 : R.length = bs.length := HG.out.1; omega
  have HFL := Lib.hid hfl
  have HRF := Lib.hid hRF
  clear hfl hRF
  go_wp2_with fail
  clear q1
  go_loopw [26] (fun i wr => fiRel w R F i wr) (fun i _ => R.length - (intOf i).toNat)
  case atStart => exact ⟨0, Nat.zero_le _, rfl, rfl, B1.out⟩
  case round =>
    clear B1
    obtain ⟨k, hk, rfl, hall, hb⟩ := hrel
    have HA := Lib.hid hall
    clear hall
    by_cases hlt : k < R.length
    · have hsz := hb.size
      obtain ⟨b, off, y, hA, hbm, hbs, hy, hyc⟩ := (HR.out.cells.below hb hm).row (s := 6) (fun _ => rfl) (by omega) hlt
      subst hA
      have g0 : wr.cell? ⟨b, off + k * 6, none⟩ = some (.bool y.lo.nb) := hyc 0 _ rfl
      have g1 : wr.cell? ⟨b, off + k * 6 + 1, none⟩ = some (.slice y.lo.A y.lo.ws.length y.lo.cap) := hyc 1 _ rfl
      have g2 : wr.cell? ⟨b, off + k * 6 + 2, none⟩ = some (.int .i64 y.lo.den) := hyc 2 _ rfl
      have g3 : wr.cell? ⟨b, off + k * 6 + 3, none⟩ = some (.bool y.hi.nb) := hyc 3 _ rfl
      have g4 : wr.cell? ⟨b, off + k * 6 + 4, none⟩ = some (.slice y.hi.A y.hi.ws.length y.hi.cap) := hyc 4 _ rfl
      have g5 : wr.cell? ⟨b, off + k * 6 + 5, none⟩ = some (.int .i64 y.hi.den) := hyc 5 _ rfl
      have hye := HR.out.each y (List.mem_of_getElem? hy)
      have HYE := Lib.hid hye
      have HY := Lib.hid hy
      clear hyc hye hy
      have hki : (k : Int) < (R.length : Int) := by omega
      have HV := Lib.hid (show ivB y = true from List.all_eq_true.1 HG.out.2 y (List.mem_of_getElem? HY.out))
      obtain ⟨bf, of, f, rfl, hfm, hfs, hf, gf⟩ := (HFC.out.below hb hm).int_ (k := k) (by have := HRF.out; omega)
      have hkf : (k : Int) < (F.length : Int) := by have := HRF.out; omega
      have HYF := Lib.hid (show (R.zip F)[k]? = some (y, f) from zip_at HY.out hf)
      clear hf
      go_wp2_with fail
      obtain ⟨W, hW⟩ : ∃ W, W = wr.alloc (.cells #[.bool y.lo.nb, .slice y.lo.A y.lo.ws.length y.lo.cap, .int .i64 y.lo.den, .bool y.hi.nb, .slice y.hi.A y.hi.ws.length y.hi.cap, .int .i64 y.hi.den] 41) := ⟨_, rfl⟩
      obtain ⟨q, hq⟩ : ∃ q, q = wr.heap.size := ⟨_, rfl⟩
      have rW : RowD W q [.bool y.lo.nb, .slice y.lo.A y.lo.ws.length y.lo.cap, .int .i64 y.lo.den, .bool y.hi.nb, .slice y.hi.A y.hi.ws.length y.hi.cap, .int .i64 y.hi.den] 41 := by rw [hW, hq]; exact RowD.new_ _ _ _
      have bW : Below wr.heap.size wr W := by rw [hW]; exact al_ _ _
      rw [← hW, ← hq]
      have hfW : W.cell? ⟨bf, of + k, none⟩ = some (.int .i64 f) := (bW.cell (p := ⟨bf, of + k, none⟩) hfs).trans gf
      have hfl : bf < W.heap.size := Nat.lt_of_lt_of_le hfs bW.size
      have HB2 := Lib.hid (hb.trans (bW.mono hsz))
      have HYA := Lib.hid ((HYE.out.1.below hb hm).below bW (by omega))
      have g0x : W.cell? ⟨q, 0, none⟩ = some (.bool y.lo.nb) := rW.cell 0
      have g1x : W.cell? ⟨q, 1, none⟩ = some (.slice y.lo.A y.lo.ws.length y.lo.cap) := rW.cell 1
      have g2x : W.cell? ⟨q, 2, none⟩ = some (.int .i64 y.lo.den) := rW.cell 2
      have g3x : W.cell? ⟨q, 3, none⟩ = some (.bool y.hi.nb) := rW.cell 3
      have g4x : W.cell? ⟨q, 4, none⟩ = some (.slice y.hi.A y.hi.ws.length y.hi.cap) := rW.cell 4
      have g5x : W.cell? ⟨q, 5, none⟩ = some (.int .i64 y.hi.den) := rW.cell 5
      have hqw := rW.lt
      clear hW hq rW bW g0 g1 g2 g3 g4 g5 gf hfs hbs hb hsz
      have hcon : 0 ≤ f → f ≤ 30 → ∀ u : ExtW W W.heap.size, Calls Tryd.prog 34 #[y.val, .int .i64 f, .int .i64 2147483647] u.val fun e w' => e = .returned (.bool (roomB y f 2147483647)) ∧ Below u.val.heap.size u.val w' := fun h1 h2 u =>
        pwithin_any y f 2147483647 m u.val (by have := HB2.out.size; have := u.fits; omega) (HYA.out.below u.is (by have := HB2.out.size; omega)) HV.out HYE.out.2.1 HYE.out.2.2 h1 (by omega) (by decide) (by decide) (HT.out.below (HB2.out.trans (u.is.mono HB2.out.size)) HT.out.1)
      simp only [Iv.val] at hcon
      have HCON := Lib.hid hcon
      clear hcon
      by_cases hlo : f < 0
      · have HB := Lib.hid (show fiB 0 bs.length R F = false from fi_bn HF.out HYF.out (fun h => by omega))
        have d1 : decide (f < 0) = true := decide_eq_true hlo
        refine wp_region_qext W.heap.size (Nat.le_refl _) (by kernel_rfl) (by kernel_rfl) ?_
        intro _
        repeat (go_big_quiet_step ((fail)))
        refine wpQuiet_nil ?_
        intro w2 hw'
        obtain ⟨⟨_, hb2, hz2⟩, rfl⟩ := hw'
        go_wp2_with fail
        refine bodyPost_ret (v := .tuple #[.bool false, .nilIface]) (by simp [results, Tryd.results23, go_sem]) rfl ⟨by rw [HB.out, HF.out]; rfl, HB2.out.trans (hb2.mono HB2.out.size)⟩
      · have d1 : decide (f < 0) = false := decide_eq_false hlo
        by_cases hhi : 30 < f
        · have HB := Lib.hid (show fiB 0 bs.length R F = false from fi_bn HF.out HYF.out (fun h => by omega))
          have d2 : decide (30 < f) = true := decide_eq_true hhi
          refine wp_region_qext W.heap.size (Nat.le_refl _) (by kernel_rfl) (by kernel_rfl) ?_
          intro _
          repeat (go_big_quiet_step ((fail)))
          refine wpQuiet_nil ?_
          intro w2 hw'
          obtain ⟨⟨_, hb2, hz2⟩, rfl⟩ := hw'
          go_wp2_with fail
          refine bodyPost_ret (v := .tuple #[.bool false, .nilIface]) (by simp [results, Tryd.results23, go_sem]) rfl ⟨by rw [HB.out, HF.out]; rfl, HB2.out.trans (hb2.mono HB2.out.size)⟩
        · have d2 : decide (30 < f) = false := decide_eq_false hhi
          have HCN := Lib.hid (HCON.out (by omega) (by omega))
          cases hrm : roomB y f 2147483647 with
          | true =>
            rw [hrm] at HCN
            have H1 := Lib.hid (show fit1 (y, f) = true from fit_yes (by omega) (by omega) hrm)
            clear hrm
            refine wp_region_qext W.heap.size (Nat.le_refl _) (by kernel_rfl) (by kernel_rfl) ?_
            intro _
            repeat (go_big_quiet_step ((go_at_call 34; exact qext_call (HCN.out _))))
            refine wpQuiet_nil ?_
            intro w2 hw'
            obtain ⟨⟨_, hb2, hz2⟩, rfl⟩ := hw'
            have HB3 := Lib.hid (HB2.out.trans (hb2.mono HB2.out.size))
            go_wp2_with fail
            exact ⟨⟨k + 1, by omega, by go_num, all_take HYF.out HA.out H1.out, HB3.out⟩, by simp [intOf]; omega⟩
          | false =>
            rw [hrm] at HCN
            have HB := Lib.hid (show fiB 0 bs.length R F = false from fi_bn HF.out HYF.out (fun h => by have := h.2.2; rw [hrm] at this; cases this))
            clear hrm
            refine wp_region_qext W.heap.size (Nat.le_refl _) (by kernel_rfl) (by kernel_rfl) ?_
            intro _
            repeat (go_big_quiet_step ((go_at_call 34; exact qext_call (HCN.out _))))
            refine wpQuiet_nil ?_
            intro w2 hw'
            obtain ⟨⟨_, hb2, hz2⟩, rfl⟩ := hw'
            go_wp2_with fail
            refine bodyPost_ret (v := .tuple #[.bool false, .nilIface]) (by simp [results, Tryd.results23, go_sem]) rfl ⟨by rw [HB.out, HF.out]; rfl, HB2.out.trans (hb2.mono HB2.out.size)⟩
    · have ht : (R.zip F).take k = R.zip F := List.take_of_length_le (by rw [List.length_zip]; omega)
      have hall := HA.out
      rw [ht] at hall
      have HB := Lib.hid (show fiB 0 bs.length R F = true from fi_by HF.out hall)
      clear hall ht
      go_wp2_with fail
      refine bodyPost_ret (v := .tuple #[.bool true, .nilIface]) (by simp [results, Tryd.results23, go_sem]) rfl ⟨by rw [HB.out, HF.out]; rfl, hb⟩
end Go.Proofs.YtejnnljjmafjaaaDoor
namespace Go.Proofs.YtejnnljjmafjaaaDoor
set_option linter.unusedVariables false
set_option linter.unusedSimpArgs false
set_option linter.unusedSectionVars false
open Go.RowKit

set_option maxRecDepth 100000 in
set_option maxHeartbeats 4000000 in
theorem rfits_any (d : Dg) (A : Option Addr) (R : List Iv) (c : Nat) (AF : Option Addr) (F : List Int) (cf m : Nat) (w : World) (hm : m ≤ w.heap.size) (hd : DgAt w m d) (hR : IvsAt w m A R) (hF : CellsAt w m AF (ints F)) (hn : R.length ≤ 1000) (hn2 : F.length ≤ 1000) :
    Calls Tryd.prog 24 #[d.val, .slice A R.length c, .slice AF F.length cf] w fun e w' => e = .returned (.tuple #[.bool (fiB (gvErr d.bs.length R) d.bs.length R F), .int .i64 (fiE (gvErr d.bs.length R) d.bs.length F)]) ∧ Below w.heap.size w w' := by
  have HFC := Lib.hid hF
  have HMM := Lib.hid hm
  clear hF
  have hl2 := hd.l2
  have HD := Lib.hid hd
  have HR := Lib.hid hR
  clear hd hR
  obtain ⟨A1, ps, c1, A2, bs, c2, A3, os, c3⟩ := d
  dsimp only at hl2
  simp only [Dg.val]
  have R0 := Lib.hid (RowD.new_ w [.slice A1 ps.length c1, .slice A2 bs.length c2, .slice A3 os.length c3] 26)
  have B0 := Lib.hid (al_ w (.cells #[.slice A1 ps.length c1, .slice A2 bs.length c2, .slice A3 os.length c3] 26))
  obtain ⟨E, hE⟩ : ∃ E, gvErr bs.length R = E := ⟨_, rfl⟩
  have HE := Lib.hid hE
  rw [show (gvErr bs.length R) = E from hE]
  clear hE
  go_enter Tryd.func24, Tryd.ntmps24
  go_wp2_with fail
  go_at_call 42
  refine (rcheckR_any ⟨A1, ps, c1, A2, bs, c2, A3, os, c3⟩ A R c m _ (by simp; omega) (HD.out.below B0.out hm) (HR.out.below B0.out hm) (by omega)).mono ?_
  rintro e w1 ⟨rfl, hb1⟩
  dsimp only
  rw [HE.out]
  have B1 := Lib.hid (B0.out.trans (hb1.mono B0.out.size))
  have R1 := R0.out.call hb1
  have q1 : w1.cell? ⟨w.heap.size, 1, none⟩ = some (.slice A2 bs.length c2) := R1.cell 1
  have hbx := R1.lt
  clear hb1 R0 B0 R1
  by_cases he : E = 0
  case neg =>
    have HF := Lib.hid (show fiE E bs.length F = E from if_neg he)
    have HB := Lib.hid (show fiB E bs.length R F = false from fi_b0 (by rw [HF.out]; exact he))
    have hEb : (E != 0) = true := by simpa using he
    clear he
    go_wp2_with fail
    refine bodyPost_ret (v := .tuple #[.bool false, .int .i64 E]) (by simp [results, Tryd.results24, go_sem]) rfl ⟨by rw [HB.out, HF.out], B1.out⟩
  have HG := Lib.hid (gv_ok (HE.out.trans he))
  obtain rfl : E = 0 := he
  skip
  by_cases hfl : F.length = bs.length
  case neg =>
    have hfb : ((F.length : Int) != (bs.length : Int)) = true := by simp; omega
    have HF := Lib.hid (show fiE 0 bs.length F = 11 from (if_pos rfl).trans (if_neg hfl))
    have HB := Lib.hid (show fiB 0 bs.length R F = false from fi_b0 (by rw [HF.out]; decide))
    clear hfl
    go_wp2_with fail
    refine bodyPost_ret (v := .tuple #[.bool false, .int .i64 11]) (by simp [results, Tryd.results24, go_sem]) rfl ⟨by rw [HB.out, HF.out], B1.out⟩
  have hfb : ((F.length : Int) != (bs.length : Int)) = false := by simp; omega
  have HF := Lib.hid (show fiE 0 bs.length F = 0 from (if_pos rfl).trans (if_pos hfl))
  have hRF : R.length = F.length := by have h1 : R.length = bs.length := HG.out.1; omega
  have HFL := Lib.hid hfl
  have HRF := Lib.hid hRF
  clear hfl hRF
  go_wp2_with fail
  clear q1
  go_loopw [25] (fun i wr => fiRel w R F i wr) (fun i _ => R.length - (intOf i).toNat)
  case atStart => exact ⟨0, Nat.zero_le _, rfl, rfl, B1.out⟩
  case round =>
    clear B1
    obtain ⟨k, hk, rfl, hall, hb⟩ := hrel
    have HA := Lib.hid hall
    clear hall
    by_cases hlt : k < R.length
    · have hsz := hb.size
      obtain ⟨b, off, y, hA, hbm, hbs, hy, hyc⟩ := (HR.out.cells.below hb hm).row (s := 6) (fun _ => rfl) (by omega) hlt
      subst hA
      have g0 : wr.cell? ⟨b, off + k * 6, none⟩ = some (.bool y.lo.nb) := hyc 0 _ rfl
      have g1 : wr.cell? ⟨b, off + k * 6 + 1, none⟩ = some (.slice y.lo.A y.lo.ws.length y.lo.cap) := hyc 1 _ rfl
      have g2 : wr.cell? ⟨b, off + k * 6 + 2, none⟩ = some (.int .i64 y.lo.den) := hyc 2 _ rfl
      have g3 : wr.cell? ⟨b, off + k * 6 + 3, none⟩ = some (.bool y.hi.nb) := hyc 3 _ rfl
      have g4 : wr.cell? ⟨b, off + k * 6 + 4, none⟩ = some (.slice y.hi.A y.hi.ws.length y.hi.cap) := hyc 4 _ rfl
      have g5 : wr.cell? ⟨b, off + k * 6 + 5, none⟩ = some (.int .i64 y.hi.den) := hyc 5 _ rfl
      have hye := HR.out.each y (List.mem_of_getElem? hy)
      have HYE := Lib.hid hye
      have HY := Lib.hid hy
      clear hyc hye hy
      have hki : (k : Int) < (R.length : Int) := by omega
      have HV := Lib.hid (show ivB y = true from List.all_eq_true.1 HG.out.2 y (List.mem_of_getElem? HY.out))
      obtain ⟨bf, of, f, rfl, hfm, hfs, hf, gf⟩ := (HFC.out.below hb hm).int_ (k := k) (by have := HRF.out; omega)
      have hkf : (k : Int) < (F.length : Int) := by have := HRF.out; omega
      have HYF := Lib.hid (show (R.zip F)[k]? = some (y, f) from zip_at HY.out hf)
      clear hf
      go_wp2_with fail
      obtain ⟨W, hW⟩ : ∃ W, W = wr.alloc (.cells #[.bool y.lo.nb, .slice y.lo.A y.lo.ws.length y.lo.cap, .int .i64 y.lo.den, .bool y.hi.nb, .slice y.hi.A y.hi.ws.length y.hi.cap, .int .i64 y.hi.den] 41) := ⟨_, rfl⟩
      obtain ⟨q, hq⟩ : ∃ q, q = wr.heap.size := ⟨_, rfl⟩
      have rW : RowD W q [.bool y.lo.nb, .slice y.lo.A y.lo.ws.length y.lo.cap, .int .i64 y.lo.den, .bool y.hi.nb, .slice y.hi.A y.hi.ws.length y.hi.cap, .int .i64 y.hi.den] 41 := by rw [hW, hq]; exact RowD.new_ _ _ _
      have bW : Below wr.heap.size wr W := by rw [hW]; exact al_ _ _
      rw [← hW, ← hq]
      have hfW : W.cell? ⟨bf, of + k, none⟩ = some (.int .i64 f) := (bW.cell (p := ⟨bf, of + k, none⟩) hfs).trans gf
      have hfl : bf < W.heap.size := Nat.lt_of_lt_of_le hfs bW.size
      have HB2 := Lib.hid (hb.trans (bW.mono hsz))
      have HYA := Lib.hid ((HYE.out.1.below hb hm).below bW (by omega))
      have g0x : W.cell? ⟨q, 0, none⟩ = some (.bool y.lo.nb) := rW.cell 0
      have g1x : W.cell? ⟨q, 1, none⟩ = some (.slice y.lo.A y.lo.ws.length y.lo.cap) := rW.cell 1
      have g2x : W.cell? ⟨q, 2, none⟩ = some (.int .i64 y.lo.den) := rW.cell 2
      have g3x : W.cell? ⟨q, 3, none⟩ = some (.bool y.hi.nb) := rW.cell 3
      have g4x : W.cell? ⟨q, 4, none⟩ = some (.slice y.hi.A y.hi.ws.length y.hi.cap) := rW.cell 4
      have g5x : W.cell? ⟨q, 5, none⟩ = some (.int .i64 y.hi.den) := rW.cell 5
      have hqw := rW.lt
      clear hW hq rW bW g0 g1 g2 g3 g4 g5 gf hfs hbs hb hsz
      have hcon : 0 ≤ f → f ≤ 30 → ∀ u : ExtW W W.heap.size, Calls Tryd.prog 43 #[y.val, .int .i64 f, .int .i64 2147483647] u.val fun e w' => e = .returned (.bool (roomB y f 2147483647)) ∧ Below u.val.heap.size u.val w' := fun h1 h2 u =>
        rroom_any y f 2147483647 m u.val (by have := HB2.out.size; have := u.fits; omega) (HYA.out.below u.is (by have := HB2.out.size; omega)) HV.out HYE.out.2.1 HYE.out.2.2 h1 (by omega) (by decide) (by decide)
      simp only [Iv.val] at hcon
      have HCON := Lib.hid hcon
      clear hcon
      by_cases hlo : f < 0
      · have HB := Lib.hid (show fiB 0 bs.length R F = false from fi_bn HF.out HYF.out (fun h => by omega))
        have d1 : decide (f < 0) = true := decide_eq_true hlo
        refine wp_region_qext W.heap.size (Nat.le_refl _) (by kernel_rfl) (by kernel_rfl) ?_
        intro _
        repeat (go_big_quiet_step ((fail)))
        refine wpQuiet_nil ?_
        intro w2 hw'
        obtain ⟨⟨_, hb2, hz2⟩, rfl⟩ := hw'
        go_wp2_with fail
        refine bodyPost_ret (v := .tuple #[.bool false, .int .i64 0]) (by simp [results, Tryd.results24, go_sem]) rfl ⟨by rw [HB.out, HF.out], HB2.out.trans (hb2.mono HB2.out.size)⟩
      · have d1 : decide (f < 0) = false := decide_eq_false hlo
        by_cases hhi : 30 < f
        · have HB := Lib.hid (show fiB 0 bs.length R F = false from fi_bn HF.out HYF.out (fun h => by omega))
          have d2 : decide (30 < f) = true := decide_eq_true hhi
          refine wp_region_qext W.heap.size (Nat.le_refl _) (by kernel_rfl) (by kernel_rfl) ?_
          intro _
          repeat (go_big_quiet_step ((fail)))
          refine wpQuiet_nil ?_
          intro w2 hw'
          obtain ⟨⟨_, hb2, hz2⟩, rfl⟩ := hw'
          go_wp2_with fail
          refine bodyPost_ret (v := .tuple #[.bool false, .int .i64 0]) (by simp [results, Tryd.results24, go_sem]) rfl ⟨by rw [HB.out, HF.out], HB2.out.trans (hb2.mono HB2.out.size)⟩
        · have d2 : decide (30 < f) = false := decide_eq_false hhi
          have HCN := Lib.hid (HCON.out (by omega) (by omega))
          cases hrm : roomB y f 2147483647 with
          | true =>
            rw [hrm] at HCN
            have H1 := Lib.hid (show fit1 (y, f) = true from fit_yes (by omega) (by omega) hrm)
            clear hrm
            refine wp_region_qext W.heap.size (Nat.le_refl _) (by kernel_rfl) (by kernel_rfl) ?_
            intro _
            repeat (go_big_quiet_step ((go_at_call 43; exact qext_call (HCN.out _))))
            refine wpQuiet_nil ?_
            intro w2 hw'
            obtain ⟨⟨_, hb2, hz2⟩, rfl⟩ := hw'
            have HB3 := Lib.hid (HB2.out.trans (hb2.mono HB2.out.size))
            go_wp2_with fail
            exact ⟨⟨k + 1, by omega, by go_num, all_take HYF.out HA.out H1.out, HB3.out⟩, by simp [intOf]; omega⟩
          | false =>
            rw [hrm] at HCN
            have HB := Lib.hid (show fiB 0 bs.length R F = false from fi_bn HF.out HYF.out (fun h => by have := h.2.2; rw [hrm] at this; cases this))
            clear hrm
            refine wp_region_qext W.heap.size (Nat.le_refl _) (by kernel_rfl) (by kernel_rfl) ?_
            intro _
            repeat (go_big_quiet_step ((go_at_call 43; exact qext_call (HCN.out _))))
            refine wpQuiet_nil ?_
            intro w2 hw'
            obtain ⟨⟨_, hb2, hz2⟩, rfl⟩ := hw'
            go_wp2_with fail
            refine bodyPost_ret (v := .tuple #[.bool false, .int .i64 0]) (by simp [results, Tryd.results24, go_sem]) rfl ⟨by rw [HB.out, HF.out], HB2.out.trans (hb2.mono HB2.out.size)⟩
    · have ht : (R.zip F).take k = R.zip F := List.take_of_length_le (by rw [List.length_zip]; omega)
      have hall := HA.out
      rw [ht] at hall
      have HB := Lib.hid (show fiB 0 bs.length R F = true from fi_by HF.out hall)
      clear hall ht
      go_wp2_with fail
      refine bodyPost_ret (v := .tuple #[.bool true, .int .i64 0]) (by simp [results, Tryd.results24, go_sem]) rfl ⟨by rw [HB.out, HF.out], hb⟩
end Go.Proofs.YtejnnljjmafjaaaDoor
