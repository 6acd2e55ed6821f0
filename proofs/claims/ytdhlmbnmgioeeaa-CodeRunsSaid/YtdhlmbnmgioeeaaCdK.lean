/- code.Run of a program without errors. No conditions. -/
import Derived.Test.YtdhlmbnmgioeeaaCdK0
namespace Go.Proofs.Ytdhlmbnmgioeeaa
set_option linter.unusedVariables false
set_option linter.unusedSimpArgs false
set_option linter.unusedSectionVars false
open Go.RowKit

set_option maxRecDepth 100000 in
set_option maxHeartbeats 40000000 in
theorem run_ok (A1 A2 A3 A4 A5 A6 : Option Addr) (ps : List Prt) (is : List Int) (xs : List Ins) (os cs inn : List Int) (c1 c2 c3 c4 c5 c6 m : Nat) (w : World) (hm : m ≤ w.heap.size) (h1 : CellsAt w m A1 (flat Prt.cells ps)) (h2 : CellsAt w m A2 (ints is)) (h3 : CellsAt w m A3 (flat Ins.cells xs)) (h4 : CellsAt w m A4 (ints os))
    (h5 : CellsAt w m A5 (ints cs)) (h6 : CellsAt w m A6 (ints inn)) (hn5 : A5 = none → c5 = 0) (he : progErr ps is xs os = 0) (hl : cs.length = is.length) :
    Calls Try.prog 12 #[.agg #[.slice A1 ps.length c1, .slice A2 is.length c2, .slice A3 xs.length c3, .slice A4 os.length c4], .slice A5 cs.length c5, .slice A6 inn.length c6] w (RunPost w (runM ps is xs os cs inn) (runErr ps is xs os cs inn)) := by
  have H1 := Lib.hid h1
  have H2 := Lib.hid h2
  have H3 := Lib.hid h3
  have H4 := Lib.hid h4
  have H5 := Lib.hid h5
  have H6 := Lib.hid h6
  have HN := Lib.hid hn5
  clear h1 h2 h3 h4 h5 h6 hn5
  have HE := Lib.hid he
  have HL := Lib.hid hl
  have HP := Lib.hid (pOk he)
  have l0 : (cs.length : Int) ≤ 192 := by have := HP.out.l2; omega
  have l1 : (ps.length : Int) ≤ 16 := by have := HP.out.l1; omega
  have l3 : (xs.length : Int) ≤ 256 := by have := HP.out.l3; omega
  have l4 : (os.length : Int) ≤ 16 := by have := HP.out.l4; omega
  have e1 : ((cs.length : Int) != (is.length : Int)) = false := by simp; omega
  clear he hl
  have b0 : ∀ (vs us : Array Value), Below w.heap.size w ((w.alloc (.cells vs 26)).alloc (.cells us 32)) := fun _ _ => ext_alloc (ext_alloc (Below.refl _ _) _) _
  go_enter Try.func12, Try.ntmps12
  go_wp2_with (go_at_call 23; refine (Check_any A1 A2 A3 A4 ps is xs os c1 c2 c3 c4 m _ (by simp; omega) (H1.out.below (b0 _ _) hm) (H2.out.below (b0 _ _) hm) (H3.out.below (b0 _ _) hm) (H4.out.below (b0 _ _) hm)).mono ?_; rintro e w1 ⟨rfl, hb⟩; rw [HE.out, errV_0]; obtain ⟨qc, qf, qs, qz⟩ := ext_at (m := w.heap.size + 2) hb (by simp) (by simp); have hB : Blk w1 (w.heap.size + 1) [.slice none 0 0, .slice none 0 0, .bool false] 32 := (blk1 w _ _ _).below hb (by simp); have b1 : Below w.heap.size w w1 := (b0 _ _).trans (hb.mono (by simp; omega)); have hX : BoxAt w1 w.heap.size [.slice A1 ps.length c1, .slice A2 is.length c2, .slice A3 xs.length c3, .slice A4 os.length c4] := (box1 w _ _ _).below hb (by simp; omega); clear hb)
  have HB := Lib.hid hB
  have HX := Lib.hid hX
  have s1 := hB.lt
  clear hB hX
  go_loopw [35] (fun i wr => qRel w1 cs.length (cs.map initErr) i wr) (fun i _ => cs.length - (intOf i).toNat)
  case atStart => exact ⟨0, Nat.zero_le _, rfl, rfl, rfl⟩
  case round =>
    obtain ⟨k, hk, rfl, hf, rfl⟩ := hrel
    have HF := Lib.hid hf
    clear hf
    by_cases hlt : k < cs.length
    · obtain ⟨b, off, z, rfl, hbm, hbs, hx, hc5⟩ := H5.out.int_ hlt
      have hc' := (b1.cell (p := ⟨b, off + k, none⟩) (Nat.lt_of_lt_of_le hbm hm)).trans hc5
      clear hc5
      have HZ := Lib.hid hx
      clear hx
      by_cases hs : shortB z = true
      · have HS := Lib.hid hs
        go_wp2_with (go_at_call 25; refine (short_any _ _).mono ?_; rintro e w2 ⟨rfl, rfl⟩)
        exact ⟨⟨k + 1, by omega, by go_num, fe_step (by rw [List.getElem?_map, HZ.out]; exact congrArg some (if_pos HS.out)) HF.out, rfl⟩, by simp [intOf]; omega⟩
      · have HS := Lib.hid hs
        have hs : shortB z = false := by simpa using hs
        go_wp2_with (go_at_call 25; refine (short_any _ _).mono ?_; rintro e w2 ⟨rfl, rfl⟩)
        have h0 : runErr ps is xs os cs inn = 3 := runErr_cell HE.out HL.out (fe_hit (k := k) (by rw [List.getElem?_map, HZ.out]; exact congrArg some (if_neg HS.out)) (by decide) HF.out) (by decide)
        exact bodyPost_ret (res_run (ev := .iface 65 (.int .i64 3)) rfl rfl (((HB.out.set_ 0 _).set_ 1 _).set_ 2 _)) rfl (RunPost.zero (runM_err (h0) (by decide)) (((b1.setCell (by simp) _).setCell (by simp) _).setCell (by simp) _) (by rw [h0, errV_n (by decide)]))
    · have P1 := Lib.hid (fe_all (k := k) (by rw [List.length_map]; omega) HF.out)
      clear HF
      by_cases hl2 : inn.length = ps.length
      · have HL2 := Lib.hid hl2
        have e2 : ((inn.length : Int) != (ps.length : Int)) = false := by simp; omega
        clear hl2
        have x0 := HX.out.c0
        go_wp2_with fail
        clear hlt hk
        go_loopw [55] (fun i wr => qRel w1 inn.length (List.zipWith inErr ps inn) i wr) (fun i _ => inn.length - (intOf i).toNat)
        case atStart => exact ⟨0, Nat.zero_le _, rfl, rfl, rfl⟩
        case round =>
          obtain ⟨k, hk, rfl, hf, rfl⟩ := hrel
          have HF := Lib.hid hf
          clear hf
          by_cases hlt : k < inn.length
          · have hlt2 : k < ps.length := by have := HL2.out; omega
            obtain ⟨b, off, z, rfl, hbm, hbs, hx, hc6⟩ := H6.out.int_ hlt
            have hc6' := (b1.cell (p := ⟨b, off + k, none⟩) (Nat.lt_of_lt_of_le hbm hm)).trans hc6
            obtain ⟨pb, poff, x, rfl, hpm, hps, hpx, hpc⟩ := H1.out.row (s := 3) (fun _ => rfl) (by omega) hlt2
            have hp' := fun j u (hu : (Prt.cells x)[j]? = some u) => (b1.cell (p := ⟨pb, poff + k * 3 + j, none⟩) (Nat.lt_of_lt_of_le hpm hm)).trans (hpc j u hu)
            have g0 : w1.cell? ⟨pb, poff + k * 3, none⟩ = some (.int .i64 x.lo) := hp' 0 _ rfl
            have g1 := hp' 1 _ rfl
            clear hc6 hpc hp'
            have HZ := Lib.hid (in_at hpx hx)
            clear hx hpx
            go_wp2_with fail
            all_goals first
              | exact ⟨⟨k + 1, by omega, by go_num, fe_step (by rw [HZ.out]; exact congrArg some (if_pos ⟨by omega, by omega⟩)) HF.out, rfl⟩, by simp [intOf]; omega⟩
              | (have h0 : runErr ps is xs os cs inn = 3 := runErr_val HE.out HL.out P1.out HL2.out (fe_hit (k := k) (by rw [HZ.out]; exact congrArg some (if_neg (by omega))) (by decide) HF.out)
                 exact bodyPost_ret (res_run (ev := .iface 65 (.int .i64 3)) rfl rfl (((HB.out.set_ 0 _).set_ 1 _).set_ 2 _)) rfl (RunPost.zero (runM_err (h0) (by decide)) (((b1.setCell (by simp) _).setCell (by simp) _).setCell (by simp) _) (by rw [h0, errV_n (by decide)])))
          · have P2 := Lib.hid (runErr_val (e := 0) HE.out HL.out P1.out HL2.out (fe_all (k := k) (by rw [List.length_zipWith]; omega) HF.out))
            clear HF P1
            have QZ : Hid (w.heap.size + 2 ≤ w1.heap.size) := Lib.hid qz
            clear qc qf qs qz x0
            have x2 := HX.out.c2
            go_wp2_with (at_builtin; refine app_ints rfl _ _ rfl (w.heap.size + 2) _ [] cs A5 c5 m rfl (OwnI.lit0 QZ.out) rfl HN.out ((H5.out.below b1 hm).below (ext_alloc (Below.refl _ _) _) (by omega)) (by simp; omega) (by have := QZ.out; simp; omega) ?_; intro v' w2 hown hg hb2; simp only [List.nil_append] at hown; obtain ⟨A, c, rfl, hAc, hcell⟩ := hown.view; have hst : Below (w.heap.size + 2) w1 w2 := ((Below.refl _ w1).alloc QZ.out _).trans hb2; have y2 := (HX.out.below hst (by omega)).c2; have q2 : w.heap.size < w2.heap.size := (by have := hst.size; omega))
            have hAR : ∀ g, A = some ⟨g, 0, none⟩ → w.heap.size + 2 ≤ g ∧ g < w2.heap.size := fun g hg => World.ownsRow.lt hown g (by rw [hg]; rfl)
            obtain ⟨R, hR⟩ : ∃ R, R = w2.heap.size := ⟨_, rfl⟩
            have hR3 := Blk.new_ w2 [.slice A cs.length c, .slice none 0 0, .bool false] 32
            have hX3 := (HX.out.below hst (by omega)).below ((Below.refl w2.heap.size w2).alloc (Nat.le_refl _) (.cells (#[.slice A cs.length c, .slice none 0 0, .bool false] : Array Value) 32)) q2
            have hB3 := (HB.out.below hst (by omega)).below ((Below.refl w2.heap.size w2).alloc (Nat.le_refl _) (.cells (#[.slice A cs.length c, .slice none 0 0, .bool false] : Array Value) 32)) (by have := hst.size; omega)
            have hb3 := (b1.trans (hst.mono (by omega))).alloc (by have := hst.size; have := QZ.out; omega) (.cells (#[.slice A cs.length c, .slice none 0 0, .bool false] : Array Value) 32)
            have hown3 := hown.alloc (.cells (#[.slice A cs.length c, .slice none 0 0, .bool false] : Array Value) 32)
            have hR2 : w.heap.size + 2 ≤ R := by have := hst.size; have := QZ.out; omega
            rw [← hR] at hR3 hAR
            rw [← hR]
            obtain ⟨w3, hw3⟩ : ∃ w3, w3 = w2.alloc (.cells (#[.slice A cs.length c, .slice none 0 0, .bool false] : Array Value) 32) := ⟨_, rfl⟩
            rw [← hw3]
            change Blk (w2.alloc (.cells (#[.slice A cs.length c, .slice none 0 0, .bool false] : Array Value) 32)) R _ _ at hR3
            rw [← hw3] at hR3 hX3 hB3 hb3 hown3
            clear hw3 hR hown hcell hst hg hb2 y2 q2
            go_loopw [88] (fun i wr => r3Rel w [.slice A1 ps.length c1, .slice A2 is.length c2, .slice A3 xs.length c3, .slice A4 os.length c4] A cs.length c R inn xs cs i wr) (fun i _ => xs.length - (intOf i).toNat)
            case atStart => exact ⟨0, Nat.zero_le _, rfl, hown3, hX3, hB3, hR3, hb3⟩
            case round =>
              as_aux_lemma =>
              clear hown3 hX3 hB3 hR3 hb3
              obtain ⟨k, hk, rfl, hown, hX, hB, hRb, hb⟩ := hrel
              have HO := Lib.hid hown
              have HX := Lib.hid hX
              have HB := Lib.hid hB
              have HR := Lib.hid hRb
              have HLN : Hid (cs.length = (runR inn (xs.take k) (cs, false)).1.length) := Lib.hid (by rw [runR_len])
              clear hown hX hB hRb
              have z0 : w.heap.size < wr.heap.size := HX.out.1
              have z1 : R < wr.heap.size := HR.out.lt
              by_cases hlt : k < xs.length
              · obtain ⟨b, off, x, rfl, hbm, hbs, hx, hc⟩ := H3.out.row (s := 7) (fun _ => rfl) (by omega) hlt
                have hc' := fun t u (hu : (Ins.cells x)[t]? = some u) => (hb.cell (p := ⟨b, off + k * 7 + t, none⟩) (Nat.lt_of_lt_of_le hbm hm)).trans (hc t u hu)
                have g0 : wr.cell? ⟨b, off + k * 7, none⟩ = some (.int .i64 x.op) := hc' 0 _ rfl
                have g1 := hc' 1 _ rfl
                have g2 := hc' 2 _ rfl
                have g3 := hc' 3 _ rfl
                have g4 := hc' 4 _ rfl
                have g5 := hc' 5 _ rfl
                have g6 := hc' 6 _ rfl
                clear hc hc'
                have HXS := Lib.hid hx
                have HIO := Lib.hid (HP.out.ins x (List.mem_of_getElem? hx))
                clear hx
                obtain ⟨d, hd⟩ := Int.eq_ofNat_of_zero_le HIO.out.dst0
                have hd1 : d < cs.length := by have := HIO.out.dst1; have := HL.out; omega
                have hd2 : (d : Int) < (cs.length : Int) := by omega
                have HD := Lib.hid hd
                rw [hd] at g1
                clear hd
                obtain ⟨g, hgA, hg2, hgs⟩ := HO.out.some_ (by omega)
                subst hgA
                have hgR := (hAR g rfl).2
                have f1 : ∀ j, wr.frozen? ⟨g, j, none⟩ = false := fun j => HO.out.free HLN.out j
                have f2 := HO.out.at_ HLN.out hd1
                have f3 : ∀ j, wr.frozen? ⟨R, j, none⟩ = false := fun j => HR.out.free j
                have f4 : wr.cell? ⟨R, 0, none⟩ = some (.slice (some ⟨g, 0, none⟩) cs.length c) := HR.out.cell 0
                have f5 : wr.cell? ⟨R, 2, none⟩ = some (.bool (runR inn (xs.take k) (cs, false)).2) := HR.out.cell 2
                rcases op_cases HIO.out.is with hop | hop | hop | hop | hop | hop | hop | hop | hop | hop | hop
                · as_aux_lemma =>
                  rw [hop] at g0
                  obtain ⟨ha0, ha1⟩ := HIO.out.a (by rw [hop]; rfl)
                  obtain ⟨a, ha⟩ := Int.eq_ofNat_of_zero_le ha0
                  rw [hop, ha] at ha1
                  rw [ha] at g2
                  have haL : a < inn.length := by have := HL2.out; simp at ha1; omega
                  have haL' : (a : Int) < (inn.length : Int) := by omega
                  obtain ⟨ib, ioff, z, hA6, hbm6, hbs6, hx6, hc6⟩ := H6.out.int_ haL
                  have hc6' := (hb.cell (p := ⟨ib, ioff + a, none⟩) (Nat.lt_of_lt_of_le hbm6 hm)).trans hc6
                  have hib : ib < wr.heap.size := by have := hb.size; omega
                  have HX6 := Lib.hid hx6
                  clear hx6 hc6
                  subst hA6
                  have HA := Lib.hid ha
                  clear ha0 ha1 ha haL
                  obtain ⟨t1, t2⟩ := HIO.out.sa (by rw [hop]; rfl)
                  have HOP := Lib.hid hop
                  clear hop
                  go_wp2_with fail
                  go_quiet ((go_at_call 26; exact quiet_left (scaled_any _ _ _ (by omega) (by omega))))
                  go_wp2_with fail
                  go_wp2_with (go_at_call 25; refine (short_any _ _).mono ?_; rintro e w2 ⟨rfl, rfl⟩)
                  all_goals
                    rename_i hs
                    first
                      | (have hs' := nt_ hs
                         exact ⟨(r3_low HO.out HX.out HB.out HR.out hb ⟨hg2, hgR⟩ rfl hlt HXS.out HD.out (by simp [insVal, HOP.out, HX6.out, HA.out])).2 hs' _ _, by simp [intOf]; omega⟩)
                      | (have hs' := nf_ hs
                         exact ⟨(r3_low HO.out HX.out HB.out HR.out hb ⟨hg2, hgR⟩ rfl hlt HXS.out HD.out (by simp [insVal, HOP.out, HX6.out, HA.out])).1 hs' _ _, by simp [intOf]; omega⟩)
                · as_aux_lemma =>
                  rw [hop] at g0
                  have HOP := Lib.hid hop
                  clear hop
                  go_wp2_with fail
                  go_wp2_with (go_at_call 25; refine (short_any _ _).mono ?_; rintro e w2 ⟨rfl, rfl⟩)
                  all_goals
                    rename_i hs
                    first
                      | (have hs' := nt_ hs
                         have hr := (r3_low HO.out HX.out HB.out HR.out hb ⟨hg2, hgR⟩ rfl hlt HXS.out HD.out (show insVal x _ _ = x.imm by simp [insVal, HOP.out])).2 hs' (.cells #[.int .i64 1, .int .i64 d, .int .i64 x.a, .int .i64 x.b, .int .i64 x.sa, .int .i64 x.sb, .int .i64 x.imm] 49) 0
                         refine ⟨?_, by simp [intOf]; omega⟩
                         have e1 := World.setCell_alloc_past (w := wr) (.cells #[.int .i64 1, .int .i64 d, .int .i64 x.a, .int .i64 x.b, .int .i64 x.sa, .int .i64 x.sb, .int .i64 x.imm] 49) R 2 (.bool true) z1
                         have e2 := World.setCell_alloc_past (w := wr.setCell ⟨R, 2, none⟩ (.bool true)) (.cells #[.int .i64 1, .int .i64 d, .int .i64 x.a, .int .i64 x.b, .int .i64 x.sa, .int .i64 x.sb, .int .i64 x.imm] 49) g d (.int .i64 (cut32 x.imm)) (by simpa using hgs)
                         have e3 : ((wr.alloc (.cells #[.int .i64 1, .int .i64 d, .int .i64 x.a, .int .i64 x.b, .int .i64 x.sa, .int .i64 x.sb, .int .i64 x.imm] 49)).drewN 0) = wr.alloc (.cells #[.int .i64 1, .int .i64 d, .int .i64 x.a, .int .i64 x.b, .int .i64 x.sa, .int .i64 x.sb, .int .i64 x.imm] 49) := rfl
                         rw [e3, e1, e2] at hr
                         exact hr)
                      | (have hs' := nf_ hs
                         have hr := (r3_low HO.out HX.out HB.out HR.out hb ⟨hg2, hgR⟩ rfl hlt HXS.out HD.out (show insVal x _ _ = x.imm by simp [insVal, HOP.out])).1 hs' (.cells #[.int .i64 1, .int .i64 d, .int .i64 x.a, .int .i64 x.b, .int .i64 x.sa, .int .i64 x.sb, .int .i64 x.imm] 49) 0
                         refine ⟨?_, by simp [intOf]; omega⟩
                         have e2 := World.setCell_alloc_past (w := wr) (.cells #[.int .i64 1, .int .i64 d, .int .i64 x.a, .int .i64 x.b, .int .i64 x.sa, .int .i64 x.sb, .int .i64 x.imm] 49) g d (.int .i64 x.imm) hgs
                         have e3 : ((wr.alloc (.cells #[.int .i64 1, .int .i64 d, .int .i64 x.a, .int .i64 x.b, .int .i64 x.sa, .int .i64 x.sb, .int .i64 x.imm] 49)).drewN 0) = wr.alloc (.cells #[.int .i64 1, .int .i64 d, .int .i64 x.a, .int .i64 x.b, .int .i64 x.sa, .int .i64 x.sb, .int .i64 x.imm] 49) := rfl
                         rw [e3, e2] at hr
                         exact hr)
                · as_aux_lemma =>
                  rw [hop] at g0
                  obtain ⟨ha0, ha1⟩ := HIO.out.a (by rw [hop]; rfl)
                  obtain ⟨a, ha⟩ := Int.eq_ofNat_of_zero_le ha0
                  rw [hop, ha] at ha1
                  rw [ha] at g2
                  have haL : a < is.length := by simp at ha1; omega
                  have haL' : (a : Int) < (cs.length : Int) := by have := HL.out; omega
                  have fa := HO.out.at_ HLN.out (j := a) (by have := HL.out; omega)
                  have HA := Lib.hid ha
                  clear ha0 ha1 ha haL
                  obtain ⟨t1, t2⟩ := HIO.out.sa (by rw [hop]; rfl)
                  have HOP := Lib.hid hop
                  clear hop
                  go_wp2_with fail
                  go_quiet ((go_at_call 26; exact quiet_left (scaled_any _ _ _ (by omega) (by omega))))
                  go_wp2_with fail
                  go_wp2_with (go_at_call 25; refine (short_any _ _).mono ?_; rintro e w2 ⟨rfl, rfl⟩)
                  all_goals
                    rename_i hs
                    first
                      | (have hs' := nt_ hs
                         exact ⟨(r3_low HO.out HX.out HB.out HR.out hb ⟨hg2, hgR⟩ rfl hlt HXS.out HD.out (by simp [insVal, HOP.out, HA.out])).2 hs' _ _, by simp [intOf]; omega⟩)
                      | (have hs' := nf_ hs
                         exact ⟨(r3_low HO.out HX.out HB.out HR.out hb ⟨hg2, hgR⟩ rfl hlt HXS.out HD.out (by simp [insVal, HOP.out, HA.out])).1 hs' _ _, by simp [intOf]; omega⟩)
                · as_aux_lemma =>
                  rw [hop] at g0
                  obtain ⟨ha0, ha1⟩ := HIO.out.a (by rw [hop]; rfl)
                  obtain ⟨a, ha⟩ := Int.eq_ofNat_of_zero_le ha0
                  rw [hop, ha] at ha1
                  rw [ha] at g2
                  have haL : a < is.length := by simp at ha1; omega
                  have haL' : (a : Int) < (cs.length : Int) := by have := HL.out; omega
                  have fa := HO.out.at_ HLN.out (j := a) (by have := HL.out; omega)
                  have HA := Lib.hid ha
                  clear ha0 ha1 ha haL
                  obtain ⟨hb0, hb1⟩ := HIO.out.b (by rw [hop]; rfl)
                  obtain ⟨bb, hbb⟩ := Int.eq_ofNat_of_zero_le hb0
                  rw [hbb] at g3 hb1
                  have hbL' : (bb : Int) < (cs.length : Int) := by have := HL.out; omega
                  have fb := HO.out.at_ HLN.out (j := bb) (by have := HL.out; omega)
                  have HBB := Lib.hid hbb
                  clear hb0 hb1 hbb
                  obtain ⟨t1, t2⟩ := HIO.out.sa (by rw [hop]; rfl)
                  obtain ⟨t3, t4⟩ := HIO.out.sb (by rw [hop]; rfl)
                  have HOP := Lib.hid hop
                  clear hop
                  go_wp2_with fail
                  go_quiet ((go_at_call 26; exact quiet_left (scaled_any _ _ _ (by omega) (by omega))))
                  go_wp2_with fail
                  go_wp2_with (go_at_call 25; refine (short_any _ _).mono ?_; rintro e w2 ⟨rfl, rfl⟩)
                  all_goals
                    rename_i hs
                    first
                      | (have hs' := nt_ hs
                         exact ⟨(r3_low HO.out HX.out HB.out HR.out hb ⟨hg2, hgR⟩ rfl hlt HXS.out HD.out (by simp [insVal, HOP.out, HA.out, HBB.out])).2 hs' _ _, by simp [intOf]; omega⟩)
                      | (have hs' := nf_ hs
                         exact ⟨(r3_low HO.out HX.out HB.out HR.out hb ⟨hg2, hgR⟩ rfl hlt HXS.out HD.out (by simp [insVal, HOP.out, HA.out, HBB.out])).1 hs' _ _, by simp [intOf]; omega⟩)
                · as_aux_lemma =>
                  rw [hop] at g0
                  obtain ⟨ha0, ha1⟩ := HIO.out.a (by rw [hop]; rfl)
                  obtain ⟨a, ha⟩ := Int.eq_ofNat_of_zero_le ha0
                  rw [hop, ha] at ha1
                  rw [ha] at g2
                  have haL : a < is.length := by simp at ha1; omega
                  have haL' : (a : Int) < (cs.length : Int) := by have := HL.out; omega
                  have fa := HO.out.at_ HLN.out (j := a) (by have := HL.out; omega)
                  have HA := Lib.hid ha
                  clear ha0 ha1 ha haL
                  obtain ⟨hb0, hb1⟩ := HIO.out.b (by rw [hop]; rfl)
                  obtain ⟨bb, hbb⟩ := Int.eq_ofNat_of_zero_le hb0
                  rw [hbb] at g3 hb1
                  have hbL' : (bb : Int) < (cs.length : Int) := by have := HL.out; omega
                  have fb := HO.out.at_ HLN.out (j := bb) (by have := HL.out; omega)
                  have HBB := Lib.hid hbb
                  clear hb0 hb1 hbb
                  obtain ⟨t1, t2⟩ := HIO.out.sa (by rw [hop]; rfl)
                  obtain ⟨t3, t4⟩ := HIO.out.sb (by rw [hop]; rfl)
                  have HOP := Lib.hid hop
                  clear hop
                  go_wp2_with fail
                  go_quiet ((go_at_call 26; exact quiet_left (scaled_any _ _ _ (by omega) (by omega))))
                  go_wp2_with fail
                  go_wp2_with (go_at_call 25; refine (short_any _ _).mono ?_; rintro e w2 ⟨rfl, rfl⟩)
                  all_goals
                    rename_i hs
                    first
                      | (have hs' := nt_ hs
                         exact ⟨(r3_low HO.out HX.out HB.out HR.out hb ⟨hg2, hgR⟩ rfl hlt HXS.out HD.out (by simp [insVal, HOP.out, HA.out, HBB.out])).2 hs' _ _, by simp [intOf]; omega⟩)
                      | (have hs' := nf_ hs
                         exact ⟨(r3_low HO.out HX.out HB.out HR.out hb ⟨hg2, hgR⟩ rfl hlt HXS.out HD.out (by simp [insVal, HOP.out, HA.out, HBB.out])).1 hs' _ _, by simp [intOf]; omega⟩)
                · as_aux_lemma =>
                  rw [hop] at g0
                  obtain ⟨ha0, ha1⟩ := HIO.out.a (by rw [hop]; rfl)
                  obtain ⟨a, ha⟩ := Int.eq_ofNat_of_zero_le ha0
                  rw [hop, ha] at ha1
                  rw [ha] at g2
                  have haL : a < is.length := by simp at ha1; omega
                  have haL' : (a : Int) < (cs.length : Int) := by have := HL.out; omega
                  have fa := HO.out.at_ HLN.out (j := a) (by have := HL.out; omega)
                  have HA := Lib.hid ha
                  clear ha0 ha1 ha haL
                  obtain ⟨t1, t2⟩ := HIO.out.sa (by rw [hop]; rfl)
                  have HOP := Lib.hid hop
                  clear hop
                  go_wp2_with fail
                  go_quiet ((go_at_call 26; exact quiet_left (scaled_any _ _ _ (by omega) (by omega))))
                  go_wp2_with fail
                  go_wp2_with (go_at_call 25; refine (short_any _ _).mono ?_; rintro e w2 ⟨rfl, rfl⟩)
                  all_goals
                    rename_i hs
                    first
                      | (have hs' := nt_ hs
                         exact ⟨(r3_low HO.out HX.out HB.out HR.out hb ⟨hg2, hgR⟩ rfl hlt HXS.out HD.out (by simp [insVal, HOP.out, HA.out])).2 hs' _ _, by simp [intOf]; omega⟩)
                      | (have hs' := nf_ hs
                         exact ⟨(r3_low HO.out HX.out HB.out HR.out hb ⟨hg2, hgR⟩ rfl hlt HXS.out HD.out (by simp [insVal, HOP.out, HA.out])).1 hs' _ _, by simp [intOf]; omega⟩)
                · as_aux_lemma =>
                  rw [hop] at g0
                  obtain ⟨ha0, ha1⟩ := HIO.out.a (by rw [hop]; rfl)
                  obtain ⟨a, ha⟩ := Int.eq_ofNat_of_zero_le ha0
                  rw [hop, ha] at ha1
                  rw [ha] at g2
                  have haL : a < is.length := by simp at ha1; omega
                  have haL' : (a : Int) < (cs.length : Int) := by have := HL.out; omega
                  have fa := HO.out.at_ HLN.out (j := a) (by have := HL.out; omega)
                  have HA := Lib.hid ha
                  clear ha0 ha1 ha haL
                  obtain ⟨t1, t2⟩ := HIO.out.sa (by rw [hop]; rfl)
                  have HOP := Lib.hid hop
                  clear hop
                  go_wp2_with fail
                  go_quiet ((go_at_call 26; exact quiet_left (scaled_any _ _ _ (by omega) (by omega))))
                  go_wp2_with fail
                  go_wp2_with (go_at_call 25; refine (short_any _ _).mono ?_; rintro e w2 ⟨rfl, rfl⟩)
                  all_goals
                    rename_i hs
                    first
                      | (have hs' := nt_ hs
                         exact ⟨(r3_low HO.out HX.out HB.out HR.out hb ⟨hg2, hgR⟩ rfl hlt HXS.out HD.out (by simp [insVal, HOP.out, HA.out])).2 hs' _ _, by simp [intOf]; omega⟩)
                      | (have hs' := nf_ hs
                         exact ⟨(r3_low HO.out HX.out HB.out HR.out hb ⟨hg2, hgR⟩ rfl hlt HXS.out HD.out (by simp [insVal, HOP.out, HA.out])).1 hs' _ _, by simp [intOf]; omega⟩)
                · as_aux_lemma =>
                  rw [hop] at g0
                  obtain ⟨ha0, ha1⟩ := HIO.out.a (by rw [hop]; rfl)
                  obtain ⟨a, ha⟩ := Int.eq_ofNat_of_zero_le ha0
                  rw [hop, ha] at ha1
                  rw [ha] at g2
                  have haL : a < is.length := by simp at ha1; omega
                  have haL' : (a : Int) < (cs.length : Int) := by have := HL.out; omega
                  have fa := HO.out.at_ HLN.out (j := a) (by have := HL.out; omega)
                  have HA := Lib.hid ha
                  clear ha0 ha1 ha haL
                  obtain ⟨hb0, hb1⟩ := HIO.out.b (by rw [hop]; rfl)
                  obtain ⟨bb, hbb⟩ := Int.eq_ofNat_of_zero_le hb0
                  rw [hbb] at g3 hb1
                  have hbL' : (bb : Int) < (cs.length : Int) := by have := HL.out; omega
                  have fb := HO.out.at_ HLN.out (j := bb) (by have := HL.out; omega)
                  have HBB := Lib.hid hbb
                  clear hb0 hb1 hbb
                  obtain ⟨t1, t2⟩ := HIO.out.sa (by rw [hop]; rfl)
                  have HOP := Lib.hid hop
                  clear hop
                  go_wp2_with fail
                  go_quiet ((go_at_call 26; exact quiet_left (scaled_any _ _ _ (by omega) (by omega))))
                  go_wp2_with fail
                  go_wp2_with (go_at_call 25; refine (short_any _ _).mono ?_; rintro e w2 ⟨rfl, rfl⟩)
                  all_goals
                    rename_i hs
                    first
                      | (have hs' := nt_ hs
                         exact ⟨(r3_low HO.out HX.out HB.out HR.out hb ⟨hg2, hgR⟩ rfl hlt HXS.out HD.out (by simp [insVal, HOP.out, HA.out, HBB.out])).2 hs' _ _, by simp [intOf]; omega⟩)
                      | (have hs' := nf_ hs
                         exact ⟨(r3_low HO.out HX.out HB.out HR.out hb ⟨hg2, hgR⟩ rfl hlt HXS.out HD.out (by simp [insVal, HOP.out, HA.out, HBB.out])).1 hs' _ _, by simp [intOf]; omega⟩)
                · as_aux_lemma =>
                  rw [hop] at g0
                  obtain ⟨ha0, ha1⟩ := HIO.out.a (by rw [hop]; rfl)
                  obtain ⟨a, ha⟩ := Int.eq_ofNat_of_zero_le ha0
                  rw [hop, ha] at ha1
                  rw [ha] at g2
                  have haL : a < is.length := by simp at ha1; omega
                  have haL' : (a : Int) < (cs.length : Int) := by have := HL.out; omega
                  have fa := HO.out.at_ HLN.out (j := a) (by have := HL.out; omega)
                  have HA := Lib.hid ha
                  clear ha0 ha1 ha haL
                  obtain ⟨hb0, hb1⟩ := HIO.out.b (by rw [hop]; rfl)
                  obtain ⟨bb, hbb⟩ := Int.eq_ofNat_of_zero_le hb0
                  rw [hbb] at g3 hb1
                  have hbL' : (bb : Int) < (cs.length : Int) := by have := HL.out; omega
                  have fb := HO.out.at_ HLN.out (j := bb) (by have := HL.out; omega)
                  have HBB := Lib.hid hbb
                  clear hb0 hb1 hbb
                  obtain ⟨t1, t2⟩ := HIO.out.sa (by rw [hop]; rfl)
                  obtain ⟨t3, t4⟩ := HIO.out.sb (by rw [hop]; rfl)
                  have HOP := Lib.hid hop
                  clear hop
                  go_wp2_with fail
                  go_quiet ((go_at_call 26; exact quiet_left (scaled_any _ _ _ (by omega) (by omega))))
                  go_wp2_with fail
                  go_wp2_with (go_at_call 25; refine (short_any _ _).mono ?_; rintro e w2 ⟨rfl, rfl⟩)
                  all_goals
                    rename_i hs
                    first
                      | (have hs' := nt_ hs
                         rw [← Int.min_assoc]
                         exact ⟨(r3_low HO.out HX.out HB.out HR.out hb ⟨hg2, hgR⟩ rfl hlt HXS.out HD.out (by simp [insVal, HOP.out, HA.out, HBB.out])).2 hs' _ _, by simp [intOf]; omega⟩)
                      | (have hs' := nf_ hs
                         exact ⟨(r3_low HO.out HX.out HB.out HR.out hb ⟨hg2, hgR⟩ rfl hlt HXS.out HD.out (by simp [insVal, HOP.out, HA.out, HBB.out])).1 hs' _ _, by simp [intOf]; omega⟩)
                · as_aux_lemma =>
                  rw [hop] at g0
                  obtain ⟨ha0, ha1⟩ := HIO.out.a (by rw [hop]; rfl)
                  obtain ⟨a, ha⟩ := Int.eq_ofNat_of_zero_le ha0
                  rw [hop, ha] at ha1
                  rw [ha] at g2
                  have haL : a < is.length := by simp at ha1; omega
                  have haL' : (a : Int) < (cs.length : Int) := by have := HL.out; omega
                  have fa := HO.out.at_ HLN.out (j := a) (by have := HL.out; omega)
                  have HA := Lib.hid ha
                  clear ha0 ha1 ha haL
                  obtain ⟨hb0, hb1⟩ := HIO.out.b (by rw [hop]; rfl)
                  obtain ⟨bb, hbb⟩ := Int.eq_ofNat_of_zero_le hb0
                  rw [hbb] at g3 hb1
                  have hbL' : (bb : Int) < (cs.length : Int) := by have := HL.out; omega
                  have fb := HO.out.at_ HLN.out (j := bb) (by have := HL.out; omega)
                  have HBB := Lib.hid hbb
                  clear hb0 hb1 hbb
                  obtain ⟨t1, t2⟩ := HIO.out.sa (by rw [hop]; rfl)
                  obtain ⟨t3, t4⟩ := HIO.out.sb (by rw [hop]; rfl)
                  have HOP := Lib.hid hop
                  clear hop
                  go_wp2_with fail
                  go_quiet ((go_at_call 26; exact quiet_left (scaled_any _ _ _ (by omega) (by omega))))
                  go_wp2_with fail
                  go_wp2_with (go_at_call 25; refine (short_any _ _).mono ?_; rintro e w2 ⟨rfl, rfl⟩)
                  all_goals
                    rename_i hs
                    first
                      | (have hs' := nt_ hs
                         exact ⟨(r3_low HO.out HX.out HB.out HR.out hb ⟨hg2, hgR⟩ rfl hlt HXS.out HD.out (by simp [insVal, HOP.out, HA.out, HBB.out])).2 hs' _ _, by simp [intOf]; omega⟩)
                      | (have hs' := nf_ hs
                         exact ⟨(r3_low HO.out HX.out HB.out HR.out hb ⟨hg2, hgR⟩ rfl hlt HXS.out HD.out (by simp [insVal, HOP.out, HA.out, HBB.out])).1 hs' _ _, by simp [intOf]; omega⟩)
                · as_aux_lemma =>
                  rw [hop] at g0
                  obtain ⟨ha0, ha1⟩ := HIO.out.a (by rw [hop]; rfl)
                  obtain ⟨a, ha⟩ := Int.eq_ofNat_of_zero_le ha0
                  rw [hop, ha] at ha1
                  rw [ha] at g2
                  have haL : a < is.length := by simp at ha1; omega
                  have haL' : (a : Int) < (cs.length : Int) := by have := HL.out; omega
                  have fa := HO.out.at_ HLN.out (j := a) (by have := HL.out; omega)
                  have HA := Lib.hid ha
                  clear ha0 ha1 ha haL
                  obtain ⟨t1, t2⟩ := HIO.out.sa (by rw [hop]; rfl)
                  have HOP := Lib.hid hop
                  clear hop
                  go_wp2_with fail
                  go_quiet ((go_at_call 26; exact quiet_left (scaled_any _ _ _ (by omega) (by omega))))
                  go_wp2_with fail
                  go_wp2_with (go_at_call 25; refine (short_any _ _).mono ?_; rintro e w2 ⟨rfl, rfl⟩)
                  all_goals
                    rename_i hs
                    first
                      | (have hs' := nt_ hs
                         exact ⟨(r3_low HO.out HX.out HB.out HR.out hb ⟨hg2, hgR⟩ rfl hlt HXS.out HD.out (by simp [insVal, HOP.out, HA.out])).2 hs' _ _, by simp [intOf]; omega⟩)
                      | (have hs' := nf_ hs
                         exact ⟨(r3_low HO.out HX.out HB.out HR.out hb ⟨hg2, hgR⟩ rfl hlt HXS.out HD.out (by simp [insVal, HOP.out, HA.out])).1 hs' _ _, by simp [intOf]; omega⟩)
              · as_aux_lemma =>
                have hT : xs.take k = xs := List.take_of_length_le (by omega)
                have hown := HO.out
                have hRb := HR.out
                have hX := HX.out
                have hB := HB.out
                rw [hT] at hown hRb
                have RM : runM ps is xs os cs inn = ⟨(runR inn xs (cs, false)).1, outsOf (runR inn xs (cs, false)).1 os, (runR inn xs (cs, false)).2⟩ := if_pos P2.out
                obtain ⟨csF, hcsF⟩ : ∃ l, l = (runR inn xs (cs, false)).1 := ⟨_, rfl⟩
                obtain ⟨OV, hOV⟩ : ∃ l, l = (runR inn xs (cs, false)).2 := ⟨_, rfl⟩
                have hlF : csF.length = cs.length := by rw [hcsF, runR_len]
                rw [← hcsF] at hown RM
                rw [← hOV] at hRb RM
                have HLF := Lib.hid hlF
                have RMH := Lib.hid RM
                clear HO HR HX HB RM hlF hcsF hOV HLN hT
                have x3 := hX.c3
                go_wp2_with fail
                obtain ⟨w4, hw4⟩ : ∃ w4, w4 = wr := ⟨_, rfl⟩
                rw [← hw4]
                rw [← hw4] at hown hRb hX hB hb
                clear x3 z0 z1 hw4 hlt
                go_loopw [279] (fun i wr => r4Rel w [.slice A1 ps.length c1, .slice A2 is.length c2, .slice A3 xs.length c3, .slice A4 os.length c4] A cs.length c R csF OV os i wr) (fun i _ => os.length - (intOf i).toNat)
                case atStart => exact ⟨0, _, Nat.zero_le _, rfl, hown, hX, hB, hRb, OwnI.nil_ _ _, hb⟩
                case round =>
                  as_aux_lemma =>
                  clear hown hX hB hRb hb
                  obtain ⟨k, v, hk, rfl, hown, hX, hB, hRb, hvv, hb⟩ := hrel
                  have HO := Lib.hid hown
                  have HX := Lib.hid hX
                  have HB := Lib.hid hB
                  have HR := Lib.hid hRb
                  have HV := Lib.hid hvv
                  clear hown hX hB hRb hvv
                  have z0 : w.heap.size < wr.heap.size := HX.out.1
                  have z1 : R < wr.heap.size := HR.out.lt
                  have z2 : w.heap.size + 1 < wr.heap.size := HB.out.lt
                  have f3 : ∀ j, wr.frozen? ⟨R, j, none⟩ = false := fun j => HR.out.free j
                  have f4 : wr.cell? ⟨R, 0, none⟩ = some (.slice A cs.length c) := HR.out.cell 0
                  have f5 : wr.cell? ⟨R, 1, none⟩ = some v := HR.out.cell 1
                  by_cases hlt : k < os.length
                  · as_aux_lemma =>
                    obtain ⟨b, off, z, rfl, hbm, hbs, hx, hc⟩ := H4.out.int_ hlt
                    have hc' := (hb.cell (p := ⟨b, off + k, none⟩) (Nat.lt_of_lt_of_le hbm hm)).trans hc
                    clear hc
                    obtain ⟨o0, o1⟩ := HP.out.out z (List.mem_of_getElem? hx)
                    have HXS := Lib.hid hx
                    clear hx
                    obtain ⟨o, ho⟩ := Int.eq_ofNat_of_zero_le o0
                    have HOO := Lib.hid ho
                    have o2 : o < cs.length := by have := HL.out; omega
                    have o2' : (o : Int) < (cs.length : Int) := by omega
                    rw [ho] at hc'
                    clear o0 o1 ho
                    obtain ⟨g, hgA, hg2, hgs⟩ := HO.out.some_ (by omega)
                    rw [hgA] at f4
                    have f2 := (hgA ▸ HO.out : OwnI wr (w.heap.size + 2) (.slice (some ⟨g, 0, none⟩) cs.length c) csF).at_ HLF.out.symm o2
                    clear hgA
                    go_wp2_with fail
                    have HLO : Hid ((outsOf csF (os.take k)).length < 1000000) := Lib.hid (by rw [outs_len]; simp; omega)
                    go_region_law (first | (refine step_push rfl (.tmp 284) (.tmp 290) rfl (R + 1) v (outsOf csF (os.take k)) (csF[o]?.getD 0) wr.heap.size rfl (HV.out.alloc _) rfl (by simp [go_sem]) HLO.out (by first | (simp; omega) | simp | omega) ?_; intro v' w5 hown5 hg5 hb5; obtain ⟨qc, qf, qs, qz⟩ := ext_at (m := R + 1) hb5 (by first | (simp; omega) | simp | omega) (by first | (simp; omega) | simp | omega); obtain ⟨A5', c5', rfl, _, _⟩ := hown5.view))
                    all_goals
                      go_wp2_with fail
                      exact ⟨r4_low HO.out HX.out HB.out HR.out hb hAR hR2 hlt HXS.out (by rw [HOO.out]; simpa using hown5) (((Below.refl _ wr).drew.alloc (by show R + 1 ≤ wr.heap.size; omega) _).trans hb5), by simp [intOf]; omega⟩
                  · as_aux_lemma =>
                    have hT : os.take k = os := List.take_of_length_le (by omega)
                    obtain ⟨B, d, rfl, _, _⟩ := HV.out.view
                    have f6 : wr.cell? ⟨R, 2, none⟩ = some (.bool OV) := HR.out.cell 2
                    have hV := HV.out
                    rw [hT] at hV
                    have e0 : ∀ j, wr.frozen? ⟨w.heap.size + 1, j, none⟩ = false := fun j => HB.out.free j
                    have e1 : wr.cell? ⟨w.heap.size + 1, 0, none⟩ = some (.slice none 0 0) := HB.out.cell 0
                    have e2 : wr.cell? ⟨w.heap.size + 1, 1, none⟩ = some (.slice none 0 0) := HB.out.cell 1
                    have e3 : wr.cell? ⟨w.heap.size + 1, 2, none⟩ = some (.bool false) := HB.out.cell 2
                    go_wp2_with fail
                    refine bodyPost_ret (res_run (ev := .nilIface) rfl rfl (((HB.out.set_ 0 _).set_ 1 _).set_ 2 _)) rfl ?_
                    rw [RMH.out, P2.out]
                    exact r4_end (r := ⟨csF, outsOf csF os, OV⟩) HO.out hV hR2 hb rfl

      · have h0 : runErr ps is xs os cs inn = 11 := runErr_in HE.out HL.out P1.out hl2
        have e2 : ((inn.length : Int) != (ps.length : Int)) = true := by simp; omega
        clear hl2
        have x0 := HX.out.c0
        go_wp2_with fail
        exact bodyPost_ret (res_run (ev := .iface 65 (.int .i64 11)) rfl rfl (((HB.out.set_ 0 _).set_ 1 _).set_ 2 _)) rfl (RunPost.zero (runM_err (h0) (by decide)) (((b1.setCell (by simp) _).setCell (by simp) _).setCell (by simp) _) (by rw [h0, errV_n (by decide)]))
end Go.Proofs.Ytdhlmbnmgioeeaa
