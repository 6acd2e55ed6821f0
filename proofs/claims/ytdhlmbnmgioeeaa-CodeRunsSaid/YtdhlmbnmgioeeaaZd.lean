/- The document's Run of an accepted program. And more of the kind. No conditions. -/
import Derived.Test.YtdhlmbnmgioeeaaZb
/- The document's Run of an accepted program. No conditions. -/
namespace Go.Proofs.Ytdhlmbnmgioeeaa
set_option linter.unusedVariables false
set_option linter.unusedSimpArgs false
set_option linter.unusedSectionVars false
open Go.RowKit

set_option maxRecDepth 100000 in
set_option maxHeartbeats 40000000 in
theorem rRun_any (A1 A2 A3 A4 A5 A6 : Option Addr) (ps : List Prt) (is : List Int) (xs : List Ins) (os cs inn : List Int) (c1 c2 c3 c4 c5 c6 m : Nat) (w : World) (hm : m ≤ w.heap.size) (h1 : CellsAt w m A1 (flat Prt.cells ps)) (h2 : CellsAt w m A2 (ints is)) (h3 : CellsAt w m A3 (flat Ins.cells xs)) (h4 : CellsAt w m A4 (ints os))
    (h5 : CellsAt w m A5 (ints cs)) (h6 : CellsAt w m A6 (ints inn)) (hn5 : A5 = none → c5 = 0) (he : progErr ps is xs os = 0) (l5 : cs.length ≤ 1000) (l6 : inn.length ≤ 1000) :
    Calls Try.prog 16 #[.agg #[.slice A1 ps.length c1, .slice A2 is.length c2, .slice A3 xs.length c3, .slice A4 os.length c4], .slice A5 cs.length c5, .slice A6 inn.length c6] w (RunPostN w (runM ps is xs os cs inn) (runErr ps is xs os cs inn)) := by
  have H1 := Lib.hid h1
  have H2 := Lib.hid h2
  have H3 := Lib.hid h3
  have H4 := Lib.hid h4
  have H5 := Lib.hid h5
  have H6 := Lib.hid h6
  have HN := Lib.hid hn5
  clear h1 h2 h3 h4 h5 h6 hn5
  have HE := Lib.hid he
  have HP := Lib.hid (pOk he)
  have l1 : (ps.length : Int) ≤ 16 := by have := HP.out.l1; omega
  have l3 : (xs.length : Int) ≤ 256 := by have := HP.out.l3; omega
  have l4 : (os.length : Int) ≤ 16 := by have := HP.out.l4; omega
  clear he
  have b0 : ∀ (vs us : Array Value), Below w.heap.size w ((w.alloc (.cells vs 26)).alloc (.cells us 32)) := fun _ _ => ext_alloc (ext_alloc (Below.refl _ _) _) _
  have HB := Lib.hid (blk1 w (.cells #[.slice A1 ps.length c1, .slice A2 is.length c2, .slice A3 xs.length c3, .slice A4 os.length c4] 26) [.slice none 0 0, .slice none 0 0, .bool false] 32)
  have HX := Lib.hid (box1 w [.slice A1 ps.length c1, .slice A2 is.length c2, .slice A3 xs.length c3, .slice A4 os.length c4] 26 (.cells #[.slice none 0 0, .slice none 0 0, .bool false] 32))
  have b1 : Below w.heap.size w ((w.alloc (.cells #[.slice A1 ps.length c1, .slice A2 is.length c2, .slice A3 xs.length c3, .slice A4 os.length c4] 26)).alloc (.cells #[.slice none 0 0, .slice none 0 0, .bool false] 32)) := b0 _ _
  clear b0
  by_cases hl : cs.length = is.length
  · have HL := Lib.hid hl
    have l0 : (cs.length : Int) ≤ 192 := by have := HP.out.l2; omega
    have e1 : ((cs.length : Int) != (is.length : Int)) = false := by simp; omega
    clear hl
    go_enter Try.func16, Try.ntmps16
    go_wp2_with fail
    obtain ⟨w1, hw1⟩ : ∃ w1, w1 = ((w.alloc (.cells #[.slice A1 ps.length c1, .slice A2 is.length c2, .slice A3 xs.length c3, .slice A4 os.length c4] 26)).alloc (.cells #[.slice none 0 0, .slice none 0 0, .bool false] 32)) := ⟨_, rfl⟩
    have qz : w.heap.size + 2 ≤ w1.heap.size := by rw [hw1]; simp
    rw [← hw1]
    rw [← hw1] at HB HX b1
    clear hw1
    have s1 := HB.out.lt
    go_loopw [28] (fun i wr => qRel w1 cs.length (cs.map initErr) i wr) (fun i _ => cs.length - (intOf i).toNat)
    case atStart => exact ⟨0, Nat.zero_le _, rfl, rfl, rfl⟩
    case round =>
      obtain ⟨k, hk, rfl, hf, rfl⟩ := hrel
      have HF := Lib.hid hf
      clear hf
      by_cases hlt : k < cs.length
      · obtain ⟨b, off, z, rfl, hbm, hbs, hx, hc5⟩ := H5.out.int_ hlt
        have hc' := (b1.cell (p := ⟨b, off + k, none⟩) (Nat.lt_of_lt_of_le hbm hm)).trans hc5
        clear hc5
        have HZ := Lib.hid hx
        clear hx
        by_cases hs : shortB z = true
        · have HS := Lib.hid hs
          go_wp2_with (go_at_call 28; refine (word_any _ _).mono ?_; rintro e w2 ⟨rfl, rfl⟩)
          exact ⟨⟨k + 1, by omega, by go_num, fe_step (by rw [List.getElem?_map, HZ.out]; exact congrArg some (if_pos HS.out)) HF.out, rfl⟩, by simp [intOf]; omega⟩
        · have HS := Lib.hid hs
          have hs : shortB z = false := by simpa using hs
          have eb0 : w1.cell? ⟨w.heap.size + 1, 0, none⟩ = some (.slice none 0 0) := HB.out.cell 0
          have eb1 : w1.cell? ⟨w.heap.size + 1, 1, none⟩ = some (.slice none 0 0) := HB.out.cell 1
          have eb2 : w1.cell? ⟨w.heap.size + 1, 2, none⟩ = some (.bool false) := HB.out.cell 2
          have ebf : ∀ j, w1.frozen? ⟨w.heap.size + 1, j, none⟩ = false := fun j => HB.out.free j
          go_wp2_with (go_at_call 28; refine (word_any _ _).mono ?_; rintro e w2 ⟨rfl, rfl⟩)
          have h0 : runErr ps is xs os cs inn = 3 := runErr_cell HE.out HL.out (fe_hit (k := k) (by rw [List.getElem?_map, HZ.out]; exact congrArg some (if_neg HS.out)) (by decide) HF.out) (by decide)
          exact bodyPost_ret (res_rrun (ev := .int .i64 3) rfl rfl (((HB.out.set_ 0 _).set_ 1 _).set_ 2 _)) rfl (RunPostN.zero (runM_err (h0) (by decide)) (((b1.setCell (by simp) _).setCell (by simp) _).setCell (by simp) _) (by rw [h0]))
      · have P1 := Lib.hid (fe_all (k := k) (by rw [List.length_map]; omega) HF.out)
        clear HF
        have x0 := HX.out.c0
        by_cases hl2 : inn.length = ps.length
        · have HL2 := Lib.hid hl2
          have e2 : ((inn.length : Int) != (ps.length : Int)) = false := by simp; omega
          clear hl2
          go_wp2_with fail
          clear hlt hk
          go_loopw [47] (fun i wr => q2Rel w1 ps.length (List.zipWith inErr ps inn) i wr) (fun i _ => ps.length - (intOf i).toNat)
          case atStart => exact ⟨0, Nat.zero_le _, rfl, rfl, Below.refl _ _⟩
          case round =>
            as_aux_lemma =>
            obtain ⟨k, hk, rfl, hf, hbx⟩ := hrel
            have HF := Lib.hid hf
            clear hf
            have hsx := hbx.size
            clear x0
            by_cases hlt : k < ps.length
            · as_aux_lemma =>
              have hlt2 : k < inn.length := by have := HL2.out; omega
              have hlt3 : (k : Int) < (inn.length : Int) := by omega
              obtain ⟨b, off, z, rfl, hbm, hbs, hx, hc6⟩ := H6.out.int_ hlt2
              have bw := b1.trans (hbx.mono (by omega))
              have hc6' := (bw.cell (p := ⟨b, off + k, none⟩) (Nat.lt_of_lt_of_le hbm hm)).trans hc6
              have hbs' : b < wr.heap.size := by have := bw.size; omega
              obtain ⟨pb, poff, x, rfl, hpm, hps, hpx, hpc⟩ := H1.out.row (s := 3) (fun _ => rfl) (by omega) hlt
              have hp' := fun j u (hu : (Prt.cells x)[j]? = some u) => (bw.cell (p := ⟨pb, poff + k * 3 + j, none⟩) (Nat.lt_of_lt_of_le hpm hm)).trans (hpc j u hu)
              have g0 : wr.cell? ⟨pb, poff + k * 3, none⟩ = some (.int .i64 x.lo) := hp' 0 _ rfl
              have g1 := hp' 1 _ rfl
              have g2 := hp' 2 _ rfl
              clear hc6 hpc hp'
              have HZ := Lib.hid (in_at hpx hx)
              have HBX := Lib.hid hbx
              have HBW := Lib.hid bw
              clear hx hpx bw hbx
              by_cases hwi : x.lo ≤ z ∧ z ≤ x.hi
              · have hwb : withinB z x.lo x.hi = true := decide_eq_true hwi
                have HWI := Lib.hid hwi
                clear hwi
                go_wp2_with fail
                go_quiet ((go_at_call 27; exact quiet_left (within_any _ _ _ _)))
                go_wp2_with fail
                exact ⟨⟨k + 1, by omega, by go_num, fe_step (by rw [HZ.out]; exact congrArg some (if_pos HWI.out)) HF.out, below_drewN (HBX.out.alloc (by omega) _) _⟩, by simp [intOf]; omega⟩
              · have hwb : withinB z x.lo x.hi = false := decide_eq_false hwi
                have HWI := Lib.hid hwi
                clear hwi
                have hbx := (HBX.out.block (w.heap.size + 1) (by omega))
                have HBr : Blk wr (w.heap.size + 1) [.slice none 0 0, .slice none 0 0, .bool false] 32 := HB.out.below HBX.out (by omega)
                have eb0 : wr.cell? ⟨w.heap.size + 1, 0, none⟩ = some (.slice none 0 0) := HBr.cell 0
                have eb1 : wr.cell? ⟨w.heap.size + 1, 1, none⟩ = some (.slice none 0 0) := HBr.cell 1
                have eb2 : wr.cell? ⟨w.heap.size + 1, 2, none⟩ = some (.bool false) := HBr.cell 2
                have ebf : ∀ j, wr.frozen? ⟨w.heap.size + 1, j, none⟩ = false := fun j => HBr.free j
                have ebl : w.heap.size + 1 < wr.heap.size := by omega
                clear hbx
                go_wp2_with fail
                go_quiet ((go_at_call 27; exact quiet_left (within_any _ _ _ _)))
                go_wp2_with fail
                have h0 : runErr ps is xs os cs inn = 3 := runErr_val HE.out HL.out P1.out HL2.out (fe_hit (k := k) (by rw [HZ.out]; exact congrArg some (if_neg HWI.out)) (by decide) HF.out)
                have hst : Below wr.heap.size wr ((wr.alloc (.cells #[.int .i64 x.lo, .int .i64 x.hi, .int .i64 x.fr] 53)).drewN nq) := below_drewN ((Below.refl _ wr).alloc (Nat.le_refl _) _) _
                exact bodyPost_ret (res_rrun (ev := .int .i64 3) rfl rfl ((((HBr.below hst (by omega)).set_ 0 _).set_ 1 _).set_ 2 _)) rfl (RunPostN.zero (runM_err (h0) (by decide)) (((((b1.trans (HBX.out.mono (by omega))).trans (hst.mono (by omega))).setCell (by simp) _).setCell (by simp) _).setCell (by simp) _) (by rw [h0]))
            · as_aux_lemma =>
              have P2 := Lib.hid (runErr_val (e := 0) HE.out HL.out P1.out HL2.out (fe_all (k := k) (by rw [List.length_zipWith]; omega) HF.out))
              have HSC := Lib.hid (cells_short P1.out)
              have HSI := Lib.hid (in_short HP.out (fe_all (k := k) (by rw [List.length_zipWith]; omega) HF.out) HL2.out)
              have HBr := Lib.hid (HB.out.below hbx (by omega))
              have HXr := Lib.hid (HX.out.below hbx (by omega))
              have b1r := b1.trans (hbx.mono (by omega))
              have qzr : w.heap.size + 2 ≤ wr.heap.size := by omega
              clear HF P1 HB HX b1 qz hbx hsx s1
              have x2 := HXr.out.c2
              have s1 := HBr.out.lt
              obtain ⟨w9, hw9⟩ : ∃ w9, w9 = wr := ⟨_, rfl⟩
              rw [← hw9]
              rw [← hw9] at HBr HXr b1r qzr x2 s1
              clear hw9
              have QZ := Lib.hid qzr
              go_wp2_with (at_builtin; refine app_ints rfl _ _ rfl (w.heap.size + 2) _ [] cs A5 c5 m rfl (OwnI.lit0 QZ.out) rfl HN.out ((H5.out.below b1r hm).below (ext_alloc (Below.refl _ _) _) (by omega)) (by simp; omega) (by have := QZ.out; simp; omega) ?_; intro v' w2 hown hg hb2; simp only [List.nil_append] at hown; obtain ⟨A, c, rfl, hAc, hcell⟩ := hown.view; have hst : Below (w.heap.size + 2) w9 w2 := ((Below.refl _ w9).alloc QZ.out _).trans hb2; have y2 := (HXr.out.below hst (by omega)).c2; have q2 : w.heap.size < w2.heap.size := (by have := hst.size; omega))
              have hAR : ∀ g, A = some ⟨g, 0, none⟩ → w.heap.size + 2 ≤ g ∧ g < w2.heap.size := fun g hg => World.ownsRow.lt hown g (by rw [hg]; rfl)
              obtain ⟨R, hR⟩ : ∃ R, R = w2.heap.size := ⟨_, rfl⟩
              have hR3 := Blk.new_ w2 [.slice A cs.length c, .slice none 0 0, .bool false] 32
              have hX3 := (HXr.out.below hst (by omega)).below ((Below.refl w2.heap.size w2).alloc (Nat.le_refl _) (.cells (#[.slice A cs.length c, .slice none 0 0, .bool false] : Array Value) 32)) q2
              have hB3 := (HBr.out.below hst (by omega)).below ((Below.refl w2.heap.size w2).alloc (Nat.le_refl _) (.cells (#[.slice A cs.length c, .slice none 0 0, .bool false] : Array Value) 32)) (by have := hst.size; omega)
              have hb3 := (b1r.trans (hst.mono (by omega))).alloc (by have := hst.size; have := QZ.out; omega) (.cells (#[.slice A cs.length c, .slice none 0 0, .bool false] : Array Value) 32)
              have hown3 := hown.alloc (.cells (#[.slice A cs.length c, .slice none 0 0, .bool false] : Array Value) 32)
              have hR2 : w.heap.size + 2 ≤ R := by have := hst.size; have := QZ.out; omega
              rw [← hR] at hR3 hAR
              rw [← hR]
              obtain ⟨w3, hw3⟩ : ∃ w3, w3 = w2.alloc (.cells (#[.slice A cs.length c, .slice none 0 0, .bool false] : Array Value) 32) := ⟨_, rfl⟩
              rw [← hw3]
              change Blk (w2.alloc (.cells (#[.slice A cs.length c, .slice none 0 0, .bool false] : Array Value) 32)) R _ _ at hR3
              rw [← hw3] at hR3 hX3 hB3 hb3 hown3
              clear hw3 hR hown hcell hst hg hb2 y2 q2 x2 qzr HBr HXr b1r s1 hk hlt
              go_loopw [71] (fun i wr => r3Rel w [.slice A1 ps.length c1, .slice A2 is.length c2, .slice A3 xs.length c3, .slice A4 os.length c4] A cs.length c R inn xs cs i wr) (fun i _ => xs.length - (intOf i).toNat)
              case atStart => exact ⟨0, Nat.zero_le _, rfl, hown3, hX3, hB3, hR3, hb3⟩
              case round =>
                as_aux_lemma =>
                clear hown3 hX3 hB3 hR3 hb3
                obtain ⟨k, hk, rfl, hown, hX, hB, hRb, hb⟩ := hrel
                have HO := Lib.hid hown
                have HX := Lib.hid hX
                have HB := Lib.hid hB
                have HR := Lib.hid hRb
                have HLN : Hid (cs.length = (runR inn (xs.take k) (cs, false)).1.length) := Lib.hid (by rw [runR_len])
                clear hown hX hB hRb
                have z0 : w.heap.size < wr.heap.size := HX.out.1
                have z1 : R < wr.heap.size := HR.out.lt
                by_cases hlt : k < xs.length
                · as_aux_lemma =>
                  obtain ⟨b, off, x, rfl, hbm, hbs, hx, hc⟩ := H3.out.row (s := 7) (fun _ => rfl) (by omega) hlt
                  have hc' := fun t u (hu : (Ins.cells x)[t]? = some u) => (hb.cell (p := ⟨b, off + k * 7 + t, none⟩) (Nat.lt_of_lt_of_le hbm hm)).trans (hc t u hu)
                  have g0 : wr.cell? ⟨b, off + k * 7, none⟩ = some (.int .i64 x.op) := hc' 0 _ rfl
                  have g1 := hc' 1 _ rfl
                  have g2 := hc' 2 _ rfl
                  have g3 := hc' 3 _ rfl
                  have g4 := hc' 4 _ rfl
                  have g5 := hc' 5 _ rfl
                  have g6 := hc' 6 _ rfl
                  clear hc hc'
                  have HXS := Lib.hid hx
                  have HIO := Lib.hid (HP.out.ins x (List.mem_of_getElem? hx))
                  clear hx
                  obtain ⟨d, hd⟩ := Int.eq_ofNat_of_zero_le HIO.out.dst0
                  have hd1 : d < cs.length := by have := HIO.out.dst1; have := HL.out; omega
                  have hd2 : (d : Int) < (cs.length : Int) := by omega
                  have HD := Lib.hid hd
                  rw [hd] at g1
                  clear hd
                  obtain ⟨g, hgA, hg2, hgs⟩ := HO.out.some_ (by omega)
                  subst hgA
                  have hgR := (hAR g rfl).2
                  have f4 : wr.cell? ⟨R, 0, none⟩ = some (.slice (some ⟨g, 0, none⟩) cs.length c) := HR.out.cell 0
                  have f5 : wr.cell? ⟨R, 2, none⟩ = some (.bool (runR inn (xs.take k) (cs, false)).2) := HR.out.cell 2
                  obtain ⟨cl, hcl⟩ : ∃ cl, cl = (runR inn (xs.take k) (cs, false)).1 := ⟨_, rfl⟩
                  obtain ⟨ov, hov⟩ : ∃ ov, ov = (runR inn (xs.take k) (cs, false)).2 := ⟨_, rfl⟩
                  have hclS : ∀ z ∈ cl, shortB z = true := by rw [hcl]; exact runR_short inn _ _ HSC.out
                  have HCL := Lib.hid hcl
                  have HCS := Lib.hid hclS
                  have HOV := Lib.hid hov
                  have hlen : cl.length = cs.length := by rw [hcl, runR_len]
                  have HLC := Lib.hid hlen
                  rw [← hov] at f5
                  clear hov hcl hclS hlen
                  have HIK : Hid (InsOk inn.length cl.length x) := Lib.hid (by rw [HLC.out, HL.out, HL2.out]; exact HIO.out)
                  go_wp2_with fail
                  go_at_call 31
                  obtain ⟨wa, hwa⟩ : ∃ wa, wa = wr.alloc (.cells #[.int .i64 x.op, .int .i64 d, .int .i64 x.a, .int .i64 x.b, .int .i64 x.sa, .int .i64 x.sb, .int .i64 x.imm] 49) := ⟨_, rfl⟩
                  have sa : Below wr.heap.size wr wa := by rw [hwa]; exact (Below.refl wr.heap.size wr).alloc (Nat.le_refl _) _
                  have sz : wr.heap.size < wa.heap.size := by rw [hwa]; simp
                  have IB : Blk wa wr.heap.size [.int .i64 x.op, .int .i64 d, .int .i64 x.a, .int .i64 x.b, .int .i64 x.sa, .int .i64 x.sb, .int .i64 x.imm] 49 := by rw [hwa]; exact Blk.new_ wr _ _
                  rw [← hwa]
                  clear hwa
                  have hr := rResult_any x (some ⟨g, 0, none⟩) A6 cl inn c c6 wr.heap.size wa (by omega) (by rw [HCL.out]; exact (HO.out.view_.2.2.1).below sa (Nat.le_refl _)) (((H6.out.below hb hm).below sa (by have := hb.size; omega)).more (by have := hb.size; omega)) HIK.out HCS.out HSI.out
                  rw [HD.out, HLC.out] at hr
                  refine hr.mono ?_
                  clear hr
                  rintro e w5 ⟨v5, rfl, D5, hb5⟩
                  have hlR := Lib.hid (resE_len HIK.out HCS.out HSI.out)
                  have hAl := Lib.hid (res_alike HIK.out HCS.out HSI.out)
                  obtain ⟨nb5, A55, L5, c55, rfl, _⟩ := D5.form
                  have D5' := Lib.hid D5
                  have IB5 := Lib.hid (IB.below hb5 sz)
                  have st5 := Lib.hid (sa.trans (hb5.mono (by omega)))
                  have sz5 : wr.heap.size < w5.heap.size := by have := hb5.size; omega
                  clear D5 hb5 IB sa
                  go_wp2_with fail
                  go_at_call 30
                  refine (rFit_any D5'.out (Nat.le_refl _) hlR.out).mono ?_
                  rintro e w6 ⟨rfl, hb6⟩
                  rw [hAl.out.1, hAl.out.2]
                  obtain ⟨V, hV⟩ : ∃ V, V = insVal x cl inn := ⟨_, rfl⟩
                  rw [← hV]
                  have HVV := Lib.hid (show insVal x (runR inn (xs.take k) (cs, false)).1 inn = V by rw [← HCL.out, hV])
                  have st := Lib.hid (st5.out.trans (hb6.mono (by omega)))
                  have IB6 := IB5.out.below hb6 sz5
                  have O6 : OwnI w6 (w.heap.size + 2) (.slice (some ⟨g, 0, none⟩) cs.length c) (runR inn (xs.take k) (cs, false)).1 := HO.out.below st.out (fun q hq => by simp [Value.ownBlock] at hq; omega)
                  have R6 := HR.out.below st.out z1
                  have y1 : w6.cell? ⟨wr.heap.size, 1, none⟩ = some (.int .i64 (d : Int)) := IB6.cell 1
                  have f1 : ∀ j, w6.frozen? ⟨g, j, none⟩ = false := fun j => O6.free HLN.out j
                  have f2 := O6.at_ HLN.out hd1
                  have f3 : ∀ j, w6.frozen? ⟨R, j, none⟩ = false := fun j => R6.free j
                  have f4' : w6.cell? ⟨R, 0, none⟩ = some (.slice (some ⟨g, 0, none⟩) cs.length c) := R6.cell 0
                  have f5' : w6.cell? ⟨R, 2, none⟩ = some (.bool ov) := by rw [HOV.out]; exact R6.cell 2
                  have z16 : R < w6.heap.size := R6.lt
                  have zg6 : g < w6.heap.size := by omega
                  have hgne : g ≠ R := by omega
                  have hgw : g ≠ wr.heap.size := by omega
                  clear hV O6 R6 IB6 hb6 f4 f5
                  cases ov with
                  | true =>
                    go_wp2_with fail
                    have E := r3_lowN HO.out HX.out HB.out HR.out hb ⟨hg2, hgR⟩ rfl hlt HXS.out HD.out HVV.out st.out
                    rw [← HOV.out, Bool.true_or] at E
                    exact ⟨E, by simp [intOf]; omega⟩
                  | false =>
                    go_wp2_with fail
                    have E := r3_lowN HO.out HX.out HB.out HR.out hb ⟨hg2, hgR⟩ rfl hlt HXS.out HD.out HVV.out st.out
                    rw [← HOV.out, Bool.false_or] at E
                    exact ⟨E, by simp [intOf]; omega⟩
                · as_aux_lemma =>
                  have hT : xs.take k = xs := List.take_of_length_le (by omega)
                  have hown := HO.out
                  have hRb := HR.out
                  have hX := HX.out
                  have hB := HB.out
                  rw [hT] at hown hRb
                  have RM : runM ps is xs os cs inn = ⟨(runR inn xs (cs, false)).1, outsOf (runR inn xs (cs, false)).1 os, (runR inn xs (cs, false)).2⟩ := if_pos P2.out
                  obtain ⟨csF, hcsF⟩ : ∃ l, l = (runR inn xs (cs, false)).1 := ⟨_, rfl⟩
                  obtain ⟨OV, hOV⟩ : ∃ l, l = (runR inn xs (cs, false)).2 := ⟨_, rfl⟩
                  have hlF : csF.length = cs.length := by rw [hcsF, runR_len]
                  rw [← hcsF] at hown RM
                  rw [← hOV] at hRb RM
                  have HLF := Lib.hid hlF
                  have RMH := Lib.hid RM
                  clear HO HR HX HB RM hlF hcsF hOV HLN hT
                  have x3 := hX.c3
                  go_wp2_with fail
                  obtain ⟨w4, hw4⟩ : ∃ w4, w4 = wr := ⟨_, rfl⟩
                  rw [← hw4]
                  rw [← hw4] at hown hRb hX hB hb
                  clear x3 z0 z1 hw4 hlt
                  go_loopw [100] (fun i wr => r4Rel w [.slice A1 ps.length c1, .slice A2 is.length c2, .slice A3 xs.length c3, .slice A4 os.length c4] A cs.length c R csF OV os i wr) (fun i _ => os.length - (intOf i).toNat)
                  case atStart => exact ⟨0, _, Nat.zero_le _, rfl, hown, hX, hB, hRb, OwnI.nil_ _ _, hb⟩
                  case round =>
                    as_aux_lemma =>
                    clear hown hX hB hRb hb
                    obtain ⟨k, v, hk, rfl, hown, hX, hB, hRb, hvv, hb⟩ := hrel
                    have HO := Lib.hid hown
                    have HX := Lib.hid hX
                    have HB := Lib.hid hB
                    have HR := Lib.hid hRb
                    have HV := Lib.hid hvv
                    clear hown hX hB hRb hvv
                    have z0 : w.heap.size < wr.heap.size := HX.out.1
                    have z1 : R < wr.heap.size := HR.out.lt
                    have z2 : w.heap.size + 1 < wr.heap.size := HB.out.lt
                    have f3 : ∀ j, wr.frozen? ⟨R, j, none⟩ = false := fun j => HR.out.free j
                    have f4 : wr.cell? ⟨R, 0, none⟩ = some (.slice A cs.length c) := HR.out.cell 0
                    have f5 : wr.cell? ⟨R, 1, none⟩ = some v := HR.out.cell 1
                    by_cases hlt : k < os.length
                    · as_aux_lemma =>
                      obtain ⟨b, off, z, rfl, hbm, hbs, hx, hc⟩ := H4.out.int_ hlt
                      have hc' := (hb.cell (p := ⟨b, off + k, none⟩) (Nat.lt_of_lt_of_le hbm hm)).trans hc
                      clear hc
                      obtain ⟨o0, o1⟩ := HP.out.out z (List.mem_of_getElem? hx)
                      have HXS := Lib.hid hx
                      clear hx
                      obtain ⟨o, ho⟩ := Int.eq_ofNat_of_zero_le o0
                      have HOO := Lib.hid ho
                      have o2 : o < cs.length := by have := HL.out; omega
                      have o2' : (o : Int) < (cs.length : Int) := by omega
                      rw [ho] at hc'
                      clear o0 o1 ho
                      obtain ⟨g, hgA, hg2, hgs⟩ := HO.out.some_ (by omega)
                      rw [hgA] at f4
                      have f2 := (hgA ▸ HO.out : OwnI wr (w.heap.size + 2) (.slice (some ⟨g, 0, none⟩) cs.length c) csF).at_ HLF.out.symm o2
                      clear hgA
                      go_wp2_with fail
                      have HLO : Hid ((outsOf csF (os.take k)).length < 1000000) := Lib.hid (by rw [outs_len]; simp; omega)
                      go_region_law (first | (refine step_push rfl (.tmp 105) (.tmp 111) rfl (R + 1) v (outsOf csF (os.take k)) (csF[o]?.getD 0) wr.heap.size rfl (HV.out.alloc _) rfl (by simp [go_sem]) HLO.out (by first | (simp; omega) | simp | omega) ?_; intro v' w5 hown5 hg5 hb5; obtain ⟨qc, qf, qs, qz⟩ := ext_at (m := R + 1) hb5 (by first | (simp; omega) | simp | omega) (by first | (simp; omega) | simp | omega); obtain ⟨A5', c5', rfl, _, _⟩ := hown5.view))
                      all_goals
                        go_wp2_with fail
                        exact ⟨r4_low HO.out HX.out HB.out HR.out hb hAR hR2 hlt HXS.out (by rw [HOO.out]; simpa using hown5) (((Below.refl _ wr).drew.alloc (by show R + 1 ≤ wr.heap.size; omega) _).trans hb5), by simp [intOf]; omega⟩
                    · as_aux_lemma =>
                      have hT : os.take k = os := List.take_of_length_le (by omega)
                      obtain ⟨B, d, rfl, _, _⟩ := HV.out.view
                      have f6 : wr.cell? ⟨R, 2, none⟩ = some (.bool OV) := HR.out.cell 2
                      have hV := HV.out
                      rw [hT] at hV
                      have e0 : ∀ j, wr.frozen? ⟨w.heap.size + 1, j, none⟩ = false := fun j => HB.out.free j
                      have e1 : wr.cell? ⟨w.heap.size + 1, 0, none⟩ = some (.slice none 0 0) := HB.out.cell 0
                      have e2 : wr.cell? ⟨w.heap.size + 1, 1, none⟩ = some (.slice none 0 0) := HB.out.cell 1
                      have e3 : wr.cell? ⟨w.heap.size + 1, 2, none⟩ = some (.bool false) := HB.out.cell 2
                      go_wp2_with fail
                      refine bodyPost_ret (res_rrun (ev := .int .i64 0) rfl rfl (((HB.out.set_ 0 _).set_ 1 _).set_ 2 _)) rfl ?_
                      rw [RMH.out, P2.out]
                      exact r4_endN (r := ⟨csF, outsOf csF os, OV⟩) HO.out hV hR2 hb rfl
        · have h0 : runErr ps is xs os cs inn = 11 := runErr_in HE.out HL.out P1.out hl2
          have e2 : ((inn.length : Int) != (ps.length : Int)) = true := by simp; omega
          clear hl2
          have eb0 : w1.cell? ⟨w.heap.size + 1, 0, none⟩ = some (.slice none 0 0) := HB.out.cell 0
          have eb1 : w1.cell? ⟨w.heap.size + 1, 1, none⟩ = some (.slice none 0 0) := HB.out.cell 1
          have eb2 : w1.cell? ⟨w.heap.size + 1, 2, none⟩ = some (.bool false) := HB.out.cell 2
          have ebf : ∀ j, w1.frozen? ⟨w.heap.size + 1, j, none⟩ = false := fun j => HB.out.free j
          go_wp2_with fail
          exact bodyPost_ret (res_rrun (ev := .int .i64 11) rfl rfl (((HB.out.set_ 0 _).set_ 1 _).set_ 2 _)) rfl (RunPostN.zero (runM_err (h0) (by decide)) (((b1.setCell (by simp) _).setCell (by simp) _).setCell (by simp) _) (by rw [h0]))
  · have e1 : ((cs.length : Int) != (is.length : Int)) = true := by simp; omega
    have h0 : runErr ps is xs os cs inn = 11 := runErr_len HE.out hl
    clear hl
    go_enter Try.func16, Try.ntmps16
    go_wp2_with fail
    exact bodyPost_ret (res_rrun (ev := .int .i64 11) rfl rfl HB.out) rfl (RunPostN.zero (runM_err (h0) (by decide)) b1 (by rw [h0]))
end Go.Proofs.Ytdhlmbnmgioeeaa
