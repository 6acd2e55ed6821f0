/- Cells and inputs that a program accepts (fit): the walk. No conditions. -/
import Derived.Test.YtdhlmbnmgioeeaaCdO
namespace Go.Proofs.Ytdhlmbnmgioeeaa
set_option linter.unusedVariables false
set_option linter.unusedSimpArgs false
set_option linter.unusedSectionVars false
open Go.RowKit

set_option maxRecDepth 100000 in
set_option maxHeartbeats 8000000 in
theorem fit_any (A1 A2 A3 A4 X1 X2 : Option Addr) (ps : List Prt) (is : List Int) (xs : List Ins) (os xc xi : List Int) (c1 c2 c3 c4 d1 d2 m : Nat) (w : World) (hm : m ≤ w.heap.size) (h1 : CellsAt w m A1 (flat Prt.cells ps)) (h5 : CellsAt w m X1 (ints xc)) (h6 : CellsAt w m X2 (ints xi))
    (l1 : ps.length ≤ 40) (l2 : is.length ≤ 200) :
    Calls Try.prog 17 #[.agg #[.slice A1 ps.length c1, .slice A2 is.length c2, .slice A3 xs.length c3, .slice A4 os.length c4], .agg #[.slice X1 xc.length d1, .slice X2 xi.length d2]] w (FitPost w (fitC xc is.length) (fitI ps xi ps.length)) := by
  have H1 := Lib.hid h1
  have H5 := Lib.hid h5
  have H6 := Lib.hid h6
  clear h1 h5 h6
  go_enter Try.func17, Try.ntmps17
  go_wp2_with fail
  obtain ⟨w1, hw1⟩ : ∃ w1, w1 = (((w.alloc (.cells #[.slice A1 ps.length c1, .slice A2 is.length c2, .slice A3 xs.length c3, .slice A4 os.length c4] 26)).alloc (.cells #[.slice X1 xc.length d1, .slice X2 xi.length d2] 28)).alloc (.cells #[.slice none 0 0, .slice none 0 0] 28)).alloc (.cells #[.slice none 0 0, .slice none 0 0] 28) := ⟨_, rfl⟩
  have p0 : BoxAt w1 w.heap.size [.slice A1 ps.length c1, .slice A2 is.length c2, .slice A3 xs.length c3, .slice A4 os.length c4] := by
    rw [hw1]
    exact (((BoxAt.new_ w _ 26).below ((Below.refl (w.heap.size + 1) _).alloc (by simp) _) (by omega)).below ((Below.refl (w.heap.size + 1) _).alloc (by simp) _) (by omega)).below ((Below.refl (w.heap.size + 1) _).alloc (by simp) _) (by omega)
  have p1 : BoxAt w1 (w.heap.size + 1) [.slice X1 xc.length d1, .slice X2 xi.length d2] := by
    rw [hw1]
    have h := BoxAt.new_ (w.alloc (.cells #[.slice A1 ps.length c1, .slice A2 is.length c2, .slice A3 xs.length c3, .slice A4 os.length c4] 26)) [.slice X1 xc.length d1, .slice X2 xi.length d2] 28
    simp at h
    exact (h.below ((Below.refl (w.heap.size + 2) _).alloc (by simp) _) (by omega)).below ((Below.refl (w.heap.size + 2) _).alloc (by simp) _) (by omega)
  have p2 : Blk w1 (w.heap.size + 2) [.slice none 0 0, .slice none 0 0] 28 := by
    rw [hw1]
    have h := Blk.new_ ((w.alloc (.cells #[.slice A1 ps.length c1, .slice A2 is.length c2, .slice A3 xs.length c3, .slice A4 os.length c4] 26)).alloc (.cells #[.slice X1 xc.length d1, .slice X2 xi.length d2] 28)) [.slice none 0 0, .slice none 0 0] 28
    simp at h
    exact h.below ((Below.refl (w.heap.size + 3) _).alloc (by simp) _) (by omega)
  have p3 : Blk w1 (w.heap.size + 3) [.slice none 0 0, .slice none 0 0] 28 := by
    rw [hw1]
    have h := Blk.new_ (((w.alloc (.cells #[.slice A1 ps.length c1, .slice A2 is.length c2, .slice A3 xs.length c3, .slice A4 os.length c4] 26)).alloc (.cells #[.slice X1 xc.length d1, .slice X2 xi.length d2] 28)).alloc (.cells #[.slice none 0 0, .slice none 0 0] 28)) [.slice none 0 0, .slice none 0 0] 28
    simp at h
    exact h
  have p4 : Below w.heap.size w w1 := by
    rw [hw1]
    exact ext_alloc (ext_alloc (ext_alloc (ext_alloc (Below.refl _ _) _) _) _) _
  rw [← hw1]
  clear hw1
  go_loopw [14] (fun i wr => f1Rel w [.slice A1 ps.length c1, .slice A2 is.length c2, .slice A3 xs.length c3, .slice A4 os.length c4] [.slice X1 xc.length d1, .slice X2 xi.length d2] xc is.length i wr) (fun i _ => is.length - (intOf i).toNat)
  case atStart => exact ⟨0, _, Nat.zero_le _, rfl, p0, p1, p2, p3, OwnI.nil_ _ _, p4⟩
  case round =>
    as_aux_lemma =>
    clear p0 p1 p2 p3 p4
    obtain ⟨k, v, hk, rfl, hP, hX, hR, hO, hv, hb⟩ := hrel
    have HP := Lib.hid hP
    have HX := Lib.hid hX
    have HR := Lib.hid hR
    have HO := Lib.hid hO
    have HV := Lib.hid hv
    have x0 := hX.c0
    have o0 : wr.cell? ⟨w.heap.size + 3, 0, none⟩ = some v := hO.cell 0
    have of : ∀ j, wr.frozen? ⟨w.heap.size + 3, j, none⟩ = false := fun j => hO.free j
    have z0 : w.heap.size < wr.heap.size := hP.1
    have z1 : w.heap.size + 1 < wr.heap.size := hX.1
    have z2 : w.heap.size + 2 < wr.heap.size := hR.lt
    have z3 : w.heap.size + 3 < wr.heap.size := hO.lt
    have hl := fitC_len xc k
    have HLL : Hid ((fitC xc k).length < 1000000) := Lib.hid (by omega)
    clear hP hX hR hO hv hl
    by_cases hlt : k < is.length
    · by_cases hx : k < xc.length
      · as_aux_lemma =>
        have hx' : (k : Int) < (xc.length : Int) := by omega
        obtain ⟨b, off, z, rfl, hbm, hbs, hz, hc⟩ := H5.out.int_ hx
        have hc' := (hb.cell (p := ⟨b, off + k, none⟩) (Nat.lt_of_lt_of_le hbm hm)).trans hc
        clear hc
        have HZ := Lib.hid hz
        clear hz hx
        go_wp2_with fail
        go_region_law (first
          | (go_simp; go_at_call 20; refine (bclip_any _ _ _ _).mono ?_; rintro e w3 ⟨rfl, rfl⟩)
          | (refine step_push rfl (.tmp 28) (.tmp 31) rfl (w.heap.size + 4) v (fitC xc k) (clipI z (-2147483648) 2147483647) wr.heap.size rfl (HV.out.alloc _) rfl (by simp [go_sem]) HLL.out (by first | (simp; omega) | simp | omega) ?_; intro v' w5 hown5 hg5 hb5; obtain ⟨qc, qf, qs, qz⟩ := ext_at (m := w.heap.size + 4) hb5 (by first | (simp; omega) | simp | omega) (by first | (simp; omega) | simp | omega); obtain ⟨A5', c5', rfl, _, _⟩ := hown5.view))
        all_goals
          go_wp2_with fail
          exact ⟨f1_low HP.out HX.out HR.out HO.out hb hlt (by simpa using hown5) (by rw [HZ.out]; rfl) (((Below.refl _ wr).drew.alloc (by show w.heap.size + 4 ≤ wr.heap.size; omega) _).trans hb5), by simp [intOf]; omega⟩
      · as_aux_lemma =>
        have hx' : ¬ (k : Int) < (xc.length : Int) := by omega
        have HZ : Hid (xc[k]? = none) := Lib.hid (List.getElem?_eq_none (by omega))
        clear hx
        go_wp2_with fail
        go_region_law (first
          | (go_simp; go_at_call 20; refine (bclip_any _ _ _ _).mono ?_; rintro e w3 ⟨rfl, rfl⟩)
          | (refine step_push rfl (.tmp 28) (.tmp 31) rfl (w.heap.size + 4) v (fitC xc k) (clipI 0 (-2147483648) 2147483647) wr.heap.size rfl (HV.out.alloc _) rfl (by simp [go_sem]) HLL.out (by first | (simp; omega) | simp | omega) ?_; intro v' w5 hown5 hg5 hb5; obtain ⟨qc, qf, qs, qz⟩ := ext_at (m := w.heap.size + 4) hb5 (by first | (simp; omega) | simp | omega) (by first | (simp; omega) | simp | omega); obtain ⟨A5', c5', rfl, _, _⟩ := hown5.view))
        all_goals
          go_wp2_with fail
          exact ⟨f1_low HP.out HX.out HR.out HO.out hb hlt (by simpa using hown5) (by rw [HZ.out]; rfl) (((Below.refl _ wr).drew.alloc (by show w.heap.size + 4 ≤ wr.heap.size; omega) _).trans hb5), by simp [intOf]; omega⟩
    · have hke : k = is.length := by omega
      subst hke
      obtain ⟨A, c, rfl, hAc, _⟩ := HV.out.view
      rw [fitC_len] at *
      have x0' := HP.out.c0
      have hCS := HV.out
      have hPP := HP.out
      have hXX := HX.out
      have hRR := HR.out
      have hOO := HO.out
      clear x0 o0 of HLL HV HP HX HR HO
      go_wp2_with fail
      obtain ⟨w4, hw4⟩ : ∃ w4, w4 = wr := ⟨_, rfl⟩
      rw [← hw4]
      rw [← hw4] at hCS hPP hXX hRR hOO hb z0 z1 z2 z3
      obtain ⟨M, hMe⟩ : ∃ M, M = w4.heap.size := ⟨_, rfl⟩
      have hM : w.heap.size + 4 ≤ M := by omega
      have hAM : ∀ g, A = some ⟨g, 0, none⟩ → g < M := fun g hg => by
        have := (World.ownsRow.lt hCS g (by rw [hg]; rfl)).2
        omega
      clear x0' hw4 hlt
      go_loopw [38] (fun i wr => f2Rel w [.slice A1 ps.length c1, .slice A2 is.length c2, .slice A3 xs.length c3, .slice A4 os.length c4] [.slice X1 xc.length d1, .slice X2 xi.length d2] M A is.length c (fitC xc is.length) ps xi i wr) (fun i _ => ps.length - (intOf i).toNat)
      case atStart => exact ⟨0, _, Nat.zero_le _, rfl, hPP, hXX, hRR, hOO, hCS, OwnI.nil_ _ _, by omega, hb⟩
      case round =>
        as_aux_lemma =>
        clear hPP hXX hRR hOO hCS hb z0 z1 z2 z3 hMe
        obtain ⟨k, v, hk, rfl, hP, hX, hR, hO, hC, hv, hMw, hb⟩ := hrel
        have HP := Lib.hid hP
        have HX := Lib.hid hX
        have HR := Lib.hid hR
        have HO := Lib.hid hO
        have HC := Lib.hid hC
        have HV := Lib.hid hv
        have x1 := hX.c1
        have o1 : wr.cell? ⟨w.heap.size + 3, 1, none⟩ = some v := hO.cell 1
        have of : ∀ j, wr.frozen? ⟨w.heap.size + 3, j, none⟩ = false := fun j => hO.free j
        have z0 : w.heap.size < wr.heap.size := hP.1
        have z1 : w.heap.size + 1 < wr.heap.size := hX.1
        have z2 : w.heap.size + 2 < wr.heap.size := hR.lt
        have z3 : w.heap.size + 3 < wr.heap.size := hO.lt
        have hl := fitI_len ps xi k
        have HLL : Hid ((fitI ps xi k).length < 1000000) := Lib.hid (by omega)
        clear hP hX hR hO hC hv hl
        have q3 : w.heap.size + 1 + 1 + 1 < M := by omega
        have q3' : w.heap.size + 3 < M := by omega
        by_cases hlt : k < ps.length
        · obtain ⟨pb, poff, y, rfl, hpm, hps, hpx, hpc⟩ := H1.out.row (s := 3) (fun _ => rfl) (by omega) hlt
          have hp' := fun j u (hu : (Prt.cells y)[j]? = some u) => (hb.cell (p := ⟨pb, poff + k * 3 + j, none⟩) (Nat.lt_of_lt_of_le hpm hm)).trans (hpc j u hu)
          have g0 : wr.cell? ⟨pb, poff + k * 3, none⟩ = some (.int .i64 y.lo) := hp' 0 _ rfl
          have g1 := hp' 1 _ rfl
          have g2 := hp' 2 _ rfl
          clear hpc hp'
          have HY := Lib.hid hpx
          clear hpx
          by_cases hx : k < xi.length
          · as_aux_lemma =>
            have hx' : (k : Int) < (xi.length : Int) := by omega
            obtain ⟨b, off, z, rfl, hbm, hbs, hz, hc⟩ := H6.out.int_ hx
            have hc' := (hb.cell (p := ⟨b, off + k, none⟩) (Nat.lt_of_lt_of_le hbm hm)).trans hc
            have hbr : b < wr.heap.size := by have := hb.size; omega
            clear hc
            have HZ := Lib.hid hz
            clear hz hx
            go_wp2_with fail
            go_region_law (first
              | (go_simp; go_at_call 20; refine (bclip_any _ _ _ _).mono ?_; rintro e w3 ⟨rfl, rfl⟩)
              | (refine step_push rfl (.tmp 54) (.tmp 61) rfl M v (fitI ps xi k) (clipI z y.lo y.hi) (wr.heap.size + 1) rfl ((HV.out.alloc _).alloc _) rfl (by simp [go_sem]) HLL.out (by first | (simp; omega) | simp | omega) ?_; intro v' w5 hown5 hg5 hb5; obtain ⟨qc, qf, qs, qz⟩ := ext_at (m := M) hb5 (by first | (simp; omega) | simp | omega) (by first | (simp; omega) | simp | omega); obtain ⟨A5', c5', rfl, _, _⟩ := hown5.view))
            all_goals
              go_wp2_with fail
              exact ⟨f2_low HP.out HX.out HR.out HO.out HC.out hM hAM hb hlt (by simpa using hown5) (by rw [HZ.out]; simp [prtAt, HY.out]) ((((Below.refl _ wr).alloc hMw _).drew.alloc (by show M ≤ (wr.alloc _).heap.size; simp; omega) _).trans hb5) (by omega), by simp [intOf]; omega⟩
          · as_aux_lemma =>
            have hx' : ¬ (k : Int) < (xi.length : Int) := by omega
            have HZ : Hid (xi[k]? = none) := Lib.hid (List.getElem?_eq_none (by omega))
            clear hx
            go_wp2_with fail
            go_region_law (first
              | (go_simp; go_at_call 20; refine (bclip_any _ _ _ _).mono ?_; rintro e w3 ⟨rfl, rfl⟩)
              | (refine step_push rfl (.tmp 54) (.tmp 61) rfl M v (fitI ps xi k) (clipI 0 y.lo y.hi) (wr.heap.size + 1) rfl ((HV.out.alloc _).alloc _) rfl (by simp [go_sem]) HLL.out (by first | (simp; omega) | simp | omega) ?_; intro v' w5 hown5 hg5 hb5; obtain ⟨qc, qf, qs, qz⟩ := ext_at (m := M) hb5 (by first | (simp; omega) | simp | omega) (by first | (simp; omega) | simp | omega); obtain ⟨A5', c5', rfl, _, _⟩ := hown5.view))
            all_goals
              go_wp2_with fail
              exact ⟨f2_low HP.out HX.out HR.out HO.out HC.out hM hAM hb hlt (by simpa using hown5) (by rw [HZ.out]; simp [prtAt, HY.out]) ((((Below.refl _ wr).alloc hMw _).drew.alloc (by show M ≤ (wr.alloc _).heap.size; simp; omega) _).trans hb5) (by omega), by simp [intOf]; omega⟩
        · as_aux_lemma =>
          have hke : k = ps.length := by omega
          subst hke
          have o0 : wr.cell? ⟨w.heap.size + 3, 0, none⟩ = some (.slice A is.length c) := HO.out.cell 0
          obtain ⟨B, d, rfl, hBd, _⟩ := HV.out.view
          rw [fitI_len] at *
          have e0 : ∀ j, wr.frozen? ⟨w.heap.size + 2, j, none⟩ = false := fun j => HR.out.free j
          have e1 : wr.cell? ⟨w.heap.size + 2, 0, none⟩ = some (.slice none 0 0) := HR.out.cell 0
          have e2 : wr.cell? ⟨w.heap.size + 2, 1, none⟩ = some (.slice none 0 0) := HR.out.cell 1
          go_wp2_with fail
          refine bodyPost_ret (res_fit rfl ((HR.out.set_ 0 _).set_ 1 _)) rfl ?_
          have O3 := (HC.out.set_below (j := 0) (.slice A is.length c) (b := w.heap.size + 2) (by omega)).set_below (j := 1) (.slice B ps.length d) (b := w.heap.size + 2) (by omega)
          have V3 := (HV.out.set_below (j := 0) (.slice A is.length c) (b := w.heap.size + 2) (by omega)).set_below (j := 1) (.slice B ps.length d) (b := w.heap.size + 2) (by omega)
          obtain ⟨e3, h1, h2, f1⟩ := O3.view_
          obtain ⟨e4, h3, h4, f2⟩ := V3.view_
          exact ⟨A, c, B, d, by rw [fitC_len, fitI_len], h1, h3, h2, h4, (hb.setCell (p := ⟨w.heap.size + 2, 0, none⟩) (by simp) _).setCell (p := ⟨w.heap.size + 2, 1, none⟩) (by simp) _⟩
end Go.Proofs.Ytdhlmbnmgioeeaa
