/- What the proofs of this claim share, part 17. No conditions. -/
import Derived.Test.YtfooonellkgaeaaDoorKf10
import Derived.Test.YtfooonellkgaeaaDoorKf6
import Derived.Test.YtfooonellkgaeaaDoorKf8
import Derived.Test.YtfooonellkgaeaaDoorKf16
import Derived.Test.YtfooonellkgaeaaDoorKf14
import Derived.Deep.RegionHeld3
set_option linter.unusedVariables false
set_option linter.unusedSimpArgs false
set_option linter.unusedSectionVars false
namespace Go.Proofs.YtfooonellkgaeaaDoor
open Go.RowKit
set_option maxRecDepth 100000 in
set_option maxHeartbeats 8000000 in
theorem block_bad (d : Dg) (b : Bk) (w : World) (h : ¬ (0 ≤ arityM b.kind ∧ ((b.args.length : Nat) : Int) = arityM b.kind)) (hl : b.args.length ≤ 1000000) :
    Calls Tryd.prog 48 #[d.val, b.val] w fun e w' => e = .returned (.int .i64 (blkErr d.ps.length d.bs.length b)) ∧ Below w.heap.size w w' := by
  obtain ⟨A1, ps, c1, A2, bs, c2, A3, os, c3⟩ := d
  obtain ⟨kind, A, args, cap, vn, ve, un, ue⟩ := b
  dsimp only at h hl
  simp only [Dg.val, Bk.val]
  have b0 : Below w.heap.size w ((w.alloc (.cells #[.slice A1 ps.length c1, .slice A2 bs.length c2, .slice A3 os.length c3] 41)).alloc (.cells #[.int .i64 kind, .slice A args.length cap, .int .i64 vn, .int .i64 ve, .int .i64 un, .int .i64 ue] 66)) := ext_alloc (al_ _ _) _
  obtain ⟨K, hK⟩ : ∃ K, arityM kind = K := ⟨_, rfl⟩
  have HKK := Lib.hid hK
  by_cases hk0 : K < 0
  · have HE := Lib.hid (be1 (np := ps.length) (nb := bs.length) (b := ⟨kind, A, args, cap, vn, ve, un, ue⟩) (by show arityM kind < 0; omega))
    clear h hK
    go_enter Tryd.func48, Tryd.ntmps48
    go_wp2_with (go_at_call 83; refine (rArity_any _ _).mono ?_; rintro e w1 ⟨rfl, rfl⟩; rw [HKK.out])
    go_ret
    exact ⟨ar_eq HE.out.symm, b0⟩
  · have HE := Lib.hid (be2 (np := ps.length) (nb := bs.length) (b := ⟨kind, A, args, cap, vn, ve, un, ue⟩) (by show ¬ arityM kind < 0; omega) (fun h2 => h ⟨by omega, h2⟩))
    have hne : (((args.length : Nat) : Int) != K) = true := by
      rw [bne_iff_ne]
      intro h2
      exact h ⟨by omega, by omega⟩
    have hk1 : 0 ≤ K := by omega
    clear h hK hk0
    go_enter Tryd.func48, Tryd.ntmps48
    go_wp2_with (go_at_call 83; refine (rArity_any _ _).mono ?_; rintro e w1 ⟨rfl, rfl⟩; rw [HKK.out])
    go_ret
    exact ⟨ar_eq HE.out.symm, b0⟩
set_option maxRecDepth 100000 in
set_option maxHeartbeats 8000000 in
theorem block_0 (A1 : Option Addr) (ps : List Prt) (c1 : Nat) (A2 : Option Addr) (bs : List Bk) (c2 : Nat) (A3 : Option Addr) (os : List Int) (c3 : Nat) (A : Option Addr) (args : List Int) (cap : Nat) (vn ve un ue : Int) (m : Nat) (w : World)
    (hk0 : ¬ arityM 0 < 0) (hk1 : ((args.length : Nat) : Int) = arityM 0) (hl : args.length ≤ 1000000) (hl1 : ps.length ≤ 1000000) (hl2 : bs.length ≤ 1000000) (hm : m ≤ w.heap.size) (ha : CellsAt w m A (ints args)) :
    Calls Tryd.prog 48 #[.agg #[.slice A1 ps.length c1, .slice A2 bs.length c2, .slice A3 os.length c3], .agg #[.int .i64 0, .slice A args.length cap, .int .i64 vn, .int .i64 ve, .int .i64 un, .int .i64 ue]] w fun e w' => e = .returned (.int .i64 (blkErr ps.length bs.length ⟨0, A, args, cap, vn, ve, un, ue⟩)) ∧ Below w.heap.size w w' := by
  have b0 : Below w.heap.size w ((w.alloc (.cells #[.slice A1 ps.length c1, .slice A2 bs.length c2, .slice A3 os.length c3] 41)).alloc (.cells #[.int .i64 0, .slice A args.length cap, .int .i64 vn, .int .i64 ve, .int .i64 un, .int .i64 ue] 66)) := ext_alloc (al_ _ _) _
  have r0 := (RowD.new_ w [.slice A1 ps.length c1, .slice A2 bs.length c2, .slice A3 os.length c3] 41).call (al_ _ (.cells #[.int .i64 0, .slice A args.length cap, .int .i64 vn, .int .i64 ve, .int .i64 un, .int .i64 ue] 66))
  have r1 := RowD.new_ (w.alloc (.cells #[.slice A1 ps.length c1, .slice A2 bs.length c2, .slice A3 os.length c3] 41)) [.int .i64 0, .slice A args.length cap, .int .i64 vn, .int .i64 ve, .int .i64 un, .int .i64 ue] 66
  rw [show (w.alloc (.cells #[.slice A1 ps.length c1, .slice A2 bs.length c2, .slice A3 os.length c3] 41)).heap.size = w.heap.size + 1 by simp] at r1
  have HA := Lib.hid ha
  have HK0 := Lib.hid hk0
  have HK1 := Lib.hid hk1
  obtain ⟨K, hK⟩ : ∃ K, arityM 0 = K := ⟨_, rfl⟩
  have HKK := Lib.hid hK
  have hne : (((args.length : Nat) : Int) != K) = false := by rw [hk1, hK]; simp
  have hkk : 0 ≤ K := by omega
  clear ha hk0 hk1 hK
  go_enter Tryd.func48, Tryd.ntmps48
  have HM : Hid (mostM ps.length bs.length 0 = ps.length) := Lib.hid (rfl)
  have HV : Hid (valU 0 = false) := Lib.hid (by decide)
  have HU : Hid (clipU 0 = false) := Lib.hid (by decide)
  go_wp2_with (go_at_call 83; refine (rArity_any _ _).mono ?_; rintro e w1 ⟨rfl, rfl⟩; rw [HKK.out])
  obtain ⟨W, hW⟩ : ∃ W, W = ((w.alloc (.cells #[.slice A1 ps.length c1, .slice A2 bs.length c2, .slice A3 os.length c3] 41)).alloc (.cells #[.int .i64 0, .slice A args.length cap, .int .i64 vn, .int .i64 ve, .int .i64 un, .int .i64 ue] 66)) := ⟨_, rfl⟩
  rw [← hW]
  rw [← hW] at r0 r1 b0
  have hWs : W.heap.size = w.heap.size + 2 := by rw [hW]; simp
  clear hW
  have q0 : W.cell? ⟨w.heap.size + 1, 0, none⟩ = some (.int .i64 0) := r1.cell 0
  have q2 : W.cell? ⟨w.heap.size + 1, 2, none⟩ = some (.int .i64 vn) := r1.cell 2
  have q3 : W.cell? ⟨w.heap.size + 1, 3, none⟩ = some (.int .i64 ve) := r1.cell 3
  have HB0 := Lib.hid b0
  have R1 := Lib.hid r1
  have HA2 := Lib.hid (HA.out.below b0 hm)
  have hbs1 : (W.heap.size : Int) = w.heap.size + 2 := by omega
  clear r0 r1 b0
  go_loopw [34] (fun i wr => argRel args ps.length W i wr) (fun i _ => args.length - (intOf i).toNat)
  case atStart => exact ⟨0, Nat.zero_le _, rfl, rfl, rfl⟩
  case round =>
    as_aux_lemma =>
      obtain ⟨t, ht, rfl, hf, rfl⟩ := hrel
      have HF := Lib.hid hf
      clear hf
      by_cases hlt : t < args.length
      · obtain ⟨ab, ao, z, rfl, hab, hab2, hz, hzc⟩ := HA2.out.int_ hlt
        have HZ := Lib.hid hz
        clear hz
        by_cases h0 : 0 ≤ z ∧ z < (ps.length : Int)
        · have HZ2 := Lib.hid (out_step HZ.out h0 HF.out)
          have HWB := Lib.hid (show withinB z 0 ((ps.length : Int) - 1) = true from decide_eq_true ⟨h0.1, by have := h0.2; omega⟩)
          clear h0
          go_wp2_with (go_at_call 47; refine (within_any _ _ _ _).mono ?_; rintro e w1 ⟨rfl, rfl⟩; rw [HWB.out])
          exact ⟨⟨t + 1, by omega, by go_num, HZ2.out, rfl⟩, by simp [intOf]; omega⟩
        · have hE := Lib.hid (be3 (np := ps.length) (nb := bs.length) (b := ⟨0, some ⟨ab, ao, none⟩, args, cap, vn, ve, un, ue⟩) (Int.not_lt.2 HK0.out) HK1.out HM.out (out_hit HZ.out h0 HF.out))
          have HWB := Lib.hid (show withinB z 0 ((ps.length : Int) - 1) = false from decide_eq_false (fun h => h0 ⟨h.1, by have := h.2; omega⟩))
          clear h0
          go_wp2_with (go_at_call 47; refine (within_any _ _ _ _).mono ?_; rintro e w1 ⟨rfl, rfl⟩; rw [HWB.out])
          go_ret
          exact ⟨ar_eq hE.out.symm, HB0.out⟩
      · have P1 := Lib.hid (fe_all (k := t) (by rw [List.length_map]; omega) HF.out)
        clear HF
        have hE4 := fun h => be4 (np := ps.length) (nb := bs.length) (b := ⟨0, A, args, cap, vn, ve, un, ue⟩) (Int.not_lt.2 HK0.out) HK1.out HM.out P1.out HV.out h
        have hE5 := fun h4 h => be5 (np := ps.length) (nb := bs.length) (b := ⟨0, A, args, cap, vn, ve, un, ue⟩) (Int.not_lt.2 HK0.out) HK1.out HM.out P1.out HV.out h4 HU.out h
        have hE6 := fun h4 h5 h => be6 (np := ps.length) (nb := bs.length) (b := ⟨0, A, args, cap, vn, ve, un, ue⟩) (Int.not_lt.2 HK0.out) HK1.out HM.out P1.out HV.out h4 HU.out h5 h
        have hE7 := fun h4 h5 h => be7 (np := ps.length) (nb := bs.length) (b := ⟨0, A, args, cap, vn, ve, un, ue⟩) (Int.not_lt.2 HK0.out) HK1.out HM.out P1.out HV.out h4 HU.out h5 h
        dsimp only at hE4 hE5 hE6 hE7
        have HE4 := Lib.hid hE4
        have HE5 := Lib.hid hE5
        have HE6 := Lib.hid hE6
        have HE7 := Lib.hid hE7
        clear hE4 hE5 hE6 hE7
        go_wp2_with fail
        go_at_call 84
        refine (rScalar_any vn ve false wr).mono ?_
        rintro e w5 ⟨rfl, hb5⟩
        have N5 := Lib.hid (HB0.out.trans (hb5.mono (by omega)))
        have r5 := R1.out.call hb5
        have hz5 := hb5.size
        have z5 : w.heap.size + 1 < w5.heap.size := by omega
        have q4 : w5.cell? ⟨w.heap.size + 1, 4, none⟩ = some (.int .i64 un) := r5.cell 4
        have q5 : w5.cell? ⟨w.heap.size + 1, 5, none⟩ = some (.int .i64 ue) := r5.cell 5
        have R5 := Lib.hid r5
        clear r5 hb5 q0 q2 q3 hlt hbs1
        by_cases h4 : scalE vn ve false = 0
        · rw [h4]
          have H4 := Lib.hid h4
          clear h4
          go_wp2_with fail
          go_at_call 84
          refine (rScalar_any un ue false w5).mono ?_
          rintro e w6 ⟨rfl, hb6⟩
          have N6 := Lib.hid (N5.out.trans (hb6.mono (by omega)))
          have r6 := R5.out.call hb6
          have hz6 := hb6.size
          have z6 : w.heap.size + 1 < w6.heap.size := by omega
          have q2 : w6.cell? ⟨w.heap.size + 1, 2, none⟩ = some (.int .i64 vn) := r6.cell 2
          have q3 : w6.cell? ⟨w.heap.size + 1, 3, none⟩ = some (.int .i64 ve) := r6.cell 3
          have q6 : w6.cell? ⟨w.heap.size + 1, 4, none⟩ = some (.int .i64 un) := r6.cell 4
          have q7 : w6.cell? ⟨w.heap.size + 1, 5, none⟩ = some (.int .i64 ue) := r6.cell 5
          clear r6 hb6 q4 q5 z5
          by_cases h5 : scalE un ue false = 0
          · rw [h5]
            have H5 := Lib.hid h5
            clear h5
            go_wp2_with fail
            go_ret
            exact ⟨ar_eq (HE7.out H4.out H5.out (fun h => by cases h.1)).symm, N6.out⟩
          · have HE := Lib.hid (HE5.out H4.out h5)
            obtain ⟨q, hq⟩ : ∃ q, scalE un ue false = q := ⟨_, rfl⟩
            rw [hq] at h5 HE
            rw [hq]
            have hqb : (q != 0) = true := by simpa using h5
            clear hq h5
            go_wp2_with fail
            go_ret
            exact ⟨ar_eq HE.out.symm, N6.out⟩
        · have HE := Lib.hid (HE4.out h4)
          obtain ⟨q, hq⟩ : ∃ q, scalE vn ve false = q := ⟨_, rfl⟩
          rw [hq] at h4 HE
          rw [hq]
          have hqb : (q != 0) = true := by simpa using h4
          clear hq h4
          go_wp2_with fail
          go_ret
          exact ⟨ar_eq HE.out.symm, N5.out⟩
set_option maxRecDepth 100000 in
set_option maxHeartbeats 8000000 in
theorem block_11 (A1 : Option Addr) (ps : List Prt) (c1 : Nat) (A2 : Option Addr) (bs : List Bk) (c2 : Nat) (A3 : Option Addr) (os : List Int) (c3 : Nat) (A : Option Addr) (args : List Int) (cap : Nat) (vn ve un ue : Int) (m : Nat) (w : World)
    (hk0 : ¬ arityM 11 < 0) (hk1 : ((args.length : Nat) : Int) = arityM 11) (hl : args.length ≤ 1000000) (hl1 : ps.length ≤ 1000000) (hl2 : bs.length ≤ 1000000) (hm : m ≤ w.heap.size) (ha : CellsAt w m A (ints args)) :
    Calls Tryd.prog 48 #[.agg #[.slice A1 ps.length c1, .slice A2 bs.length c2, .slice A3 os.length c3], .agg #[.int .i64 11, .slice A args.length cap, .int .i64 vn, .int .i64 ve, .int .i64 un, .int .i64 ue]] w fun e w' => e = .returned (.int .i64 (blkErr ps.length bs.length ⟨11, A, args, cap, vn, ve, un, ue⟩)) ∧ Below w.heap.size w w' := by
  have b0 : Below w.heap.size w ((w.alloc (.cells #[.slice A1 ps.length c1, .slice A2 bs.length c2, .slice A3 os.length c3] 41)).alloc (.cells #[.int .i64 11, .slice A args.length cap, .int .i64 vn, .int .i64 ve, .int .i64 un, .int .i64 ue] 66)) := ext_alloc (al_ _ _) _
  have r0 := (RowD.new_ w [.slice A1 ps.length c1, .slice A2 bs.length c2, .slice A3 os.length c3] 41).call (al_ _ (.cells #[.int .i64 11, .slice A args.length cap, .int .i64 vn, .int .i64 ve, .int .i64 un, .int .i64 ue] 66))
  have r1 := RowD.new_ (w.alloc (.cells #[.slice A1 ps.length c1, .slice A2 bs.length c2, .slice A3 os.length c3] 41)) [.int .i64 11, .slice A args.length cap, .int .i64 vn, .int .i64 ve, .int .i64 un, .int .i64 ue] 66
  rw [show (w.alloc (.cells #[.slice A1 ps.length c1, .slice A2 bs.length c2, .slice A3 os.length c3] 41)).heap.size = w.heap.size + 1 by simp] at r1
  have HA := Lib.hid ha
  have HK0 := Lib.hid hk0
  have HK1 := Lib.hid hk1
  obtain ⟨K, hK⟩ : ∃ K, arityM 11 = K := ⟨_, rfl⟩
  have HKK := Lib.hid hK
  have hne : (((args.length : Nat) : Int) != K) = false := by rw [hk1, hK]; simp
  have hkk : 0 ≤ K := by omega
  clear ha hk0 hk1 hK
  go_enter Tryd.func48, Tryd.ntmps48
  have HM : Hid (mostM ps.length bs.length 11 = bs.length) := Lib.hid (rfl)
  have HV : Hid (valU 11 = true) := Lib.hid (by decide)
  have HU : Hid (clipU 11 = true) := Lib.hid (by decide)
  go_wp2_with (go_at_call 83; refine (rArity_any _ _).mono ?_; rintro e w1 ⟨rfl, rfl⟩; rw [HKK.out])
  obtain ⟨W, hW⟩ : ∃ W, W = ((w.alloc (.cells #[.slice A1 ps.length c1, .slice A2 bs.length c2, .slice A3 os.length c3] 41)).alloc (.cells #[.int .i64 11, .slice A args.length cap, .int .i64 vn, .int .i64 ve, .int .i64 un, .int .i64 ue] 66)) := ⟨_, rfl⟩
  rw [← hW]
  rw [← hW] at r0 r1 b0
  have hWs : W.heap.size = w.heap.size + 2 := by rw [hW]; simp
  clear hW
  have q0 : W.cell? ⟨w.heap.size + 1, 0, none⟩ = some (.int .i64 11) := r1.cell 0
  have q2 : W.cell? ⟨w.heap.size + 1, 2, none⟩ = some (.int .i64 vn) := r1.cell 2
  have q3 : W.cell? ⟨w.heap.size + 1, 3, none⟩ = some (.int .i64 ve) := r1.cell 3
  have HB0 := Lib.hid b0
  have R1 := Lib.hid r1
  have HA2 := Lib.hid (HA.out.below b0 hm)
  have hbs1 : (W.heap.size : Int) = w.heap.size + 2 := by omega
  clear r0 r1 b0
  go_loopw [34] (fun i wr => argRel args bs.length W i wr) (fun i _ => args.length - (intOf i).toNat)
  case atStart => exact ⟨0, Nat.zero_le _, rfl, rfl, rfl⟩
  case round =>
    as_aux_lemma =>
      obtain ⟨t, ht, rfl, hf, rfl⟩ := hrel
      have HF := Lib.hid hf
      clear hf
      by_cases hlt : t < args.length
      · obtain ⟨ab, ao, z, rfl, hab, hab2, hz, hzc⟩ := HA2.out.int_ hlt
        have HZ := Lib.hid hz
        clear hz
        by_cases h0 : 0 ≤ z ∧ z < (bs.length : Int)
        · have HZ2 := Lib.hid (out_step HZ.out h0 HF.out)
          have HWB := Lib.hid (show withinB z 0 ((bs.length : Int) - 1) = true from decide_eq_true ⟨h0.1, by have := h0.2; omega⟩)
          clear h0
          go_wp2_with (go_at_call 47; refine (within_any _ _ _ _).mono ?_; rintro e w1 ⟨rfl, rfl⟩; rw [HWB.out])
          exact ⟨⟨t + 1, by omega, by go_num, HZ2.out, rfl⟩, by simp [intOf]; omega⟩
        · have hE := Lib.hid (be3 (np := ps.length) (nb := bs.length) (b := ⟨11, some ⟨ab, ao, none⟩, args, cap, vn, ve, un, ue⟩) (Int.not_lt.2 HK0.out) HK1.out HM.out (out_hit HZ.out h0 HF.out))
          have HWB := Lib.hid (show withinB z 0 ((bs.length : Int) - 1) = false from decide_eq_false (fun h => h0 ⟨h.1, by have := h.2; omega⟩))
          clear h0
          go_wp2_with (go_at_call 47; refine (within_any _ _ _ _).mono ?_; rintro e w1 ⟨rfl, rfl⟩; rw [HWB.out])
          go_ret
          exact ⟨ar_eq hE.out.symm, HB0.out⟩
      · have P1 := Lib.hid (fe_all (k := t) (by rw [List.length_map]; omega) HF.out)
        clear HF
        have hE4 := fun h => be4 (np := ps.length) (nb := bs.length) (b := ⟨11, A, args, cap, vn, ve, un, ue⟩) (Int.not_lt.2 HK0.out) HK1.out HM.out P1.out HV.out h
        have hE5 := fun h4 h => be5 (np := ps.length) (nb := bs.length) (b := ⟨11, A, args, cap, vn, ve, un, ue⟩) (Int.not_lt.2 HK0.out) HK1.out HM.out P1.out HV.out h4 HU.out h
        have hE6 := fun h4 h5 h => be6 (np := ps.length) (nb := bs.length) (b := ⟨11, A, args, cap, vn, ve, un, ue⟩) (Int.not_lt.2 HK0.out) HK1.out HM.out P1.out HV.out h4 HU.out h5 h
        have hE7 := fun h4 h5 h => be7 (np := ps.length) (nb := bs.length) (b := ⟨11, A, args, cap, vn, ve, un, ue⟩) (Int.not_lt.2 HK0.out) HK1.out HM.out P1.out HV.out h4 HU.out h5 h
        dsimp only at hE4 hE5 hE6 hE7
        have HE4 := Lib.hid hE4
        have HE5 := Lib.hid hE5
        have HE6 := Lib.hid hE6
        have HE7 := Lib.hid hE7
        clear hE4 hE5 hE6 hE7
        go_wp2_with fail
        go_at_call 84
        refine (rScalar_any vn ve true wr).mono ?_
        rintro e w5 ⟨rfl, hb5⟩
        have N5 := Lib.hid (HB0.out.trans (hb5.mono (by omega)))
        have r5 := R1.out.call hb5
        have hz5 := hb5.size
        have z5 : w.heap.size + 1 < w5.heap.size := by omega
        have q4 : w5.cell? ⟨w.heap.size + 1, 4, none⟩ = some (.int .i64 un) := r5.cell 4
        have q5 : w5.cell? ⟨w.heap.size + 1, 5, none⟩ = some (.int .i64 ue) := r5.cell 5
        have R5 := Lib.hid r5
        clear r5 hb5 q0 q2 q3 hlt hbs1
        by_cases h4 : scalE vn ve true = 0
        · rw [h4]
          have H4 := Lib.hid h4
          clear h4
          go_wp2_with fail
          go_at_call 84
          refine (rScalar_any un ue true w5).mono ?_
          rintro e w6 ⟨rfl, hb6⟩
          have N6 := Lib.hid (N5.out.trans (hb6.mono (by omega)))
          have r6 := R5.out.call hb6
          have hz6 := hb6.size
          have z6 : w.heap.size + 1 < w6.heap.size := by omega
          have q2 : w6.cell? ⟨w.heap.size + 1, 2, none⟩ = some (.int .i64 vn) := r6.cell 2
          have q3 : w6.cell? ⟨w.heap.size + 1, 3, none⟩ = some (.int .i64 ve) := r6.cell 3
          have q6 : w6.cell? ⟨w.heap.size + 1, 4, none⟩ = some (.int .i64 un) := r6.cell 4
          have q7 : w6.cell? ⟨w.heap.size + 1, 5, none⟩ = some (.int .i64 ue) := r6.cell 5
          clear r6 hb6 q4 q5 z5
          by_cases h5 : scalE un ue true = 0
          · rw [h5]
            have H5 := Lib.hid h5
            clear h5
            go_wp2_with fail
            go_at_call 85
            refine (scmp_any vn ve un ue w6 (scOk_of H4.out) (scOk_of H5.out)).mono ?_
            rintro e w9 ⟨rfl, hb9⟩
            have N9 := Lib.hid (N6.out.trans (hb9.mono (by omega)))
            clear hb9
            obtain ⟨C, hC⟩ : ∃ C, scCmp vn ve un ue = C := ⟨_, rfl⟩
            have HC := Lib.hid hC
            rw [hC]
            clear hC
            by_cases hc : 0 < C
            · have HE := Lib.hid (HE6.out H4.out H5.out ⟨by trivial, by rw [HC.out]; exact hc⟩)
              go_wp2_with fail
              go_ret
              exact ⟨ar_eq HE.out.symm, N9.out⟩
            · have HE := Lib.hid (HE7.out H4.out H5.out (fun h => hc (by rw [← HC.out]; exact h.2)))
              go_wp2_with fail
              go_ret
              exact ⟨ar_eq HE.out.symm, N9.out⟩
          · have HE := Lib.hid (HE5.out H4.out h5)
            obtain ⟨q, hq⟩ : ∃ q, scalE un ue true = q := ⟨_, rfl⟩
            rw [hq] at h5 HE
            rw [hq]
            have hqb : (q != 0) = true := by simpa using h5
            clear hq h5
            go_wp2_with fail
            go_ret
            exact ⟨ar_eq HE.out.symm, N6.out⟩
        · have HE := Lib.hid (HE4.out h4)
          obtain ⟨q, hq⟩ : ∃ q, scalE vn ve true = q := ⟨_, rfl⟩
          rw [hq] at h4 HE
          rw [hq]
          have hqb : (q != 0) = true := by simpa using h4
          clear hq h4
          go_wp2_with fail
          go_ret
          exact ⟨ar_eq HE.out.symm, N5.out⟩
set_option maxRecDepth 100000 in
set_option maxHeartbeats 8000000 in
theorem block_1 (A1 : Option Addr) (ps : List Prt) (c1 : Nat) (A2 : Option Addr) (bs : List Bk) (c2 : Nat) (A3 : Option Addr) (os : List Int) (c3 : Nat) (A : Option Addr) (args : List Int) (cap : Nat) (vn ve un ue : Int) (m : Nat) (w : World)
    (hk0 : ¬ arityM 1 < 0) (hk1 : ((args.length : Nat) : Int) = arityM 1) (hl : args.length ≤ 1000000) (hl1 : ps.length ≤ 1000000) (hl2 : bs.length ≤ 1000000) (hm : m ≤ w.heap.size) (ha : CellsAt w m A (ints args)) :
    Calls Tryd.prog 48 #[.agg #[.slice A1 ps.length c1, .slice A2 bs.length c2, .slice A3 os.length c3], .agg #[.int .i64 1, .slice A args.length cap, .int .i64 vn, .int .i64 ve, .int .i64 un, .int .i64 ue]] w fun e w' => e = .returned (.int .i64 (blkErr ps.length bs.length ⟨1, A, args, cap, vn, ve, un, ue⟩)) ∧ Below w.heap.size w w' := by
  have b0 : Below w.heap.size w ((w.alloc (.cells #[.slice A1 ps.length c1, .slice A2 bs.length c2, .slice A3 os.length c3] 41)).alloc (.cells #[.int .i64 1, .slice A args.length cap, .int .i64 vn, .int .i64 ve, .int .i64 un, .int .i64 ue] 66)) := ext_alloc (al_ _ _) _
  have r0 := (RowD.new_ w [.slice A1 ps.length c1, .slice A2 bs.length c2, .slice A3 os.length c3] 41).call (al_ _ (.cells #[.int .i64 1, .slice A args.length cap, .int .i64 vn, .int .i64 ve, .int .i64 un, .int .i64 ue] 66))
  have r1 := RowD.new_ (w.alloc (.cells #[.slice A1 ps.length c1, .slice A2 bs.length c2, .slice A3 os.length c3] 41)) [.int .i64 1, .slice A args.length cap, .int .i64 vn, .int .i64 ve, .int .i64 un, .int .i64 ue] 66
  rw [show (w.alloc (.cells #[.slice A1 ps.length c1, .slice A2 bs.length c2, .slice A3 os.length c3] 41)).heap.size = w.heap.size + 1 by simp] at r1
  have HA := Lib.hid ha
  have HK0 := Lib.hid hk0
  have HK1 := Lib.hid hk1
  obtain ⟨K, hK⟩ : ∃ K, arityM 1 = K := ⟨_, rfl⟩
  have HKK := Lib.hid hK
  have hne : (((args.length : Nat) : Int) != K) = false := by rw [hk1, hK]; simp
  have hkk : 0 ≤ K := by omega
  clear ha hk0 hk1 hK
  go_enter Tryd.func48, Tryd.ntmps48
  have HM : Hid (mostM ps.length bs.length 1 = bs.length) := Lib.hid (rfl)
  have HV : Hid (valU 1 = true) := Lib.hid (by decide)
  have HU : Hid (clipU 1 = false) := Lib.hid (by decide)
  go_wp2_with (go_at_call 83; refine (rArity_any _ _).mono ?_; rintro e w1 ⟨rfl, rfl⟩; rw [HKK.out])
  obtain ⟨W, hW⟩ : ∃ W, W = ((w.alloc (.cells #[.slice A1 ps.length c1, .slice A2 bs.length c2, .slice A3 os.length c3] 41)).alloc (.cells #[.int .i64 1, .slice A args.length cap, .int .i64 vn, .int .i64 ve, .int .i64 un, .int .i64 ue] 66)) := ⟨_, rfl⟩
  rw [← hW]
  rw [← hW] at r0 r1 b0
  have hWs : W.heap.size = w.heap.size + 2 := by rw [hW]; simp
  clear hW
  have q0 : W.cell? ⟨w.heap.size + 1, 0, none⟩ = some (.int .i64 1) := r1.cell 0
  have q2 : W.cell? ⟨w.heap.size + 1, 2, none⟩ = some (.int .i64 vn) := r1.cell 2
  have q3 : W.cell? ⟨w.heap.size + 1, 3, none⟩ = some (.int .i64 ve) := r1.cell 3
  have HB0 := Lib.hid b0
  have R1 := Lib.hid r1
  have HA2 := Lib.hid (HA.out.below b0 hm)
  have hbs1 : (W.heap.size : Int) = w.heap.size + 2 := by omega
  clear r0 r1 b0
  go_loopw [34] (fun i wr => argRel args bs.length W i wr) (fun i _ => args.length - (intOf i).toNat)
  case atStart => exact ⟨0, Nat.zero_le _, rfl, rfl, rfl⟩
  case round =>
    as_aux_lemma =>
      obtain ⟨t, ht, rfl, hf, rfl⟩ := hrel
      have HF := Lib.hid hf
      clear hf
      by_cases hlt : t < args.length
      · obtain ⟨ab, ao, z, rfl, hab, hab2, hz, hzc⟩ := HA2.out.int_ hlt
        have HZ := Lib.hid hz
        clear hz
        by_cases h0 : 0 ≤ z ∧ z < (bs.length : Int)
        · have HZ2 := Lib.hid (out_step HZ.out h0 HF.out)
          have HWB := Lib.hid (show withinB z 0 ((bs.length : Int) - 1) = true from decide_eq_true ⟨h0.1, by have := h0.2; omega⟩)
          clear h0
          go_wp2_with (go_at_call 47; refine (within_any _ _ _ _).mono ?_; rintro e w1 ⟨rfl, rfl⟩; rw [HWB.out])
          exact ⟨⟨t + 1, by omega, by go_num, HZ2.out, rfl⟩, by simp [intOf]; omega⟩
        · have hE := Lib.hid (be3 (np := ps.length) (nb := bs.length) (b := ⟨1, some ⟨ab, ao, none⟩, args, cap, vn, ve, un, ue⟩) (Int.not_lt.2 HK0.out) HK1.out HM.out (out_hit HZ.out h0 HF.out))
          have HWB := Lib.hid (show withinB z 0 ((bs.length : Int) - 1) = false from decide_eq_false (fun h => h0 ⟨h.1, by have := h.2; omega⟩))
          clear h0
          go_wp2_with (go_at_call 47; refine (within_any _ _ _ _).mono ?_; rintro e w1 ⟨rfl, rfl⟩; rw [HWB.out])
          go_ret
          exact ⟨ar_eq hE.out.symm, HB0.out⟩
      · have P1 := Lib.hid (fe_all (k := t) (by rw [List.length_map]; omega) HF.out)
        clear HF
        have hE4 := fun h => be4 (np := ps.length) (nb := bs.length) (b := ⟨1, A, args, cap, vn, ve, un, ue⟩) (Int.not_lt.2 HK0.out) HK1.out HM.out P1.out HV.out h
        have hE5 := fun h4 h => be5 (np := ps.length) (nb := bs.length) (b := ⟨1, A, args, cap, vn, ve, un, ue⟩) (Int.not_lt.2 HK0.out) HK1.out HM.out P1.out HV.out h4 HU.out h
        have hE6 := fun h4 h5 h => be6 (np := ps.length) (nb := bs.length) (b := ⟨1, A, args, cap, vn, ve, un, ue⟩) (Int.not_lt.2 HK0.out) HK1.out HM.out P1.out HV.out h4 HU.out h5 h
        have hE7 := fun h4 h5 h => be7 (np := ps.length) (nb := bs.length) (b := ⟨1, A, args, cap, vn, ve, un, ue⟩) (Int.not_lt.2 HK0.out) HK1.out HM.out P1.out HV.out h4 HU.out h5 h
        dsimp only at hE4 hE5 hE6 hE7
        have HE4 := Lib.hid hE4
        have HE5 := Lib.hid hE5
        have HE6 := Lib.hid hE6
        have HE7 := Lib.hid hE7
        clear hE4 hE5 hE6 hE7
        go_wp2_with fail
        go_at_call 84
        refine (rScalar_any vn ve true wr).mono ?_
        rintro e w5 ⟨rfl, hb5⟩
        have N5 := Lib.hid (HB0.out.trans (hb5.mono (by omega)))
        have r5 := R1.out.call hb5
        have hz5 := hb5.size
        have z5 : w.heap.size + 1 < w5.heap.size := by omega
        have q4 : w5.cell? ⟨w.heap.size + 1, 4, none⟩ = some (.int .i64 un) := r5.cell 4
        have q5 : w5.cell? ⟨w.heap.size + 1, 5, none⟩ = some (.int .i64 ue) := r5.cell 5
        have R5 := Lib.hid r5
        clear r5 hb5 q0 q2 q3 hlt hbs1
        by_cases h4 : scalE vn ve true = 0
        · rw [h4]
          have H4 := Lib.hid h4
          clear h4
          go_wp2_with fail
          go_at_call 84
          refine (rScalar_any un ue false w5).mono ?_
          rintro e w6 ⟨rfl, hb6⟩
          have N6 := Lib.hid (N5.out.trans (hb6.mono (by omega)))
          have r6 := R5.out.call hb6
          have hz6 := hb6.size
          have z6 : w.heap.size + 1 < w6.heap.size := by omega
          have q2 : w6.cell? ⟨w.heap.size + 1, 2, none⟩ = some (.int .i64 vn) := r6.cell 2
          have q3 : w6.cell? ⟨w.heap.size + 1, 3, none⟩ = some (.int .i64 ve) := r6.cell 3
          have q6 : w6.cell? ⟨w.heap.size + 1, 4, none⟩ = some (.int .i64 un) := r6.cell 4
          have q7 : w6.cell? ⟨w.heap.size + 1, 5, none⟩ = some (.int .i64 ue) := r6.cell 5
          clear r6 hb6 q4 q5 z5
          by_cases h5 : scalE un ue false = 0
          · rw [h5]
            have H5 := Lib.hid h5
            clear h5
            go_wp2_with fail
            go_ret
            exact ⟨ar_eq (HE7.out H4.out H5.out (fun h => by cases h.1)).symm, N6.out⟩
          · have HE := Lib.hid (HE5.out H4.out h5)
            obtain ⟨q, hq⟩ : ∃ q, scalE un ue false = q := ⟨_, rfl⟩
            rw [hq] at h5 HE
            rw [hq]
            have hqb : (q != 0) = true := by simpa using h5
            clear hq h5
            go_wp2_with fail
            go_ret
            exact ⟨ar_eq HE.out.symm, N6.out⟩
        · have HE := Lib.hid (HE4.out h4)
          obtain ⟨q, hq⟩ : ∃ q, scalE vn ve true = q := ⟨_, rfl⟩
          rw [hq] at h4 HE
          rw [hq]
          have hqb : (q != 0) = true := by simpa using h4
          clear hq h4
          go_wp2_with fail
          go_ret
          exact ⟨ar_eq HE.out.symm, N5.out⟩
set_option maxRecDepth 100000 in
set_option maxHeartbeats 8000000 in
theorem block_2 (A1 : Option Addr) (ps : List Prt) (c1 : Nat) (A2 : Option Addr) (bs : List Bk) (c2 : Nat) (A3 : Option Addr) (os : List Int) (c3 : Nat) (A : Option Addr) (args : List Int) (cap : Nat) (vn ve un ue : Int) (m : Nat) (w : World)
    (hk0 : ¬ arityM 2 < 0) (hk1 : ((args.length : Nat) : Int) = arityM 2) (hl : args.length ≤ 1000000) (hl1 : ps.length ≤ 1000000) (hl2 : bs.length ≤ 1000000) (hm : m ≤ w.heap.size) (ha : CellsAt w m A (ints args)) :
    Calls Tryd.prog 48 #[.agg #[.slice A1 ps.length c1, .slice A2 bs.length c2, .slice A3 os.length c3], .agg #[.int .i64 2, .slice A args.length cap, .int .i64 vn, .int .i64 ve, .int .i64 un, .int .i64 ue]] w fun e w' => e = .returned (.int .i64 (blkErr ps.length bs.length ⟨2, A, args, cap, vn, ve, un, ue⟩)) ∧ Below w.heap.size w w' := by
  have b0 : Below w.heap.size w ((w.alloc (.cells #[.slice A1 ps.length c1, .slice A2 bs.length c2, .slice A3 os.length c3] 41)).alloc (.cells #[.int .i64 2, .slice A args.length cap, .int .i64 vn, .int .i64 ve, .int .i64 un, .int .i64 ue] 66)) := ext_alloc (al_ _ _) _
  have r0 := (RowD.new_ w [.slice A1 ps.length c1, .slice A2 bs.length c2, .slice A3 os.length c3] 41).call (al_ _ (.cells #[.int .i64 2, .slice A args.length cap, .int .i64 vn, .int .i64 ve, .int .i64 un, .int .i64 ue] 66))
  have r1 := RowD.new_ (w.alloc (.cells #[.slice A1 ps.length c1, .slice A2 bs.length c2, .slice A3 os.length c3] 41)) [.int .i64 2, .slice A args.length cap, .int .i64 vn, .int .i64 ve, .int .i64 un, .int .i64 ue] 66
  rw [show (w.alloc (.cells #[.slice A1 ps.length c1, .slice A2 bs.length c2, .slice A3 os.length c3] 41)).heap.size = w.heap.size + 1 by simp] at r1
  have HA := Lib.hid ha
  have HK0 := Lib.hid hk0
  have HK1 := Lib.hid hk1
  obtain ⟨K, hK⟩ : ∃ K, arityM 2 = K := ⟨_, rfl⟩
  have HKK := Lib.hid hK
  have hne : (((args.length : Nat) : Int) != K) = false := by rw [hk1, hK]; simp
  have hkk : 0 ≤ K := by omega
  clear ha hk0 hk1 hK
  go_enter Tryd.func48, Tryd.ntmps48
  have HM : Hid (mostM ps.length bs.length 2 = bs.length) := Lib.hid (rfl)
  have HV : Hid (valU 2 = true) := Lib.hid (by decide)
  have HU : Hid (clipU 2 = false) := Lib.hid (by decide)
  go_wp2_with (go_at_call 83; refine (rArity_any _ _).mono ?_; rintro e w1 ⟨rfl, rfl⟩; rw [HKK.out])
  obtain ⟨W, hW⟩ : ∃ W, W = ((w.alloc (.cells #[.slice A1 ps.length c1, .slice A2 bs.length c2, .slice A3 os.length c3] 41)).alloc (.cells #[.int .i64 2, .slice A args.length cap, .int .i64 vn, .int .i64 ve, .int .i64 un, .int .i64 ue] 66)) := ⟨_, rfl⟩
  rw [← hW]
  rw [← hW] at r0 r1 b0
  have hWs : W.heap.size = w.heap.size + 2 := by rw [hW]; simp
  clear hW
  have q0 : W.cell? ⟨w.heap.size + 1, 0, none⟩ = some (.int .i64 2) := r1.cell 0
  have q2 : W.cell? ⟨w.heap.size + 1, 2, none⟩ = some (.int .i64 vn) := r1.cell 2
  have q3 : W.cell? ⟨w.heap.size + 1, 3, none⟩ = some (.int .i64 ve) := r1.cell 3
  have HB0 := Lib.hid b0
  have R1 := Lib.hid r1
  have HA2 := Lib.hid (HA.out.below b0 hm)
  have hbs1 : (W.heap.size : Int) = w.heap.size + 2 := by omega
  clear r0 r1 b0
  go_loopw [34] (fun i wr => argRel args bs.length W i wr) (fun i _ => args.length - (intOf i).toNat)
  case atStart => exact ⟨0, Nat.zero_le _, rfl, rfl, rfl⟩
  case round =>
    as_aux_lemma =>
      obtain ⟨t, ht, rfl, hf, rfl⟩ := hrel
      have HF := Lib.hid hf
      clear hf
      by_cases hlt : t < args.length
      · obtain ⟨ab, ao, z, rfl, hab, hab2, hz, hzc⟩ := HA2.out.int_ hlt
        have HZ := Lib.hid hz
        clear hz
        by_cases h0 : 0 ≤ z ∧ z < (bs.length : Int)
        · have HZ2 := Lib.hid (out_step HZ.out h0 HF.out)
          have HWB := Lib.hid (show withinB z 0 ((bs.length : Int) - 1) = true from decide_eq_true ⟨h0.1, by have := h0.2; omega⟩)
          clear h0
          go_wp2_with (go_at_call 47; refine (within_any _ _ _ _).mono ?_; rintro e w1 ⟨rfl, rfl⟩; rw [HWB.out])
          exact ⟨⟨t + 1, by omega, by go_num, HZ2.out, rfl⟩, by simp [intOf]; omega⟩
        · have hE := Lib.hid (be3 (np := ps.length) (nb := bs.length) (b := ⟨2, some ⟨ab, ao, none⟩, args, cap, vn, ve, un, ue⟩) (Int.not_lt.2 HK0.out) HK1.out HM.out (out_hit HZ.out h0 HF.out))
          have HWB := Lib.hid (show withinB z 0 ((bs.length : Int) - 1) = false from decide_eq_false (fun h => h0 ⟨h.1, by have := h.2; omega⟩))
          clear h0
          go_wp2_with (go_at_call 47; refine (within_any _ _ _ _).mono ?_; rintro e w1 ⟨rfl, rfl⟩; rw [HWB.out])
          go_ret
          exact ⟨ar_eq hE.out.symm, HB0.out⟩
      · have P1 := Lib.hid (fe_all (k := t) (by rw [List.length_map]; omega) HF.out)
        clear HF
        have hE4 := fun h => be4 (np := ps.length) (nb := bs.length) (b := ⟨2, A, args, cap, vn, ve, un, ue⟩) (Int.not_lt.2 HK0.out) HK1.out HM.out P1.out HV.out h
        have hE5 := fun h4 h => be5 (np := ps.length) (nb := bs.length) (b := ⟨2, A, args, cap, vn, ve, un, ue⟩) (Int.not_lt.2 HK0.out) HK1.out HM.out P1.out HV.out h4 HU.out h
        have hE6 := fun h4 h5 h => be6 (np := ps.length) (nb := bs.length) (b := ⟨2, A, args, cap, vn, ve, un, ue⟩) (Int.not_lt.2 HK0.out) HK1.out HM.out P1.out HV.out h4 HU.out h5 h
        have hE7 := fun h4 h5 h => be7 (np := ps.length) (nb := bs.length) (b := ⟨2, A, args, cap, vn, ve, un, ue⟩) (Int.not_lt.2 HK0.out) HK1.out HM.out P1.out HV.out h4 HU.out h5 h
        dsimp only at hE4 hE5 hE6 hE7
        have HE4 := Lib.hid hE4
        have HE5 := Lib.hid hE5
        have HE6 := Lib.hid hE6
        have HE7 := Lib.hid hE7
        clear hE4 hE5 hE6 hE7
        go_wp2_with fail
        go_at_call 84
        refine (rScalar_any vn ve true wr).mono ?_
        rintro e w5 ⟨rfl, hb5⟩
        have N5 := Lib.hid (HB0.out.trans (hb5.mono (by omega)))
        have r5 := R1.out.call hb5
        have hz5 := hb5.size
        have z5 : w.heap.size + 1 < w5.heap.size := by omega
        have q4 : w5.cell? ⟨w.heap.size + 1, 4, none⟩ = some (.int .i64 un) := r5.cell 4
        have q5 : w5.cell? ⟨w.heap.size + 1, 5, none⟩ = some (.int .i64 ue) := r5.cell 5
        have R5 := Lib.hid r5
        clear r5 hb5 q0 q2 q3 hlt hbs1
        by_cases h4 : scalE vn ve true = 0
        · rw [h4]
          have H4 := Lib.hid h4
          clear h4
          go_wp2_with fail
          go_at_call 84
          refine (rScalar_any un ue false w5).mono ?_
          rintro e w6 ⟨rfl, hb6⟩
          have N6 := Lib.hid (N5.out.trans (hb6.mono (by omega)))
          have r6 := R5.out.call hb6
          have hz6 := hb6.size
          have z6 : w.heap.size + 1 < w6.heap.size := by omega
          have q2 : w6.cell? ⟨w.heap.size + 1, 2, none⟩ = some (.int .i64 vn) := r6.cell 2
          have q3 : w6.cell? ⟨w.heap.size + 1, 3, none⟩ = some (.int .i64 ve) := r6.cell 3
          have q6 : w6.cell? ⟨w.heap.size + 1, 4, none⟩ = some (.int .i64 un) := r6.cell 4
          have q7 : w6.cell? ⟨w.heap.size + 1, 5, none⟩ = some (.int .i64 ue) := r6.cell 5
          clear r6 hb6 q4 q5 z5
          by_cases h5 : scalE un ue false = 0
          · rw [h5]
            have H5 := Lib.hid h5
            clear h5
            go_wp2_with fail
            go_ret
            exact ⟨ar_eq (HE7.out H4.out H5.out (fun h => by cases h.1)).symm, N6.out⟩
          · have HE := Lib.hid (HE5.out H4.out h5)
            obtain ⟨q, hq⟩ : ∃ q, scalE un ue false = q := ⟨_, rfl⟩
            rw [hq] at h5 HE
            rw [hq]
            have hqb : (q != 0) = true := by simpa using h5
            clear hq h5
            go_wp2_with fail
            go_ret
            exact ⟨ar_eq HE.out.symm, N6.out⟩
        · have HE := Lib.hid (HE4.out h4)
          obtain ⟨q, hq⟩ : ∃ q, scalE vn ve true = q := ⟨_, rfl⟩
          rw [hq] at h4 HE
          rw [hq]
          have hqb : (q != 0) = true := by simpa using h4
          clear hq h4
          go_wp2_with fail
          go_ret
          exact ⟨ar_eq HE.out.symm, N5.out⟩
set_option maxRecDepth 100000 in
set_option maxHeartbeats 8000000 in
theorem block_6 (A1 : Option Addr) (ps : List Prt) (c1 : Nat) (A2 : Option Addr) (bs : List Bk) (c2 : Nat) (A3 : Option Addr) (os : List Int) (c3 : Nat) (A : Option Addr) (args : List Int) (cap : Nat) (vn ve un ue : Int) (m : Nat) (w : World)
    (hk0 : ¬ arityM 6 < 0) (hk1 : ((args.length : Nat) : Int) = arityM 6) (hl : args.length ≤ 1000000) (hl1 : ps.length ≤ 1000000) (hl2 : bs.length ≤ 1000000) (hm : m ≤ w.heap.size) (ha : CellsAt w m A (ints args)) :
    Calls Tryd.prog 48 #[.agg #[.slice A1 ps.length c1, .slice A2 bs.length c2, .slice A3 os.length c3], .agg #[.int .i64 6, .slice A args.length cap, .int .i64 vn, .int .i64 ve, .int .i64 un, .int .i64 ue]] w fun e w' => e = .returned (.int .i64 (blkErr ps.length bs.length ⟨6, A, args, cap, vn, ve, un, ue⟩)) ∧ Below w.heap.size w w' := by
  have b0 : Below w.heap.size w ((w.alloc (.cells #[.slice A1 ps.length c1, .slice A2 bs.length c2, .slice A3 os.length c3] 41)).alloc (.cells #[.int .i64 6, .slice A args.length cap, .int .i64 vn, .int .i64 ve, .int .i64 un, .int .i64 ue] 66)) := ext_alloc (al_ _ _) _
  have r0 := (RowD.new_ w [.slice A1 ps.length c1, .slice A2 bs.length c2, .slice A3 os.length c3] 41).call (al_ _ (.cells #[.int .i64 6, .slice A args.length cap, .int .i64 vn, .int .i64 ve, .int .i64 un, .int .i64 ue] 66))
  have r1 := RowD.new_ (w.alloc (.cells #[.slice A1 ps.length c1, .slice A2 bs.length c2, .slice A3 os.length c3] 41)) [.int .i64 6, .slice A args.length cap, .int .i64 vn, .int .i64 ve, .int .i64 un, .int .i64 ue] 66
  rw [show (w.alloc (.cells #[.slice A1 ps.length c1, .slice A2 bs.length c2, .slice A3 os.length c3] 41)).heap.size = w.heap.size + 1 by simp] at r1
  have HA := Lib.hid ha
  have HK0 := Lib.hid hk0
  have HK1 := Lib.hid hk1
  obtain ⟨K, hK⟩ : ∃ K, arityM 6 = K := ⟨_, rfl⟩
  have HKK := Lib.hid hK
  have hne : (((args.length : Nat) : Int) != K) = false := by rw [hk1, hK]; simp
  have hkk : 0 ≤ K := by omega
  clear ha hk0 hk1 hK
  go_enter Tryd.func48, Tryd.ntmps48
  have HM : Hid (mostM ps.length bs.length 6 = bs.length) := Lib.hid (rfl)
  have HV : Hid (valU 6 = true) := Lib.hid (by decide)
  have HU : Hid (clipU 6 = false) := Lib.hid (by decide)
  go_wp2_with (go_at_call 83; refine (rArity_any _ _).mono ?_; rintro e w1 ⟨rfl, rfl⟩; rw [HKK.out])
  obtain ⟨W, hW⟩ : ∃ W, W = ((w.alloc (.cells #[.slice A1 ps.length c1, .slice A2 bs.length c2, .slice A3 os.length c3] 41)).alloc (.cells #[.int .i64 6, .slice A args.length cap, .int .i64 vn, .int .i64 ve, .int .i64 un, .int .i64 ue] 66)) := ⟨_, rfl⟩
  rw [← hW]
  rw [← hW] at r0 r1 b0
  have hWs : W.heap.size = w.heap.size + 2 := by rw [hW]; simp
  clear hW
  have q0 : W.cell? ⟨w.heap.size + 1, 0, none⟩ = some (.int .i64 6) := r1.cell 0
  have q2 : W.cell? ⟨w.heap.size + 1, 2, none⟩ = some (.int .i64 vn) := r1.cell 2
  have q3 : W.cell? ⟨w.heap.size + 1, 3, none⟩ = some (.int .i64 ve) := r1.cell 3
  have HB0 := Lib.hid b0
  have R1 := Lib.hid r1
  have HA2 := Lib.hid (HA.out.below b0 hm)
  have hbs1 : (W.heap.size : Int) = w.heap.size + 2 := by omega
  clear r0 r1 b0
  go_loopw [34] (fun i wr => argRel args bs.length W i wr) (fun i _ => args.length - (intOf i).toNat)
  case atStart => exact ⟨0, Nat.zero_le _, rfl, rfl, rfl⟩
  case round =>
    as_aux_lemma =>
      obtain ⟨t, ht, rfl, hf, rfl⟩ := hrel
      have HF := Lib.hid hf
      clear hf
      by_cases hlt : t < args.length
      · obtain ⟨ab, ao, z, rfl, hab, hab2, hz, hzc⟩ := HA2.out.int_ hlt
        have HZ := Lib.hid hz
        clear hz
        by_cases h0 : 0 ≤ z ∧ z < (bs.length : Int)
        · have HZ2 := Lib.hid (out_step HZ.out h0 HF.out)
          have HWB := Lib.hid (show withinB z 0 ((bs.length : Int) - 1) = true from decide_eq_true ⟨h0.1, by have := h0.2; omega⟩)
          clear h0
          go_wp2_with (go_at_call 47; refine (within_any _ _ _ _).mono ?_; rintro e w1 ⟨rfl, rfl⟩; rw [HWB.out])
          exact ⟨⟨t + 1, by omega, by go_num, HZ2.out, rfl⟩, by simp [intOf]; omega⟩
        · have hE := Lib.hid (be3 (np := ps.length) (nb := bs.length) (b := ⟨6, some ⟨ab, ao, none⟩, args, cap, vn, ve, un, ue⟩) (Int.not_lt.2 HK0.out) HK1.out HM.out (out_hit HZ.out h0 HF.out))
          have HWB := Lib.hid (show withinB z 0 ((bs.length : Int) - 1) = false from decide_eq_false (fun h => h0 ⟨h.1, by have := h.2; omega⟩))
          clear h0
          go_wp2_with (go_at_call 47; refine (within_any _ _ _ _).mono ?_; rintro e w1 ⟨rfl, rfl⟩; rw [HWB.out])
          go_ret
          exact ⟨ar_eq hE.out.symm, HB0.out⟩
      · have P1 := Lib.hid (fe_all (k := t) (by rw [List.length_map]; omega) HF.out)
        clear HF
        have hE4 := fun h => be4 (np := ps.length) (nb := bs.length) (b := ⟨6, A, args, cap, vn, ve, un, ue⟩) (Int.not_lt.2 HK0.out) HK1.out HM.out P1.out HV.out h
        have hE5 := fun h4 h => be5 (np := ps.length) (nb := bs.length) (b := ⟨6, A, args, cap, vn, ve, un, ue⟩) (Int.not_lt.2 HK0.out) HK1.out HM.out P1.out HV.out h4 HU.out h
        have hE6 := fun h4 h5 h => be6 (np := ps.length) (nb := bs.length) (b := ⟨6, A, args, cap, vn, ve, un, ue⟩) (Int.not_lt.2 HK0.out) HK1.out HM.out P1.out HV.out h4 HU.out h5 h
        have hE7 := fun h4 h5 h => be7 (np := ps.length) (nb := bs.length) (b := ⟨6, A, args, cap, vn, ve, un, ue⟩) (Int.not_lt.2 HK0.out) HK1.out HM.out P1.out HV.out h4 HU.out h5 h
        dsimp only at hE4 hE5 hE6 hE7
        have HE4 := Lib.hid hE4
        have HE5 := Lib.hid hE5
        have HE6 := Lib.hid hE6
        have HE7 := Lib.hid hE7
        clear hE4 hE5 hE6 hE7
        go_wp2_with fail
        go_at_call 84
        refine (rScalar_any vn ve true wr).mono ?_
        rintro e w5 ⟨rfl, hb5⟩
        have N5 := Lib.hid (HB0.out.trans (hb5.mono (by omega)))
        have r5 := R1.out.call hb5
        have hz5 := hb5.size
        have z5 : w.heap.size + 1 < w5.heap.size := by omega
        have q4 : w5.cell? ⟨w.heap.size + 1, 4, none⟩ = some (.int .i64 un) := r5.cell 4
        have q5 : w5.cell? ⟨w.heap.size + 1, 5, none⟩ = some (.int .i64 ue) := r5.cell 5
        have R5 := Lib.hid r5
        clear r5 hb5 q0 q2 q3 hlt hbs1
        by_cases h4 : scalE vn ve true = 0
        · rw [h4]
          have H4 := Lib.hid h4
          clear h4
          go_wp2_with fail
          go_at_call 84
          refine (rScalar_any un ue false w5).mono ?_
          rintro e w6 ⟨rfl, hb6⟩
          have N6 := Lib.hid (N5.out.trans (hb6.mono (by omega)))
          have r6 := R5.out.call hb6
          have hz6 := hb6.size
          have z6 : w.heap.size + 1 < w6.heap.size := by omega
          have q2 : w6.cell? ⟨w.heap.size + 1, 2, none⟩ = some (.int .i64 vn) := r6.cell 2
          have q3 : w6.cell? ⟨w.heap.size + 1, 3, none⟩ = some (.int .i64 ve) := r6.cell 3
          have q6 : w6.cell? ⟨w.heap.size + 1, 4, none⟩ = some (.int .i64 un) := r6.cell 4
          have q7 : w6.cell? ⟨w.heap.size + 1, 5, none⟩ = some (.int .i64 ue) := r6.cell 5
          clear r6 hb6 q4 q5 z5
          by_cases h5 : scalE un ue false = 0
          · rw [h5]
            have H5 := Lib.hid h5
            clear h5
            go_wp2_with fail
            go_ret
            exact ⟨ar_eq (HE7.out H4.out H5.out (fun h => by cases h.1)).symm, N6.out⟩
          · have HE := Lib.hid (HE5.out H4.out h5)
            obtain ⟨q, hq⟩ : ∃ q, scalE un ue false = q := ⟨_, rfl⟩
            rw [hq] at h5 HE
            rw [hq]
            have hqb : (q != 0) = true := by simpa using h5
            clear hq h5
            go_wp2_with fail
            go_ret
            exact ⟨ar_eq HE.out.symm, N6.out⟩
        · have HE := Lib.hid (HE4.out h4)
          obtain ⟨q, hq⟩ : ∃ q, scalE vn ve true = q := ⟨_, rfl⟩
          rw [hq] at h4 HE
          rw [hq]
          have hqb : (q != 0) = true := by simpa using h4
          clear hq h4
          go_wp2_with fail
          go_ret
          exact ⟨ar_eq HE.out.symm, N5.out⟩
set_option maxRecDepth 100000 in
set_option maxHeartbeats 8000000 in
theorem block_x (A1 : Option Addr) (ps : List Prt) (c1 : Nat) (A2 : Option Addr) (bs : List Bk) (c2 : Nat) (A3 : Option Addr) (os : List Int) (c3 : Nat) (kind : Int) (A : Option Addr) (args : List Int) (cap : Nat) (vn ve un ue : Int) (m : Nat) (w : World) (h0 : ¬ kind = 0) (h1 : ¬ kind = 1) (h2 : ¬ kind = 2) (h6 : ¬ kind = 6) (h11 : ¬ kind = 11)
    (hk0 : ¬ arityM kind < 0) (hk1 : ((args.length : Nat) : Int) = arityM kind) (hl : args.length ≤ 1000000) (hl1 : ps.length ≤ 1000000) (hl2 : bs.length ≤ 1000000) (hm : m ≤ w.heap.size) (ha : CellsAt w m A (ints args)) :
    Calls Tryd.prog 48 #[.agg #[.slice A1 ps.length c1, .slice A2 bs.length c2, .slice A3 os.length c3], .agg #[.int .i64 kind, .slice A args.length cap, .int .i64 vn, .int .i64 ve, .int .i64 un, .int .i64 ue]] w fun e w' => e = .returned (.int .i64 (blkErr ps.length bs.length ⟨kind, A, args, cap, vn, ve, un, ue⟩)) ∧ Below w.heap.size w w' := by
  have b0 : Below w.heap.size w ((w.alloc (.cells #[.slice A1 ps.length c1, .slice A2 bs.length c2, .slice A3 os.length c3] 41)).alloc (.cells #[.int .i64 kind, .slice A args.length cap, .int .i64 vn, .int .i64 ve, .int .i64 un, .int .i64 ue] 66)) := ext_alloc (al_ _ _) _
  have r0 := (RowD.new_ w [.slice A1 ps.length c1, .slice A2 bs.length c2, .slice A3 os.length c3] 41).call (al_ _ (.cells #[.int .i64 kind, .slice A args.length cap, .int .i64 vn, .int .i64 ve, .int .i64 un, .int .i64 ue] 66))
  have r1 := RowD.new_ (w.alloc (.cells #[.slice A1 ps.length c1, .slice A2 bs.length c2, .slice A3 os.length c3] 41)) [.int .i64 kind, .slice A args.length cap, .int .i64 vn, .int .i64 ve, .int .i64 un, .int .i64 ue] 66
  rw [show (w.alloc (.cells #[.slice A1 ps.length c1, .slice A2 bs.length c2, .slice A3 os.length c3] 41)).heap.size = w.heap.size + 1 by simp] at r1
  have HA := Lib.hid ha
  have HK0 := Lib.hid hk0
  have HK1 := Lib.hid hk1
  obtain ⟨K, hK⟩ : ∃ K, arityM kind = K := ⟨_, rfl⟩
  have HKK := Lib.hid hK
  have hne : (((args.length : Nat) : Int) != K) = false := by rw [hk1, hK]; simp
  have hkk : 0 ≤ K := by omega
  clear ha hk0 hk1 hK
  have e0 : (kind == 0) = false := by simpa using h0
  have e1 : (kind == 1) = false := by simpa using h1
  have e2 : (kind == 2) = false := by simpa using h2
  have e6 : (kind == 6) = false := by simpa using h6
  have e11 : (kind == 11) = false := by simpa using h11
  go_enter Tryd.func48, Tryd.ntmps48
  have HM : Hid (mostM ps.length bs.length kind = bs.length) := Lib.hid (if_neg h0)
  have HV : Hid (valU kind = false) := Lib.hid (by unfold valU; rw [e11, e1, e2, e6]; rfl)
  have HU : Hid (clipU kind = false) := Lib.hid (e11)
  clear h0 h1 h2 h6 h11
  go_wp2_with (go_at_call 83; refine (rArity_any _ _).mono ?_; rintro e w1 ⟨rfl, rfl⟩; rw [HKK.out])
  obtain ⟨W, hW⟩ : ∃ W, W = ((w.alloc (.cells #[.slice A1 ps.length c1, .slice A2 bs.length c2, .slice A3 os.length c3] 41)).alloc (.cells #[.int .i64 kind, .slice A args.length cap, .int .i64 vn, .int .i64 ve, .int .i64 un, .int .i64 ue] 66)) := ⟨_, rfl⟩
  rw [← hW]
  rw [← hW] at r0 r1 b0
  have hWs : W.heap.size = w.heap.size + 2 := by rw [hW]; simp
  clear hW
  have q0 : W.cell? ⟨w.heap.size + 1, 0, none⟩ = some (.int .i64 kind) := r1.cell 0
  have q2 : W.cell? ⟨w.heap.size + 1, 2, none⟩ = some (.int .i64 vn) := r1.cell 2
  have q3 : W.cell? ⟨w.heap.size + 1, 3, none⟩ = some (.int .i64 ve) := r1.cell 3
  have HB0 := Lib.hid b0
  have R1 := Lib.hid r1
  have HA2 := Lib.hid (HA.out.below b0 hm)
  have hbs1 : (W.heap.size : Int) = w.heap.size + 2 := by omega
  clear r0 r1 b0
  go_loopw [34] (fun i wr => argRel args bs.length W i wr) (fun i _ => args.length - (intOf i).toNat)
  case atStart => exact ⟨0, Nat.zero_le _, rfl, rfl, rfl⟩
  case round =>
    as_aux_lemma =>
      obtain ⟨t, ht, rfl, hf, rfl⟩ := hrel
      have HF := Lib.hid hf
      clear hf
      by_cases hlt : t < args.length
      · obtain ⟨ab, ao, z, rfl, hab, hab2, hz, hzc⟩ := HA2.out.int_ hlt
        have HZ := Lib.hid hz
        clear hz
        by_cases h0 : 0 ≤ z ∧ z < (bs.length : Int)
        · have HZ2 := Lib.hid (out_step HZ.out h0 HF.out)
          have HWB := Lib.hid (show withinB z 0 ((bs.length : Int) - 1) = true from decide_eq_true ⟨h0.1, by have := h0.2; omega⟩)
          clear h0
          go_wp2_with (go_at_call 47; refine (within_any _ _ _ _).mono ?_; rintro e w1 ⟨rfl, rfl⟩; rw [HWB.out])
          exact ⟨⟨t + 1, by omega, by go_num, HZ2.out, rfl⟩, by simp [intOf]; omega⟩
        · have hE := Lib.hid (be3 (np := ps.length) (nb := bs.length) (b := ⟨kind, some ⟨ab, ao, none⟩, args, cap, vn, ve, un, ue⟩) (Int.not_lt.2 HK0.out) HK1.out HM.out (out_hit HZ.out h0 HF.out))
          have HWB := Lib.hid (show withinB z 0 ((bs.length : Int) - 1) = false from decide_eq_false (fun h => h0 ⟨h.1, by have := h.2; omega⟩))
          clear h0
          go_wp2_with (go_at_call 47; refine (within_any _ _ _ _).mono ?_; rintro e w1 ⟨rfl, rfl⟩; rw [HWB.out])
          go_ret
          exact ⟨ar_eq hE.out.symm, HB0.out⟩
      · have P1 := Lib.hid (fe_all (k := t) (by rw [List.length_map]; omega) HF.out)
        clear HF
        have hE4 := fun h => be4 (np := ps.length) (nb := bs.length) (b := ⟨kind, A, args, cap, vn, ve, un, ue⟩) (Int.not_lt.2 HK0.out) HK1.out HM.out P1.out HV.out h
        have hE5 := fun h4 h => be5 (np := ps.length) (nb := bs.length) (b := ⟨kind, A, args, cap, vn, ve, un, ue⟩) (Int.not_lt.2 HK0.out) HK1.out HM.out P1.out HV.out h4 HU.out h
        have hE6 := fun h4 h5 h => be6 (np := ps.length) (nb := bs.length) (b := ⟨kind, A, args, cap, vn, ve, un, ue⟩) (Int.not_lt.2 HK0.out) HK1.out HM.out P1.out HV.out h4 HU.out h5 h
        have hE7 := fun h4 h5 h => be7 (np := ps.length) (nb := bs.length) (b := ⟨kind, A, args, cap, vn, ve, un, ue⟩) (Int.not_lt.2 HK0.out) HK1.out HM.out P1.out HV.out h4 HU.out h5 h
        dsimp only at hE4 hE5 hE6 hE7
        have HE4 := Lib.hid hE4
        have HE5 := Lib.hid hE5
        have HE6 := Lib.hid hE6
        have HE7 := Lib.hid hE7
        clear hE4 hE5 hE6 hE7
        go_wp2_with fail
        go_at_call 84
        refine (rScalar_any vn ve false wr).mono ?_
        rintro e w5 ⟨rfl, hb5⟩
        have N5 := Lib.hid (HB0.out.trans (hb5.mono (by omega)))
        have r5 := R1.out.call hb5
        have hz5 := hb5.size
        have z5 : w.heap.size + 1 < w5.heap.size := by omega
        have q4 : w5.cell? ⟨w.heap.size + 1, 4, none⟩ = some (.int .i64 un) := r5.cell 4
        have q5 : w5.cell? ⟨w.heap.size + 1, 5, none⟩ = some (.int .i64 ue) := r5.cell 5
        have R5 := Lib.hid r5
        clear r5 hb5 q0 q2 q3 hlt hbs1
        by_cases h4 : scalE vn ve false = 0
        · rw [h4]
          have H4 := Lib.hid h4
          clear h4
          go_wp2_with fail
          go_at_call 84
          refine (rScalar_any un ue false w5).mono ?_
          rintro e w6 ⟨rfl, hb6⟩
          have N6 := Lib.hid (N5.out.trans (hb6.mono (by omega)))
          have r6 := R5.out.call hb6
          have hz6 := hb6.size
          have z6 : w.heap.size + 1 < w6.heap.size := by omega
          have q2 : w6.cell? ⟨w.heap.size + 1, 2, none⟩ = some (.int .i64 vn) := r6.cell 2
          have q3 : w6.cell? ⟨w.heap.size + 1, 3, none⟩ = some (.int .i64 ve) := r6.cell 3
          have q6 : w6.cell? ⟨w.heap.size + 1, 4, none⟩ = some (.int .i64 un) := r6.cell 4
          have q7 : w6.cell? ⟨w.heap.size + 1, 5, none⟩ = some (.int .i64 ue) := r6.cell 5
          clear r6 hb6 q4 q5 z5
          by_cases h5 : scalE un ue false = 0
          · rw [h5]
            have H5 := Lib.hid h5
            clear h5
            go_wp2_with fail
            go_ret
            exact ⟨ar_eq (HE7.out H4.out H5.out (fun h => by cases h.1)).symm, N6.out⟩
          · have HE := Lib.hid (HE5.out H4.out h5)
            obtain ⟨q, hq⟩ : ∃ q, scalE un ue false = q := ⟨_, rfl⟩
            rw [hq] at h5 HE
            rw [hq]
            have hqb : (q != 0) = true := by simpa using h5
            clear hq h5
            go_wp2_with fail
            go_ret
            exact ⟨ar_eq HE.out.symm, N6.out⟩
        · have HE := Lib.hid (HE4.out h4)
          obtain ⟨q, hq⟩ : ∃ q, scalE vn ve false = q := ⟨_, rfl⟩
          rw [hq] at h4 HE
          rw [hq]
          have hqb : (q != 0) = true := by simpa using h4
          clear hq h4
          go_wp2_with fail
          go_ret
          exact ⟨ar_eq HE.out.symm, N5.out⟩
theorem block_any (d : Dg) (b : Bk) (m : Nat) (w : World) (hm : m ≤ w.heap.size) (hb : CellsAt w m b.A (ints b.args)) (hl : b.args.length ≤ 1000000) (hl1 : d.ps.length ≤ 1000000) (hl2 : d.bs.length ≤ 1000000) :
    Calls Tryd.prog 48 #[d.val, b.val] w fun e w' => e = .returned (.int .i64 (blkErr d.ps.length d.bs.length b)) ∧ Below w.heap.size w w' := by
  by_cases h : 0 ≤ arityM b.kind ∧ ((b.args.length : Nat) : Int) = arityM b.kind
  · obtain ⟨A1, ps, c1, A2, bs, c2, A3, os, c3⟩ := d
    obtain ⟨kind, A, args, cap, vn, ve, un, ue⟩ := b
    dsimp only at h hb hl hl1 hl2
    have hk0 : ¬ arityM kind < 0 := by omega
    by_cases h0 : kind = 0
    · subst h0; exact block_0 A1 ps c1 A2 bs c2 A3 os c3 A args cap vn ve un ue m w hk0 h.2 hl hl1 hl2 hm hb
    · by_cases h1 : kind = 1
      · subst h1; exact block_1 A1 ps c1 A2 bs c2 A3 os c3 A args cap vn ve un ue m w hk0 h.2 hl hl1 hl2 hm hb
      · by_cases h2 : kind = 2
        · subst h2; exact block_2 A1 ps c1 A2 bs c2 A3 os c3 A args cap vn ve un ue m w hk0 h.2 hl hl1 hl2 hm hb
        · by_cases h6 : kind = 6
          · subst h6; exact block_6 A1 ps c1 A2 bs c2 A3 os c3 A args cap vn ve un ue m w hk0 h.2 hl hl1 hl2 hm hb
          · by_cases h11 : kind = 11
            · subst h11; exact block_11 A1 ps c1 A2 bs c2 A3 os c3 A args cap vn ve un ue m w hk0 h.2 hl hl1 hl2 hm hb
            · exact block_x A1 ps c1 A2 bs c2 A3 os c3 kind A args cap vn ve un ue m w h0 h1 h2 h6 h11 hk0 h.2 hl hl1 hl2 hm hb
  · exact block_bad d b w h hl
theorem rport_ok {p q r : Int} (h : portE ⟨p, q, r⟩ = 0) : -2147483648 ≤ p ∧ p ≤ q ∧ q < 2147483648 ∧ 0 ≤ r ∧ r ≤ 30 := by
  unfold portE at h
  by_cases h2 : -2147483648 ≤ p ∧ p ≤ q ∧ q < 2147483648 ∧ 0 ≤ r ∧ r ≤ 30
  · exact h2
  · rw [if_neg h2] at h; cases h
theorem rport_bad {p q r : Int} (h : ¬ portE ⟨p, q, r⟩ = 0) : portE ⟨p, q, r⟩ = 3 := by
  unfold portE at h ⊢
  by_cases h2 : -2147483648 ≤ p ∧ p ≤ q ∧ q < 2147483648 ∧ 0 ≤ r ∧ r ≤ 30
  · exact absurd (if_pos h2) h
  · exact if_neg h2
theorem port_of {p q r : Int} (h : -2147483648 ≤ p ∧ p ≤ q ∧ q < 2147483648 ∧ withinB r 0 30 = true) : portE ⟨p, q, r⟩ = 0 := by
  have h5 : 0 ≤ r ∧ r ≤ 30 := of_decide_eq_true h.2.2.2
  exact if_pos ⟨h.1, h.2.1, h.2.2.1, h5.1, h5.2⟩
theorem ord_le (bs : List Bk) : (ordM bs).length ≤ nonDel bs := (ordN_ok bs.length (OutOk.nil bs)).le
set_option maxRecDepth 100000 in
set_option maxHeartbeats 8000000 in
theorem rCheck_any (d : Dg) (m : Nat) (w : World) (hm : m ≤ w.heap.size) (hd : DgAt w m d) :
    Calls Tryd.prog 18 #[d.val] w fun e w' => e = .returned (.int .i64 (dgErr d.ps d.bs d.os)) ∧ Below w.heap.size w w' := by
  have hl1 := hd.l1
  have hl2 := hd.l2
  have hl3 := hd.l3
  have HD := Lib.hid hd
  clear hd
  obtain ⟨A1, ps, c1, A2, bs, c2, A3, os, c3⟩ := d
  dsimp only at hl1 hl2 hl3
  simp only [Dg.val]
  by_cases hsz : sizeOk ps bs os
  · have HSZ := Lib.hid hsz
    clear hsz
    have l1' : (ps.length : Int) ≤ 16 := by have := HSZ.out.1; omega
    have l2' : (bs.length : Int) ≤ 64 := by have := HSZ.out.2.1; omega
    have l3' : (os.length : Int) ≤ 16 := by have := HSZ.out.2.2; omega
    have r0 := RowD.new_ w [.slice A1 ps.length c1, .slice A2 bs.length c2, .slice A3 os.length c3] 41
    have b0 := al_ w (.cells #[.slice A1 ps.length c1, .slice A2 bs.length c2, .slice A3 os.length c3] 41)
    go_enter Tryd.func18, Tryd.ntmps18
    go_wp2_with fail
    all_goals try (exfalso; omega)
    go_loopw [29] (fun i wr => cqRel w [.slice A1 ps.length c1, .slice A2 bs.length c2, .slice A3 os.length c3] (ps.map portE) i wr) (fun i _ => ps.length - (intOf i).toNat)
    case atStart => exact ⟨0, Nat.zero_le _, rfl, rfl, r0, b0⟩
    case round =>
      as_aux_lemma =>
        clear r0 b0
        obtain ⟨k, hk, rfl, hf, hbox, hb⟩ := hrel
        have HF := Lib.hid hf
        have HB := Lib.hid hbox
        have z0 := hbox.lt
        have q1 : wr.cell? ⟨w.heap.size, 1, none⟩ = some (.slice A2 bs.length c2) := hbox.cell 1
        clear hf hbox
        rw [List.length_map] at hk
        by_cases hlt : k < ps.length
        · obtain ⟨b, off, x, rfl, hbm, hbs, hx, hc⟩ := (HD.out.below hb hm).ps.row (s := 3) (fun _ => rfl) (by omega) hlt
          obtain ⟨plo, phi, pfr⟩ := x
          have g0 : wr.cell? ⟨b, off + k * 3, none⟩ = some (.int .i64 plo) := hc 0 _ rfl
          have g1 := hc 1 _ rfl
          have g2 := hc 2 _ rfl
          dsimp only at g1 g2
          have HX := Lib.hid hx
          clear hc hx
          by_cases hp : portE ⟨plo, phi, pfr⟩ = 0
          · have HPE := Lib.hid hp
            have hp2 : -2147483648 ≤ plo ∧ plo ≤ phi ∧ phi < 2147483648 ∧ 0 ≤ pfr ∧ pfr ≤ 30 := rport_ok hp
            obtain ⟨p1, p2, p3, p4, p5⟩ := hp2
            have HWB := Lib.hid (show withinB pfr 0 30 = true from decide_eq_true ⟨p4, p5⟩)
            clear hp
            go_wp2_with (go_at_call 47; refine (within_any _ _ _ _).mono ?_; rintro e w1 ⟨rfl, rfl⟩; rw [HWB.out])
            exact ⟨⟨k + 1, by rw [List.length_map]; omega, by go_num, fs1 HX.out HPE.out HF.out, HB.out.call (al_ _ _), ext_alloc hb _⟩, by simp [intOf]; omega⟩
          · have h3 : portE ⟨plo, phi, pfr⟩ = 3 := rport_bad hp
            have HE := Lib.hid (de1 HSZ.out (pe1 (bs := bs) (os := os) HX.out h3 (by decide) HF.out) (by decide))
            cases hwb : withinB pfr 0 30 with
            | true =>
              have hp2 : ¬ (-2147483648 ≤ plo ∧ plo ≤ phi ∧ phi < 2147483648) := fun h => hp (port_of ⟨h.1, h.2.1, h.2.2, hwb⟩)
              have HP2 := Lib.hid hp2
              have HWB := Lib.hid hwb
              clear hp h3 hp2 hwb
              go_wp2_with (go_at_call 47; refine (within_any _ _ _ _).mono ?_; rintro e w1 ⟨rfl, rfl⟩; rw [HWB.out])
              all_goals first
                | (go_ret
                   exact ⟨ar_eq (HE.out).symm, ext_alloc hb _⟩)
                | (exfalso; exact HP2.out ⟨by omega, by omega, by omega⟩)
            | false =>
              have HWB := Lib.hid hwb
              clear hp h3 hwb
              go_wp2_with (go_at_call 47; refine (within_any _ _ _ _).mono ?_; rintro e w1 ⟨rfl, rfl⟩; rw [HWB.out])
              all_goals
                go_ret
                exact ⟨ar_eq (HE.out).symm, ext_alloc hb _⟩
        · have P1 := Lib.hid (fe_all (k := k) (by rw [List.length_map]; omega) HF.out)
          clear HF
          go_wp2_with fail
          clear q1 hk hlt
          obtain ⟨w2, hw2⟩ : ∃ w2, w2 = wr := ⟨_, rfl⟩
          rw [← hw2] at HB hb
          rw [← hw2]
          clear hw2 z0
          go_loopw [58] (fun i wr => cqRel w [.slice A1 ps.length c1, .slice A2 bs.length c2, .slice A3 os.length c3] (bs.map (blkErr ps.length bs.length)) i wr) (fun i _ => bs.length - (intOf i).toNat)
          case atStart => exact ⟨0, Nat.zero_le _, rfl, rfl, HB.out, hb⟩
          case round =>
            as_aux_lemma =>
              clear HB hb
              obtain ⟨k, hk, rfl, hf, hbox, hb⟩ := hrel
              have HF := Lib.hid hf
              have HB := Lib.hid hbox
              have z0 := hbox.lt
              have q0 : wr.cell? ⟨w.heap.size, 0, none⟩ = some (.slice A1 ps.length c1) := hbox.cell 0
              have q1 : wr.cell? ⟨w.heap.size, 1, none⟩ = some (.slice A2 bs.length c2) := hbox.cell 1
              have q2 : wr.cell? ⟨w.heap.size, 2, none⟩ = some (.slice A3 os.length c3) := hbox.cell 2
              clear hf hbox
              rw [List.length_map] at hk
              by_cases hlt : k < bs.length
              · obtain ⟨b, off, kind, KA, args, cap, vn, ve, un, ue, hA, hbm, hbs, hx, g0, g1, g2, g3, g4, g5, ha, hal⟩ := (HD.out.below hb hm).blk hlt
                dsimp only at hA hx
                subst hA
                have HX := Lib.hid hx
                have HA := Lib.hid ha
                clear hx ha
                go_wp2_with fail
                go_at_call 48
                refine (block_any ⟨A1, ps, c1, some ⟨b, off, none⟩, bs, c2, A3, os, c3⟩ ⟨kind, KA, args, cap, vn, ve, un, ue⟩ m _ (by have := hb.size; simp; omega) (HA.out.below (al_ _ _) (by have := hb.size; omega)) hal hl1 hl2).mono ?_
                rintro e w5 ⟨rfl, hb5⟩
                dsimp only at hb5 ⊢
                have HB5 := Lib.hid ((HB.out.call (al_ _ _)).call hb5)
                have N5 := Lib.hid ((ext_alloc hb (.cells #[.int .i64 kind, .slice KA args.length cap, .int .i64 vn, .int .i64 ve, .int .i64 un, .int .i64 ue] 66)).trans (hb5.mono (by have := hb.size; simp; omega)))
                clear hb5 g0 g1 g2 g3 g4 g5 q0 q1 q2
                obtain ⟨E, hE⟩ : ∃ E, blkErr ps.length bs.length ⟨kind, KA, args, cap, vn, ve, un, ue⟩ = E := ⟨_, rfl⟩
                have HEE := Lib.hid hE
                rw [hE]
                clear hE
                by_cases he0 : E = 0
                · have HE0 := Lib.hid (HEE.out.trans he0)
                  rw [he0]
                  clear he0
                  go_wp2_with fail
                  exact ⟨⟨k + 1, by rw [List.length_map]; omega, by go_num, fs1 HX.out HE0.out HF.out, HB5.out, N5.out⟩, by simp [intOf]; omega⟩
                · have HE := Lib.hid (de1 HSZ.out (pe2 (os := os) P1.out HX.out HEE.out he0 HF.out) he0)
                  obtain ⟨q, hq⟩ : ∃ q, E = q := ⟨_, rfl⟩
                  rw [hq] at he0 HE
                  rw [hq]
                  have hqb : (q != 0) = true := by simpa using he0
                  clear hq he0
                  go_wp2_with fail
                  go_ret
                  exact ⟨ar_eq HE.out.symm, N5.out⟩
              · have P2 := Lib.hid (fe_all (k := k) (by rw [List.length_map]; omega) HF.out)
                clear HF
                go_wp2_with fail
                clear q0 q1 q2 hk hlt
                obtain ⟨w3, hw3⟩ : ∃ w3, w3 = wr := ⟨_, rfl⟩
                rw [← hw3] at HB hb
                rw [← hw3]
                clear hw3 z0
                go_loopw [72] (fun i wr => cqRel w [.slice A1 ps.length c1, .slice A2 bs.length c2, .slice A3 os.length c3] (os.map (outE bs.length)) i wr) (fun i _ => os.length - (intOf i).toNat)
                case atStart => exact ⟨0, Nat.zero_le _, rfl, rfl, HB.out, hb⟩
                case round =>
                  as_aux_lemma =>
                    clear HB hb
                    obtain ⟨k, hk, rfl, hf, hbox, hb⟩ := hrel
                    have HF := Lib.hid hf
                    have HB := Lib.hid hbox
                    have z0 := hbox.lt
                    have q0 : wr.cell? ⟨w.heap.size, 0, none⟩ = some (.slice A1 ps.length c1) := hbox.cell 0
                    have q1 : wr.cell? ⟨w.heap.size, 1, none⟩ = some (.slice A2 bs.length c2) := hbox.cell 1
                    have q2 : wr.cell? ⟨w.heap.size, 2, none⟩ = some (.slice A3 os.length c3) := hbox.cell 2
                    clear hf hbox
                    rw [List.length_map] at hk
                    by_cases hlt : k < os.length
                    · obtain ⟨b, off, z, rfl, hbm, hbs, hx, hc⟩ := (HD.out.below hb hm).os.int_ hlt
                      have HX := Lib.hid hx
                      clear hx
                      by_cases ho : 0 ≤ z ∧ z < (bs.length : Int)
                      · have HOE := Lib.hid (show outE bs.length z = 0 from if_pos ho)
                        have HWB := Lib.hid (show withinB z 0 ((bs.length : Int) - 1) = true from decide_eq_true ⟨ho.1, by have := ho.2; omega⟩)
                        clear ho
                        go_wp2_with (go_at_call 47; refine (within_any _ _ _ _).mono ?_; rintro e w1 ⟨rfl, rfl⟩; rw [HWB.out])
                        exact ⟨⟨k + 1, by rw [List.length_map]; omega, by go_num, fs1 HX.out HOE.out HF.out, HB.out, hb⟩, by simp [intOf]; omega⟩
                      · have HE := Lib.hid (de1 HSZ.out (pe3 P1.out P2.out HX.out (if_neg ho) (by decide) HF.out) (by decide))
                        have HWB := Lib.hid (show withinB z 0 ((bs.length : Int) - 1) = false from decide_eq_false (fun h => ho ⟨h.1, by have := h.2; omega⟩))
                        clear ho
                        go_wp2_with (go_at_call 47; refine (within_any _ _ _ _).mono ?_; rintro e w1 ⟨rfl, rfl⟩; rw [HWB.out])
                        go_ret
                        exact ⟨ar_eq (HE.out).symm, hb⟩
                    · have P3 := Lib.hid (fe_all (k := k) (by rw [List.length_map]; omega) HF.out)
                      have HE := Lib.hid (de2 HSZ.out (pe4 P1.out P2.out P3.out))
                      have HSO := Lib.hid (succ_ok P2.out)
                      clear HF
                      go_wp2_with fail
                      obtain ⟨w4, hw4⟩ : ∃ w4, w4 = wr := ⟨_, rfl⟩
                      rw [← hw4] at z0 q0 q1 q2 hb
                      rw [← hw4]
                      have HB4 := Lib.hid hb
                      clear hw4 HB hb hlt hk
                      have hk : KP w4 (w.heap.size + 1) w4 := ⟨Below.refl _ _, by omega⟩
                      have hmw : m ≤ w4.heap.size := by omega
                      have HD4 := Lib.hid (HD.out.below HB4.out hm)
                      go_region_held3 (fun w' => (∀ b o, b < w.heap.size + 1 → w'.cell? ⟨b, o, none⟩ = w4.cell? ⟨b, o, none⟩) ∧ KP w4 (w.heap.size + 1) w')
                        (first
                          | (refine KP.all ?_
                             first
                               | assumption
                               | exact hk
                               | exact hk.drew))
                        (first
                          | (go_at_call 49; refine (rOrder_any ⟨A1, ps, c1, A2, bs, c2, A3, os, c3⟩ m _ (by have := hk.drew.fits; omega) (HD4.out.below hk.drew.is (by omega)) HSO.out).mono ?_; (rintro e w7 ⟨v7, rfl, D7, hb7⟩; have hk7 := hk.drew.call hb7; obtain ⟨A7, c7, rfl, _, _⟩ := D7.view; have hz7 := hk7.fits))
                          | (go_at_call 26; refine (delays_any ⟨A1, ps, c1, A2, bs, c2, A3, os, c3⟩ m _ (by have := hk7.fits; omega) (HD4.out.below hk7.is (by omega))).mono ?_; (rintro e w8 ⟨v8, rfl, D8, hb8⟩; have hk8 := hk7.call hb8; obtain ⟨A8, c8, rfl, _, _⟩ := D8.view; have hz8 := hk8.fits)))
                      have N9 := Lib.hid (HB4.out.trans (hk8.is.mono (by omega)))
                      try dsimp only
                      have e7 : (natI (ordM bs)).length = (ordM bs).length := natI_len _
                      have e8 : (natI (delL bs)).length = (delL bs).length := natI_len _
                      have e9 := del_len bs
                      have e10 := ord_le bs
                      have hs7 : ((natI (ordM bs)).length : Int) ≤ 64 := by omega
                      have hs8 : ((natI (delL bs)).length : Int) ≤ 64 := by omega
                      have ew : IntKind.i64.wrap (((natI (ordM bs)).length : Int) + ((natI (delL bs)).length : Int)) = ((natI (ordM bs)).length : Int) + ((natI (delL bs)).length : Int) := IntWalk.i64_in _ ⟨by omega, by omega⟩
                      rw [ew]
                      clear ew
                      by_cases hor : (ordM bs).length = nonDel bs
                      · have HE2 := Lib.hid (HE.out.trans (if_pos hor))
                        have et : (((natI (ordM bs)).length : Int) + ((natI (delL bs)).length : Int) != (bs.length : Int)) = false := by
                          rw [bne_eq_false_iff_eq]; omega
                        clear hor e7 e8 e9 e10 D7 D8 hb7 hb8 hk7 hk8
                        go_wp2_with fail
                        go_ret
                        exact ⟨ar_eq (HE2.out).symm, N9.out⟩
                      · have HE2 := Lib.hid (HE.out.trans (if_neg hor))
                        have et : (((natI (ordM bs)).length : Int) + ((natI (delL bs)).length : Int) != (bs.length : Int)) = true := by
                          rw [bne_iff_ne]; omega
                        clear hor e7 e8 e9 e10 D7 D8 hb7 hb8 hk7 hk8
                        go_wp2_with fail
                        go_ret
                        exact ⟨ar_eq (HE2.out).symm, N9.out⟩
  · have HE := Lib.hid (de0 hsz)
    have b0 := al_ w (.cells #[.slice A1 ps.length c1, .slice A2 bs.length c2, .slice A3 os.length c3] 41)
    have key : 16 < (ps.length : Int) ∨ ((ps.length : Int) ≤ 16 ∧ 64 < (bs.length : Int)) ∨ ((ps.length : Int) ≤ 16 ∧ (bs.length : Int) ≤ 64 ∧ 16 < (os.length : Int)) := by
      unfold sizeOk at hsz
      omega
    clear hsz
    rcases key with k1 | ⟨k1, k2⟩ | ⟨k1, k2, k3⟩
    all_goals
      go_enter Tryd.func18, Tryd.ntmps18
      go_wp2_with fail
      all_goals try (exfalso; omega)
      go_ret
      exact ⟨ar_eq (HE.out).symm, b0⟩
theorem rdelays_cv (t : Bool) {ps : List Prt} {bs : List Bk} {os : List Int} (hl : DgLen ps bs os) : CVF Tryd.prog TabAt 26 [aDg t ps bs os] [.one (rowI false (natI (delL bs)))] := fun w S vs hg hlt ha => by
  obtain ⟨v, rfl, hv⟩ := one_arg ha
  obtain ⟨d, rfl, hd, rfl, hz, rfl, _, _⟩ := dg_open hlt hv hl
  refine (delays_any d _ w (Nat.le_refl _) hd).mono fun e w' ⟨so, he, hown, hb⟩ => ?_
  rw [show delL d.bs = delL bs by rw [← delL_z, hz, delL_z]] at hown
  exact ⟨_, he, own_freshI hown, hb⟩
def lightB (ps : List Prt) (bs : List Bk) (os : List Int) : Bool := decide (ps.length ≤ 40 ∧ bs.length ≤ 80 ∧ os.length ≤ 40) && bs.all fun b => decide (b.args.length ≤ 10)
set_option maxRecDepth 100000 in
set_option maxHeartbeats 4000000 in
theorem light_cvT (t : Bool) (ps : List Prt) (bs : List Bk) (os : List Int) : CV Tryd.prog TabAt 39 [aDg t ps bs os] [aB (lightB ps bs os)] := by
  refine cv_of tab_G Tryd.func39 rfl Tryd.ntmps39 (Nat.le_of_ble_eq_true rfl) ?_
  by_cases cp : 40 < ps.length
  case pos =>
    repeat' (with_reducible first | apply qa | apply qb | apply qc | apply qd | apply qe | apply qf | apply qg | apply qh | apply qi | apply qj | apply qk | apply ql rfl | apply qm rfl | apply qn rfl | (refine Tx 0 ?_; refine Jn xBo ?_; refine Ja ?_; refine Je ?_) | (refine Tx 1 ?_; refine Jo (xFa tf_Diagram0 tk_s_Port) ?_; refine Jo (xLd tk_s_Port) ?_; refine Jo (xLn ts_s_Port) ?_; refine Jo xGt ?_; refine Jm ?_; (first | refine Jd ?_ | refine Jy (xFa tf_Diagram1 tk_s_Block) ?_); (first | refine Jd ?_ | refine Jy (xLd tk_s_Block) ?_); (first | refine Jd ?_ | refine Jy (xLn ts_s_Block) ?_); (first | refine Jd ?_ | refine Jy xGt ?_); refine Jo xPk ?_; refine Jm ?_; (first | refine Jd ?_ | refine Jy (xFa tf_Diagram2 tk_s_int) ?_); (first | refine Jd ?_ | refine Jy (xLd tk_s_int) ?_); (first | refine Jd ?_ | refine Jy (xLn ts_s_int) ?_); (first | refine Jd ?_ | refine Jy xGt ?_); refine Jo xPk ?_; refine Je ?_) | (refine Tx 2 ?_; refine Ja ?_; refine Je ?_))
    exact ret_q rfl (.cons_ (rv_b rfl (by unfold lightB; rw [decide_eq_false (by omega)]; rfl)) .nil_)
  by_cases cb : 80 < bs.length
  case pos =>
    repeat' (with_reducible first | apply qa | apply qb | apply qc | apply qd | apply qe | apply qf | apply qg | apply qh | apply qi | apply qj | apply qk | apply ql rfl | apply qm rfl | apply qn rfl | (refine Tx 0 ?_; refine Jn xBo ?_; refine Ja ?_; refine Je ?_) | (refine Tx 1 ?_; refine Jo (xFa tf_Diagram0 tk_s_Port) ?_; refine Jo (xLd tk_s_Port) ?_; refine Jo (xLn ts_s_Port) ?_; refine Jo xGt ?_; refine Jm ?_; (first | refine Jd ?_ | refine Jy (xFa tf_Diagram1 tk_s_Block) ?_); (first | refine Jd ?_ | refine Jy (xLd tk_s_Block) ?_); (first | refine Jd ?_ | refine Jy (xLn ts_s_Block) ?_); (first | refine Jd ?_ | refine Jy xGt ?_); refine Jo xPk ?_; refine Jm ?_; (first | refine Jd ?_ | refine Jy (xFa tf_Diagram2 tk_s_int) ?_); (first | refine Jd ?_ | refine Jy (xLd tk_s_int) ?_); (first | refine Jd ?_ | refine Jy (xLn ts_s_int) ?_); (first | refine Jd ?_ | refine Jy xGt ?_); refine Jo xPk ?_; refine Je ?_) | (refine Tx 2 ?_; refine Ja ?_; refine Je ?_))
    exact ret_q rfl (.cons_ (rv_b rfl (by unfold lightB; rw [decide_eq_false (by omega)]; rfl)) .nil_)
  by_cases co : 40 < os.length
  case pos =>
    repeat' (with_reducible first | apply qa | apply qb | apply qc | apply qd | apply qe | apply qf | apply qg | apply qh | apply qi | apply qj | apply qk | apply ql rfl | apply qm rfl | apply qn rfl | (refine Tx 0 ?_; refine Jn xBo ?_; refine Ja ?_; refine Je ?_) | (refine Tx 1 ?_; refine Jo (xFa tf_Diagram0 tk_s_Port) ?_; refine Jo (xLd tk_s_Port) ?_; refine Jo (xLn ts_s_Port) ?_; refine Jo xGt ?_; refine Jm ?_; (first | refine Jd ?_ | refine Jy (xFa tf_Diagram1 tk_s_Block) ?_); (first | refine Jd ?_ | refine Jy (xLd tk_s_Block) ?_); (first | refine Jd ?_ | refine Jy (xLn ts_s_Block) ?_); (first | refine Jd ?_ | refine Jy xGt ?_); refine Jo xPk ?_; refine Jm ?_; (first | refine Jd ?_ | refine Jy (xFa tf_Diagram2 tk_s_int) ?_); (first | refine Jd ?_ | refine Jy (xLd tk_s_int) ?_); (first | refine Jd ?_ | refine Jy (xLn ts_s_int) ?_); (first | refine Jd ?_ | refine Jy xGt ?_); refine Jo xPk ?_; refine Je ?_) | (refine Tx 2 ?_; refine Ja ?_; refine Je ?_))
    exact ret_q rfl (.cons_ (rv_b rfl (by unfold lightB; rw [decide_eq_false (by omega)]; rfl)) .nil_)
  repeat' (with_reducible first | apply qa | apply qb | apply qc | apply qd | apply qe | apply qf | apply qg | apply qh | apply qi | apply qj | apply qk | apply ql rfl | apply qm rfl | apply qn rfl | (refine Tx 0 ?_; refine Jn xBo ?_; refine Ja ?_; refine Je ?_) | (refine Tx 1 ?_; refine Jo (xFa tf_Diagram0 tk_s_Port) ?_; refine Jo (xLd tk_s_Port) ?_; refine Jo (xLn ts_s_Port) ?_; refine Jo xGt ?_; refine Jm ?_; (first | refine Jd ?_ | refine Jy (xFa tf_Diagram1 tk_s_Block) ?_); (first | refine Jd ?_ | refine Jy (xLd tk_s_Block) ?_); (first | refine Jd ?_ | refine Jy (xLn ts_s_Block) ?_); (first | refine Jd ?_ | refine Jy xGt ?_); refine Jo xPk ?_; refine Jm ?_; (first | refine Jd ?_ | refine Jy (xFa tf_Diagram2 tk_s_int) ?_); (first | refine Jd ?_ | refine Jy (xLd tk_s_int) ?_); (first | refine Jd ?_ | refine Jy (xLn ts_s_int) ?_); (first | refine Jd ?_ | refine Jy xGt ?_); refine Jo xPk ?_; refine Je ?_) | (refine Tx 3 ?_; refine Jo (xFa tf_Diagram1 tk_s_Block) ?_; refine Jo (xLd tk_s_Block) ?_; refine Jo (xLn ts_s_Block) ?_; refine Jm ?_; refine Je ?_))
  refine cw_wk (F' := ofL [(1, vr 0), (22, vd (rowB t bs)), (23, vi bs.length), (24, vi ((0 : Nat)))]) (H' := [.box 41 [.d (rowP t ps), .d (rowB t bs), .d (rowI t os)]]) (wk_go [(1, vr 0), (22, vd (rowB t bs)), (23, vi bs.length), (24, vi ((0 : Nat)))] 1 ?_ ?_ ?_) ?_
  · rfl
  · exact mB rfl rfl
  · exact ⟨bel_lit rfl, trivial⟩
  refine cw_loopW (fun n Fr H => ∃ k : Nat, k ≤ bs.length ∧ n = bs.length - k ∧ (bs.take k).all (fun b : Bk => decide (b.args.length ≤ 10)) = true ∧ Fr = ofL [(1, vr 0), (22, vd (rowB t bs)), (23, vi bs.length), (24, vi ((k : Nat)))] ∧ H = [.box 41 [.d (rowP t ps), .d (rowB t bs), .d (rowI t os)]]) (n0 := bs.length) ⟨0, Nat.zero_le _, rfl, rfl, rfl, rfl⟩ ?_
  rintro n Fr H ⟨k, hk, rfl, hall, rfl, rfl⟩
  by_cases hlt : k < bs.length
  case pos =>
    obtain ⟨y, hy⟩ : ∃ y, bs[k]? = some y := ⟨_, List.getElem?_eq_getElem hlt⟩
    by_cases hy10 : y.args.length ≤ 10
    case pos =>
      repeat' (with_reducible first | apply qa | apply qb | apply qc | apply qd | apply qe | apply qf | apply qg | apply qh | apply qi | apply qj | apply qk | apply ql rfl | apply qm rfl | apply qn rfl | (refine Tx 4 ?_; refine Jo xLt ?_; refine Je ?_) | (refine Tx 5 ?_; refine Jo (xIr ts_s_Block (bk_at hy)) ?_; refine Jo (xLa tk_Block) ?_; refine Jn (by exact ok_alloc rfl tz_Block) ?_; refine Js (xSk tk_Block) ?_; refine Je ?_) | (refine Tx 6 ?_; refine Jo (xFa tf_Block1 tk_s_int) ?_; refine Jo (xLd tk_s_int) ?_; refine Jo (xLn ts_s_int) ?_; refine Jo xGt ?_; refine Je ?_) | (refine Tx 8 ?_; refine Jo xAd ?_; refine Jm ?_; refine Je ?_))
      refine ⟨_, _, wk_go [(1, vr 0), (22, vd (rowB t bs)), (23, vi bs.length), (24, vi (((k + 1) : Nat)))] 1 ?_ ?_ ?_, _, ?_, k + 1, by omega, rfl, all_take hy hall (decide_eq_true hy10), rfl, rfl⟩
      · rfl
      · exact mB rfl rfl
      · exact ⟨bel_lit rfl, trivial⟩
      · omega
    case neg =>
      repeat' (with_reducible first | apply qa | apply qb | apply qc | apply qd | apply qe | apply qf | apply qg | apply qh | apply qi | apply qj | apply qk | apply ql rfl | apply qm rfl | apply qn rfl | (refine Tx 4 ?_; refine Jo xLt ?_; refine Je ?_) | (refine Tx 5 ?_; refine Jo (xIr ts_s_Block (bk_at hy)) ?_; refine Jo (xLa tk_Block) ?_; refine Jn (by exact ok_alloc rfl tz_Block) ?_; refine Js (xSk tk_Block) ?_; refine Je ?_) | (refine Tx 6 ?_; refine Jo (xFa tf_Block1 tk_s_int) ?_; refine Jo (xLd tk_s_int) ?_; refine Jo (xLn ts_s_int) ?_; refine Jo xGt ?_; refine Je ?_) | (refine Tx 7 ?_; refine Ja ?_; refine Je ?_))
      exact ret_q rfl (.cons_ (rv_b rfl (by unfold lightB; rw [show bs.all (fun b : Bk => decide (b.args.length ≤ 10)) = false from List.all_eq_false.2 ⟨y, List.mem_of_getElem? hy, by rw [decide_eq_false hy10]; exact Bool.false_ne_true⟩, Bool.and_false])) .nil_)
  obtain rfl : k = bs.length := by omega
  rw [List.take_length] at hall
  repeat' (with_reducible first | apply qa | apply qb | apply qc | apply qd | apply qe | apply qf | apply qg | apply qh | apply qi | apply qj | apply qk | apply ql rfl | apply qm rfl | apply qn rfl | (refine Tx 4 ?_; refine Jo xLt ?_; refine Je ?_) | (refine Tx 9 ?_; refine Ja ?_; refine Je ?_))
  exact ret_q rfl (.cons_ (rv_b rfl (by unfold lightB; rw [hall, decide_eq_true (by omega)]; rfl)) .nil_)
theorem rcheck_cv (t : Bool) {ps : List Prt} {bs : List Bk} {os : List Int} (hl : DgLen ps bs os) : CVF Tryd.prog TabAt 18 [aDg t ps bs os] [aI (dgErr ps bs os)] := fun w S vs hg hlt ha => by
  obtain ⟨v, rfl, hv⟩ := one_arg ha
  obtain ⟨d, rfl, hd, rfl, hz, rfl, _, _⟩ := dg_open hlt hv hl
  refine (rCheck_any d _ w (Nat.le_refl _) hd).mono fun e w' ⟨he, hb⟩ => ?_
  rw [show dgErr d.ps d.bs d.os = dgErr d.ps bs d.os by rw [← dgErr_z, hz, dgErr_z]] at he
  exact ⟨_, he, DRel.val rfl, hb⟩
theorem light_len {ps : List Prt} {bs : List Bk} {os : List Int} (h : lightB ps bs os = true) : DgLen ps bs os ∧ bs.length ≤ 80 := by
  unfold lightB at h
  rw [Bool.and_eq_true] at h
  have h1 := of_decide_eq_true h.1
  exact ⟨⟨by omega, by omega, by omega, fun b hb => by have := of_decide_eq_true (List.all_eq_true.1 h.2 b hb); omega⟩, h1.2.1⟩
theorem bis_cv (n k : Int) : CVF Tryd.prog TabAt 11 [aE n, aI k] [aB (isB n k)] := fun w S vs hg hlt ha => by
  obtain ⟨v, vs', rfl, h1, ha⟩ := ha.uncons
  obtain ⟨u, hu, h2⟩ := one_arg ha
  subst hu
  cases h1
  cases h2
  refine (is_any n k w).mono fun r w' ⟨he, hw⟩ => ?_
  subst hw
  exact ⟨_, he, DRel.val rfl, Below.refl _ _⟩
theorem bclip_cv (x lo hi : Int) : CVF Tryd.prog TabAt 54 [aI x, aI lo, aI hi] [aI (clipI x lo hi)] := fun w S vs hg hlt ha => by
  obtain ⟨v, vs', rfl, q1, ha⟩ := ha.uncons
  obtain ⟨v2, vs', rfl, q2, ha⟩ := ha.uncons
  obtain ⟨u, hu, q3⟩ := one_arg ha
  subst hu
  cases q1
  cases q2
  cases q3
  refine (bclip_any x lo hi w).mono fun r w' ⟨he, hw⟩ => ?_
  subst hw
  exact ⟨_, he, DRel.val rfl, Below.refl _ _⟩
def prtD : Prt := ⟨0, 0, 0⟩
def inpV (ps : List Prt) (inn : List Int) (n : Nat) : List Int := (List.range n).map fun i => clipI (inn[i]?.getD 0) (ps[i]?.getD prtD).lo (ps[i]?.getD prtD).hi
theorem inpV_len (ps : List Prt) (inn : List Int) (k : Nat) : (inpV ps inn k).length ≤ k := by simp [inpV]
theorem inpV_step {ps : List Prt} {inn : List Int} {k : Nat} {p : Prt} {z : Int} (hp : ps[k]? = some p) (hz : inn[k]?.getD 0 = z) : inpV ps inn (k + 1) = inpV ps inn k ++ [clipI z p.lo p.hi] := by
  unfold inpV
  rw [List.range_succ, List.map_append]
  simp [hp, hz]
theorem inp_len (ps : List Prt) (inn : List Int) : (inpV ps inn ps.length).length = ps.length := by simp [inpV]
structure HasB (vs : List (Option (Int × Nat))) (D : Nat → Prop) (B : Bool) : Prop where
  at_ : ∀ i, D i → ∃ p, vs[i]? = some (some p) ∧ Sm p 32000 65536 ∧ (longP p = true → B = true)
theorem HasB.set {vs : List (Option (Int × Nat))} {D D' : Nat → Prop} {B : Bool} (h : HasB vs D B) {j : Nat} {p : Int × Nat} (hj : j < vs.length) (hp : Sm p 32000 65536) (hB : longP p = true → B = true) (hD : ∀ i, D' i → D i ∨ i = j) : HasB (vs.set j (some p)) D' B := ⟨fun i hi => by
  rw [List.getElem?_set]
  by_cases hij : j = i
  · rw [if_pos hij, if_pos hj]
    exact ⟨p, rfl, hp, hB⟩
  · rw [if_neg hij]
    rcases hD i hi with h1 | h1
    · exact h.at_ i h1
    · exact absurd h1.symm hij⟩
theorem tick_val {ps : List Prt} {ins : List Int} {y : Bk} {l : List (Int × Nat)} (h : y.kind ≠ 0) : tickV y l ps ins = blkD y l := by unfold tickV; rw [if_neg h]
def sameB (r s : Rv) : Bool := decide (r.nb = s.nb ∧ r.den = s.den ∧ r.ws = s.ws)
theorem same_p {p q : Int × Nat} : sameB (rvOf p) (rvOf q) = decide (p = q) := by
  unfold sameB
  refine decide_eq_decide.2 ⟨fun ⟨h1, h2, h3⟩ => ?_, fun h => by rw [h]; exact ⟨rfl, rfl, rfl⟩⟩
  have : rvOf p = rvOf q := by
    cases hp : rvOf p; cases hq : rvOf q
    simp_all
  rw [← rvOf_P p, this, rvOf_P]
section
variable {P : Program} {G : World → Prop} {o : Oper} {F : Frm} {H : List Ob}
theorem ok_neqBT {t t' : TypeId} {x y : Operand} {p q : Bool} (ho : o.op = .binOp .neq t x y t') (ht : P.underlying t = some .bool) (hx : F.ev x = .one (.d (.val (.bool p)))) (hy : F.ev y = .one (.d (.val (.bool q)))) (h : ¬ p = q) : OpOk P G o F H (.one (.d (.val (.bool true)))) [] := by
  have := ok_neqB (P := P) (G := G) (H := H) ho ht hx hy
  rwa [show (p != q) = true by cases p <;> cases q <;> simp_all] at this
theorem ok_neqBF {t t' : TypeId} {x y : Operand} {p q : Bool} (ho : o.op = .binOp .neq t x y t') (ht : P.underlying t = some .bool) (hx : F.ev x = .one (.d (.val (.bool p)))) (hy : F.ev y = .one (.d (.val (.bool q)))) (h : p = q) : OpOk P G o F H (.one (.d (.val (.bool false)))) [] := by
  have := ok_neqB (P := P) (G := G) (H := H) ho ht hx hy
  rwa [show (p != q) = false by subst h; cases p <;> rfl] at this
end
theorem take_ext {α : Type} {l m : List α} {k : Nat} {x : α} (h : l.take k = m.take k) (h1 : l[k]? = some x) (h2 : m[k]? = some x) : l.take (k + 1) = m.take (k + 1) := by rw [List.take_add_one, List.take_add_one, h, h1, h2]
theorem ne_at {α : Type} {l m : List α} {k : Nat} {x y : α} (h1 : l[k]? = some x) (h2 : m[k]? = some y) (h : x ≠ y) : l ≠ m := fun e => h (by subst e; rw [h1] at h2; exact Option.some.inj h2)
set_option maxRecDepth 100000 in
set_option maxHeartbeats 4000000 in
theorem rvsame_cv (t u : Bool) (r s : Rv) (hr : r.ws.length ≤ 1000000) (hs : s.ws.length ≤ 1000000) : CV Tryd.prog TabAt 12 [aRv t r, aRv u s] [aB (sameB r s)] := by
  refine cv_of tab_G Tryd.func12 rfl Tryd.ntmps12 (Nat.le_of_ble_eq_true rfl) ?_
  have l1 : r.ws.length ≤ 1000000 := hr
  have l2 : s.ws.length ≤ 1000000 := hs
  by_cases hb : r.nb = s.nb
  case neg =>
    repeat' (with_reducible first | apply qa | apply qb | apply qc | apply qd | apply qe | apply qf | apply qg | apply qh | apply qi | apply qj | apply qk | apply ql rfl | apply qm rfl | apply qn rfl | (refine Tx 0 ?_; refine Jn xBo ?_; refine Jn xBo ?_; refine Ja ?_; refine Je ?_) | (refine Tx 1 ?_; refine Jo (xFa tf_Dyadic0 tk_bool) ?_; refine Jo (xLd tk_bool) ?_; refine Jo (xFa tf_Dyadic0 tk_bool) ?_; refine Jo (xLd tk_bool) ?_; refine Jo (by first | exact ok_neqBT rfl Tryd.underlying4 rfl rfl hb | exact xNe) ?_; refine Jm ?_; (first | refine Jd ?_ | refine Jy (xFa tf_Dyadic2 tk_int) ?_); (first | refine Jd ?_ | refine Jy (xLd tk_int) ?_); (first | refine Jd ?_ | refine Jy (xFa tf_Dyadic2 tk_int) ?_); (first | refine Jd ?_ | refine Jy (xLd tk_int) ?_); (first | refine Jd ?_ | refine Jy xNe ?_); refine Jo xPk ?_; refine Jm ?_; (first | refine Jd ?_ | refine Jy (xFa tf_Dyadic1 tk_s_uint32) ?_); (first | refine Jd ?_ | refine Jy (xLd tk_s_uint32) ?_); (first | refine Jd ?_ | refine Jy (xLn ts_s_uint32) ?_); (first | refine Jd ?_ | refine Jy (xFa tf_Dyadic1 tk_s_uint32) ?_); (first | refine Jd ?_ | refine Jy (xLd tk_s_uint32) ?_); (first | refine Jd ?_ | refine Jy (xLn ts_s_uint32) ?_); (first | refine Jd ?_ | refine Jy xNe ?_); refine Jo xPk ?_; refine Je ?_) | (refine Tx 2 ?_; refine Ja ?_; refine Je ?_))
    exact ret_q rfl (.cons_ (rv_b rfl (by unfold sameB; rw [decide_eq_false (fun h => hb h.1)])) .nil_)
  by_cases hd : r.den = s.den
  case neg =>
    repeat' (with_reducible first | apply qa | apply qb | apply qc | apply qd | apply qe | apply qf | apply qg | apply qh | apply qi | apply qj | apply qk | apply ql rfl | apply qm rfl | apply qn rfl | (refine Tx 0 ?_; refine Jn xBo ?_; refine Jn xBo ?_; refine Ja ?_; refine Je ?_) | (refine Tx 1 ?_; refine Jo (xFa tf_Dyadic0 tk_bool) ?_; refine Jo (xLd tk_bool) ?_; refine Jo (xFa tf_Dyadic0 tk_bool) ?_; refine Jo (xLd tk_bool) ?_; refine Jo (by first | exact ok_neqBF rfl Tryd.underlying4 rfl rfl hb | exact xNe) ?_; refine Jm ?_; (first | refine Jd ?_ | refine Jy (xFa tf_Dyadic2 tk_int) ?_); (first | refine Jd ?_ | refine Jy (xLd tk_int) ?_); (first | refine Jd ?_ | refine Jy (xFa tf_Dyadic2 tk_int) ?_); (first | refine Jd ?_ | refine Jy (xLd tk_int) ?_); (first | refine Jd ?_ | refine Jy xNe ?_); refine Jo xPk ?_; refine Jm ?_; (first | refine Jd ?_ | refine Jy (xFa tf_Dyadic1 tk_s_uint32) ?_); (first | refine Jd ?_ | refine Jy (xLd tk_s_uint32) ?_); (first | refine Jd ?_ | refine Jy (xLn ts_s_uint32) ?_); (first | refine Jd ?_ | refine Jy (xFa tf_Dyadic1 tk_s_uint32) ?_); (first | refine Jd ?_ | refine Jy (xLd tk_s_uint32) ?_); (first | refine Jd ?_ | refine Jy (xLn ts_s_uint32) ?_); (first | refine Jd ?_ | refine Jy xNe ?_); refine Jo xPk ?_; refine Je ?_) | (refine Tx 2 ?_; refine Ja ?_; refine Je ?_))
    exact ret_q rfl (.cons_ (rv_b rfl (by unfold sameB; rw [decide_eq_false (fun h => hd h.2.1)])) .nil_)
  by_cases hl : r.ws.length = s.ws.length
  case neg =>
    repeat' (with_reducible first | apply qa | apply qb | apply qc | apply qd | apply qe | apply qf | apply qg | apply qh | apply qi | apply qj | apply qk | apply ql rfl | apply qm rfl | apply qn rfl | (refine Tx 0 ?_; refine Jn xBo ?_; refine Jn xBo ?_; refine Ja ?_; refine Je ?_) | (refine Tx 1 ?_; refine Jo (xFa tf_Dyadic0 tk_bool) ?_; refine Jo (xLd tk_bool) ?_; refine Jo (xFa tf_Dyadic0 tk_bool) ?_; refine Jo (xLd tk_bool) ?_; refine Jo (by first | exact ok_neqBF rfl Tryd.underlying4 rfl rfl hb | exact xNe) ?_; refine Jm ?_; (first | refine Jd ?_ | refine Jy (xFa tf_Dyadic2 tk_int) ?_); (first | refine Jd ?_ | refine Jy (xLd tk_int) ?_); (first | refine Jd ?_ | refine Jy (xFa tf_Dyadic2 tk_int) ?_); (first | refine Jd ?_ | refine Jy (xLd tk_int) ?_); (first | refine Jd ?_ | refine Jy xNe ?_); refine Jo xPk ?_; refine Jm ?_; (first | refine Jd ?_ | refine Jy (xFa tf_Dyadic1 tk_s_uint32) ?_); (first | refine Jd ?_ | refine Jy (xLd tk_s_uint32) ?_); (first | refine Jd ?_ | refine Jy (xLn ts_s_uint32) ?_); (first | refine Jd ?_ | refine Jy (xFa tf_Dyadic1 tk_s_uint32) ?_); (first | refine Jd ?_ | refine Jy (xLd tk_s_uint32) ?_); (first | refine Jd ?_ | refine Jy (xLn ts_s_uint32) ?_); (first | refine Jd ?_ | refine Jy xNe ?_); refine Jo xPk ?_; refine Je ?_) | (refine Tx 2 ?_; refine Ja ?_; refine Je ?_))
    exact ret_q rfl (.cons_ (rv_b rfl (by unfold sameB; rw [decide_eq_false (fun h => hl (by rw [h.2.2]))])) .nil_)
  repeat' (with_reducible first | apply qa | apply qb | apply qc | apply qd | apply qe | apply qf | apply qg | apply qh | apply qi | apply qj | apply qk | apply ql rfl | apply qm rfl | apply qn rfl | (refine Tx 0 ?_; refine Jn xBo ?_; refine Jn xBo ?_; refine Ja ?_; refine Je ?_) | (refine Tx 1 ?_; refine Jo (xFa tf_Dyadic0 tk_bool) ?_; refine Jo (xLd tk_bool) ?_; refine Jo (xFa tf_Dyadic0 tk_bool) ?_; refine Jo (xLd tk_bool) ?_; refine Jo (by first | exact ok_neqBF rfl Tryd.underlying4 rfl rfl hb | exact xNe) ?_; refine Jm ?_; (first | refine Jd ?_ | refine Jy (xFa tf_Dyadic2 tk_int) ?_); (first | refine Jd ?_ | refine Jy (xLd tk_int) ?_); (first | refine Jd ?_ | refine Jy (xFa tf_Dyadic2 tk_int) ?_); (first | refine Jd ?_ | refine Jy (xLd tk_int) ?_); (first | refine Jd ?_ | refine Jy xNe ?_); refine Jo xPk ?_; refine Jm ?_; (first | refine Jd ?_ | refine Jy (xFa tf_Dyadic1 tk_s_uint32) ?_); (first | refine Jd ?_ | refine Jy (xLd tk_s_uint32) ?_); (first | refine Jd ?_ | refine Jy (xLn ts_s_uint32) ?_); (first | refine Jd ?_ | refine Jy (xFa tf_Dyadic1 tk_s_uint32) ?_); (first | refine Jd ?_ | refine Jy (xLd tk_s_uint32) ?_); (first | refine Jd ?_ | refine Jy (xLn ts_s_uint32) ?_); (first | refine Jd ?_ | refine Jy xNe ?_); refine Jo xPk ?_; refine Je ?_) | (refine Tx 3 ?_; refine Jo (xFa tf_Dyadic1 tk_s_uint32) ?_; refine Jo (xLd tk_s_uint32) ?_; refine Jo (xLn ts_s_uint32) ?_; refine Jm ?_; refine Je ?_))
  refine cw_wk (F' := ofL [(2, vr 0), (3, vr 1), (29, vi r.ws.length), (30, vi ((0 : Nat)))]) (H' := [.box 27 ((dRv t r).map C.d), .box 27 ((dRv u s).map C.d)]) (wk_go [(2, vr 0), (3, vr 1), (29, vi r.ws.length), (30, vi ((0 : Nat)))] 2 ?_ ?_ ?_) ?_
  · rfl
  · exact mB rfl rfl
  · exact ⟨bel_D, bel_D, trivial⟩
  refine cw_loopW (fun n Fr H => ∃ k : Nat, k ≤ r.ws.length ∧ n = r.ws.length - k ∧ r.ws.take k = s.ws.take k ∧ Fr = ofL [(2, vr 0), (3, vr 1), (29, vi r.ws.length), (30, vi ((k : Nat)))] ∧ H = [.box 27 ((dRv t r).map C.d), .box 27 ((dRv u s).map C.d)]) (n0 := r.ws.length) ⟨0, Nat.zero_le _, rfl, rfl, rfl, rfl⟩ ?_
  rintro n Fr H ⟨k, hk, rfl, he, rfl, rfl⟩
  by_cases hlt : k < r.ws.length
  case pos =>
    obtain ⟨p, hp⟩ : ∃ p, r.ws[k]? = some p := ⟨_, List.getElem?_eq_getElem hlt⟩
    obtain ⟨q, hq⟩ : ∃ q, s.ws[k]? = some q := ⟨_, List.getElem?_eq_getElem (by omega)⟩
    by_cases e : p = q
    case neg =>
      repeat' (with_reducible first | apply qa | apply qb | apply qc | apply qd | apply qe | apply qf | apply qg | apply qh | apply qi | apply qj | apply qk | apply ql rfl | apply qm rfl | apply qn rfl | (refine Tx 4 ?_; refine Jo xLt ?_; refine Je ?_) | (refine Tx 5 ?_; refine Jm ?_; refine Ja ?_; refine Je ?_) | (refine cw_any (id := 6) mixed (by kernel_rfl) ?_; refine Ko (xFa tf_Dyadic1 tk_s_uint32) ?_; refine Ko (xLd tk_s_uint32) ?_; refine Km ?_; refine Ko (by first | exact xIr ts_s_uint32 (word_at hp) | exact xIr ts_s_uint32 (word_at hq)) ?_; refine Ko (xLd tk_uint32) ?_; refine Ko (xFa tf_Dyadic1 tk_s_uint32) ?_; refine Ko (xLd tk_s_uint32) ?_; refine Km ?_; refine Ko (by first | exact xIr ts_s_uint32 (word_at hp) | exact xIr ts_s_uint32 (word_at hq)) ?_; refine Ko (xLd tk_uint32) ?_; refine Ko xNe ?_; refine Ke ?_) | (refine Tx 7 ?_; refine Ja ?_; refine Je ?_))
      exact ret_q rfl (.cons_ (rv_b rfl (by unfold sameB; rw [decide_eq_false (fun h => ne_at hp hq e h.2.2)])) .nil_)
    subst e
    repeat' (with_reducible first | apply qa | apply qb | apply qc | apply qd | apply qe | apply qf | apply qg | apply qh | apply qi | apply qj | apply qk | apply ql rfl | apply qm rfl | apply qn rfl | (refine Tx 4 ?_; refine Jo xLt ?_; refine Je ?_) | (refine Tx 5 ?_; refine Jm ?_; refine Ja ?_; refine Je ?_) | (refine cw_any (id := 6) mixed (by kernel_rfl) ?_; refine Ko (xFa tf_Dyadic1 tk_s_uint32) ?_; refine Ko (xLd tk_s_uint32) ?_; refine Km ?_; refine Ko (by first | exact xIr ts_s_uint32 (word_at hp) | exact xIr ts_s_uint32 (word_at hq)) ?_; refine Ko (xLd tk_uint32) ?_; refine Ko (xFa tf_Dyadic1 tk_s_uint32) ?_; refine Ko (xLd tk_s_uint32) ?_; refine Km ?_; refine Ko (by first | exact xIr ts_s_uint32 (word_at hp) | exact xIr ts_s_uint32 (word_at hq)) ?_; refine Ko (xLd tk_uint32) ?_; refine Ko xNe ?_; refine Ke ?_) | (refine Tx 8 ?_; refine Jo xAd ?_; refine Jm ?_; refine Je ?_))
    exact ⟨_, _, wk_go [(2, vr 0), (3, vr 1), (29, vi r.ws.length), (30, vi (((k + 1) : Nat)))] 2 rfl (mB rfl rfl) ⟨bel_D, bel_D, trivial⟩, _, by omega, k + 1, by omega, rfl, take_ext he hp hq, rfl, rfl⟩
  obtain rfl : k = r.ws.length := by omega
  clear hlt hk
  rw [List.take_length, hl, List.take_length] at he
  repeat' (with_reducible first | apply qa | apply qb | apply qc | apply qd | apply qe | apply qf | apply qg | apply qh | apply qi | apply qj | apply qk | apply ql rfl | apply qm rfl | apply qn rfl | (refine Tx 4 ?_; refine Jo xLt ?_; refine Je ?_) | (refine Tx 9 ?_; refine Ja ?_; refine Je ?_))
  exact ret_q rfl (.cons_ (rv_b rfl (by unfold sameB; rw [decide_eq_true ⟨hb, hd, he⟩])) .nil_)
theorem dsame_cv (t u : Bool) (p q : Int × Nat) (l1 : (canon p.1.natAbs).length ≤ 1000000) (l2 : (canon q.1.natAbs).length ≤ 1000000) : CV Tryd.prog TabAt 12 [aDy t p.1 p.2, aDy u q.1 q.2] [aB (decide (p = q))] := by
  have := rvsame_cv t u (rvOf p) (rvOf q) l1 l2
  rw [same_p] at this
  unfold aRv at this
  rwa [rvOf_D, rvOf_D] at this
def LenOk (l : List (Int × Nat)) : Prop := ∀ p ∈ l, (canon p.1.natAbs).length ≤ 1000000
def exP : List Prt := [⟨-8, 8, 0⟩]
def exB : List Bk := [⟨0, none, [0], 0, 0, 0, 0, 0⟩, ⟨3, none, [0, 2], 0, 0, 0, 0, 0⟩, ⟨2, none, [1], 0, 0, 0, 0, 0⟩]
def exO : List Int := [1]
def exL : List (List Int) := [[3], [4], [-2]]
def exR : List (List (Int × Nat)) := [[(3, 0)], [(7, 0)], [(5, 0)]]
theorem exq_len : DgLen exP exB exO := ⟨by decide, by decide, by decide, by decide⟩
theorem exq_err : runQE exP exB exO exL = 0 := by decide +kernel
theorem exq_out : runO exP exB exO (startM exB) exL = exR := by decide +kernel
def light11 (ps : List Prt) (bs : List Bk) (os : List Int) (ls : List (List Int)) : Bool := lightB ps bs os && decide (ls.length ≤ 300 ∧ ls.length * bs.length ≤ 3000) && ls.all fun l => decide (l.length ≤ 40)
def lean11B (rs : List Rv) : Bool := (rs.all fun r => decide (r.ws.length ≤ 300 ∧ r.den ≤ 20000)) && decide (rs.length ≤ 100)
theorem all_no {α : Type} {p : α → Bool} {l : List α} {k : Nat} {x : α} (h : l[k]? = some x) (hp : p x = false) : l.all p = false := List.all_eq_false.2 ⟨x, List.mem_of_getElem? h, by rw [hp]; exact Bool.false_ne_true⟩
theorem light11_len {ps : List Prt} {bs : List Bk} {os : List Int} {ls : List (List Int)} (h : light11 ps bs os ls = true) : DgLen ps bs os ∧ (ls.length ≤ 300 ∧ bs.length ≤ 80) ∧ ∀ l ∈ ls, l.length ≤ 40 := by
  unfold light11 at h
  rw [Bool.and_eq_true, Bool.and_eq_true] at h
  obtain ⟨⟨h1, h2⟩, h3⟩ := h
  have h4 := of_decide_eq_true h2
  have h5 := light_len h1
  exact ⟨h5.1, ⟨h4.1, h5.2⟩, fun l hl => of_decide_eq_true (List.all_eq_true.1 h3 l hl)⟩
set_option maxRecDepth 100000 in
set_option maxHeartbeats 4000000 in
theorem example_cv  : CV Tryd.prog TabAt 34 [] [aDg false exP exB exO] := by
  refine cv_of tab_G Tryd.func34 rfl Tryd.ntmps34 (Nat.le_of_ble_eq_true rfl) ?_
  repeat' (with_reducible first | apply qa | apply qb | apply qc | apply qd | apply qe | apply qf | apply qg | apply qh | apply qi | apply qj | apply qk | apply ql rfl | apply qm rfl | apply qn rfl | (refine Tx 0 ?_; refine Jn (by exact ok_alloc rfl tz_Diagram) ?_; refine Je ?_) | (refine Tx 1 ?_; refine Jo (by exact ok_build rfl tb_Port rfl rfl) ?_; refine Jn (by exact ok_build1 rfl ts_s_Port tz_Port rfl rfl (by decide) (by decide)) ?_; refine Jn (by exact ok_build1 rfl ts_s_int tz_int rfl rfl (by decide) (by decide)) ?_; refine Jn (by exact ok_build1 rfl ts_s_int tz_int rfl rfl (by decide) (by decide)) ?_; refine Jo (by exact ok_build rfl tb_Block rfl rfl) ?_; refine Jn (by exact ok_build2 rfl ts_s_int tz_int rfl rfl rfl rfl (by decide) (by decide)) ?_; refine Jo (by exact ok_build rfl tb_Block rfl rfl) ?_; refine Jn (by exact ok_build1 rfl ts_s_int tz_int rfl rfl (by decide) (by decide)) ?_; refine Jo (by exact ok_build rfl tb_Block rfl rfl) ?_; refine Jn (by exact ok_buildN rfl rfl ts_s_Block tz_Block (by decide) (by decide) (by decide) rfl rfl rfl) ?_; refine Jo (by exact ok_build rfl tb_Diagram rfl rfl) ?_; refine Js (xSk tk_Diagram) ?_; refine Je ?_))
  exact ret_q rfl (.cons_ (rv_box rfl rfl tk_Diagram rfl rfl (by first | ((repeat' first | exact lrel_n rfl rfl | refine lrel_c rfl rfl ?_ ?_ | refine xexp_1 rfl rfl ?_ | refine xexp_a rfl rfl ?_ | exact cexp_d rfl (fun _ => DFree.val _) | exact cexp_n rfl rfl | exact cexp_e rfl rfl | refine cexp_o rfl rfl rfl ?_) <;> fail) | fail)) .nil_)
set_option maxRecDepth 100000 in
set_option maxHeartbeats 4000000 in
theorem awake11_cv  : CV Tryd.prog TabAt 9 [] [aB true] := by
  refine cv_of tab_G Tryd.func9 rfl Tryd.ntmps9 (Nat.le_of_ble_eq_true rfl) ?_
  have RU := prun_cv false true true (ps := exP) (bs := exB) (os := exO) exq_len exL (by decide) (by decide)
  rw [exq_err, okQ_z rfl, exq_out, show rowLD exR = .row false 1 3 [.row false 3 1 (flatD dyP [(3, 0)]), .row false 3 1 (flatD dyP [(7, 0)]), .row false 3 1 (flatD dyP [(5, 0)])] from rfl] at RU
  have OF := pdof_cv 7 (by decide) (by decide)
  have OG := pdof_cv 5 (by decide) (by decide)
  have CM := pdcmp_cv 7 0 7 0 ⟨by decide, fun h => absurd rfl h⟩ ⟨by decide, fun h => absurd rfl h⟩ (by decide +kernel) (by decide +kernel)
  have CN := pdcmp_cv 5 0 5 0 ⟨by decide, fun h => absurd rfl h⟩ ⟨by decide, fun h => absurd rfl h⟩ (by decide +kernel) (by decide +kernel)
  rw [show dyCmp 7 0 7 0 = 0 by decide +kernel] at CM
  rw [show dyCmp 5 0 5 0 = 0 by decide +kernel] at CN
  repeat' (with_reducible first | apply qa | apply qb | apply qc | apply qd | apply qe | apply qf | apply qg | apply qh | apply qi | apply qj | apply qk | apply ql rfl | apply qm rfl | apply qn rfl | (refine Tx 0 ?_; refine Ja ?_; refine Je ?_) | (refine Tx 1 ?_; refine Jo (xCl Tryd.func34 (example_cv)) ?_; refine Jn (by exact ok_build1 rfl ts_s_int tz_int rfl rfl (by decide) (by decide)) ?_; refine Jn (by exact ok_build1 rfl ts_s_int tz_int rfl rfl (by decide) (by decide)) ?_; refine Jn (by exact ok_build1 rfl ts_s_int tz_int rfl rfl (by decide) (by decide)) ?_; refine Jn (by exact ok_buildN rfl rfl ts_s_s_int tz_s_int (by decide) (by decide) (by decide) rfl rfl rfl) ?_; refine Jo (xCl Tryd.func23 (RU)) ?_; refine Jo (by exact ok_mvT rfl rfl) ?_; refine Jo xEx ?_; refine Jo xEx ?_; refine Ja ?_; refine Ja ?_; refine Je ?_) | (refine cw_any (id := 2) mixed (by kernel_rfl) ?_; refine Km ?_; refine Ko (by first | exact ok_eqlE rfl ti_error rfl (beq_t rfl) | exact ok_eqlE rfl ti_error rfl (beq_t (by first | rfl | omega)) | exact ok_eqlE rfl ti_error rfl (beq_f (by first | assumption | omega)) | exact ok_eqlE rfl ti_error rfl rfl) ?_; refine Km ?_; (first | refine Kd ?_ | refine Ky (by exact ok_mv1 rfl rfl) ?_); (first | refine Kd ?_ | refine Ky (xLn ts_s_s_Dyadic) ?_); (first | refine Kd ?_ | refine Ky xEq ?_); refine Ko xPk ?_; refine Km ?_; (first | refine Kd ?_ | refine Ky (by exact ok_mv1 rfl rfl) ?_); (first | refine Kd ?_ | refine Ky (by exact ok_ixR (i := 2) rfl rfl rfl rfl ts_s_s_Dyadic (by decide) (by decide) rfl) ?_); (first | refine Kd ?_ | refine Ky (xLd tk_s_Dyadic) ?_); (first | refine Kd ?_ | refine Ky (xLn ts_s_Dyadic) ?_); (first | refine Kd ?_ | refine Ky xEq ?_); refine Ko xPk ?_; refine Km ?_; (first | refine Kd ?_ | refine Ky (by exact ok_mv1 rfl rfl) ?_); (first | refine Kd ?_ | refine Ky (by exact ok_ixR (i := 1) rfl rfl rfl rfl ts_s_s_Dyadic (by decide) (by decide) rfl) ?_); (first | refine Kd ?_ | refine Ky (xLd tk_s_Dyadic) ?_); (first | refine Kd ?_ | refine Ky (by exact ok_ixR (i := 0) rfl rfl rfl rfl ts_s_Dyadic (by decide) (by decide) rfl) ?_); (first | refine Kd ?_ | refine Ky (xLa tk_Dyadic) ?_); (first | refine Kd ?_ | refine Ky (by first | exact xCl Tryd.func35 (OF) | exact xCl Tryd.func35 (OG)) ?_); (first | refine Kd ?_ | refine Ky (by first | exact xCl Tryd.func31 (CM) | exact xCl Tryd.func31 (CN)) ?_); (first | refine Kd ?_ | refine Ky xEq ?_); refine Ko xPk ?_; refine Km ?_; (first | refine Kd ?_ | refine Ky (by exact ok_mv1 rfl rfl) ?_); (first | refine Kd ?_ | refine Ky (by exact ok_ixR (i := 2) rfl rfl rfl rfl ts_s_s_Dyadic (by decide) (by decide) rfl) ?_); (first | refine Kd ?_ | refine Ky (xLd tk_s_Dyadic) ?_); (first | refine Kd ?_ | refine Ky (by exact ok_ixR (i := 0) rfl rfl rfl rfl ts_s_Dyadic (by decide) (by decide) rfl) ?_); (first | refine Kd ?_ | refine Ky (xLa tk_Dyadic) ?_); (first | refine Kd ?_ | refine Ky (by first | exact xCl Tryd.func35 (OF) | exact xCl Tryd.func35 (OG)) ?_); (first | refine Kd ?_ | refine Ky (by first | exact xCl Tryd.func31 (CM) | exact xCl Tryd.func31 (CN)) ?_); (first | refine Kd ?_ | refine Ky xEq ?_); refine Ko xPk ?_; refine Ka ?_; refine Ke ?_))
  exact ret_q rfl (.cons_ (rv_b rfl (rfl)) .nil_)
set_option maxRecDepth 100000 in
set_option maxHeartbeats 4000000 in
theorem light11_cv (t u : Bool) (ps : List Prt) (bs : List Bk) (os : List Int) (ls : List (List Int)) : CV Tryd.prog TabAt 14 [aDg t ps bs os, .one (rowLI u ls)] [aB (light11 ps bs os ls)] := by
  refine cv_of tab_G Tryd.func14 rfl Tryd.ntmps14 (Nat.le_of_ble_eq_true rfl) ?_
  have LT := light_cvT t ps bs os
  by_cases h1 : lightB ps bs os = true
  case neg =>
    rw [Bool.not_eq_true] at h1
    rw [h1] at LT
    repeat' (with_reducible first | apply qa | apply qb | apply qc | apply qd | apply qe | apply qf | apply qg | apply qh | apply qi | apply qj | apply qk | apply ql rfl | apply qm rfl | apply qn rfl | (refine Tx 0 ?_; refine Jn xBo ?_; refine Ja ?_; refine Je ?_) | (refine Tx 1 ?_; refine Jo (xLa tk_Diagram) ?_; refine Jo (xCl Tryd.func39 (LT)) ?_; refine Jo (by first | exact ok_not rfl rfl | exact ok_neg64 rfl rfl (by omega)) ?_; refine Jm ?_; (first | refine Jd ?_ | refine Jy (by exact ok_mv1 rfl rfl) ?_); (first | refine Jd ?_ | refine Jy (xLn ts_s_s_int) ?_); (first | refine Jd ?_ | refine Jy xGt ?_); refine Jo xPk ?_; refine Jm ?_; (first | refine Jd ?_ | refine Jy (by exact ok_mv1 rfl rfl) ?_); (first | refine Jd ?_ | refine Jy (xLn ts_s_s_int) ?_); (first | refine Jd ?_ | refine Jy (xFa tf_Diagram1 tk_s_Block) ?_); (first | refine Jd ?_ | refine Jy (xLd tk_s_Block) ?_); (first | refine Jd ?_ | refine Jy (xLn ts_s_Block) ?_); (first | refine Jd ?_ | refine Jy (by exact ok_mul64 rfl rfl rfl (by omega)) ?_); (first | refine Jd ?_ | refine Jy xGt ?_); refine Jo xPk ?_; refine Je ?_) | (refine Tx 2 ?_; refine Ja ?_; refine Je ?_))
    exact ret_q rfl (.cons_ (rv_b rfl (by unfold light11; rw [h1]; rfl)) .nil_)
  rw [h1] at LT
  have hbl := (light_len h1).2
  by_cases h2 : 300 < ls.length
  case pos =>
    repeat' (with_reducible first | apply qa | apply qb | apply qc | apply qd | apply qe | apply qf | apply qg | apply qh | apply qi | apply qj | apply qk | apply ql rfl | apply qm rfl | apply qn rfl | (refine Tx 0 ?_; refine Jn xBo ?_; refine Ja ?_; refine Je ?_) | (refine Tx 1 ?_; refine Jo (xLa tk_Diagram) ?_; refine Jo (xCl Tryd.func39 (LT)) ?_; refine Jo (by first | exact ok_not rfl rfl | exact ok_neg64 rfl rfl (by omega)) ?_; refine Jm ?_; (first | refine Jd ?_ | refine Jy (by exact ok_mv1 rfl rfl) ?_); (first | refine Jd ?_ | refine Jy (xLn ts_s_s_int) ?_); (first | refine Jd ?_ | refine Jy xGt ?_); refine Jo xPk ?_; refine Jm ?_; (first | refine Jd ?_ | refine Jy (by exact ok_mv1 rfl rfl) ?_); (first | refine Jd ?_ | refine Jy (xLn ts_s_s_int) ?_); (first | refine Jd ?_ | refine Jy (xFa tf_Diagram1 tk_s_Block) ?_); (first | refine Jd ?_ | refine Jy (xLd tk_s_Block) ?_); (first | refine Jd ?_ | refine Jy (xLn ts_s_Block) ?_); (first | refine Jd ?_ | refine Jy (by exact ok_mul64 rfl rfl rfl (by omega)) ?_); (first | refine Jd ?_ | refine Jy xGt ?_); refine Jo xPk ?_; refine Je ?_) | (refine Tx 2 ?_; refine Ja ?_; refine Je ?_))
    exact ret_q rfl (.cons_ (rv_b rfl (by unfold light11; rw [h1, decide_eq_false (by omega)]; rfl)) .nil_)
  have hq : ls.length * bs.length ≤ 300 * 80 := Nat.mul_le_mul (by omega) hbl
  have hm : IntKind.i64.wrap (((ls.length : Nat) : Int) * ((bs.length : Nat) : Int)) = ((ls.length * bs.length : Nat) : Int) := by rw [← Int.natCast_mul, IntWalk.i64_in _ (by omega)]
  generalize hmm : ls.length * bs.length = q at *
  by_cases h3 : 3000 < q
  case pos =>
    repeat' (with_reducible first | apply qa | apply qb | apply qc | apply qd | apply qe | apply qf | apply qg | apply qh | apply qi | apply qj | apply qk | apply ql rfl | apply qm rfl | apply qn rfl | (refine Tx 0 ?_; refine Jn xBo ?_; refine Ja ?_; refine Je ?_) | (refine Tx 1 ?_; refine Jo (xLa tk_Diagram) ?_; refine Jo (xCl Tryd.func39 (LT)) ?_; refine Jo (by first | exact ok_not rfl rfl | exact ok_neg64 rfl rfl (by omega)) ?_; refine Jm ?_; (first | refine Jd ?_ | refine Jy (by exact ok_mv1 rfl rfl) ?_); (first | refine Jd ?_ | refine Jy (xLn ts_s_s_int) ?_); (first | refine Jd ?_ | refine Jy xGt ?_); refine Jo xPk ?_; refine Jm ?_; (first | refine Jd ?_ | refine Jy (by exact ok_mv1 rfl rfl) ?_); (first | refine Jd ?_ | refine Jy (xLn ts_s_s_int) ?_); (first | refine Jd ?_ | refine Jy (xFa tf_Diagram1 tk_s_Block) ?_); (first | refine Jd ?_ | refine Jy (xLd tk_s_Block) ?_); (first | refine Jd ?_ | refine Jy (xLn ts_s_Block) ?_); (first | refine Jd ?_ | refine Jy (by exact ok_mul64 rfl rfl rfl (by omega)) ?_); (first | refine Jd ?_ | refine Jy (by first | exact ok_mulR rfl rfl rfl hm | exact xGt) ?_); refine Jo xPk ?_; refine Je ?_) | (refine Tx 2 ?_; refine Ja ?_; refine Je ?_))
    exact ret_q rfl (.cons_ (rv_b rfl (by unfold light11; rw [h1, hmm, decide_eq_false (by omega)]; rfl)) .nil_)
  repeat' (with_reducible first | apply qa | apply qb | apply qc | apply qd | apply qe | apply qf | apply qg | apply qh | apply qi | apply qj | apply qk | apply ql rfl | apply qm rfl | apply qn rfl | (refine Tx 0 ?_; refine Jn xBo ?_; refine Ja ?_; refine Je ?_) | (refine Tx 1 ?_; refine Jo (xLa tk_Diagram) ?_; refine Jo (xCl Tryd.func39 (LT)) ?_; refine Jo (by first | exact ok_not rfl rfl | exact ok_neg64 rfl rfl (by omega)) ?_; refine Jm ?_; (first | refine Jd ?_ | refine Jy (by exact ok_mv1 rfl rfl) ?_); (first | refine Jd ?_ | refine Jy (xLn ts_s_s_int) ?_); (first | refine Jd ?_ | refine Jy xGt ?_); refine Jo xPk ?_; refine Jm ?_; (first | refine Jd ?_ | refine Jy (by exact ok_mv1 rfl rfl) ?_); (first | refine Jd ?_ | refine Jy (xLn ts_s_s_int) ?_); (first | refine Jd ?_ | refine Jy (xFa tf_Diagram1 tk_s_Block) ?_); (first | refine Jd ?_ | refine Jy (xLd tk_s_Block) ?_); (first | refine Jd ?_ | refine Jy (xLn ts_s_Block) ?_); (first | refine Jd ?_ | refine Jy (by exact ok_mul64 rfl rfl rfl (by omega)) ?_); (first | refine Jd ?_ | refine Jy (by first | exact ok_mulR rfl rfl rfl hm | exact xGt) ?_); refine Jo xPk ?_; refine Je ?_) | (refine Tx 3 ?_; refine Jm ?_; refine Jo (xLn ts_s_s_int) ?_; refine Jm ?_; refine Je ?_))
  refine cw_wk (F' := ofL [(24, vd (rowLI u ls)), (25, vi ls.length), (26, vi ((0 : Nat)))]) (H' := []) (wk_go [(24, vd (rowLI u ls)), (25, vi ls.length), (26, vi ((0 : Nat)))] 0 ?_ ?_ ?_) ?_
  · rfl
  · exact mB rfl rfl
  · exact trivial
  refine cw_loopW (fun n Fr H => ∃ k : Nat, k ≤ ls.length ∧ n = ls.length - k ∧ (ls.take k).all (fun l => decide (l.length ≤ 40)) = true ∧ Fr = ofL [(24, vd (rowLI u ls)), (25, vi ls.length), (26, vi ((k : Nat)))] ∧ H = []) (n0 := ls.length) ⟨0, Nat.zero_le _, rfl, rfl, rfl, rfl⟩ ?_
  rintro n Fr H ⟨k, hk, rfl, hall, rfl, rfl⟩
  by_cases hlt : k < ls.length
  case pos =>
    obtain ⟨l, hl⟩ : ∃ l, ls[k]? = some l := ⟨_, List.getElem?_eq_getElem hlt⟩
    by_cases h4 : l.length ≤ 40
    case neg =>
      repeat' (with_reducible first | apply qa | apply qb | apply qc | apply qd | apply qe | apply qf | apply qg | apply qh | apply qi | apply qj | apply qk | apply ql rfl | apply qm rfl | apply qn rfl | (refine Tx 4 ?_; refine Jo xLt ?_; refine Je ?_) | (refine Tx 5 ?_; refine Jo (xIr ts_s_s_int (lin_at hl)) ?_; refine Jo (xLd tk_s_int) ?_; refine Ja ?_; refine Je ?_) | (refine Tx 6 ?_; refine Jm ?_; refine Jo (xLn ts_s_int) ?_; refine Jo xGt ?_; refine Je ?_) | (refine Tx 7 ?_; refine Ja ?_; refine Je ?_))
      exact ret_q rfl (.cons_ (rv_b rfl (by unfold light11; rw [all_no hl (decide_eq_false h4), Bool.and_false])) .nil_)
    repeat' (with_reducible first | apply qa | apply qb | apply qc | apply qd | apply qe | apply qf | apply qg | apply qh | apply qi | apply qj | apply qk | apply ql rfl | apply qm rfl | apply qn rfl | (refine Tx 4 ?_; refine Jo xLt ?_; refine Je ?_) | (refine Tx 5 ?_; refine Jo (xIr ts_s_s_int (lin_at hl)) ?_; refine Jo (xLd tk_s_int) ?_; refine Ja ?_; refine Je ?_) | (refine Tx 6 ?_; refine Jm ?_; refine Jo (xLn ts_s_int) ?_; refine Jo xGt ?_; refine Je ?_) | (refine Tx 8 ?_; refine Jo xAd ?_; refine Jm ?_; refine Je ?_))
    exact ⟨_, _, wk_go [(24, vd (rowLI u ls)), (25, vi ls.length), (26, vi (((k + 1) : Nat)))] 0 rfl (mB rfl rfl) trivial, _, by omega, k + 1, by omega, rfl, all_take hl hall (decide_eq_true h4), rfl, rfl⟩
  obtain rfl : k = ls.length := by omega
  rw [List.take_length] at hall
  repeat' (with_reducible first | apply qa | apply qb | apply qc | apply qd | apply qe | apply qf | apply qg | apply qh | apply qi | apply qj | apply qk | apply ql rfl | apply qm rfl | apply qn rfl | (refine Tx 4 ?_; refine Jo xLt ?_; refine Je ?_) | (refine Tx 9 ?_; refine Ja ?_; refine Je ?_))
  exact ret_q rfl (.cons_ (rv_b rfl (by unfold light11; rw [h1, hall, hmm, decide_eq_true (by omega)]; rfl)) .nil_)
theorem cexp_oI2 {t : Bool} {H : List Ob} {id ty n : Nat} {c : C} {y : D} {xs : List Int} (hc : c = .own id n) (hH : H[id]? = some (.row ty 1 n (cI xs))) (hn : n = xs.length) (hy : y = rowI t xs) : CExp t H c y := by
  subst hn hy
  refine cexp_o hc hH rfl (LRel.map_l.2 ⟨by simp, fun j a b ha hb => ?_⟩)
  rw [List.getElem?_map, ha] at hb
  cases hb
  exact .d fun _ => .val _
set_option maxRecDepth 100000 in
set_option maxHeartbeats 4000000 in
theorem fit_cv (t u : Bool) {ps : List Prt} {bs : List Bk} {os : List Int} (inn : List Int) (hl : DgLen ps bs os) (h2 : inn.length ≤ 1000000) : CV Tryd.prog TabAt 27 [aDg t ps bs os, .one (rowI u inn)] [.one (rowI false (inpV ps inn ps.length))] := by
  refine cv_of tab_G Tryd.func27 rfl Tryd.ntmps27 (Nat.le_of_ble_eq_true rfl) ?_
  have hl1 := hl.l1
  repeat' (with_reducible first | apply qa | apply qb | apply qc | apply qd | apply qe | apply qf | apply qg | apply qh | apply qi | apply qj | apply qk | apply ql rfl | apply qm rfl | apply qn rfl | (refine Tx 0 ?_; refine Jn xBo ?_; refine Ja ?_; refine Je ?_) | (refine Tx 1 ?_; refine Ja ?_; refine Je ?_) | (refine Tx 2 ?_; refine Jo (xFa tf_Diagram0 tk_s_Port) ?_; refine Jo (xLd tk_s_Port) ?_; refine Jo (xLn ts_s_Port) ?_; refine Jm ?_; refine Je ?_))
  refine cw_wk (wk_nil 5 3 1 rfl) ?_
  refine cw_wk (F' := ofL [(1, vd (rowI u inn)), (2, vr 0), (5, vo 1 ((inpV ps inn 0).length)), (10, vd (rowP t ps)), (11, vi ps.length), (12, vi ((0 : Nat)))]) (H' := [.box 41 [.d (rowP t ps), .d (rowB t bs), .d (rowI t os)], .row 3 1 (inpV ps inn (0)).length (cI (inpV ps inn (0)))]) (wk_go [(1, vd (rowI u inn)), (2, vr 0), (5, vo 1 ((inpV ps inn 0).length)), (10, vd (rowP t ps)), (11, vi ps.length), (12, vi ((0 : Nat)))] 2 ?_ ?_ ?_) ?_
  · rfl
  · exact mB rfl rfl
  · exact ⟨bel_lit rfl, bel_cI, trivial⟩
  refine cw_loopW (fun n Fr H => ∃ k : Nat, k ≤ ps.length ∧ n = ps.length - k ∧ Fr = ofL [(1, vd (rowI u inn)), (2, vr 0), (5, vo 1 ((inpV ps inn k).length)), (10, vd (rowP t ps)), (11, vi ps.length), (12, vi ((k : Nat)))] ∧ H = [.box 41 [.d (rowP t ps), .d (rowB t bs), .d (rowI t os)], .row 3 1 (inpV ps inn (k)).length (cI (inpV ps inn (k)))]) (n0 := ps.length) ⟨0, Nat.zero_le _, rfl, rfl, rfl⟩ ?_
  rintro n Fr H ⟨k, hk, rfl, rfl, rfl⟩
  by_cases hlt : k < ps.length
  case pos =>
    obtain ⟨p, hp⟩ : ∃ p, ps[k]? = some p := ⟨_, List.getElem?_eq_getElem hlt⟩
    have hol : (inpV ps inn (k)).length ≤ k := inpV_len _ _ _
    by_cases hki : k < inn.length
    case pos =>
      obtain ⟨z, hz⟩ : ∃ z, inn[k]? = some z := ⟨_, List.getElem?_eq_getElem hki⟩
      have hap : (inpV ps inn (k)) ++ [clipI z p.lo p.hi] = (inpV ps inn (k + 1)) := (inpV_step hp (by rw [hz]; rfl)).symm
      have hap2 : (inpV ps inn (k)).length + 1 = (inpV ps inn (k + 1)).length := by rw [← hap]; simp
      have BC := bclip_cv z p.lo p.hi
      repeat' (with_reducible first | apply qa | apply qb | apply qc | apply qd | apply qe | apply qf | apply qg | apply qh | apply qi | apply qj | apply qk | apply ql rfl | apply qm rfl | apply qn rfl | (refine Tx 3 ?_; refine Jo xLt ?_; refine Je ?_) | (refine Tx 4 ?_; refine Jm ?_; refine Jo (xIr ts_s_Port (prt_at hp)) ?_; refine Jo (xLa tk_Port) ?_; refine Jn (by exact ok_alloc rfl tz_Port) ?_; refine Ja ?_; refine Js (xSk tk_Port) ?_; refine Je ?_) | (refine Tx 5 ?_; refine Ja ?_; refine Je ?_) | (refine Tx 6 ?_; refine Jm ?_; refine Jm ?_; refine Jo (xLn ts_s_int) ?_; refine Jo xLt ?_; refine Je ?_) | (refine Tx 7 ?_; refine Jm ?_; refine Jm ?_; refine Jo (xIr ts_s_int (int_at hz)) ?_; refine Jo (xLd tk_int) ?_; refine Ja ?_; refine Je ?_) | (refine Tx 8 ?_; refine Jm ?_; refine Jm ?_; refine Jo (xFa tf_Port0 tk_int) ?_; refine Jo (xLd tk_int) ?_; refine Jo (xFa tf_Port1 tk_int) ?_; refine Jo (xLd tk_int) ?_; refine Jo (xCl Tryd.func54 (BC.cv)) ?_; refine Jn (by exact ok_build1 rfl ts_s_int tz_int rfl rfl (by decide) (by decide)) ?_; refine Jt (by exact to_apI rfl rfl rfl rfl rfl rfl ts_s_int tz_int (by omega) (by decide) hap hap2) ?_; refine Ja ?_; refine Je ?_) | (refine Tx 9 ?_; refine Jo xAd ?_; refine Jm ?_; refine Je ?_))
      refine ⟨_, _, wk_go [(1, vd (rowI u inn)), (2, vr 0), (5, vo 1 ((inpV ps inn ((k + 1))).length)), (10, vd (rowP t ps)), (11, vi ps.length), (12, vi (((k + 1) : Nat)))] 2 ?_ ?_ ?_, _, ?_, k + 1, by omega, rfl, rfl, rfl⟩
      · rfl
      · exact mB rfl rfl
      · exact ⟨bel_lit rfl, bel_cI, trivial⟩
      · omega
    case neg =>
      have hap : (inpV ps inn (k)) ++ [clipI 0 p.lo p.hi] = (inpV ps inn (k + 1)) := (inpV_step hp (by rw [List.getElem?_eq_none (by omega)]; rfl)).symm
      have hap2 : (inpV ps inn (k)).length + 1 = (inpV ps inn (k + 1)).length := by rw [← hap]; simp
      have BC := bclip_cv 0 p.lo p.hi
      repeat' (with_reducible first | apply qa | apply qb | apply qc | apply qd | apply qe | apply qf | apply qg | apply qh | apply qi | apply qj | apply qk | apply ql rfl | apply qm rfl | apply qn rfl | (refine Tx 3 ?_; refine Jo xLt ?_; refine Je ?_) | (refine Tx 4 ?_; refine Jm ?_; refine Jo (xIr ts_s_Port (prt_at hp)) ?_; refine Jo (xLa tk_Port) ?_; refine Jn (by exact ok_alloc rfl tz_Port) ?_; refine Ja ?_; refine Js (xSk tk_Port) ?_; refine Je ?_) | (refine Tx 5 ?_; refine Ja ?_; refine Je ?_) | (refine Tx 6 ?_; refine Jm ?_; refine Jm ?_; refine Jo (xLn ts_s_int) ?_; refine Jo xLt ?_; refine Je ?_) | (refine Tx 8 ?_; refine Jm ?_; refine Jm ?_; refine Jo (xFa tf_Port0 tk_int) ?_; refine Jo (xLd tk_int) ?_; refine Jo (xFa tf_Port1 tk_int) ?_; refine Jo (xLd tk_int) ?_; refine Jo (xCl Tryd.func54 (BC.cv)) ?_; refine Jn (by exact ok_build1 rfl ts_s_int tz_int rfl rfl (by decide) (by decide)) ?_; refine Jt (by exact to_apI rfl rfl rfl rfl rfl rfl ts_s_int tz_int (by omega) (by decide) hap hap2) ?_; refine Ja ?_; refine Je ?_) | (refine Tx 9 ?_; refine Jo xAd ?_; refine Jm ?_; refine Je ?_))
      refine ⟨_, _, wk_go [(1, vd (rowI u inn)), (2, vr 0), (5, vo 1 ((inpV ps inn ((k + 1))).length)), (10, vd (rowP t ps)), (11, vi ps.length), (12, vi (((k + 1) : Nat)))] 2 ?_ ?_ ?_, _, ?_, k + 1, by omega, rfl, rfl, rfl⟩
      · rfl
      · exact mB rfl rfl
      · exact ⟨bel_lit rfl, bel_cI, trivial⟩
      · omega
  obtain rfl : k = ps.length := by omega
  clear hlt hk
  repeat' (with_reducible first | apply qa | apply qb | apply qc | apply qd | apply qe | apply qf | apply qg | apply qh | apply qi | apply qj | apply qk | apply ql rfl | apply qm rfl | apply qn rfl | (refine Tx 3 ?_; refine Jo xLt ?_; refine Je ?_) | (refine Tx 10 ?_; refine Jm ?_; refine Ja ?_; refine Je ?_))
  exact ret_q rfl (.cons_ (.tmp (.one (cexp_oI2 rfl rfl rfl rfl))) .nil_)
def fitL (ps : List Prt) (ls : List (List Int)) : List (List Int) := ls.map fun l => inpV ps l ps.length
theorem fitL_at {ps : List Prt} {ls : List (List Int)} {k : Nat} {l : List Int} (h : ls[k]? = some l) : (fitL ps ls)[k]? = some (inpV ps l ps.length) := by unfold fitL; rw [List.getElem?_map, h]; rfl
theorem inp_in {ps : List Prt} {bs : List Bk} {os : List Int} (he : dgErr ps bs os = 0) (l : List Int) : inOk ps (inpV ps l ps.length) = true := by
  refine List.all_eq_true.2 fun i hi => ?_
  have hil := List.mem_range.1 hi
  rw [inp_len] at hil
  obtain ⟨p, hp⟩ : ∃ p, ps[i]? = some p := ⟨_, List.getElem?_eq_getElem hil⟩
  have hz : (inpV ps l ps.length)[i]? = some (clipI (l[i]?.getD 0) p.lo p.hi) := by
    unfold inpV
    rw [List.getElem?_map, List.getElem?_range hil, Option.map_some, hp]
    rfl
  unfold rngB
  rw [hp, hz]
  have hpp := acc_port he hp
  have h3 : -2147483648 ≤ p.lo ∧ p.lo ≤ p.hi ∧ p.hi < 2147483648 ∧ 0 ≤ p.fr ∧ p.fr ≤ 30 := Classical.byContradiction fun hn => by unfold portE at hpp; rw [if_neg hn] at hpp; cases hpp
  refine decide_eq_true ?_
  unfold clipI
  omega
theorem tick_fit {ps : List Prt} {bs : List Bk} {os : List Int} (he : dgErr ps bs os = 0) {st : List (Int × Nat)} (l : List Int) : tickE ps bs st (inpV ps l ps.length) = if stepBad ps bs st (inpV ps l ps.length) = true then 4 else 0 := by
  unfold tickE
  rw [if_neg (not_not_intro (inp_len ps l)), if_neg (by rw [inp_in he l]; decide)]
theorem tick_four {ps : List Prt} {bs : List Bk} {os : List Int} (he : dgErr ps bs os = 0) {st : List (Int × Nat)} {l : List Int} (h : tickE ps bs st (inpV ps l ps.length) ≠ 0) : tickE ps bs st (inpV ps l ps.length) = 4 := by
  rw [tick_fit he] at h ⊢
  split
  · rfl
  · rename_i hn; rw [if_neg hn] at h; exact absurd rfl h
theorem dlK_pre (bs : List Bk) {i n : Nat} (h : i ≤ n) : dlK bs i <+: dlK bs n := by
  induction n with
  | zero => rw [show i = 0 by omega]; exact List.prefix_refl _
  | succ n ih =>
    by_cases e : i = n + 1
    · rw [e]; exact List.prefix_refl _
    · refine (ih (by omega)).trans ?_
      rw [dlK_succ]
      split
      · exact List.prefix_append _ _
      · exact List.prefix_refl _
theorem del_rank {bs : List Bk} {i : Nat} (hi : i < bs.length) (hk : kindAt bs i = 2) : (delL bs)[(dlK bs i).length]? = some i := by
  have h1 := dlK_pre bs (i := i + 1) (n := bs.length) hi
  rw [delL_is]
  refine getElem?_pre h1 ?_
  rw [dlK_succ, if_pos hk, List.getElem?_append_right (Nat.le_refl _), Nat.sub_self]
  rfl
theorem dlK_yes {bs : List Bk} {i : Nat} (hk : kindAt bs i = 2) : (dlK bs (i + 1)).length = (dlK bs i).length + 1 := by rw [dlK_succ, if_pos hk, List.length_append]; rfl
theorem dlK_no {bs : List Bk} {i : Nat} (hk : kindAt bs i ≠ 2) : (dlK bs (i + 1)).length = (dlK bs i).length := by rw [dlK_succ, if_neg hk]
theorem args_eAt {V : List (Int × Nat)} {y : Bk} (h : y.kind ≠ 0) {k : Nat} {a : Int} (ha : y.args[k]? = some a) {p : Int × Nat} (hp : V[a.toNat]? = some p) : (argsE V y)[k]? = some p := by
  unfold argsE
  rw [if_neg h, List.getElem?_map, ha, Option.map_some, hp]
  rfl
theorem args_eLen {V : List (Int × Nat)} {y : Bk} (h : y.kind ≠ 0) : (argsE V y).length = y.args.length := by unfold argsE; rw [if_neg h, List.length_map]
theorem args_eSm {V : List (Int × Nat)} {y : Bk} {n d : Nat} (h : ∀ p ∈ V, Sm p n d) : ∀ p ∈ argsE V y, Sm p n d := fun p hp => by
  unfold argsE at hp
  split at hp
  · cases hp
  · obtain ⟨a, _, rfl⟩ := List.mem_map.1 hp
    exact getD_sm h _
theorem tick_blk {ps : List Prt} {bs : List Bk} {os : List Int} {st : List (Int × Nat)} {ins : List Int} (he : dgErr ps bs os = 0) (hs : StOk bs st) (h : tickE ps bs st ins = 0) {i : Nat} {y : Bk} (hy : bs[i]? = some y) (hk : y.kind ≠ 2) : Tick ps bs ins (valS ps bs st ins (ordM bs).length) y := by
  obtain ⟨h1, h2, _⟩ := tick_zero h
  refine tick_of2 he h2 h1 hy hk fun _ a _ a0 a1 => ?_
  exact has_all he (tick_has he hs.len hs.nf h _ (Nat.le_refl _)) (by omega)
theorem pcheck_cv (t : Bool) {ps : List Prt} {bs : List Bk} {os : List Int} (hl : DgLen ps bs os) : CVF Tryd.prog TabAt 25 [aDg t ps bs os] [aE (dgErr ps bs os)] := fun w S vs hg hlt ha => by
  obtain ⟨v, rfl, hv⟩ := one_arg ha
  obtain ⟨d, rfl, hd, rfl, hz, rfl, _, _⟩ := dg_open hlt hv hl
  refine (Check_any d _ w (Nat.le_refl _) hd hg).mono fun e w' ⟨he, hb⟩ => ?_
  rw [show dgErr d.ps d.bs d.os = dgErr d.ps bs d.os by rw [← dgErr_z, hz, dgErr_z]] at he
  exact ⟨_, he, DRel.val (errV_one _), hb⟩
set_option maxRecDepth 100000 in
set_option maxHeartbeats 4000000 in
theorem exactHolds_cv (ps : List Prt) (bs : List Bk) (os : List Int) (ls : List (List Int)) : CV Tryd.prog TabAt 6 [aDg true ps bs os, .one (rowLI true ls)] [aB true] := by
  refine cv_of tab_G Tryd.func6 rfl Tryd.ntmps6 (Nat.le_of_ble_eq_true rfl) ?_
  have LT := light11_cv true true ps bs os ls
  by_cases h1 : light11 ps bs os ls = true
  case neg =>
    rw [Bool.not_eq_true] at h1
    rw [h1] at LT
    repeat' (with_reducible first | apply qa | apply qb | apply qc | apply qd | apply qe | apply qf | apply qg | apply qh | apply qi | apply qj | apply qk | apply ql rfl | apply qm rfl | apply qn rfl | (refine Tx 0 ?_; refine Jn xBo ?_; refine Ja ?_; refine Je ?_) | (refine Tx 1 ?_; refine Jo (xCl Tryd.func9 (awake11_cv)) ?_; refine Jo (by first | exact ok_not rfl rfl | exact ok_neg64 rfl rfl (by omega)) ?_; refine Jm ?_; (first | refine Jd ?_ | refine Jy (xLa tk_Diagram) ?_); (first | refine Jd ?_ | refine Jy (by exact ok_mv1 rfl rfl) ?_); (first | refine Jd ?_ | refine Jy (xCl Tryd.func14 (LT)) ?_); (first | refine Jd ?_ | refine Jy (by first | exact ok_not rfl rfl | exact ok_neg64 rfl rfl (by omega)) ?_); refine Jo xPk ?_; refine Jm ?_; (first | refine Jd ?_ | refine Jy (xLa tk_Diagram) ?_); refine Jd ?_; (first | refine Jd ?_ | refine Jy (by first | exact ok_neqE rfl ti_error rfl (bne_f (by first | rfl | omega)) | exact ok_neqE rfl ti_error rfl (bne_t (by first | assumption | omega)) | exact ok_neqE rfl ti_error rfl rfl) ?_); refine Jo xPk ?_; refine Je ?_) | (refine Tx 2 ?_; refine Jo (xCl Tryd.func9 (awake11_cv)) ?_; refine Ja ?_; refine Je ?_))
    exact ret_q rfl (.cons_ (rv_b rfl (rfl)) .nil_)
  rw [h1] at LT
  obtain ⟨hl, hbl, hil⟩ := light11_len h1
  have CK := (pcheck_cv true hl).cv
  by_cases h0 : dgErr ps bs os = 0
  case neg =>
    repeat' (with_reducible first | apply qa | apply qb | apply qc | apply qd | apply qe | apply qf | apply qg | apply qh | apply qi | apply qj | apply qk | apply ql rfl | apply qm rfl | apply qn rfl | (refine Tx 0 ?_; refine Jn xBo ?_; refine Ja ?_; refine Je ?_) | (refine Tx 1 ?_; refine Jo (xCl Tryd.func9 (awake11_cv)) ?_; refine Jo (by first | exact ok_not rfl rfl | exact ok_neg64 rfl rfl (by omega)) ?_; refine Jm ?_; (first | refine Jd ?_ | refine Jy (xLa tk_Diagram) ?_); (first | refine Jd ?_ | refine Jy (by exact ok_mv1 rfl rfl) ?_); (first | refine Jd ?_ | refine Jy (xCl Tryd.func14 (LT)) ?_); (first | refine Jd ?_ | refine Jy (by first | exact ok_not rfl rfl | exact ok_neg64 rfl rfl (by omega)) ?_); refine Jo xPk ?_; refine Jm ?_; (first | refine Jd ?_ | refine Jy (xLa tk_Diagram) ?_); (first | refine Jd ?_ | refine Jy (xCl Tryd.func25 (CK)) ?_); (first | refine Jd ?_ | refine Jy (by first | exact ok_neqE rfl ti_error rfl (bne_f (by first | rfl | omega)) | exact ok_neqE rfl ti_error rfl (bne_t (by first | assumption | omega)) | exact ok_neqE rfl ti_error rfl rfl) ?_); refine Jo xPk ?_; refine Je ?_) | (refine Tx 2 ?_; refine Jo (xCl Tryd.func9 (awake11_cv)) ?_; refine Ja ?_; refine Je ?_))
    exact ret_q rfl (.cons_ (rv_b rfl (rfl)) .nil_)
  rw [h0] at CK
  have SC := pstart_cv true hl
  rw [h0, okQ_z rfl] at SC
  have RD := (rdelays_cv true hl).cv
  have RC := (rcheck_cv true hl).cv
  rw [h0] at RC
  have hnl := natI_len (delL bs)
  have hdb := delL_le bs
  have hsl : (startM bs).length = (delL bs).length := (start_ok h0).len
  have hl2 := hl.l2
  have hl1 := hl.l1
  repeat' (with_reducible first | apply qa | apply qb | apply qc | apply qd | apply qe | apply qf | apply qg | apply qh | apply qi | apply qj | apply qk | apply ql rfl | apply qm rfl | apply qn rfl | (refine Tx 0 ?_; refine Jn xBo ?_; refine Ja ?_; refine Je ?_) | (refine Tx 1 ?_; refine Jo (xCl Tryd.func9 (awake11_cv)) ?_; refine Jo (by first | exact ok_not rfl rfl | exact ok_neg64 rfl rfl (by omega)) ?_; refine Jm ?_; (first | refine Jd ?_ | refine Jy (xLa tk_Diagram) ?_); (first | refine Jd ?_ | refine Jy (by exact ok_mv1 rfl rfl) ?_); (first | refine Jd ?_ | refine Jy (xCl Tryd.func14 (LT)) ?_); (first | refine Jd ?_ | refine Jy (by first | exact ok_not rfl rfl | exact ok_neg64 rfl rfl (by omega)) ?_); refine Jo xPk ?_; refine Jm ?_; (first | refine Jd ?_ | refine Jy (xLa tk_Diagram) ?_); (first | refine Jd ?_ | refine Jy (xCl Tryd.func25 (CK)) ?_); (first | refine Jd ?_ | refine Jy (by first | exact ok_neqE rfl ti_error rfl (bne_f rfl) | exact ok_neqE rfl ti_error rfl (bne_f (by first | rfl | omega)) | exact ok_neqE rfl ti_error rfl (bne_t (by first | assumption | omega)) | exact ok_neqE rfl ti_error rfl rfl) ?_); refine Jo xPk ?_; refine Je ?_) | (refine Tx 3 ?_; refine Jo (xLa tk_Diagram) ?_; refine Jo (xCl Tryd.func17 (SC)) ?_; refine Jo (by exact ok_mvT rfl rfl) ?_; refine Jo xEx ?_; refine Jo xEx ?_; refine Ja ?_; refine Ja ?_; refine Je ?_) | (refine Tx 4 ?_; refine Jo (xLa tk_Diagram) ?_; refine Jo (xCl Tryd.func26 (RD)) ?_; refine Ja ?_; refine Je ?_) | (refine Tx 5 ?_; refine Jm ?_; refine Jo (by first | exact ok_neqE rfl ti_error rfl (bne_f rfl) | exact ok_neqE rfl ti_error rfl (bne_f (by first | rfl | omega)) | exact ok_neqE rfl ti_error rfl (bne_t (by first | assumption | omega)) | exact ok_neqE rfl ti_error rfl rfl) ?_; refine Jm ?_; (first | refine Jd ?_ | refine Jy (by exact ok_mv1 rfl rfl) ?_); (first | refine Jd ?_ | refine Jy (xLn ts_s_Dyadic) ?_); (first | refine Jd ?_ | refine Jy (by exact ok_mv1 rfl rfl) ?_); (first | refine Jd ?_ | refine Jy (xLn ts_s_int) ?_); (first | refine Jd ?_ | refine Jy xNe ?_); refine Jo xPk ?_; refine Jm ?_; (first | refine Jd ?_ | refine Jy (xLa tk_Diagram) ?_); (first | refine Jd ?_ | refine Jy (xCl Tryd.func18 (RC)) ?_); (first | refine Jd ?_ | refine Jy xNe ?_); refine Jo xPk ?_; refine Je ?_) | (refine Tx 7 ?_; refine Jm ?_; refine Jo (xLn ts_s_s_int) ?_; refine Jm ?_; refine Je ?_))
  refine cw_wk (F' := ofL [(2, vr 0), (5, vd (.row false 3 (stN ps bs (startM bs) ((fitL ps ls).take 0)).length (flatD dyP (stN ps bs (startM bs) ((fitL ps ls).take 0))))), (7, vd (rowI false (natI (delL bs)))), (56, vd (rowLI true ls)), (57, vi ls.length), (58, vi ((0 : Nat)))]) (H' := [.box 41 [.d (rowP true ps), .d (rowB true bs), .d (rowI true os)]]) (wk_go [(2, vr 0), (5, vd (.row false 3 (stN ps bs (startM bs) ((fitL ps ls).take 0)).length (flatD dyP (stN ps bs (startM bs) ((fitL ps ls).take 0))))), (7, vd (rowI false (natI (delL bs)))), (56, vd (rowLI true ls)), (57, vi ls.length), (58, vi ((0 : Nat)))] 1 ?_ ?_ ?_) ?_
  · rfl
  · exact mB rfl rfl
  · exact ⟨bel_lit rfl, trivial⟩
  refine cw_loopW (fun n Fr H => ∃ k : Nat, k ≤ ls.length ∧ n = ls.length - k ∧ AllT ps bs (startM bs) ((fitL ps ls).take k) ∧ Fr = ofL [(2, vr 0), (5, vd (.row false 3 (stN ps bs (startM bs) ((fitL ps ls).take k)).length (flatD dyP (stN ps bs (startM bs) ((fitL ps ls).take k))))), (7, vd (rowI false (natI (delL bs)))), (56, vd (rowLI true ls)), (57, vi ls.length), (58, vi ((k : Nat)))] ∧ H = [.box 41 [.d (rowP true ps), .d (rowB true bs), .d (rowI true os)]]) (n0 := ls.length) ⟨0, Nat.zero_le _, rfl, AllT.nil, rfl, rfl⟩ ?_
  rintro n Fr H ⟨k, hk, rfl, hA, rfl, rfl⟩
  by_cases hlt : k < ls.length
  case pos =>
    obtain ⟨l, hi⟩ : ∃ l, ls[k]? = some l := ⟨_, List.getElem?_eq_getElem hlt⟩
    have hll := hil l (List.mem_of_getElem? hi)
    have hfi := fitL_at (ps := ps) hi
    have hok := stN_ok h0 (start_ok h0) hA
    have FT := fit_cv true true l hl (by omega)
    have hinl := inp_len ps l
    have hra := fun hT => hA.take_step hfi hT
    have hsn := stN_next (st := startM bs) (ps := ps) (bs := bs) hfi
    have hT4 := tick_four h0 (st := (stN ps bs (startM bs) ((fitL ps ls).take (k)))) (l := l)
    generalize (stN ps bs (startM bs) ((fitL ps ls).take (k))) = st at *
    generalize inpV ps l ps.length = ins at *
    have hsl2 := hok.len
    have ST := pstep_cv true false hl (st.map rvOf) (fun r hr => by obtain ⟨p, hp, rfl⟩ := List.mem_map.1 hr; exact ⟨canon_ok _, Nat.le_trans ((hok.sm p hp).lenN 128 (by decide)) (by decide)⟩) (by rw [List.length_map]; omega) ins (by omega)
    rw [rowR_of, rvOf_map, stE_of h0 hok] at ST
    by_cases hT : tickE ps bs st ins = 0
    case neg =>
      rw [okQ_n hT, okQ_n hT, hT4 hT] at ST
      have BI := (bis_cv 4 4).cv
      rw [show isB 4 4 = true from rfl] at BI
      repeat' (with_reducible first | apply qa | apply qb | apply qc | apply qd | apply qe | apply qf | apply qg | apply qh | apply qi | apply qj | apply qk | apply ql rfl | apply qm rfl | apply qn rfl | (refine Tx 8 ?_; refine Jo xLt ?_; refine Je ?_) | (refine Tx 9 ?_; refine Jo (xIr ts_s_s_int (lin_at hi)) ?_; refine Jo (xLd tk_s_int) ?_; refine Ja ?_; refine Je ?_) | (refine Tx 10 ?_; refine Jo (xLa tk_Diagram) ?_; refine Jm ?_; refine Jo (xCl Tryd.func27 (FT)) ?_; refine Ja ?_; refine Je ?_) | (refine Tx 11 ?_; refine Jo (xLa tk_Diagram) ?_; refine Jm ?_; refine Jm ?_; refine Jo (xCl Tryd.func16 (ST)) ?_; refine Jo (by exact ok_mvT rfl rfl) ?_; refine Jo xEx ?_; refine Jo xEx ?_; refine Jo xEx ?_; refine Ja ?_; refine Ja ?_; refine Ja ?_; refine Je ?_) | (refine Tx 12 ?_; refine Jm ?_; refine Jo (by first | exact ok_neqE rfl ti_error rfl (bne_t (by decide)) | exact ok_neqE rfl ti_error rfl (bne_f (by first | rfl | omega)) | exact ok_neqE rfl ti_error rfl (bne_t (by first | assumption | omega)) | exact ok_neqE rfl ti_error rfl rfl) ?_; refine Je ?_) | (refine Tx 13 ?_; refine Jm ?_; refine Jo (xCl Tryd.func11 (BI)) ?_; refine Ja ?_; refine Je ?_))
      exact ret_q rfl (.cons_ (rv_b rfl (rfl)) .nil_)
    rw [hT, okQ_z rfl, okQ_z rfl] at ST
    have hvs := val_sm h0 hok.len hok.nf hT
    have hvl : (valE ps bs st ins).length = bs.length := valE_len
    have hxl : (nextE ps bs st ins).length = (delL bs).length := nextE_len
    have hra := hra hT
    have hxs := (next_ok h0 hok.len hok.nf hT).sm
    have hVb := fun (i : Nat) (y : Bk) (hy : bs[i]? = some y) (hk : y.kind ≠ 2) => val_block h0 hok.len hok.nf hT hy hk
    have hVd := fun (k i : Nat) (hk : (delL bs)[k]? = some i) => val_delay (ps := ps) (ins := ins) hok.len hk
    have hVn := fun (k i : Nat) (hk : (delL bs)[k]? = some i) => next_at (ps := ps) (st := st) (ins := ins) hk
    have hTk := fun (i : Nat) (y : Bk) (hy : bs[i]? = some y) (hk : y.kind ≠ 2) => tick_blk h0 hok hT hy hk
    repeat' (with_reducible first | apply qa | apply qb | apply qc | apply qd | apply qe | apply qf | apply qg | apply qh | apply qi | apply qj | apply qk | apply ql rfl | apply qm rfl | apply qn rfl | (refine Tx 8 ?_; refine Jo xLt ?_; refine Je ?_) | (refine Tx 9 ?_; refine Jo (xIr ts_s_s_int (lin_at hi)) ?_; refine Jo (xLd tk_s_int) ?_; refine Ja ?_; refine Je ?_) | (refine Tx 10 ?_; refine Jo (xLa tk_Diagram) ?_; refine Jm ?_; refine Jo (xCl Tryd.func27 (FT)) ?_; refine Ja ?_; refine Je ?_) | (refine Tx 11 ?_; refine Jo (xLa tk_Diagram) ?_; refine Jm ?_; refine Jm ?_; refine Jo (xCl Tryd.func16 (ST)) ?_; refine Jo (by exact ok_mvT rfl rfl) ?_; refine Jo xEx ?_; refine Jo xEx ?_; refine Jo xEx ?_; refine Ja ?_; refine Ja ?_; refine Ja ?_; refine Je ?_) | (refine Tx 12 ?_; refine Jm ?_; refine Jo (by first | exact ok_neqE rfl ti_error rfl (bne_f rfl) | exact ok_neqE rfl ti_error rfl (bne_f (by first | rfl | omega)) | exact ok_neqE rfl ti_error rfl (bne_t (by first | assumption | omega)) | exact ok_neqE rfl ti_error rfl rfl) ?_; refine Je ?_) | (refine Tx 14 ?_; refine Jm ?_; refine Jo (xLn ts_s_Dyadic) ?_; refine Jo (xFa tf_Diagram1 tk_s_Block) ?_; refine Jo (xLd tk_s_Block) ?_; refine Jo (xLn ts_s_Block) ?_; refine Jo xNe ?_; refine Jm ?_; (first | refine Jd ?_ | refine Jy (by exact ok_mv1 rfl rfl) ?_); (first | refine Jd ?_ | refine Jy (xLn ts_s_Dyadic) ?_); (first | refine Jd ?_ | refine Jy (by exact ok_mv1 rfl rfl) ?_); (first | refine Jd ?_ | refine Jy (xLn ts_s_int) ?_); (first | refine Jd ?_ | refine Jy xNe ?_); refine Jo xPk ?_; refine Je ?_) | (refine Tx 16 ?_; refine Ja ?_; refine Je ?_) | (refine Tx 17 ?_; refine Jo (xFa tf_Diagram1 tk_s_Block) ?_; refine Jo (xLd tk_s_Block) ?_; refine Jo (xLn ts_s_Block) ?_; refine Jm ?_; refine Je ?_))
    generalize valE ps bs st ins = V at *
    generalize nextE ps bs st ins = X at *
    refine cw_wk (F' := ofL [(2, vr 0), (5, vd (.row false 3 st.length (flatD dyP st))), (7, vd (rowI false (natI (delL bs)))), (10, vd (rowI false ins)), (11, vd (.row false 3 X.length (flatD dyP X))), (12, vd (.row false 3 V.length (flatD dyP V))), (56, vd (rowLI true ls)), (57, vi ls.length), (58, vi ((k : Nat))), (14, vi (((dlK bs 0).length : Nat))), (91, vd (rowB true bs)), (92, vi bs.length), (93, vi ((0 : Nat)))]) (H' := [.box 41 [.d (rowP true ps), .d (rowB true bs), .d (rowI true os)]]) (wk_go [(2, vr 0), (5, vd (.row false 3 st.length (flatD dyP st))), (7, vd (rowI false (natI (delL bs)))), (10, vd (rowI false ins)), (11, vd (.row false 3 X.length (flatD dyP X))), (12, vd (.row false 3 V.length (flatD dyP V))), (56, vd (rowLI true ls)), (57, vi ls.length), (58, vi ((k : Nat))), (14, vi (((dlK bs 0).length : Nat))), (91, vd (rowB true bs)), (92, vi bs.length), (93, vi ((0 : Nat)))] 1 ?_ ?_ ?_) ?_
    · rfl
    · exact mB rfl rfl
    · exact ⟨bel_lit rfl, trivial⟩
    refine cw_loopW (fun n Fr H => ∃ j : Nat, j ≤ bs.length ∧ n = bs.length - j ∧ Fr = ofL [(2, vr 0), (5, vd (.row false 3 st.length (flatD dyP st))), (7, vd (rowI false (natI (delL bs)))), (10, vd (rowI false ins)), (11, vd (.row false 3 X.length (flatD dyP X))), (12, vd (.row false 3 V.length (flatD dyP V))), (56, vd (rowLI true ls)), (57, vi ls.length), (58, vi ((k : Nat))), (14, vi (((dlK bs j).length : Nat))), (91, vd (rowB true bs)), (92, vi bs.length), (93, vi ((j : Nat)))] ∧ H = [.box 41 [.d (rowP true ps), .d (rowB true bs), .d (rowI true os)]]) (n0 := bs.length) ⟨0, Nat.zero_le _, rfl, rfl, rfl⟩ ?_
    rintro n Fr H ⟨j, hj, rfl, rfl, rfl⟩
    by_cases hlj : j < bs.length
    case pos =>
      obtain ⟨y, hy⟩ : ∃ y, bs[j]? = some y := ⟨_, List.getElem?_eq_getElem hlj⟩
      obtain ⟨q, hq⟩ : ∃ q, V[j]? = some q := ⟨_, List.getElem?_eq_getElem (by omega)⟩
      have hqs := hvs q (List.mem_of_getElem? hq)
      have hql := Nat.le_trans (hqs.lenN 128 (by decide)) (show 128 ≤ 1000000 by decide)
      have SQ := dsame_cv false false q q hql hql
      rw [decide_eq_true rfl] at SQ
      have hA2 := acc_args h0 hy
      have hjl := dlK_len bs j
      by_cases k0 : y.kind = 0
      case pos =>
        obtain ⟨i0, z, pp, q0, r0, w0, z0, z1, f0, f1⟩ := (hTk j y hy (by omega)).hin k0
        have hb := hVb j y hy (by omega)
        have m1 := (List.getElem?_eq_some_iff.1 q0).1
        have m2 := (List.getElem?_eq_some_iff.1 r0).1
        have m3 := (List.getElem?_eq_some_iff.1 w0).1
        have PO := port_cv pp z z0 z1 f0 f1
        have hb2 : tickV y (argsE V y) ps ins = dyShift z 0 (-pp.fr) := by unfold tickV; rw [if_pos k0, q0]; simp [r0, w0]
        rw [hb2, hq] at hb
        obtain rfl := Option.some.inj hb
        have hkn : kindAt bs j ≠ 2 := by rw [kind_at hy]; omega
        repeat' (with_reducible first | apply qa | apply qb | apply qc | apply qd | apply qe | apply qf | apply qg | apply qh | apply qi | apply qj | apply qk | apply ql rfl | apply qm rfl | apply qn rfl | (refine Tx 18 ?_; refine Jo xLt ?_; refine Je ?_) | (refine Tx 19 ?_; refine Jm ?_; refine Jo (by first | exact xIr ts_s_Block (bk_at hy) | exact xIr ts_s_Block (dy_at hq)) ?_; refine Jo (xLa tk_Block) ?_; refine Jn (by exact ok_alloc rfl tz_Block) ?_; refine Ja ?_; refine Js (xSk tk_Block) ?_; refine Je ?_) | (refine Tx 20 ?_; refine Jn (by exact ok_alloc rfl tz_Dyadic) ?_; refine Je ?_) | (refine Tx 21 ?_; refine Jo (xFa tf_Block0 tk_int) ?_; refine Jo (xLd tk_int) ?_; refine Je ?_) | (refine Tx 29 ?_; refine Jo xEq ?_; refine Ja ?_; refine Je ?_) | (refine cw_part (id := 30) 16 mixed (by kernel_rfl) ?_; dsimp only [List.take, List.drop]; refine Ko (xFa tf_Diagram0 tk_s_Port) ?_; refine Ko (xLd tk_s_Port) ?_; refine Ko (xFa tf_Block1 tk_s_int) ?_; refine Ko (xLd tk_s_int) ?_; refine Ko (by first | exact xIr ts_s_int (int_at q0) | exact xIr ts_s_int (dy_at hq)) ?_; refine Ko (xLd tk_int) ?_; refine Ko (by first | exact xIr ts_s_Port (dy_at hq) | exact xIr ts_s_Port (prt_at w0)) ?_; refine Ko (xLa tk_Port) ?_; refine Km ?_; refine Ko (xFa tf_Block1 tk_s_int) ?_; refine Ko (xLd tk_s_int) ?_; refine Ko (by first | exact xIr ts_s_int (int_at q0) | exact xIr ts_s_int (dy_at hq)) ?_; refine Ko (xLd tk_int) ?_; refine Ko (by first | exact xIr ts_s_int (dy_at hq) | exact xIr ts_s_int (int_at r0)) ?_; refine Ko (xLd tk_int) ?_; refine Ko (xCl Tryd.func28 (PO)) ?_; refine Ke ?_; refine Js (xSk tk_Dyadic) ?_; refine Je ?_) | (refine cw_any (id := 36) mixed (by kernel_rfl) ?_; refine Km ?_; refine Km ?_; refine Ko (xIr ts_s_Dyadic (dy_at hq)) ?_; refine Ko (xLa tk_Dyadic) ?_; refine Ko (xLa tk_Dyadic) ?_; refine Ko (xCl Tryd.func12 (SQ)) ?_; refine Ko (by first | exact ok_not rfl rfl | exact ok_neg64 rfl rfl (by omega)) ?_; refine Ke ?_) | (refine Tx 38 ?_; refine Jo xAd ?_; refine Jm ?_; refine Je ?_))
        rw [← dlK_no hkn]
        refine ⟨_, _, wk_go [(2, vr 0), (5, vd (.row false 3 st.length (flatD dyP st))), (7, vd (rowI false (natI (delL bs)))), (10, vd (rowI false ins)), (11, vd (.row false 3 X.length (flatD dyP X))), (12, vd (.row false 3 V.length (flatD dyP V))), (56, vd (rowLI true ls)), (57, vi ls.length), (58, vi ((k : Nat))), (14, vi (((dlK bs ((j + 1))).length : Nat))), (91, vd (rowB true bs)), (92, vi bs.length), (93, vi (((j + 1) : Nat)))] 1 ?_ ?_ ?_, _, ?_, j + 1, by omega, rfl, rfl, rfl⟩
        · rfl
        · exact mB rfl rfl
        · exact ⟨bel_lit rfl, trivial⟩
        · omega
      by_cases k2 : y.kind = 2
      case pos =>
        have hkn : kindAt bs j = 2 := by rw [kind_at hy]; exact k2
        have hdr := del_rank hlj hkn
        have hdl := (List.getElem?_eq_some_iff.1 hdr).1
        obtain ⟨b, hA0, hbl⟩ := del_arg h0 hy k2
        obtain ⟨p, hp⟩ : ∃ p, V[b]? = some p := ⟨_, List.getElem?_eq_getElem (by omega)⟩
        have hps := hvs p (List.mem_of_getElem? hp)
        have hpl := Nat.le_trans (hps.lenN 128 (by decide)) (show 128 ≤ 1000000 by decide)
        have SP := dsame_cv false false p p hpl hpl
        rw [decide_eq_true rfl] at SP
        have hst := hVd _ _ hdr
        rw [hq] at hst
        have hst := hst.symm
        have hxt := hVn _ _ hdr
        rw [argZ_at hy hA0, hp, Option.getD_some] at hxt
        have hal := (List.getElem?_eq_some_iff.1 hA0).1
        repeat' (with_reducible first | apply qa | apply qb | apply qc | apply qd | apply qe | apply qf | apply qg | apply qh | apply qi | apply qj | apply qk | apply ql rfl | apply qm rfl | apply qn rfl | (refine Tx 18 ?_; refine Jo xLt ?_; refine Je ?_) | (refine Tx 19 ?_; refine Jm ?_; refine Jo (by first | exact xIr ts_s_Block (bk_at hy) | exact xIr ts_s_Block (dy_at hst) | exact xIr ts_s_Block (dy_at hxt) | exact xIr ts_s_Block (dy_at hp) | exact xIr ts_s_Block (dy_at hq)) ?_; refine Jo (xLa tk_Block) ?_; refine Jn (by exact ok_alloc rfl tz_Block) ?_; refine Ja ?_; refine Js (xSk tk_Block) ?_; refine Je ?_) | (refine Tx 20 ?_; refine Jn (by exact ok_alloc rfl tz_Dyadic) ?_; refine Je ?_) | (refine Tx 21 ?_; refine Jo (xFa tf_Block0 tk_int) ?_; refine Jo (xLd tk_int) ?_; refine Je ?_) | (refine Tx 29 ?_; refine Jo xEq ?_; refine Ja ?_; refine Je ?_) | (refine Tx 31 ?_; refine Jo xEq ?_; refine Ja ?_; refine Je ?_) | (refine Tx 32 ?_; refine Jm ?_; refine Jm ?_; refine Jo (by first | exact xIr ts_s_Dyadic (dy_at hst) | exact xIr ts_s_Dyadic (dy_at hxt) | exact xIr ts_s_Dyadic (dy_at hp) | exact xIr ts_s_Dyadic (dy_at hq)) ?_; refine Jo (xLa tk_Dyadic) ?_; refine Js (xSk tk_Dyadic) ?_; refine Je ?_) | (refine cw_any (id := 33) mixed (by kernel_rfl) ?_; refine Km ?_; refine Km ?_; refine Ko (by first | exact xIr ts_s_Dyadic (dy_at hxt) | exact xIr ts_s_Dyadic (dy_at hst) | exact xIr ts_s_Dyadic (dy_at hp) | exact xIr ts_s_Dyadic (dy_at hq)) ?_; refine Ko (xLa tk_Dyadic) ?_; refine Km ?_; refine Ko (xFa tf_Block1 tk_s_int) ?_; refine Ko (xLd tk_s_int) ?_; refine Ko (by first | exact xIr ts_s_int (int_at hA0) | exact xIr ts_s_int (dy_at hst) | exact xIr ts_s_int (dy_at hxt) | exact xIr ts_s_int (dy_at hp) | exact xIr ts_s_int (dy_at hq)) ?_; refine Ko (xLd tk_int) ?_; refine Ko (by first | exact xIr ts_s_Dyadic (dy_at hp) | exact xIr ts_s_Dyadic (dy_at hst) | exact xIr ts_s_Dyadic (dy_at hxt) | exact xIr ts_s_Dyadic (dy_at hq)) ?_; refine Ko (xLa tk_Dyadic) ?_; refine Ko (xCl Tryd.func12 (SP)) ?_; refine Ko (by first | exact ok_not rfl rfl | exact ok_neg64 rfl rfl (by omega)) ?_; refine Ke ?_) | (refine Tx 35 ?_; refine Jm ?_; refine Jo xAd ?_; refine Ja ?_; refine Je ?_) | (refine cw_any (id := 36) mixed (by kernel_rfl) ?_; refine Km ?_; refine Km ?_; refine Ko (by first | exact xIr ts_s_Dyadic (dy_at hq) | exact xIr ts_s_Dyadic (dy_at hst) | exact xIr ts_s_Dyadic (dy_at hxt) | exact xIr ts_s_Dyadic (dy_at hp)) ?_; refine Ko (xLa tk_Dyadic) ?_; refine Ko (xLa tk_Dyadic) ?_; refine Ko (xCl Tryd.func12 (SQ)) ?_; refine Ko (by first | exact ok_not rfl rfl | exact ok_neg64 rfl rfl (by omega)) ?_; refine Ke ?_) | (refine Tx 38 ?_; refine Jo xAd ?_; refine Jm ?_; refine Je ?_))
        have hcn : (((dlK bs j).length : Nat) : Int) + 1 = (((dlK bs (j + 1)).length : Nat) : Int) := by rw [dlK_yes hkn]; omega
        rw [hcn]
        refine ⟨_, _, wk_go [(2, vr 0), (5, vd (.row false 3 st.length (flatD dyP st))), (7, vd (rowI false (natI (delL bs)))), (10, vd (rowI false ins)), (11, vd (.row false 3 X.length (flatD dyP X))), (12, vd (.row false 3 V.length (flatD dyP V))), (56, vd (rowLI true ls)), (57, vi ls.length), (58, vi ((k : Nat))), (14, vi (((dlK bs ((j + 1))).length : Nat))), (91, vd (rowB true bs)), (92, vi bs.length), (93, vi (((j + 1) : Nat)))] 1 ?_ ?_ ?_, _, ?_, j + 1, by omega, rfl, rfl, rfl⟩
        · rfl
        · exact mB rfl rfl
        · exact ⟨bel_lit rfl, trivial⟩
        · omega
      have hkn : kindAt bs j ≠ 2 := by rw [kind_at hy]; exact k2
      have T := hTk j y hy k2
      have hb := hVb j y hy k2
      rw [tick_val k0, hq] at hb
      have hmo : mostM ps.length bs.length y.kind = bs.length := if_neg k0
      rw [hmo] at hA2
      have hXL := args_eLen (V := V) k0
      have hal := T.len
      repeat' (with_reducible first | apply qa | apply qb | apply qc | apply qd | apply qe | apply qf | apply qg | apply qh | apply qi | apply qj | apply qk | apply ql rfl | apply qm rfl | apply qn rfl | (refine Tx 18 ?_; refine Jo xLt ?_; refine Je ?_) | (refine Tx 19 ?_; refine Jm ?_; refine Jo (by first | exact xIr ts_s_Block (bk_at hy) | exact xIr ts_s_Block (dy_at hq)) ?_; refine Jo (xLa tk_Block) ?_; refine Jn (by exact ok_alloc rfl tz_Block) ?_; refine Ja ?_; refine Js (xSk tk_Block) ?_; refine Je ?_) | (refine Tx 20 ?_; refine Jn (by exact ok_alloc rfl tz_Dyadic) ?_; refine Je ?_) | (refine Tx 21 ?_; refine Jo (xFa tf_Block0 tk_int) ?_; refine Jo (xLd tk_int) ?_; refine Je ?_) | (refine Tx 29 ?_; refine Jo xEq ?_; refine Ja ?_; refine Je ?_) | (refine Tx 31 ?_; refine Jo xEq ?_; refine Ja ?_; refine Je ?_) | (refine Tx 22 ?_; refine Ja ?_; refine Je ?_))
      refine cw_wk (wk_nil 18 27 3 rfl) ?_
      repeat' (with_reducible first | apply qa | apply qb | apply qc | apply qd | apply qe | apply qf | apply qg | apply qh | apply qi | apply qj | apply qk | apply ql rfl | apply qm rfl | apply qn rfl | (refine Tx 23 ?_; refine Jo (xFa tf_Block1 tk_s_int) ?_; refine Jo (xLd tk_s_int) ?_; refine Jo (xLn ts_s_int) ?_; refine Jm ?_; refine Je ?_))
      refine cw_wk (F' := ofL [(2, vr 0), (5, vd (.row false 3 st.length (flatD dyP st))), (7, vd (rowI false (natI (delL bs)))), (10, vd (rowI false ins)), (11, vd (.row false 3 X.length (flatD dyP X))), (12, vd (.row false 3 V.length (flatD dyP V))), (56, vd (rowLI true ls)), (57, vi ls.length), (58, vi ((k : Nat))), (14, vi (((dlK bs j).length : Nat))), (91, vd (rowB true bs)), (92, vi bs.length), (93, vi ((j : Nat))), (15, vi ((j : Nat))), (16, vr 1), (17, vr 2), (18, vo 3 (((argsE V y).take 0).length)), (101, vd (rowI true y.args)), (102, vi y.args.length), (103, vi ((0 : Nat)))]) (H' := [.box 41 [.d (rowP true ps), .d (rowB true bs), .d (rowI true os)], .box 66 ((dBk true y).map C.d), .box 27 [.d (.val (.bool false)), .d (.val (.slice none 0 0)), .d (.val (.int .i64 0))], .row 27 3 ((argsE V y).take (0)).length ((flatD dyP ((argsE V y).take (0))).map C.d)]) (wk_go [(2, vr 0), (5, vd (.row false 3 st.length (flatD dyP st))), (7, vd (rowI false (natI (delL bs)))), (10, vd (rowI false ins)), (11, vd (.row false 3 X.length (flatD dyP X))), (12, vd (.row false 3 V.length (flatD dyP V))), (56, vd (rowLI true ls)), (57, vi ls.length), (58, vi ((k : Nat))), (14, vi (((dlK bs j).length : Nat))), (91, vd (rowB true bs)), (92, vi bs.length), (93, vi ((j : Nat))), (15, vi ((j : Nat))), (16, vr 1), (17, vr 2), (18, vo 3 (((argsE V y).take 0).length)), (101, vd (rowI true y.args)), (102, vi y.args.length), (103, vi ((0 : Nat)))] 4 ?_ ?_ ?_) ?_
      · rfl
      · exact mB rfl rfl
      · exact ⟨bel_lit rfl, bel_D, bel_lit rfl, bel_D, trivial⟩
      refine cw_loopW (fun n Fr H => ∃ u : Nat, u ≤ y.args.length ∧ n = y.args.length - u ∧ Fr = ofL [(2, vr 0), (5, vd (.row false 3 st.length (flatD dyP st))), (7, vd (rowI false (natI (delL bs)))), (10, vd (rowI false ins)), (11, vd (.row false 3 X.length (flatD dyP X))), (12, vd (.row false 3 V.length (flatD dyP V))), (56, vd (rowLI true ls)), (57, vi ls.length), (58, vi ((k : Nat))), (14, vi (((dlK bs j).length : Nat))), (91, vd (rowB true bs)), (92, vi bs.length), (93, vi ((j : Nat))), (15, vi ((j : Nat))), (16, vr 1), (17, vr 2), (18, vo 3 (((argsE V y).take u).length)), (101, vd (rowI true y.args)), (102, vi y.args.length), (103, vi ((u : Nat)))] ∧ H = [.box 41 [.d (rowP true ps), .d (rowB true bs), .d (rowI true os)], .box 66 ((dBk true y).map C.d), .box 27 [.d (.val (.bool false)), .d (.val (.slice none 0 0)), .d (.val (.int .i64 0))], .row 27 3 ((argsE V y).take (u)).length ((flatD dyP ((argsE V y).take (u))).map C.d)]) (n0 := y.args.length) ⟨0, Nat.zero_le _, rfl, rfl, rfl⟩ ?_
      rintro n Fr H ⟨u, hu, rfl, rfl, rfl⟩
      by_cases hlu : u < y.args.length
      case pos =>
        obtain ⟨a, ha⟩ : ∃ a, y.args[u]? = some a := ⟨_, List.getElem?_eq_getElem hlu⟩
        obtain ⟨a0, a1⟩ := hA2.2.2 a (List.mem_of_getElem? ha)
        obtain ⟨p, hp⟩ : ∃ p, V[a.toNat]? = some p := ⟨_, List.getElem?_eq_getElem (by omega)⟩
        have hpl := (List.getElem?_eq_some_iff.1 hp).1
        have hae : a = ((a.toNat : Nat) : Int) := by omega
        have hat := args_eAt (V := V) k0 ha hp
        obtain ⟨hap, hap2, hoL⟩ := flat_next hat
        repeat' (with_reducible first | apply qa | apply qb | apply qc | apply qd | apply qe | apply qf | apply qg | apply qh | apply qi | apply qj | apply qk | apply ql rfl | apply qm rfl | apply qn rfl | (refine Tx 24 ?_; refine Jo xLt ?_; refine Je ?_) | (refine Tx 25 ?_; refine Jo (by first | exact xIr ts_s_int (int_at ha) | exact ok_ixR (i := a.toNat) rfl rfl rfl hae ts_s_int (by omega) (by decide) (dy_at hp)) ?_; refine Jo (xLd tk_int) ?_; refine Ja ?_; refine Je ?_) | (refine Tx 26 ?_; refine Jm ?_; refine Jm ?_; refine Jm ?_; refine Jo (by exact ok_ixR (i := a.toNat) rfl rfl rfl hae ts_s_Dyadic (by omega) (by decide) (dy_at hp)) ?_; refine Jo (xLa tk_Dyadic) ?_; refine Jn (by exact ok_build1 rfl ts_s_Dyadic tz_Dyadic rfl rfl (by decide) (by decide)) ?_; refine Jt (by exact to_apD rfl rfl rfl rfl rfl rfl ts_s_Dyadic tz_Dyadic (by omega) (by decide) (by decide) rfl hap hap2) ?_; refine Ja ?_; refine Je ?_) | (refine Tx 27 ?_; refine Jo xAd ?_; refine Jm ?_; refine Je ?_))
        refine ⟨_, _, wk_go [(2, vr 0), (5, vd (.row false 3 st.length (flatD dyP st))), (7, vd (rowI false (natI (delL bs)))), (10, vd (rowI false ins)), (11, vd (.row false 3 X.length (flatD dyP X))), (12, vd (.row false 3 V.length (flatD dyP V))), (56, vd (rowLI true ls)), (57, vi ls.length), (58, vi ((k : Nat))), (14, vi (((dlK bs j).length : Nat))), (91, vd (rowB true bs)), (92, vi bs.length), (93, vi ((j : Nat))), (15, vi ((j : Nat))), (16, vr 1), (17, vr 2), (18, vo 3 (((argsE V y).take ((u + 1))).length)), (101, vd (rowI true y.args)), (102, vi y.args.length), (103, vi (((u + 1) : Nat)))] 4 ?_ ?_ ?_, _, ?_, u + 1, by omega, rfl, rfl, rfl⟩
        · rfl
        · exact mB rfl rfl
        · exact ⟨bel_lit rfl, bel_D, bel_lit rfl, bel_D, trivial⟩
        · omega
      obtain rfl : u = y.args.length := by omega
      clear hlu hu
      rw [← hXL, List.take_length]
      have BL := dblock_cv true true y (argsE V y) (by have := T.hk; omega) (fun h => by rw [hXL]; have h1 := hA2.1; have h2 := hA2.2.1; have := T.hk; unfold arityM at h1 h2; (repeat' split at h2) <;> omega) (fun h => by rw [hXL]; have h1 := hA2.1; have h2 := hA2.2.1; unfold arityM at h1 h2; (repeat' split at h2) <;> omega) (fun p hp => (args_eSm hvs p hp).more (by decide) (by decide)) (fun h => by obtain ⟨s1, s2, s3, s4⟩ := T.hsv h; omega) (fun h => by obtain ⟨s1, s2, s3, s4⟩ := T.hsu h; omega)
      obtain rfl := Option.some.inj hb
      repeat' (with_reducible first | apply qa | apply qb | apply qc | apply qd | apply qe | apply qf | apply qg | apply qh | apply qi | apply qj | apply qk | apply ql rfl | apply qm rfl | apply qn rfl | (refine Tx 24 ?_; refine Jo xLt ?_; refine Je ?_) | (refine Tx 28 ?_; refine Jo (xLa tk_Block) ?_; refine Jm ?_; refine Jo (xCl Tryd.func29 BL (ha := by with_unfolding_all first | ((repeat' first | exact lrel_n rfl rfl | refine lrel_c rfl rfl ?_ ?_ | refine xexp_1 rfl rfl ?_ | refine xexp_a rfl rfl ?_ | exact cexp_d rfl (fun h => by cases h) | exact cexp_oD rfl rfl rfl) <;> fail) | fail)) ?_; refine Js (xSk tk_Dyadic) ?_; refine Je ?_) | (refine cw_any (id := 36) mixed (by kernel_rfl) ?_; refine Km ?_; refine Km ?_; refine Ko (xIr ts_s_Dyadic (dy_at hq)) ?_; refine Ko (xLa tk_Dyadic) ?_; refine Ko (xLa tk_Dyadic) ?_; refine Ko (xCl Tryd.func12 (SQ)) ?_; refine Ko (by first | exact ok_not rfl rfl | exact ok_neg64 rfl rfl (by omega)) ?_; refine Ke ?_) | (refine Tx 38 ?_; refine Jo xAd ?_; refine Jm ?_; refine Je ?_))
      rw [← dlK_no hkn]
      refine ⟨_, _, wk_go [(2, vr 0), (5, vd (.row false 3 st.length (flatD dyP st))), (7, vd (rowI false (natI (delL bs)))), (10, vd (rowI false ins)), (11, vd (.row false 3 X.length (flatD dyP X))), (12, vd (.row false 3 V.length (flatD dyP V))), (56, vd (rowLI true ls)), (57, vi ls.length), (58, vi ((k : Nat))), (14, vi (((dlK bs ((j + 1))).length : Nat))), (91, vd (rowB true bs)), (92, vi bs.length), (93, vi (((j + 1) : Nat)))] 1 ?_ ?_ ?_, _, ?_, j + 1, by omega, rfl, rfl, rfl⟩
      · rfl
      · exact mB rfl rfl
      · exact ⟨bel_lit rfl, trivial⟩
      · omega
    obtain rfl : j = bs.length := by omega
    repeat' (with_reducible first | apply qa | apply qb | apply qc | apply qd | apply qe | apply qf | apply qg | apply qh | apply qi | apply qj | apply qk | apply ql rfl | apply qm rfl | apply qn rfl | (refine Tx 18 ?_; refine Jo xLt ?_; refine Je ?_) | (refine Tx 39 ?_; refine Jm ?_; refine Ja ?_; refine Je ?_) | (refine Tx 40 ?_; refine Jo xAd ?_; refine Jm ?_; refine Je ?_))
    rw [← hsn]
    exact ⟨_, _, wk_go [(2, vr 0), (5, vd (.row false 3 (stN ps bs (startM bs) ((fitL ps ls).take ((k + 1)))).length (flatD dyP (stN ps bs (startM bs) ((fitL ps ls).take ((k + 1))))))), (7, vd (rowI false (natI (delL bs)))), (56, vd (rowLI true ls)), (57, vi ls.length), (58, vi (((k + 1) : Nat)))] 1 rfl (mB rfl rfl) ⟨bel_lit rfl, trivial⟩, _, by omega, k + 1, by omega, rfl, hra, rfl, rfl⟩
  obtain rfl : k = ls.length := by omega
  repeat' (with_reducible first | apply qa | apply qb | apply qc | apply qd | apply qe | apply qf | apply qg | apply qh | apply qi | apply qj | apply qk | apply ql rfl | apply qm rfl | apply qn rfl | (refine Tx 8 ?_; refine Jo xLt ?_; refine Je ?_) | (refine Tx 41 ?_; refine Ja ?_; refine Je ?_))
  exact ret_q rfl (.cons_ (rv_b rfl (rfl)) .nil_)
end Go.Proofs.YtfooonellkgaeaaDoor
namespace Go.Proofs.YtfooonellkgaeaaDoor
open Go.ChangeShapes Go.WideShapes Go.ChangeAt Go.RowKit Go.Joins Go.Deep
def AllS (w : World) : Sets := fun t b => t = true ∧ b < w.heap.size
theorem row_in {w : World} {A : Option Addr} {s n c : Nat} {cs : List D} {xs : List Value} (h : CellsAt w w.heap.size A xs) (hc : n ≤ c) (hA : A = none → c = 0) (hl : cs.length = n * s) (hr : LRel (DRel w (AllS w)) cs xs) : DRel w (AllS w) (.row true s n cs) (.slice A n c) := by
  refine .row xs hc hA hl hr.1 (fun hne => ?_) hr.2
  obtain ⟨b, off, h1, _, h2, h3⟩ := h (fun h0 => hne (by have := hr.1; rw [h0] at this; exact List.eq_nil_of_length_eq_zero (by simpa using this)))
  exact ⟨b, off, h1, ⟨rfl, h2⟩, h3⟩
theorem ints_one {zs : List Int} : ∀ v ∈ ints zs, v.oneCell' = true := fun v hv => by
  obtain ⟨z, _, rfl⟩ := List.mem_map.1 hv
  rfl
theorem rowI_in {w : World} {A : Option Addr} {zs : List Int} {c : Nat} (h : CellsAt w w.heap.size A (ints zs)) (hc : zs.length ≤ c) (hA : A = none → c = 0) : DRel w (AllS w) (rowI true zs) (.slice A zs.length c) := by
  unfold rowI
  rw [dI_map]
  exact row_in h hc hA (by simp [ints]) (rel_vals ints_one)
theorem prt_one {ps : List Prt} : ∀ v ∈ flat Prt.cells ps, v.oneCell' = true := fun v hv => by
  obtain ⟨l, hl, hv⟩ := List.mem_flatten.1 hv
  obtain ⟨p, _, rfl⟩ := List.mem_map.1 hl
  simp only [Prt.cells, List.mem_cons, List.not_mem_nil, or_false] at hv
  rcases hv with rfl | rfl | rfl <;> rfl
theorem flat_lenV {α : Type} {f : α → List Value} {s : Nat} (hf : ∀ x, (f x).length = s) : ∀ l : List α, (flat f l).length = l.length * s
  | [] => by simp [flat]
  | x :: l => by
    have ih := flat_lenV hf l
    unfold flat at ih ⊢
    rw [List.map_cons, List.flatten_cons, List.length_append, ih, hf, List.length_cons, Nat.add_mul]
    omega
theorem rowP_in {w : World} {A : Option Addr} {ps : List Prt} {c : Nat} (h : CellsAt w w.heap.size A (flat Prt.cells ps)) (hc : ps.length ≤ c) (hA : A = none → c = 0) : DRel w (AllS w) (rowP true ps) (.slice A ps.length c) := by
  unfold rowP
  rw [flatD_vals dPrt_vals]
  exact row_in h hc hA (by rw [List.length_map]; exact flat_lenV (f := Prt.cells) (s := 3) (fun _ => rfl) ps) (rel_vals prt_one)
theorem bks_in {w : World} : ∀ {bs : List Bk}, (∀ b ∈ bs, CellsAt w w.heap.size b.A (ints b.args) ∧ b.args.length ≤ b.cap ∧ (b.A = none → b.cap = 0)) → LRel (DRel w (AllS w)) (flatD (dBk true) bs) (flat Bk.cells bs)
  | [], _ => .nil_
  | b :: bs, h => by
    have ih := bks_in (w := w) (bs := bs) fun x hx => h x (by simp [hx])
    obtain ⟨h1, h2, h3⟩ := h b (by simp)
    exact .cons_ (.val rfl) (.cons_ (rowI_in h1 h2 h3) (.cons_ (.val rfl) (.cons_ (.val rfl) (.cons_ (.val rfl) (.cons_ (.val rfl) ih)))))
theorem bks_len (t : Bool) : ∀ bs : List Bk, (flatD (dBk t) bs).length = bs.length * 6
  | [] => rfl
  | b :: bs => by
    have ih := bks_len t bs
    show (flatD (dBk t) ([b] ++ bs)).length = _
    rw [flatD_app, List.length_append, ih, List.length_cons, Nat.add_mul]
    show 6 + bs.length * 6 = _
    omega
section
variable {H : Type} {enc : TypeId × Value → H} {w : World} {spare : Nat → Bool} {held : Bool}
set_option maxRecDepth 100000 in
theorem open_dgA {r : Go.Reach} {b0 : Nat} {v : Value} {d : DataW H} {p : List MemPlace} (hv : Value.okWide Tryd.prog w r b0 41 v) (h : DataW.Trod enc Tryd.prog w 0 spare held 41 v d p) :
    ∃ (ps : List Prt) (bs : List Bk) (os : List Int), ARel w (AllS w) (aDg true ps bs os) v := by
  obtain ⟨v0, v1, v2, y0, y1, y2, m, rfl, rfl, rfl, g0, g1, g2⟩ := open_agg3 Tryd.underlying41 (by kernel_rfl) (by kernel_rfl) hv h
  obtain ⟨A1, c1, ps, rfl, n1, k1, l1, h1, b1⟩ := rows_of_cell prtOf prtOf_cells (fun _ => rfl) (by decide) Tryd.underlying37 Tryd.underlying69 (by kernel_rfl) (fields_int (by kernel_rfl)) (by kernel_rfl) rfl g0
  obtain ⟨A2, c2, bs, e2, l2, h2, b2⟩ := blks_of_cell g1
  obtain ⟨A3, c3, os, rfl, n3, k3, l3, h3, b3⟩ := ints_of_cell' Tryd.underlying39 Tryd.underlying3 (by kernel_rfl) g2
  have hs : (A2 = none → c2 = 0) ∧ bs.length ≤ c2 := by
    rcases open_slice Tryd.underlying38 g1 with ⟨hcs, _⟩ | ⟨a, len, cap, m, n, D, Pl, hcs, _, hl, hm, hmm, _, hx⟩
    · have e3 : v1 = .slice none 0 0 := by simpa using hcs
      rw [e2] at e3
      simp only [Value.slice.injEq] at e3
      exact ⟨fun _ => e3.2.2, by omega⟩
    · have e3 : v1 = .slice (some a) len cap := by simpa using hcs
      rw [e2] at e3
      simp only [Value.slice.injEq] at e3
      exact ⟨fun h0 => (by rw [e3.1] at h0; cases h0), by omega⟩
  refine ⟨ps, bs, os, [.slice A1 ps.length c1, v1, .slice A3 os.length c3], rfl, ?_⟩
  rw [e2]
  exact .cons_ (rowP_in h1 k1 n1) (.cons_ (row_in h2 hs.2 hs.1 (bks_len true bs) (bks_in fun b hb => ⟨(b2 b hb).2.2.2.1, (b2 b hb).2.1, (b2 b hb).1⟩)) (.cons_ (rowI_in h3 k3 n3) .nil_))
end
def AllF (w : World) : Sets := fun _ b => b < w.heap.size
theorem AllF.of {w : World} {x : A} {v : Value} (h : ARel w (AllS w) x v) : ARel w (AllF w) x v := h.mono (fun _ _ hb => hb.2) fun _ _ _ => rfl
theorem cv_lawA {f : FuncId} {args : List A} (h : CV Tryd.prog TabAt f args [aB true]) {w : World} (ht : TabAt w) {vs : List Value} (ha : LRel (ARel w (AllF w)) args vs) :
    Calls Tryd.prog f vs.toArray w fun e w' => e = .returned (.bool true) ∧ Below w.heap.size w w' :=
  (h w _ vs ht (fun t b hb => hb) ha).mono fun e w' ⟨v, h1, h2, h3⟩ => by
    have h4 : DRel w' _ (dB true) v := h2
    cases h4
    exact ⟨h1, h3⟩
structure RowA (α : Type) (s : Nat) where
  cs : List Value
  len : cs.length = s
  a : α
instance {α : Type} {s : Nat} [Inhabited α] : Inhabited (RowA α s) := ⟨⟨List.replicate s undef, List.length_replicate, default⟩⟩
section
variable {H : Type} {enc : TypeId × Value → H} {P : Program} {w : World} {spare : Nat → Bool} {held : Bool}
theorem rowsA_of_cell {α : Type} [Inhabited α] {s : Nat} {Q : α → List Value → Prop} (hs0 : 0 < s) {t e : TypeId} {fuel : Nat} {v : Value} {x : DataW H × List MemPlace} (ht : P.underlying t = some (.slice e)) (hC : P.cellsOf e = s)
    (hrow : ∀ (fuel : Nat) (cs : List Value) (x : DataW H × List MemPlace), DataW.trod enc P w 0 spare held fuel e cs = some x → cs.length = s → ∃ a, Q a cs)
    (h : DataW.trod enc P w 0 spare held fuel t [v] = some x) :
    ∃ (A : Option Addr) (cap : Nat) (l : List (RowA α s)), v = .slice A l.length cap ∧ (A = none → cap = 0) ∧ l.length ≤ cap ∧ l.length ≤ maxLen ∧ CellsAt w w.heap.size A (flat RowA.cs l) ∧ ∀ x ∈ l, Q x.a x.cs := by
  rcases open_slice ht h with ⟨hcs, _⟩ | ⟨a, len, cap, m, n, D, Pl, hcs, _, hl, hm, hmm, _, hx⟩
  · exact ⟨none, 0, [], by simpa using hcs, fun _ => rfl, Nat.le_refl _, Nat.zero_le _, CellsAt.nil_, by simp⟩
  · have hle : len ≤ m := by rw [hmm]; split <;> omega
    rw [hC] at hx
    obtain ⟨R, hR⟩ := choose_lt (α := RowA α s) (n := len) (p := fun i b => Q b.a b.cs ∧ ∀ j, j < s → w.cell? (a.add (i * s + j)) = b.cs[j]?) (fun i hi => by
      obtain ⟨cs', h1, h2⟩ := hx i (by omega)
      obtain ⟨_, hlen, hcell⟩ := World.cells?_some h1
      obtain ⟨b, hb⟩ := hrow _ _ _ h2 (by simpa using hlen)
      exact ⟨⟨cs', by simpa using hlen, b⟩, hb, fun j hj => by rw [← add_add]; exact hcell j hj⟩)
    refine ⟨some a, cap, (List.range len).map R, by simpa using hcs, by simp, by simpa using hl, by simp; omega, fun hne => ?_, ?_⟩
    · have hpos : 0 < len := by
        rcases Nat.eq_zero_or_pos len with h0 | h0
        · subst h0; simp [flat] at hne
        · exact h0
      obtain ⟨b, off, spot⟩ := a
      have h00 := (hR 0 hpos).2 0 hs0
      have hz0 : (R 0).cs[0]? = some ((R 0).cs[0]'(by rw [(R 0).len]; exact hs0)) := List.getElem?_eq_getElem _
      rw [hz0] at h00
      have hspot : spot = none := by simpa [Addr.add] using World.cell?_spot h00
      subst hspot
      have hb : b < w.heap.size := by
        rcases Nat.lt_or_ge b w.heap.size with h | h
        · exact h
        · simp [World.cell?, Addr.add, Array.getElem?_eq_none h] at h00
      refine ⟨b, off, rfl, hb, hb, fun j u hu => ?_⟩
      have hjl : j < len * s := by
        have := (List.getElem?_eq_some_iff.1 hu).1
        rw [flat_len (f := RowA.cs) (s := s) (fun x => x.len)] at this
        simpa using this
      have hk : j / s < len := Nat.div_lt_of_lt_mul (by rw [Nat.mul_comm]; exact hjl)
      have hr : j % s < s := Nat.mod_lt _ hs0
      have hj : j / s * s + j % s = j := by rw [Nat.mul_comm]; exact Nat.div_add_mod j s
      have hg : ((List.range len).map R)[j / s]? = some (R (j / s)) := by simp [hk]
      have h1 := flat_get (f := RowA.cs) (s := s) (fun x => x.len) hg hr
      rw [hj, hu] at h1
      have h2 := (hR _ hk).2 (j % s) hr
      rw [hj, ← h1] at h2
      rw [← Go.WideShapes.add_plain]
      exact h2
    · intro y hy
      obtain ⟨i, hi, rfl⟩ := List.mem_map.1 hy
      exact (hR i (by simpa using hi)).1
theorem row_inF {tg : Bool} {A : Option Addr} {s n c : Nat} {cs : List D} {xs : List Value} (h : CellsAt w w.heap.size A xs) (hc : n ≤ c) (hA : A = none → c = 0) (hl : cs.length = n * s) (hr : LRel (DRel w (AllF w)) cs xs) : DRel w (AllF w) (.row tg s n cs) (.slice A n c) := by
  refine .row xs hc hA hl hr.1 (fun hne => ?_) hr.2
  obtain ⟨b, off, h1, _, h2, h3⟩ := h (fun h0 => hne (by have := hr.1; rw [h0] at this; exact List.eq_nil_of_length_eq_zero (by simpa using this)))
  exact ⟨b, off, h1, h2, h3⟩
theorem sliceD {α : Type} [Inhabited α] (f : α → List D) (Q : α → Prop) {s : Nat} {tg : Bool} (hs0 : 0 < s) (hfl : ∀ a, (f a).length = s) {t e : TypeId} {fuel : Nat} {v : Value} {x : DataW H × List MemPlace} (ht : P.underlying t = some (.slice e)) (hC : P.cellsOf e = s)
    (hrow : ∀ (fuel : Nat) (cs : List Value) (x : DataW H × List MemPlace), DataW.trod enc P w 0 spare held fuel e cs = some x → cs.length = s → ∃ a, Q a ∧ LRel (DRel w (AllF w)) (f a) cs)
    (h : DataW.trod enc P w 0 spare held fuel t [v] = some x) : ∃ l : List α, DRel w (AllF w) (.row tg s l.length (flatD f l)) v ∧ (∀ a ∈ l, Q a) ∧ l.length ≤ maxLen := by
  obtain ⟨A, cap, l, rfl, hA, hc, hm, hcl, hQ⟩ := rowsA_of_cell (Q := fun a cs => Q a ∧ LRel (DRel w (AllF w)) (f a) cs) hs0 ht hC hrow h
  refine ⟨l.map RowA.a, ?_, fun a ha => ?_, by rw [List.length_map]; exact hm⟩
  · have key : ∀ l : List (RowA α s), (∀ x ∈ l, Q x.a ∧ LRel (DRel w (AllF w)) (f x.a) x.cs) → LRel (DRel w (AllF w)) (flatD f (l.map RowA.a)) (flat RowA.cs l) := fun l => by
      induction l with
      | nil => intro _; exact LRel.nil_
      | cons y l ih => intro hq; exact (hq y (List.mem_cons_self ..)).2.app (ih fun z hz => hq z (List.mem_cons_of_mem _ hz))
    have := row_inF (tg := tg) (n := (l.map RowA.a).length) hcl (by rw [List.length_map]; exact hc) hA (flatD_len (f := f) hfl _) (key l hQ)
    rwa [List.length_map] at this ⊢
  · obtain ⟨y, hy, rfl⟩ := List.mem_map.1 ha
    exact (hQ y hy).1
end
theorem flatD_one {α : Type} (f : α → D) (l : List α) : flatD (fun a => [f a]) l = l.map f := by
  induction l with
  | nil => rfl
  | cons a l ih => show f a :: flatD (fun a => [f a]) l = f a :: l.map f; rw [ih]
section
variable {H : Type} {enc : TypeId × Value → H} {w : World} {spare : Nat → Bool} {held : Bool}
instance : Inhabited Rv := ⟨⟨false, [], 0⟩⟩
def RvIn (r : Rv) : Prop := wordsOk r.ws ∧ r.ws.length ≤ maxLen ∧ -9223372036854775808 ≤ r.den ∧ r.den ≤ 9223372036854775807
set_option maxRecDepth 100000 in
theorem open_lints (tg : Bool) {r : Go.Reach} {b0 : Nat} {v : Value} {d : DataW H} {p : List MemPlace} (hv : Value.okWide Tryd.prog w r b0 44 v) (h : DataW.Trod enc Tryd.prog w 0 spare held 44 v d p) :
    ∃ ls : List (List Int), ARel w (AllF w) (.one (.row tg 1 ls.length (ls.map (rowI tg)))) v := by
  obtain ⟨a0, len, cap, rfl⟩ := okWide_slice Tryd.underlying44 hv
  obtain ⟨fuel, hf⟩ := h
  obtain ⟨ls, h1, _, _⟩ := sliceD (s := 1) (tg := tg) (fun l => [rowI tg l]) (fun _ => True) (by decide) (fun _ => rfl) Tryd.underlying44 (by kernel_rfl) (fun fuel cs x hx hl => by
    match cs, hl with
    | [c], _ =>
      obtain ⟨A, cp, zs, rfl, n, k, l, hc, b⟩ := ints_of_cell' Tryd.underlying39 Tryd.underlying3 (by kernel_rfl) hx
      refine ⟨zs, trivial, .cons_ ?_ .nil_⟩
      unfold rowI
      rw [dI_map]
      exact row_inF hc k n (by simp [ints]) (rel_vals ints_one)) hf
  rw [flatD_one] at h1
  exact ⟨ls, h1⟩
end
end Go.Proofs.YtfooonellkgaeaaDoor
