/- What the proofs of this claim share, part 17. No conditions. -/
import Derived.Test.YtfooonellkgaeaaDoorKe10
import Derived.Test.YtfooonellkgaeaaDoorKe6
import Derived.Test.YtfooonellkgaeaaDoorKe8
import Derived.Test.YtfooonellkgaeaaDoorKe16
import Derived.Deep.RegionHeld3
set_option linter.unusedVariables false
set_option linter.unusedSimpArgs false
set_option linter.unusedSectionVars false
namespace Go.Proofs.YtfooonellkgaeaaDoor
open Go.RowKit
set_option maxRecDepth 100000 in
set_option maxHeartbeats 8000000 in
theorem block_bad (d : Dg) (b : Bk) (w : World) (h : ¬ (0 ≤ arityM b.kind ∧ ((b.args.length : Nat) : Int) = arityM b.kind)) (hl : b.args.length ≤ 1000000) :
    Calls Tryd.prog 48 #[d.val, b.val] w fun e w' => e = .returned (.int .i64 (blkErr d.ps.length d.bs.length b)) ∧ Below w.heap.size w w' := by
  obtain ⟨A1, ps, c1, A2, bs, c2, A3, os, c3⟩ := d
  obtain ⟨kind, A, args, cap, vn, ve, un, ue⟩ := b
  dsimp only at h hl
  simp only [Dg.val, Bk.val]
  have b0 : Below w.heap.size w ((w.alloc (.cells #[.slice A1 ps.length c1, .slice A2 bs.length c2, .slice A3 os.length c3] 41)).alloc (.cells #[.int .i64 kind, .slice A args.length cap, .int .i64 vn, .int .i64 ve, .int .i64 un, .int .i64 ue] 66)) := ext_alloc (al_ _ _) _
  obtain ⟨K, hK⟩ : ∃ K, arityM kind = K := ⟨_, rfl⟩
  have HKK := Lib.hid hK
  by_cases hk0 : K < 0
  · have HE := Lib.hid (be1 (np := ps.length) (nb := bs.length) (b := ⟨kind, A, args, cap, vn, ve, un, ue⟩) (by show arityM kind < 0; omega))
    clear h hK
    go_enter Tryd.func48, Tryd.ntmps48
    go_wp2_with (go_at_call 83; refine (rArity_any _ _).mono ?_; rintro e w1 ⟨rfl, rfl⟩; rw [HKK.out])
    go_ret
    exact ⟨ar_eq HE.out.symm, b0⟩
  · have HE := Lib.hid (be2 (np := ps.length) (nb := bs.length) (b := ⟨kind, A, args, cap, vn, ve, un, ue⟩) (by show ¬ arityM kind < 0; omega) (fun h2 => h ⟨by omega, h2⟩))
    have hne : (((args.length : Nat) : Int) != K) = true := by
      rw [bne_iff_ne]
      intro h2
      exact h ⟨by omega, by omega⟩
    have hk1 : 0 ≤ K := by omega
    clear h hK hk0
    go_enter Tryd.func48, Tryd.ntmps48
    go_wp2_with (go_at_call 83; refine (rArity_any _ _).mono ?_; rintro e w1 ⟨rfl, rfl⟩; rw [HKK.out])
    go_ret
    exact ⟨ar_eq HE.out.symm, b0⟩
set_option maxRecDepth 100000 in
set_option maxHeartbeats 8000000 in
theorem block_0 (A1 : Option Addr) (ps : List Prt) (c1 : Nat) (A2 : Option Addr) (bs : List Bk) (c2 : Nat) (A3 : Option Addr) (os : List Int) (c3 : Nat) (A : Option Addr) (args : List Int) (cap : Nat) (vn ve un ue : Int) (m : Nat) (w : World)
    (hk0 : ¬ arityM 0 < 0) (hk1 : ((args.length : Nat) : Int) = arityM 0) (hl : args.length ≤ 1000000) (hl1 : ps.length ≤ 1000000) (hl2 : bs.length ≤ 1000000) (hm : m ≤ w.heap.size) (ha : CellsAt w m A (ints args)) :
    Calls Tryd.prog 48 #[.agg #[.slice A1 ps.length c1, .slice A2 bs.length c2, .slice A3 os.length c3], .agg #[.int .i64 0, .slice A args.length cap, .int .i64 vn, .int .i64 ve, .int .i64 un, .int .i64 ue]] w fun e w' => e = .returned (.int .i64 (blkErr ps.length bs.length ⟨0, A, args, cap, vn, ve, un, ue⟩)) ∧ Below w.heap.size w w' := by
  have b0 : Below w.heap.size w ((w.alloc (.cells #[.slice A1 ps.length c1, .slice A2 bs.length c2, .slice A3 os.length c3] 41)).alloc (.cells #[.int .i64 0, .slice A args.length cap, .int .i64 vn, .int .i64 ve, .int .i64 un, .int .i64 ue] 66)) := ext_alloc (al_ _ _) _
  have r0 := (RowD.new_ w [.slice A1 ps.length c1, .slice A2 bs.length c2, .slice A3 os.length c3] 41).call (al_ _ (.cells #[.int .i64 0, .slice A args.length cap, .int .i64 vn, .int .i64 ve, .int .i64 un, .int .i64 ue] 66))
  have r1 := RowD.new_ (w.alloc (.cells #[.slice A1 ps.length c1, .slice A2 bs.length c2, .slice A3 os.length c3] 41)) [.int .i64 0, .slice A args.length cap, .int .i64 vn, .int .i64 ve, .int .i64 un, .int .i64 ue] 66
  rw [show (w.alloc (.cells #[.slice A1 ps.length c1, .slice A2 bs.length c2, .slice A3 os.length c3] 41)).heap.size = w.heap.size + 1 by simp] at r1
  have HA := Lib.hid ha
  have HK0 := Lib.hid hk0
  have HK1 := Lib.hid hk1
  obtain ⟨K, hK⟩ : ∃ K, arityM 0 = K := ⟨_, rfl⟩
  have HKK := Lib.hid hK
  have hne : (((args.length : Nat) : Int) != K) = false := by rw [hk1, hK]; simp
  have hkk : 0 ≤ K := by omega
  clear ha hk0 hk1 hK
  go_enter Tryd.func48, Tryd.ntmps48
  have HM : Hid (mostM ps.length bs.length 0 = ps.length) := Lib.hid (rfl)
  have HV : Hid (valU 0 = false) := Lib.hid (by decide)
  have HU : Hid (clipU 0 = false) := Lib.hid (by decide)
  go_wp2_with (go_at_call 83; refine (rArity_any _ _).mono ?_; rintro e w1 ⟨rfl, rfl⟩; rw [HKK.out])
  obtain ⟨W, hW⟩ : ∃ W, W = ((w.alloc (.cells #[.slice A1 ps.length c1, .slice A2 bs.length c2, .slice A3 os.length c3] 41)).alloc (.cells #[.int .i64 0, .slice A args.length cap, .int .i64 vn, .int .i64 ve, .int .i64 un, .int .i64 ue] 66)) := ⟨_, rfl⟩
  rw [← hW]
  rw [← hW] at r0 r1 b0
  have hWs : W.heap.size = w.heap.size + 2 := by rw [hW]; simp
  clear hW
  have q0 : W.cell? ⟨w.heap.size + 1, 0, none⟩ = some (.int .i64 0) := r1.cell 0
  have q2 : W.cell? ⟨w.heap.size + 1, 2, none⟩ = some (.int .i64 vn) := r1.cell 2
  have q3 : W.cell? ⟨w.heap.size + 1, 3, none⟩ = some (.int .i64 ve) := r1.cell 3
  have HB0 := Lib.hid b0
  have R1 := Lib.hid r1
  have HA2 := Lib.hid (HA.out.below b0 hm)
  have hbs1 : (W.heap.size : Int) = w.heap.size + 2 := by omega
  clear r0 r1 b0
  go_loopw [34] (fun i wr => argRel args ps.length W i wr) (fun i _ => args.length - (intOf i).toNat)
  case atStart => exact ⟨0, Nat.zero_le _, rfl, rfl, rfl⟩
  case round =>
    as_aux_lemma =>
      obtain ⟨t, ht, rfl, hf, rfl⟩ := hrel
      have HF := Lib.hid hf
      clear hf
      by_cases hlt : t < args.length
      · obtain ⟨ab, ao, z, rfl, hab, hab2, hz, hzc⟩ := HA2.out.int_ hlt
        have HZ := Lib.hid hz
        clear hz
        by_cases h0 : 0 ≤ z ∧ z < (ps.length : Int)
        · have HZ2 := Lib.hid (out_step HZ.out h0 HF.out)
          have HWB := Lib.hid (show withinB z 0 ((ps.length : Int) - 1) = true from decide_eq_true ⟨h0.1, by have := h0.2; omega⟩)
          clear h0
          go_wp2_with (go_at_call 47; refine (within_any _ _ _ _).mono ?_; rintro e w1 ⟨rfl, rfl⟩; rw [HWB.out])
          exact ⟨⟨t + 1, by omega, by go_num, HZ2.out, rfl⟩, by simp [intOf]; omega⟩
        · have hE := Lib.hid (be3 (np := ps.length) (nb := bs.length) (b := ⟨0, some ⟨ab, ao, none⟩, args, cap, vn, ve, un, ue⟩) (Int.not_lt.2 HK0.out) HK1.out HM.out (out_hit HZ.out h0 HF.out))
          have HWB := Lib.hid (show withinB z 0 ((ps.length : Int) - 1) = false from decide_eq_false (fun h => h0 ⟨h.1, by have := h.2; omega⟩))
          clear h0
          go_wp2_with (go_at_call 47; refine (within_any _ _ _ _).mono ?_; rintro e w1 ⟨rfl, rfl⟩; rw [HWB.out])
          go_ret
          exact ⟨ar_eq hE.out.symm, HB0.out⟩
      · have P1 := Lib.hid (fe_all (k := t) (by rw [List.length_map]; omega) HF.out)
        clear HF
        have hE4 := fun h => be4 (np := ps.length) (nb := bs.length) (b := ⟨0, A, args, cap, vn, ve, un, ue⟩) (Int.not_lt.2 HK0.out) HK1.out HM.out P1.out HV.out h
        have hE5 := fun h4 h => be5 (np := ps.length) (nb := bs.length) (b := ⟨0, A, args, cap, vn, ve, un, ue⟩) (Int.not_lt.2 HK0.out) HK1.out HM.out P1.out HV.out h4 HU.out h
        have hE6 := fun h4 h5 h => be6 (np := ps.length) (nb := bs.length) (b := ⟨0, A, args, cap, vn, ve, un, ue⟩) (Int.not_lt.2 HK0.out) HK1.out HM.out P1.out HV.out h4 HU.out h5 h
        have hE7 := fun h4 h5 h => be7 (np := ps.length) (nb := bs.length) (b := ⟨0, A, args, cap, vn, ve, un, ue⟩) (Int.not_lt.2 HK0.out) HK1.out HM.out P1.out HV.out h4 HU.out h5 h
        dsimp only at hE4 hE5 hE6 hE7
        have HE4 := Lib.hid hE4
        have HE5 := Lib.hid hE5
        have HE6 := Lib.hid hE6
        have HE7 := Lib.hid hE7
        clear hE4 hE5 hE6 hE7
        go_wp2_with fail
        go_at_call 84
        refine (rScalar_any vn ve false wr).mono ?_
        rintro e w5 ⟨rfl, hb5⟩
        have N5 := Lib.hid (HB0.out.trans (hb5.mono (by omega)))
        have r5 := R1.out.call hb5
        have hz5 := hb5.size
        have z5 : w.heap.size + 1 < w5.heap.size := by omega
        have q4 : w5.cell? ⟨w.heap.size + 1, 4, none⟩ = some (.int .i64 un) := r5.cell 4
        have q5 : w5.cell? ⟨w.heap.size + 1, 5, none⟩ = some (.int .i64 ue) := r5.cell 5
        have R5 := Lib.hid r5
        clear r5 hb5 q0 q2 q3 hlt hbs1
        by_cases h4 : scalE vn ve false = 0
        · rw [h4]
          have H4 := Lib.hid h4
          clear h4
          go_wp2_with fail
          go_at_call 84
          refine (rScalar_any un ue false w5).mono ?_
          rintro e w6 ⟨rfl, hb6⟩
          have N6 := Lib.hid (N5.out.trans (hb6.mono (by omega)))
          have r6 := R5.out.call hb6
          have hz6 := hb6.size
          have z6 : w.heap.size + 1 < w6.heap.size := by omega
          have q2 : w6.cell? ⟨w.heap.size + 1, 2, none⟩ = some (.int .i64 vn) := r6.cell 2
          have q3 : w6.cell? ⟨w.heap.size + 1, 3, none⟩ = some (.int .i64 ve) := r6.cell 3
          have q6 : w6.cell? ⟨w.heap.size + 1, 4, none⟩ = some (.int .i64 un) := r6.cell 4
          have q7 : w6.cell? ⟨w.heap.size + 1, 5, none⟩ = some (.int .i64 ue) := r6.cell 5
          clear r6 hb6 q4 q5 z5
          by_cases h5 : scalE un ue false = 0
          · rw [h5]
            have H5 := Lib.hid h5
            clear h5
            go_wp2_with fail
            go_ret
            exact ⟨ar_eq (HE7.out H4.out H5.out (fun h => by cases h.1)).symm, N6.out⟩
          · have HE := Lib.hid (HE5.out H4.out h5)
            obtain ⟨q, hq⟩ : ∃ q, scalE un ue false = q := ⟨_, rfl⟩
            rw [hq] at h5 HE
            rw [hq]
            have hqb : (q != 0) = true := by simpa using h5
            clear hq h5
            go_wp2_with fail
            go_ret
            exact ⟨ar_eq HE.out.symm, N6.out⟩
        · have HE := Lib.hid (HE4.out h4)
          obtain ⟨q, hq⟩ : ∃ q, scalE vn ve false = q := ⟨_, rfl⟩
          rw [hq] at h4 HE
          rw [hq]
          have hqb : (q != 0) = true := by simpa using h4
          clear hq h4
          go_wp2_with fail
          go_ret
          exact ⟨ar_eq HE.out.symm, N5.out⟩
set_option maxRecDepth 100000 in
set_option maxHeartbeats 8000000 in
theorem block_11 (A1 : Option Addr) (ps : List Prt) (c1 : Nat) (A2 : Option Addr) (bs : List Bk) (c2 : Nat) (A3 : Option Addr) (os : List Int) (c3 : Nat) (A : Option Addr) (args : List Int) (cap : Nat) (vn ve un ue : Int) (m : Nat) (w : World)
    (hk0 : ¬ arityM 11 < 0) (hk1 : ((args.length : Nat) : Int) = arityM 11) (hl : args.length ≤ 1000000) (hl1 : ps.length ≤ 1000000) (hl2 : bs.length ≤ 1000000) (hm : m ≤ w.heap.size) (ha : CellsAt w m A (ints args)) :
    Calls Tryd.prog 48 #[.agg #[.slice A1 ps.length c1, .slice A2 bs.length c2, .slice A3 os.length c3], .agg #[.int .i64 11, .slice A args.length cap, .int .i64 vn, .int .i64 ve, .int .i64 un, .int .i64 ue]] w fun e w' => e = .returned (.int .i64 (blkErr ps.length bs.length ⟨11, A, args, cap, vn, ve, un, ue⟩)) ∧ Below w.heap.size w w' := by
  have b0 : Below w.heap.size w ((w.alloc (.cells #[.slice A1 ps.length c1, .slice A2 bs.length c2, .slice A3 os.length c3] 41)).alloc (.cells #[.int .i64 11, .slice A args.length cap, .int .i64 vn, .int .i64 ve, .int .i64 un, .int .i64 ue] 66)) := ext_alloc (al_ _ _) _
  have r0 := (RowD.new_ w [.slice A1 ps.length c1, .slice A2 bs.length c2, .slice A3 os.length c3] 41).call (al_ _ (.cells #[.int .i64 11, .slice A args.length cap, .int .i64 vn, .int .i64 ve, .int .i64 un, .int .i64 ue] 66))
  have r1 := RowD.new_ (w.alloc (.cells #[.slice A1 ps.length c1, .slice A2 bs.length c2, .slice A3 os.length c3] 41)) [.int .i64 11, .slice A args.length cap, .int .i64 vn, .int .i64 ve, .int .i64 un, .int .i64 ue] 66
  rw [show (w.alloc (.cells #[.slice A1 ps.length c1, .slice A2 bs.length c2, .slice A3 os.length c3] 41)).heap.size = w.heap.size + 1 by simp] at r1
  have HA := Lib.hid ha
  have HK0 := Lib.hid hk0
  have HK1 := Lib.hid hk1
  obtain ⟨K, hK⟩ : ∃ K, arityM 11 = K := ⟨_, rfl⟩
  have HKK := Lib.hid hK
  have hne : (((args.length : Nat) : Int) != K) = false := by rw [hk1, hK]; simp
  have hkk : 0 ≤ K := by omega
  clear ha hk0 hk1 hK
  go_enter Tryd.func48, Tryd.ntmps48
  have HM : Hid (mostM ps.length bs.length 11 = bs.length) := Lib.hid (rfl)
  have HV : Hid (valU 11 = true) := Lib.hid (by decide)
  have HU : Hid (clipU 11 = true) := Lib.hid (by decide)
  go_wp2_with (go_at_call 83; refine (rArity_any _ _).mono ?_; rintro e w1 ⟨rfl, rfl⟩; rw [HKK.out])
  obtain ⟨W, hW⟩ : ∃ W, W = ((w.alloc (.cells #[.slice A1 ps.length c1, .slice A2 bs.length c2, .slice A3 os.length c3] 41)).alloc (.cells #[.int .i64 11, .slice A args.length cap, .int .i64 vn, .int .i64 ve, .int .i64 un, .int .i64 ue] 66)) := ⟨_, rfl⟩
  rw [← hW]
  rw [← hW] at r0 r1 b0
  have hWs : W.heap.size = w.heap.size + 2 := by rw [hW]; simp
  clear hW
  have q0 : W.cell? ⟨w.heap.size + 1, 0, none⟩ = some (.int .i64 11) := r1.cell 0
  have q2 : W.cell? ⟨w.heap.size + 1, 2, none⟩ = some (.int .i64 vn) := r1.cell 2
  have q3 : W.cell? ⟨w.heap.size + 1, 3, none⟩ = some (.int .i64 ve) := r1.cell 3
  have HB0 := Lib.hid b0
  have R1 := Lib.hid r1
  have HA2 := Lib.hid (HA.out.below b0 hm)
  have hbs1 : (W.heap.size : Int) = w.heap.size + 2 := by omega
  clear r0 r1 b0
  go_loopw [34] (fun i wr => argRel args bs.length W i wr) (fun i _ => args.length - (intOf i).toNat)
  case atStart => exact ⟨0, Nat.zero_le _, rfl, rfl, rfl⟩
  case round =>
    as_aux_lemma =>
      obtain ⟨t, ht, rfl, hf, rfl⟩ := hrel
      have HF := Lib.hid hf
      clear hf
      by_cases hlt : t < args.length
      · obtain ⟨ab, ao, z, rfl, hab, hab2, hz, hzc⟩ := HA2.out.int_ hlt
        have HZ := Lib.hid hz
        clear hz
        by_cases h0 : 0 ≤ z ∧ z < (bs.length : Int)
        · have HZ2 := Lib.hid (out_step HZ.out h0 HF.out)
          have HWB := Lib.hid (show withinB z 0 ((bs.length : Int) - 1) = true from decide_eq_true ⟨h0.1, by have := h0.2; omega⟩)
          clear h0
          go_wp2_with (go_at_call 47; refine (within_any _ _ _ _).mono ?_; rintro e w1 ⟨rfl, rfl⟩; rw [HWB.out])
          exact ⟨⟨t + 1, by omega, by go_num, HZ2.out, rfl⟩, by simp [intOf]; omega⟩
        · have hE := Lib.hid (be3 (np := ps.length) (nb := bs.length) (b := ⟨11, some ⟨ab, ao, none⟩, args, cap, vn, ve, un, ue⟩) (Int.not_lt.2 HK0.out) HK1.out HM.out (out_hit HZ.out h0 HF.out))
          have HWB := Lib.hid (show withinB z 0 ((bs.length : Int) - 1) = false from decide_eq_false (fun h => h0 ⟨h.1, by have := h.2; omega⟩))
          clear h0
          go_wp2_with (go_at_call 47; refine (within_any _ _ _ _).mono ?_; rintro e w1 ⟨rfl, rfl⟩; rw [HWB.out])
          go_ret
          exact ⟨ar_eq hE.out.symm, HB0.out⟩
      · have P1 := Lib.hid (fe_all (k := t) (by rw [List.length_map]; omega) HF.out)
        clear HF
        have hE4 := fun h => be4 (np := ps.length) (nb := bs.length) (b := ⟨11, A, args, cap, vn, ve, un, ue⟩) (Int.not_lt.2 HK0.out) HK1.out HM.out P1.out HV.out h
        have hE5 := fun h4 h => be5 (np := ps.length) (nb := bs.length) (b := ⟨11, A, args, cap, vn, ve, un, ue⟩) (Int.not_lt.2 HK0.out) HK1.out HM.out P1.out HV.out h4 HU.out h
        have hE6 := fun h4 h5 h => be6 (np := ps.length) (nb := bs.length) (b := ⟨11, A, args, cap, vn, ve, un, ue⟩) (Int.not_lt.2 HK0.out) HK1.out HM.out P1.out HV.out h4 HU.out h5 h
        have hE7 := fun h4 h5 h => be7 (np := ps.length) (nb := bs.length) (b := ⟨11, A, args, cap, vn, ve, un, ue⟩) (Int.not_lt.2 HK0.out) HK1.out HM.out P1.out HV.out h4 HU.out h5 h
        dsimp only at hE4 hE5 hE6 hE7
        have HE4 := Lib.hid hE4
        have HE5 := Lib.hid hE5
        have HE6 := Lib.hid hE6
        have HE7 := Lib.hid hE7
        clear hE4 hE5 hE6 hE7
        go_wp2_with fail
        go_at_call 84
        refine (rScalar_any vn ve true wr).mono ?_
        rintro e w5 ⟨rfl, hb5⟩
        have N5 := Lib.hid (HB0.out.trans (hb5.mono (by omega)))
        have r5 := R1.out.call hb5
        have hz5 := hb5.size
        have z5 : w.heap.size + 1 < w5.heap.size := by omega
        have q4 : w5.cell? ⟨w.heap.size + 1, 4, none⟩ = some (.int .i64 un) := r5.cell 4
        have q5 : w5.cell? ⟨w.heap.size + 1, 5, none⟩ = some (.int .i64 ue) := r5.cell 5
        have R5 := Lib.hid r5
        clear r5 hb5 q0 q2 q3 hlt hbs1
        by_cases h4 : scalE vn ve true = 0
        · rw [h4]
          have H4 := Lib.hid h4
          clear h4
          go_wp2_with fail
          go_at_call 84
          refine (rScalar_any un ue true w5).mono ?_
          rintro e w6 ⟨rfl, hb6⟩
          have N6 := Lib.hid (N5.out.trans (hb6.mono (by omega)))
          have r6 := R5.out.call hb6
          have hz6 := hb6.size
          have z6 : w.heap.size + 1 < w6.heap.size := by omega
          have q2 : w6.cell? ⟨w.heap.size + 1, 2, none⟩ = some (.int .i64 vn) := r6.cell 2
          have q3 : w6.cell? ⟨w.heap.size + 1, 3, none⟩ = some (.int .i64 ve) := r6.cell 3
          have q6 : w6.cell? ⟨w.heap.size + 1, 4, none⟩ = some (.int .i64 un) := r6.cell 4
          have q7 : w6.cell? ⟨w.heap.size + 1, 5, none⟩ = some (.int .i64 ue) := r6.cell 5
          clear r6 hb6 q4 q5 z5
          by_cases h5 : scalE un ue true = 0
          · rw [h5]
            have H5 := Lib.hid h5
            clear h5
            go_wp2_with fail
            go_at_call 85
            refine (scmp_any vn ve un ue w6 (scOk_of H4.out) (scOk_of H5.out)).mono ?_
            rintro e w9 ⟨rfl, hb9⟩
            have N9 := Lib.hid (N6.out.trans (hb9.mono (by omega)))
            clear hb9
            obtain ⟨C, hC⟩ : ∃ C, scCmp vn ve un ue = C := ⟨_, rfl⟩
            have HC := Lib.hid hC
            rw [hC]
            clear hC
            by_cases hc : 0 < C
            · have HE := Lib.hid (HE6.out H4.out H5.out ⟨by trivial, by rw [HC.out]; exact hc⟩)
              go_wp2_with fail
              go_ret
              exact ⟨ar_eq HE.out.symm, N9.out⟩
            · have HE := Lib.hid (HE7.out H4.out H5.out (fun h => hc (by rw [← HC.out]; exact h.2)))
              go_wp2_with fail
              go_ret
              exact ⟨ar_eq HE.out.symm, N9.out⟩
          · have HE := Lib.hid (HE5.out H4.out h5)
            obtain ⟨q, hq⟩ : ∃ q, scalE un ue true = q := ⟨_, rfl⟩
            rw [hq] at h5 HE
            rw [hq]
            have hqb : (q != 0) = true := by simpa using h5
            clear hq h5
            go_wp2_with fail
            go_ret
            exact ⟨ar_eq HE.out.symm, N6.out⟩
        · have HE := Lib.hid (HE4.out h4)
          obtain ⟨q, hq⟩ : ∃ q, scalE vn ve true = q := ⟨_, rfl⟩
          rw [hq] at h4 HE
          rw [hq]
          have hqb : (q != 0) = true := by simpa using h4
          clear hq h4
          go_wp2_with fail
          go_ret
          exact ⟨ar_eq HE.out.symm, N5.out⟩
set_option maxRecDepth 100000 in
set_option maxHeartbeats 8000000 in
theorem block_1 (A1 : Option Addr) (ps : List Prt) (c1 : Nat) (A2 : Option Addr) (bs : List Bk) (c2 : Nat) (A3 : Option Addr) (os : List Int) (c3 : Nat) (A : Option Addr) (args : List Int) (cap : Nat) (vn ve un ue : Int) (m : Nat) (w : World)
    (hk0 : ¬ arityM 1 < 0) (hk1 : ((args.length : Nat) : Int) = arityM 1) (hl : args.length ≤ 1000000) (hl1 : ps.length ≤ 1000000) (hl2 : bs.length ≤ 1000000) (hm : m ≤ w.heap.size) (ha : CellsAt w m A (ints args)) :
    Calls Tryd.prog 48 #[.agg #[.slice A1 ps.length c1, .slice A2 bs.length c2, .slice A3 os.length c3], .agg #[.int .i64 1, .slice A args.length cap, .int .i64 vn, .int .i64 ve, .int .i64 un, .int .i64 ue]] w fun e w' => e = .returned (.int .i64 (blkErr ps.length bs.length ⟨1, A, args, cap, vn, ve, un, ue⟩)) ∧ Below w.heap.size w w' := by
  have b0 : Below w.heap.size w ((w.alloc (.cells #[.slice A1 ps.length c1, .slice A2 bs.length c2, .slice A3 os.length c3] 41)).alloc (.cells #[.int .i64 1, .slice A args.length cap, .int .i64 vn, .int .i64 ve, .int .i64 un, .int .i64 ue] 66)) := ext_alloc (al_ _ _) _
  have r0 := (RowD.new_ w [.slice A1 ps.length c1, .slice A2 bs.length c2, .slice A3 os.length c3] 41).call (al_ _ (.cells #[.int .i64 1, .slice A args.length cap, .int .i64 vn, .int .i64 ve, .int .i64 un, .int .i64 ue] 66))
  have r1 := RowD.new_ (w.alloc (.cells #[.slice A1 ps.length c1, .slice A2 bs.length c2, .slice A3 os.length c3] 41)) [.int .i64 1, .slice A args.length cap, .int .i64 vn, .int .i64 ve, .int .i64 un, .int .i64 ue] 66
  rw [show (w.alloc (.cells #[.slice A1 ps.length c1, .slice A2 bs.length c2, .slice A3 os.length c3] 41)).heap.size = w.heap.size + 1 by simp] at r1
  have HA := Lib.hid ha
  have HK0 := Lib.hid hk0
  have HK1 := Lib.hid hk1
  obtain ⟨K, hK⟩ : ∃ K, arityM 1 = K := ⟨_, rfl⟩
  have HKK := Lib.hid hK
  have hne : (((args.length : Nat) : Int) != K) = false := by rw [hk1, hK]; simp
  have hkk : 0 ≤ K := by omega
  clear ha hk0 hk1 hK
  go_enter Tryd.func48, Tryd.ntmps48
  have HM : Hid (mostM ps.length bs.length 1 = bs.length) := Lib.hid (rfl)
  have HV : Hid (valU 1 = true) := Lib.hid (by decide)
  have HU : Hid (clipU 1 = false) := Lib.hid (by decide)
  go_wp2_with (go_at_call 83; refine (rArity_any _ _).mono ?_; rintro e w1 ⟨rfl, rfl⟩; rw [HKK.out])
  obtain ⟨W, hW⟩ : ∃ W, W = ((w.alloc (.cells #[.slice A1 ps.length c1, .slice A2 bs.length c2, .slice A3 os.length c3] 41)).alloc (.cells #[.int .i64 1, .slice A args.length cap, .int .i64 vn, .int .i64 ve, .int .i64 un, .int .i64 ue] 66)) := ⟨_, rfl⟩
  rw [← hW]
  rw [← hW] at r0 r1 b0
  have hWs : W.heap.size = w.heap.size + 2 := by rw [hW]; simp
  clear hW
  have q0 : W.cell? ⟨w.heap.size + 1, 0, none⟩ = some (.int .i64 1) := r1.cell 0
  have q2 : W.cell? ⟨w.heap.size + 1, 2, none⟩ = some (.int .i64 vn) := r1.cell 2
  have q3 : W.cell? ⟨w.heap.size + 1, 3, none⟩ = some (.int .i64 ve) := r1.cell 3
  have HB0 := Lib.hid b0
  have R1 := Lib.hid r1
  have HA2 := Lib.hid (HA.out.below b0 hm)
  have hbs1 : (W.heap.size : Int) = w.heap.size + 2 := by omega
  clear r0 r1 b0
  go_loopw [34] (fun i wr => argRel args bs.length W i wr) (fun i _ => args.length - (intOf i).toNat)
  case atStart => exact ⟨0, Nat.zero_le _, rfl, rfl, rfl⟩
  case round =>
    as_aux_lemma =>
      obtain ⟨t, ht, rfl, hf, rfl⟩ := hrel
      have HF := Lib.hid hf
      clear hf
      by_cases hlt : t < args.length
      · obtain ⟨ab, ao, z, rfl, hab, hab2, hz, hzc⟩ := HA2.out.int_ hlt
        have HZ := Lib.hid hz
        clear hz
        by_cases h0 : 0 ≤ z ∧ z < (bs.length : Int)
        · have HZ2 := Lib.hid (out_step HZ.out h0 HF.out)
          have HWB := Lib.hid (show withinB z 0 ((bs.length : Int) - 1) = true from decide_eq_true ⟨h0.1, by have := h0.2; omega⟩)
          clear h0
          go_wp2_with (go_at_call 47; refine (within_any _ _ _ _).mono ?_; rintro e w1 ⟨rfl, rfl⟩; rw [HWB.out])
          exact ⟨⟨t + 1, by omega, by go_num, HZ2.out, rfl⟩, by simp [intOf]; omega⟩
        · have hE := Lib.hid (be3 (np := ps.length) (nb := bs.length) (b := ⟨1, some ⟨ab, ao, none⟩, args, cap, vn, ve, un, ue⟩) (Int.not_lt.2 HK0.out) HK1.out HM.out (out_hit HZ.out h0 HF.out))
          have HWB := Lib.hid (show withinB z 0 ((bs.length : Int) - 1) = false from decide_eq_false (fun h => h0 ⟨h.1, by have := h.2; omega⟩))
          clear h0
          go_wp2_with (go_at_call 47; refine (within_any _ _ _ _).mono ?_; rintro e w1 ⟨rfl, rfl⟩; rw [HWB.out])
          go_ret
          exact ⟨ar_eq hE.out.symm, HB0.out⟩
      · have P1 := Lib.hid (fe_all (k := t) (by rw [List.length_map]; omega) HF.out)
        clear HF
        have hE4 := fun h => be4 (np := ps.length) (nb := bs.length) (b := ⟨1, A, args, cap, vn, ve, un, ue⟩) (Int.not_lt.2 HK0.out) HK1.out HM.out P1.out HV.out h
        have hE5 := fun h4 h => be5 (np := ps.length) (nb := bs.length) (b := ⟨1, A, args, cap, vn, ve, un, ue⟩) (Int.not_lt.2 HK0.out) HK1.out HM.out P1.out HV.out h4 HU.out h
        have hE6 := fun h4 h5 h => be6 (np := ps.length) (nb := bs.length) (b := ⟨1, A, args, cap, vn, ve, un, ue⟩) (Int.not_lt.2 HK0.out) HK1.out HM.out P1.out HV.out h4 HU.out h5 h
        have hE7 := fun h4 h5 h => be7 (np := ps.length) (nb := bs.length) (b := ⟨1, A, args, cap, vn, ve, un, ue⟩) (Int.not_lt.2 HK0.out) HK1.out HM.out P1.out HV.out h4 HU.out h5 h
        dsimp only at hE4 hE5 hE6 hE7
        have HE4 := Lib.hid hE4
        have HE5 := Lib.hid hE5
        have HE6 := Lib.hid hE6
        have HE7 := Lib.hid hE7
        clear hE4 hE5 hE6 hE7
        go_wp2_with fail
        go_at_call 84
        refine (rScalar_any vn ve true wr).mono ?_
        rintro e w5 ⟨rfl, hb5⟩
        have N5 := Lib.hid (HB0.out.trans (hb5.mono (by omega)))
        have r5 := R1.out.call hb5
        have hz5 := hb5.size
        have z5 : w.heap.size + 1 < w5.heap.size := by omega
        have q4 : w5.cell? ⟨w.heap.size + 1, 4, none⟩ = some (.int .i64 un) := r5.cell 4
        have q5 : w5.cell? ⟨w.heap.size + 1, 5, none⟩ = some (.int .i64 ue) := r5.cell 5
        have R5 := Lib.hid r5
        clear r5 hb5 q0 q2 q3 hlt hbs1
        by_cases h4 : scalE vn ve true = 0
        · rw [h4]
          have H4 := Lib.hid h4
          clear h4
          go_wp2_with fail
          go_at_call 84
          refine (rScalar_any un ue false w5).mono ?_
          rintro e w6 ⟨rfl, hb6⟩
          have N6 := Lib.hid (N5.out.trans (hb6.mono (by omega)))
          have r6 := R5.out.call hb6
          have hz6 := hb6.size
          have z6 : w.heap.size + 1 < w6.heap.size := by omega
          have q2 : w6.cell? ⟨w.heap.size + 1, 2, none⟩ = some (.int .i64 vn) := r6.cell 2
          have q3 : w6.cell? ⟨w.heap.size + 1, 3, none⟩ = some (.int .i64 ve) := r6.cell 3
          have q6 : w6.cell? ⟨w.heap.size + 1, 4, none⟩ = some (.int .i64 un) := r6.cell 4
          have q7 : w6.cell? ⟨w.heap.size + 1, 5, none⟩ = some (.int .i64 ue) := r6.cell 5
          clear r6 hb6 q4 q5 z5
          by_cases h5 : scalE un ue false = 0
          · rw [h5]
            have H5 := Lib.hid h5
            clear h5
            go_wp2_with fail
            go_ret
            exact ⟨ar_eq (HE7.out H4.out H5.out (fun h => by cases h.1)).symm, N6.out⟩
          · have HE := Lib.hid (HE5.out H4.out h5)
            obtain ⟨q, hq⟩ : ∃ q, scalE un ue false = q := ⟨_, rfl⟩
            rw [hq] at h5 HE
            rw [hq]
            have hqb : (q != 0) = true := by simpa using h5
            clear hq h5
            go_wp2_with fail
            go_ret
            exact ⟨ar_eq HE.out.symm, N6.out⟩
        · have HE := Lib.hid (HE4.out h4)
          obtain ⟨q, hq⟩ : ∃ q, scalE vn ve true = q := ⟨_, rfl⟩
          rw [hq] at h4 HE
          rw [hq]
          have hqb : (q != 0) = true := by simpa using h4
          clear hq h4
          go_wp2_with fail
          go_ret
          exact ⟨ar_eq HE.out.symm, N5.out⟩
set_option maxRecDepth 100000 in
set_option maxHeartbeats 8000000 in
theorem block_2 (A1 : Option Addr) (ps : List Prt) (c1 : Nat) (A2 : Option Addr) (bs : List Bk) (c2 : Nat) (A3 : Option Addr) (os : List Int) (c3 : Nat) (A : Option Addr) (args : List Int) (cap : Nat) (vn ve un ue : Int) (m : Nat) (w : World)
    (hk0 : ¬ arityM 2 < 0) (hk1 : ((args.length : Nat) : Int) = arityM 2) (hl : args.length ≤ 1000000) (hl1 : ps.length ≤ 1000000) (hl2 : bs.length ≤ 1000000) (hm : m ≤ w.heap.size) (ha : CellsAt w m A (ints args)) :
    Calls Tryd.prog 48 #[.agg #[.slice A1 ps.length c1, .slice A2 bs.length c2, .slice A3 os.length c3], .agg #[.int .i64 2, .slice A args.length cap, .int .i64 vn, .int .i64 ve, .int .i64 un, .int .i64 ue]] w fun e w' => e = .returned (.int .i64 (blkErr ps.length bs.length ⟨2, A, args, cap, vn, ve, un, ue⟩)) ∧ Below w.heap.size w w' := by
  have b0 : Below w.heap.size w ((w.alloc (.cells #[.slice A1 ps.length c1, .slice A2 bs.length c2, .slice A3 os.length c3] 41)).alloc (.cells #[.int .i64 2, .slice A args.length cap, .int .i64 vn, .int .i64 ve, .int .i64 un, .int .i64 ue] 66)) := ext_alloc (al_ _ _) _
  have r0 := (RowD.new_ w [.slice A1 ps.length c1, .slice A2 bs.length c2, .slice A3 os.length c3] 41).call (al_ _ (.cells #[.int .i64 2, .slice A args.length cap, .int .i64 vn, .int .i64 ve, .int .i64 un, .int .i64 ue] 66))
  have r1 := RowD.new_ (w.alloc (.cells #[.slice A1 ps.length c1, .slice A2 bs.length c2, .slice A3 os.length c3] 41)) [.int .i64 2, .slice A args.length cap, .int .i64 vn, .int .i64 ve, .int .i64 un, .int .i64 ue] 66
  rw [show (w.alloc (.cells #[.slice A1 ps.length c1, .slice A2 bs.length c2, .slice A3 os.length c3] 41)).heap.size = w.heap.size + 1 by simp] at r1
  have HA := Lib.hid ha
  have HK0 := Lib.hid hk0
  have HK1 := Lib.hid hk1
  obtain ⟨K, hK⟩ : ∃ K, arityM 2 = K := ⟨_, rfl⟩
  have HKK := Lib.hid hK
  have hne : (((args.length : Nat) : Int) != K) = false := by rw [hk1, hK]; simp
  have hkk : 0 ≤ K := by omega
  clear ha hk0 hk1 hK
  go_enter Tryd.func48, Tryd.ntmps48
  have HM : Hid (mostM ps.length bs.length 2 = bs.length) := Lib.hid (rfl)
  have HV : Hid (valU 2 = true) := Lib.hid (by decide)
  have HU : Hid (clipU 2 = false) := Lib.hid (by decide)
  go_wp2_with (go_at_call 83; refine (rArity_any _ _).mono ?_; rintro e w1 ⟨rfl, rfl⟩; rw [HKK.out])
  obtain ⟨W, hW⟩ : ∃ W, W = ((w.alloc (.cells #[.slice A1 ps.length c1, .slice A2 bs.length c2, .slice A3 os.length c3] 41)).alloc (.cells #[.int .i64 2, .slice A args.length cap, .int .i64 vn, .int .i64 ve, .int .i64 un, .int .i64 ue] 66)) := ⟨_, rfl⟩
  rw [← hW]
  rw [← hW] at r0 r1 b0
  have hWs : W.heap.size = w.heap.size + 2 := by rw [hW]; simp
  clear hW
  have q0 : W.cell? ⟨w.heap.size + 1, 0, none⟩ = some (.int .i64 2) := r1.cell 0
  have q2 : W.cell? ⟨w.heap.size + 1, 2, none⟩ = some (.int .i64 vn) := r1.cell 2
  have q3 : W.cell? ⟨w.heap.size + 1, 3, none⟩ = some (.int .i64 ve) := r1.cell 3
  have HB0 := Lib.hid b0
  have R1 := Lib.hid r1
  have HA2 := Lib.hid (HA.out.below b0 hm)
  have hbs1 : (W.heap.size : Int) = w.heap.size + 2 := by omega
  clear r0 r1 b0
  go_loopw [34] (fun i wr => argRel args bs.length W i wr) (fun i _ => args.length - (intOf i).toNat)
  case atStart => exact ⟨0, Nat.zero_le _, rfl, rfl, rfl⟩
  case round =>
    as_aux_lemma =>
      obtain ⟨t, ht, rfl, hf, rfl⟩ := hrel
      have HF := Lib.hid hf
      clear hf
      by_cases hlt : t < args.length
      · obtain ⟨ab, ao, z, rfl, hab, hab2, hz, hzc⟩ := HA2.out.int_ hlt
        have HZ := Lib.hid hz
        clear hz
        by_cases h0 : 0 ≤ z ∧ z < (bs.length : Int)
        · have HZ2 := Lib.hid (out_step HZ.out h0 HF.out)
          have HWB := Lib.hid (show withinB z 0 ((bs.length : Int) - 1) = true from decide_eq_true ⟨h0.1, by have := h0.2; omega⟩)
          clear h0
          go_wp2_with (go_at_call 47; refine (within_any _ _ _ _).mono ?_; rintro e w1 ⟨rfl, rfl⟩; rw [HWB.out])
          exact ⟨⟨t + 1, by omega, by go_num, HZ2.out, rfl⟩, by simp [intOf]; omega⟩
        · have hE := Lib.hid (be3 (np := ps.length) (nb := bs.length) (b := ⟨2, some ⟨ab, ao, none⟩, args, cap, vn, ve, un, ue⟩) (Int.not_lt.2 HK0.out) HK1.out HM.out (out_hit HZ.out h0 HF.out))
          have HWB := Lib.hid (show withinB z 0 ((bs.length : Int) - 1) = false from decide_eq_false (fun h => h0 ⟨h.1, by have := h.2; omega⟩))
          clear h0
          go_wp2_with (go_at_call 47; refine (within_any _ _ _ _).mono ?_; rintro e w1 ⟨rfl, rfl⟩; rw [HWB.out])
          go_ret
          exact ⟨ar_eq hE.out.symm, HB0.out⟩
      · have P1 := Lib.hid (fe_all (k := t) (by rw [List.length_map]; omega) HF.out)
        clear HF
        have hE4 := fun h => be4 (np := ps.length) (nb := bs.length) (b := ⟨2, A, args, cap, vn, ve, un, ue⟩) (Int.not_lt.2 HK0.out) HK1.out HM.out P1.out HV.out h
        have hE5 := fun h4 h => be5 (np := ps.length) (nb := bs.length) (b := ⟨2, A, args, cap, vn, ve, un, ue⟩) (Int.not_lt.2 HK0.out) HK1.out HM.out P1.out HV.out h4 HU.out h
        have hE6 := fun h4 h5 h => be6 (np := ps.length) (nb := bs.length) (b := ⟨2, A, args, cap, vn, ve, un, ue⟩) (Int.not_lt.2 HK0.out) HK1.out HM.out P1.out HV.out h4 HU.out h5 h
        have hE7 := fun h4 h5 h => be7 (np := ps.length) (nb := bs.length) (b := ⟨2, A, args, cap, vn, ve, un, ue⟩) (Int.not_lt.2 HK0.out) HK1.out HM.out P1.out HV.out h4 HU.out h5 h
        dsimp only at hE4 hE5 hE6 hE7
        have HE4 := Lib.hid hE4
        have HE5 := Lib.hid hE5
        have HE6 := Lib.hid hE6
        have HE7 := Lib.hid hE7
        clear hE4 hE5 hE6 hE7
        go_wp2_with fail
        go_at_call 84
        refine (rScalar_any vn ve true wr).mono ?_
        rintro e w5 ⟨rfl, hb5⟩
        have N5 := Lib.hid (HB0.out.trans (hb5.mono (by omega)))
        have r5 := R1.out.call hb5
        have hz5 := hb5.size
        have z5 : w.heap.size + 1 < w5.heap.size := by omega
        have q4 : w5.cell? ⟨w.heap.size + 1, 4, none⟩ = some (.int .i64 un) := r5.cell 4
        have q5 : w5.cell? ⟨w.heap.size + 1, 5, none⟩ = some (.int .i64 ue) := r5.cell 5
        have R5 := Lib.hid r5
        clear r5 hb5 q0 q2 q3 hlt hbs1
        by_cases h4 : scalE vn ve true = 0
        · rw [h4]
          have H4 := Lib.hid h4
          clear h4
          go_wp2_with fail
          go_at_call 84
          refine (rScalar_any un ue false w5).mono ?_
          rintro e w6 ⟨rfl, hb6⟩
          have N6 := Lib.hid (N5.out.trans (hb6.mono (by omega)))
          have r6 := R5.out.call hb6
          have hz6 := hb6.size
          have z6 : w.heap.size + 1 < w6.heap.size := by omega
          have q2 : w6.cell? ⟨w.heap.size + 1, 2, none⟩ = some (.int .i64 vn) := r6.cell 2
          have q3 : w6.cell? ⟨w.heap.size + 1, 3, none⟩ = some (.int .i64 ve) := r6.cell 3
          have q6 : w6.cell? ⟨w.heap.size + 1, 4, none⟩ = some (.int .i64 un) := r6.cell 4
          have q7 : w6.cell? ⟨w.heap.size + 1, 5, none⟩ = some (.int .i64 ue) := r6.cell 5
          clear r6 hb6 q4 q5 z5
          by_cases h5 : scalE un ue false = 0
          · rw [h5]
            have H5 := Lib.hid h5
            clear h5
            go_wp2_with fail
            go_ret
            exact ⟨ar_eq (HE7.out H4.out H5.out (fun h => by cases h.1)).symm, N6.out⟩
          · have HE := Lib.hid (HE5.out H4.out h5)
            obtain ⟨q, hq⟩ : ∃ q, scalE un ue false = q := ⟨_, rfl⟩
            rw [hq] at h5 HE
            rw [hq]
            have hqb : (q != 0) = true := by simpa using h5
            clear hq h5
            go_wp2_with fail
            go_ret
            exact ⟨ar_eq HE.out.symm, N6.out⟩
        · have HE := Lib.hid (HE4.out h4)
          obtain ⟨q, hq⟩ : ∃ q, scalE vn ve true = q := ⟨_, rfl⟩
          rw [hq] at h4 HE
          rw [hq]
          have hqb : (q != 0) = true := by simpa using h4
          clear hq h4
          go_wp2_with fail
          go_ret
          exact ⟨ar_eq HE.out.symm, N5.out⟩
set_option maxRecDepth 100000 in
set_option maxHeartbeats 8000000 in
theorem block_6 (A1 : Option Addr) (ps : List Prt) (c1 : Nat) (A2 : Option Addr) (bs : List Bk) (c2 : Nat) (A3 : Option Addr) (os : List Int) (c3 : Nat) (A : Option Addr) (args : List Int) (cap : Nat) (vn ve un ue : Int) (m : Nat) (w : World)
    (hk0 : ¬ arityM 6 < 0) (hk1 : ((args.length : Nat) : Int) = arityM 6) (hl : args.length ≤ 1000000) (hl1 : ps.length ≤ 1000000) (hl2 : bs.length ≤ 1000000) (hm : m ≤ w.heap.size) (ha : CellsAt w m A (ints args)) :
    Calls Tryd.prog 48 #[.agg #[.slice A1 ps.length c1, .slice A2 bs.length c2, .slice A3 os.length c3], .agg #[.int .i64 6, .slice A args.length cap, .int .i64 vn, .int .i64 ve, .int .i64 un, .int .i64 ue]] w fun e w' => e = .returned (.int .i64 (blkErr ps.length bs.length ⟨6, A, args, cap, vn, ve, un, ue⟩)) ∧ Below w.heap.size w w' := by
  have b0 : Below w.heap.size w ((w.alloc (.cells #[.slice A1 ps.length c1, .slice A2 bs.length c2, .slice A3 os.length c3] 41)).alloc (.cells #[.int .i64 6, .slice A args.length cap, .int .i64 vn, .int .i64 ve, .int .i64 un, .int .i64 ue] 66)) := ext_alloc (al_ _ _) _
  have r0 := (RowD.new_ w [.slice A1 ps.length c1, .slice A2 bs.length c2, .slice A3 os.length c3] 41).call (al_ _ (.cells #[.int .i64 6, .slice A args.length cap, .int .i64 vn, .int .i64 ve, .int .i64 un, .int .i64 ue] 66))
  have r1 := RowD.new_ (w.alloc (.cells #[.slice A1 ps.length c1, .slice A2 bs.length c2, .slice A3 os.length c3] 41)) [.int .i64 6, .slice A args.length cap, .int .i64 vn, .int .i64 ve, .int .i64 un, .int .i64 ue] 66
  rw [show (w.alloc (.cells #[.slice A1 ps.length c1, .slice A2 bs.length c2, .slice A3 os.length c3] 41)).heap.size = w.heap.size + 1 by simp] at r1
  have HA := Lib.hid ha
  have HK0 := Lib.hid hk0
  have HK1 := Lib.hid hk1
  obtain ⟨K, hK⟩ : ∃ K, arityM 6 = K := ⟨_, rfl⟩
  have HKK := Lib.hid hK
  have hne : (((args.length : Nat) : Int) != K) = false := by rw [hk1, hK]; simp
  have hkk : 0 ≤ K := by omega
  clear ha hk0 hk1 hK
  go_enter Tryd.func48, Tryd.ntmps48
  have HM : Hid (mostM ps.length bs.length 6 = bs.length) := Lib.hid (rfl)
  have HV : Hid (valU 6 = true) := Lib.hid (by decide)
  have HU : Hid (clipU 6 = false) := Lib.hid (by decide)
  go_wp2_with (go_at_call 83; refine (rArity_any _ _).mono ?_; rintro e w1 ⟨rfl, rfl⟩; rw [HKK.out])
  obtain ⟨W, hW⟩ : ∃ W, W = ((w.alloc (.cells #[.slice A1 ps.length c1, .slice A2 bs.length c2, .slice A3 os.length c3] 41)).alloc (.cells #[.int .i64 6, .slice A args.length cap, .int .i64 vn, .int .i64 ve, .int .i64 un, .int .i64 ue] 66)) := ⟨_, rfl⟩
  rw [← hW]
  rw [← hW] at r0 r1 b0
  have hWs : W.heap.size = w.heap.size + 2 := by rw [hW]; simp
  clear hW
  have q0 : W.cell? ⟨w.heap.size + 1, 0, none⟩ = some (.int .i64 6) := r1.cell 0
  have q2 : W.cell? ⟨w.heap.size + 1, 2, none⟩ = some (.int .i64 vn) := r1.cell 2
  have q3 : W.cell? ⟨w.heap.size + 1, 3, none⟩ = some (.int .i64 ve) := r1.cell 3
  have HB0 := Lib.hid b0
  have R1 := Lib.hid r1
  have HA2 := Lib.hid (HA.out.below b0 hm)
  have hbs1 : (W.heap.size : Int) = w.heap.size + 2 := by omega
  clear r0 r1 b0
  go_loopw [34] (fun i wr => argRel args bs.length W i wr) (fun i _ => args.length - (intOf i).toNat)
  case atStart => exact ⟨0, Nat.zero_le _, rfl, rfl, rfl⟩
  case round =>
    as_aux_lemma =>
      obtain ⟨t, ht, rfl, hf, rfl⟩ := hrel
      have HF := Lib.hid hf
      clear hf
      by_cases hlt : t < args.length
      · obtain ⟨ab, ao, z, rfl, hab, hab2, hz, hzc⟩ := HA2.out.int_ hlt
        have HZ := Lib.hid hz
        clear hz
        by_cases h0 : 0 ≤ z ∧ z < (bs.length : Int)
        · have HZ2 := Lib.hid (out_step HZ.out h0 HF.out)
          have HWB := Lib.hid (show withinB z 0 ((bs.length : Int) - 1) = true from decide_eq_true ⟨h0.1, by have := h0.2; omega⟩)
          clear h0
          go_wp2_with (go_at_call 47; refine (within_any _ _ _ _).mono ?_; rintro e w1 ⟨rfl, rfl⟩; rw [HWB.out])
          exact ⟨⟨t + 1, by omega, by go_num, HZ2.out, rfl⟩, by simp [intOf]; omega⟩
        · have hE := Lib.hid (be3 (np := ps.length) (nb := bs.length) (b := ⟨6, some ⟨ab, ao, none⟩, args, cap, vn, ve, un, ue⟩) (Int.not_lt.2 HK0.out) HK1.out HM.out (out_hit HZ.out h0 HF.out))
          have HWB := Lib.hid (show withinB z 0 ((bs.length : Int) - 1) = false from decide_eq_false (fun h => h0 ⟨h.1, by have := h.2; omega⟩))
          clear h0
          go_wp2_with (go_at_call 47; refine (within_any _ _ _ _).mono ?_; rintro e w1 ⟨rfl, rfl⟩; rw [HWB.out])
          go_ret
          exact ⟨ar_eq hE.out.symm, HB0.out⟩
      · have P1 := Lib.hid (fe_all (k := t) (by rw [List.length_map]; omega) HF.out)
        clear HF
        have hE4 := fun h => be4 (np := ps.length) (nb := bs.length) (b := ⟨6, A, args, cap, vn, ve, un, ue⟩) (Int.not_lt.2 HK0.out) HK1.out HM.out P1.out HV.out h
        have hE5 := fun h4 h => be5 (np := ps.length) (nb := bs.length) (b := ⟨6, A, args, cap, vn, ve, un, ue⟩) (Int.not_lt.2 HK0.out) HK1.out HM.out P1.out HV.out h4 HU.out h
        have hE6 := fun h4 h5 h => be6 (np := ps.length) (nb := bs.length) (b := ⟨6, A, args, cap, vn, ve, un, ue⟩) (Int.not_lt.2 HK0.out) HK1.out HM.out P1.out HV.out h4 HU.out h5 h
        have hE7 := fun h4 h5 h => be7 (np := ps.length) (nb := bs.length) (b := ⟨6, A, args, cap, vn, ve, un, ue⟩) (Int.not_lt.2 HK0.out) HK1.out HM.out P1.out HV.out h4 HU.out h5 h
        dsimp only at hE4 hE5 hE6 hE7
        have HE4 := Lib.hid hE4
        have HE5 := Lib.hid hE5
        have HE6 := Lib.hid hE6
        have HE7 := Lib.hid hE7
        clear hE4 hE5 hE6 hE7
        go_wp2_with fail
        go_at_call 84
        refine (rScalar_any vn ve true wr).mono ?_
        rintro e w5 ⟨rfl, hb5⟩
        have N5 := Lib.hid (HB0.out.trans (hb5.mono (by omega)))
        have r5 := R1.out.call hb5
        have hz5 := hb5.size
        have z5 : w.heap.size + 1 < w5.heap.size := by omega
        have q4 : w5.cell? ⟨w.heap.size + 1, 4, none⟩ = some (.int .i64 un) := r5.cell 4
        have q5 : w5.cell? ⟨w.heap.size + 1, 5, none⟩ = some (.int .i64 ue) := r5.cell 5
        have R5 := Lib.hid r5
        clear r5 hb5 q0 q2 q3 hlt hbs1
        by_cases h4 : scalE vn ve true = 0
        · rw [h4]
          have H4 := Lib.hid h4
          clear h4
          go_wp2_with fail
          go_at_call 84
          refine (rScalar_any un ue false w5).mono ?_
          rintro e w6 ⟨rfl, hb6⟩
          have N6 := Lib.hid (N5.out.trans (hb6.mono (by omega)))
          have r6 := R5.out.call hb6
          have hz6 := hb6.size
          have z6 : w.heap.size + 1 < w6.heap.size := by omega
          have q2 : w6.cell? ⟨w.heap.size + 1, 2, none⟩ = some (.int .i64 vn) := r6.cell 2
          have q3 : w6.cell? ⟨w.heap.size + 1, 3, none⟩ = some (.int .i64 ve) := r6.cell 3
          have q6 : w6.cell? ⟨w.heap.size + 1, 4, none⟩ = some (.int .i64 un) := r6.cell 4
          have q7 : w6.cell? ⟨w.heap.size + 1, 5, none⟩ = some (.int .i64 ue) := r6.cell 5
          clear r6 hb6 q4 q5 z5
          by_cases h5 : scalE un ue false = 0
          · rw [h5]
            have H5 := Lib.hid h5
            clear h5
            go_wp2_with fail
            go_ret
            exact ⟨ar_eq (HE7.out H4.out H5.out (fun h => by cases h.1)).symm, N6.out⟩
          · have HE := Lib.hid (HE5.out H4.out h5)
            obtain ⟨q, hq⟩ : ∃ q, scalE un ue false = q := ⟨_, rfl⟩
            rw [hq] at h5 HE
            rw [hq]
            have hqb : (q != 0) = true := by simpa using h5
            clear hq h5
            go_wp2_with fail
            go_ret
            exact ⟨ar_eq HE.out.symm, N6.out⟩
        · have HE := Lib.hid (HE4.out h4)
          obtain ⟨q, hq⟩ : ∃ q, scalE vn ve true = q := ⟨_, rfl⟩
          rw [hq] at h4 HE
          rw [hq]
          have hqb : (q != 0) = true := by simpa using h4
          clear hq h4
          go_wp2_with fail
          go_ret
          exact ⟨ar_eq HE.out.symm, N5.out⟩
set_option maxRecDepth 100000 in
set_option maxHeartbeats 8000000 in
theorem block_x (A1 : Option Addr) (ps : List Prt) (c1 : Nat) (A2 : Option Addr) (bs : List Bk) (c2 : Nat) (A3 : Option Addr) (os : List Int) (c3 : Nat) (kind : Int) (A : Option Addr) (args : List Int) (cap : Nat) (vn ve un ue : Int) (m : Nat) (w : World) (h0 : ¬ kind = 0) (h1 : ¬ kind = 1) (h2 : ¬ kind = 2) (h6 : ¬ kind = 6) (h11 : ¬ kind = 11)
    (hk0 : ¬ arityM kind < 0) (hk1 : ((args.length : Nat) : Int) = arityM kind) (hl : args.length ≤ 1000000) (hl1 : ps.length ≤ 1000000) (hl2 : bs.length ≤ 1000000) (hm : m ≤ w.heap.size) (ha : CellsAt w m A (ints args)) :
    Calls Tryd.prog 48 #[.agg #[.slice A1 ps.length c1, .slice A2 bs.length c2, .slice A3 os.length c3], .agg #[.int .i64 kind, .slice A args.length cap, .int .i64 vn, .int .i64 ve, .int .i64 un, .int .i64 ue]] w fun e w' => e = .returned (.int .i64 (blkErr ps.length bs.length ⟨kind, A, args, cap, vn, ve, un, ue⟩)) ∧ Below w.heap.size w w' := by
  have b0 : Below w.heap.size w ((w.alloc (.cells #[.slice A1 ps.length c1, .slice A2 bs.length c2, .slice A3 os.length c3] 41)).alloc (.cells #[.int .i64 kind, .slice A args.length cap, .int .i64 vn, .int .i64 ve, .int .i64 un, .int .i64 ue] 66)) := ext_alloc (al_ _ _) _
  have r0 := (RowD.new_ w [.slice A1 ps.length c1, .slice A2 bs.length c2, .slice A3 os.length c3] 41).call (al_ _ (.cells #[.int .i64 kind, .slice A args.length cap, .int .i64 vn, .int .i64 ve, .int .i64 un, .int .i64 ue] 66))
  have r1 := RowD.new_ (w.alloc (.cells #[.slice A1 ps.length c1, .slice A2 bs.length c2, .slice A3 os.length c3] 41)) [.int .i64 kind, .slice A args.length cap, .int .i64 vn, .int .i64 ve, .int .i64 un, .int .i64 ue] 66
  rw [show (w.alloc (.cells #[.slice A1 ps.length c1, .slice A2 bs.length c2, .slice A3 os.length c3] 41)).heap.size = w.heap.size + 1 by simp] at r1
  have HA := Lib.hid ha
  have HK0 := Lib.hid hk0
  have HK1 := Lib.hid hk1
  obtain ⟨K, hK⟩ : ∃ K, arityM kind = K := ⟨_, rfl⟩
  have HKK := Lib.hid hK
  have hne : (((args.length : Nat) : Int) != K) = false := by rw [hk1, hK]; simp
  have hkk : 0 ≤ K := by omega
  clear ha hk0 hk1 hK
  have e0 : (kind == 0) = false := by simpa using h0
  have e1 : (kind == 1) = false := by simpa using h1
  have e2 : (kind == 2) = false := by simpa using h2
  have e6 : (kind == 6) = false := by simpa using h6
  have e11 : (kind == 11) = false := by simpa using h11
  go_enter Tryd.func48, Tryd.ntmps48
  have HM : Hid (mostM ps.length bs.length kind = bs.length) := Lib.hid (if_neg h0)
  have HV : Hid (valU kind = false) := Lib.hid (by unfold valU; rw [e11, e1, e2, e6]; rfl)
  have HU : Hid (clipU kind = false) := Lib.hid (e11)
  clear h0 h1 h2 h6 h11
  go_wp2_with (go_at_call 83; refine (rArity_any _ _).mono ?_; rintro e w1 ⟨rfl, rfl⟩; rw [HKK.out])
  obtain ⟨W, hW⟩ : ∃ W, W = ((w.alloc (.cells #[.slice A1 ps.length c1, .slice A2 bs.length c2, .slice A3 os.length c3] 41)).alloc (.cells #[.int .i64 kind, .slice A args.length cap, .int .i64 vn, .int .i64 ve, .int .i64 un, .int .i64 ue] 66)) := ⟨_, rfl⟩
  rw [← hW]
  rw [← hW] at r0 r1 b0
  have hWs : W.heap.size = w.heap.size + 2 := by rw [hW]; simp
  clear hW
  have q0 : W.cell? ⟨w.heap.size + 1, 0, none⟩ = some (.int .i64 kind) := r1.cell 0
  have q2 : W.cell? ⟨w.heap.size + 1, 2, none⟩ = some (.int .i64 vn) := r1.cell 2
  have q3 : W.cell? ⟨w.heap.size + 1, 3, none⟩ = some (.int .i64 ve) := r1.cell 3
  have HB0 := Lib.hid b0
  have R1 := Lib.hid r1
  have HA2 := Lib.hid (HA.out.below b0 hm)
  have hbs1 : (W.heap.size : Int) = w.heap.size + 2 := by omega
  clear r0 r1 b0
  go_loopw [34] (fun i wr => argRel args bs.length W i wr) (fun i _ => args.length - (intOf i).toNat)
  case atStart => exact ⟨0, Nat.zero_le _, rfl, rfl, rfl⟩
  case round =>
    as_aux_lemma =>
      obtain ⟨t, ht, rfl, hf, rfl⟩ := hrel
      have HF := Lib.hid hf
      clear hf
      by_cases hlt : t < args.length
      · obtain ⟨ab, ao, z, rfl, hab, hab2, hz, hzc⟩ := HA2.out.int_ hlt
        have HZ := Lib.hid hz
        clear hz
        by_cases h0 : 0 ≤ z ∧ z < (bs.length : Int)
        · have HZ2 := Lib.hid (out_step HZ.out h0 HF.out)
          have HWB := Lib.hid (show withinB z 0 ((bs.length : Int) - 1) = true from decide_eq_true ⟨h0.1, by have := h0.2; omega⟩)
          clear h0
          go_wp2_with (go_at_call 47; refine (within_any _ _ _ _).mono ?_; rintro e w1 ⟨rfl, rfl⟩; rw [HWB.out])
          exact ⟨⟨t + 1, by omega, by go_num, HZ2.out, rfl⟩, by simp [intOf]; omega⟩
        · have hE := Lib.hid (be3 (np := ps.length) (nb := bs.length) (b := ⟨kind, some ⟨ab, ao, none⟩, args, cap, vn, ve, un, ue⟩) (Int.not_lt.2 HK0.out) HK1.out HM.out (out_hit HZ.out h0 HF.out))
          have HWB := Lib.hid (show withinB z 0 ((bs.length : Int) - 1) = false from decide_eq_false (fun h => h0 ⟨h.1, by have := h.2; omega⟩))
          clear h0
          go_wp2_with (go_at_call 47; refine (within_any _ _ _ _).mono ?_; rintro e w1 ⟨rfl, rfl⟩; rw [HWB.out])
          go_ret
          exact ⟨ar_eq hE.out.symm, HB0.out⟩
      · have P1 := Lib.hid (fe_all (k := t) (by rw [List.length_map]; omega) HF.out)
        clear HF
        have hE4 := fun h => be4 (np := ps.length) (nb := bs.length) (b := ⟨kind, A, args, cap, vn, ve, un, ue⟩) (Int.not_lt.2 HK0.out) HK1.out HM.out P1.out HV.out h
        have hE5 := fun h4 h => be5 (np := ps.length) (nb := bs.length) (b := ⟨kind, A, args, cap, vn, ve, un, ue⟩) (Int.not_lt.2 HK0.out) HK1.out HM.out P1.out HV.out h4 HU.out h
        have hE6 := fun h4 h5 h => be6 (np := ps.length) (nb := bs.length) (b := ⟨kind, A, args, cap, vn, ve, un, ue⟩) (Int.not_lt.2 HK0.out) HK1.out HM.out P1.out HV.out h4 HU.out h5 h
        have hE7 := fun h4 h5 h => be7 (np := ps.length) (nb := bs.length) (b := ⟨kind, A, args, cap, vn, ve, un, ue⟩) (Int.not_lt.2 HK0.out) HK1.out HM.out P1.out HV.out h4 HU.out h5 h
        dsimp only at hE4 hE5 hE6 hE7
        have HE4 := Lib.hid hE4
        have HE5 := Lib.hid hE5
        have HE6 := Lib.hid hE6
        have HE7 := Lib.hid hE7
        clear hE4 hE5 hE6 hE7
        go_wp2_with fail
        go_at_call 84
        refine (rScalar_any vn ve false wr).mono ?_
        rintro e w5 ⟨rfl, hb5⟩
        have N5 := Lib.hid (HB0.out.trans (hb5.mono (by omega)))
        have r5 := R1.out.call hb5
        have hz5 := hb5.size
        have z5 : w.heap.size + 1 < w5.heap.size := by omega
        have q4 : w5.cell? ⟨w.heap.size + 1, 4, none⟩ = some (.int .i64 un) := r5.cell 4
        have q5 : w5.cell? ⟨w.heap.size + 1, 5, none⟩ = some (.int .i64 ue) := r5.cell 5
        have R5 := Lib.hid r5
        clear r5 hb5 q0 q2 q3 hlt hbs1
        by_cases h4 : scalE vn ve false = 0
        · rw [h4]
          have H4 := Lib.hid h4
          clear h4
          go_wp2_with fail
          go_at_call 84
          refine (rScalar_any un ue false w5).mono ?_
          rintro e w6 ⟨rfl, hb6⟩
          have N6 := Lib.hid (N5.out.trans (hb6.mono (by omega)))
          have r6 := R5.out.call hb6
          have hz6 := hb6.size
          have z6 : w.heap.size + 1 < w6.heap.size := by omega
          have q2 : w6.cell? ⟨w.heap.size + 1, 2, none⟩ = some (.int .i64 vn) := r6.cell 2
          have q3 : w6.cell? ⟨w.heap.size + 1, 3, none⟩ = some (.int .i64 ve) := r6.cell 3
          have q6 : w6.cell? ⟨w.heap.size + 1, 4, none⟩ = some (.int .i64 un) := r6.cell 4
          have q7 : w6.cell? ⟨w.heap.size + 1, 5, none⟩ = some (.int .i64 ue) := r6.cell 5
          clear r6 hb6 q4 q5 z5
          by_cases h5 : scalE un ue false = 0
          · rw [h5]
            have H5 := Lib.hid h5
            clear h5
            go_wp2_with fail
            go_ret
            exact ⟨ar_eq (HE7.out H4.out H5.out (fun h => by cases h.1)).symm, N6.out⟩
          · have HE := Lib.hid (HE5.out H4.out h5)
            obtain ⟨q, hq⟩ : ∃ q, scalE un ue false = q := ⟨_, rfl⟩
            rw [hq] at h5 HE
            rw [hq]
            have hqb : (q != 0) = true := by simpa using h5
            clear hq h5
            go_wp2_with fail
            go_ret
            exact ⟨ar_eq HE.out.symm, N6.out⟩
        · have HE := Lib.hid (HE4.out h4)
          obtain ⟨q, hq⟩ : ∃ q, scalE vn ve false = q := ⟨_, rfl⟩
          rw [hq] at h4 HE
          rw [hq]
          have hqb : (q != 0) = true := by simpa using h4
          clear hq h4
          go_wp2_with fail
          go_ret
          exact ⟨ar_eq HE.out.symm, N5.out⟩
theorem block_any (d : Dg) (b : Bk) (m : Nat) (w : World) (hm : m ≤ w.heap.size) (hb : CellsAt w m b.A (ints b.args)) (hl : b.args.length ≤ 1000000) (hl1 : d.ps.length ≤ 1000000) (hl2 : d.bs.length ≤ 1000000) :
    Calls Tryd.prog 48 #[d.val, b.val] w fun e w' => e = .returned (.int .i64 (blkErr d.ps.length d.bs.length b)) ∧ Below w.heap.size w w' := by
  by_cases h : 0 ≤ arityM b.kind ∧ ((b.args.length : Nat) : Int) = arityM b.kind
  · obtain ⟨A1, ps, c1, A2, bs, c2, A3, os, c3⟩ := d
    obtain ⟨kind, A, args, cap, vn, ve, un, ue⟩ := b
    dsimp only at h hb hl hl1 hl2
    have hk0 : ¬ arityM kind < 0 := by omega
    by_cases h0 : kind = 0
    · subst h0; exact block_0 A1 ps c1 A2 bs c2 A3 os c3 A args cap vn ve un ue m w hk0 h.2 hl hl1 hl2 hm hb
    · by_cases h1 : kind = 1
      · subst h1; exact block_1 A1 ps c1 A2 bs c2 A3 os c3 A args cap vn ve un ue m w hk0 h.2 hl hl1 hl2 hm hb
      · by_cases h2 : kind = 2
        · subst h2; exact block_2 A1 ps c1 A2 bs c2 A3 os c3 A args cap vn ve un ue m w hk0 h.2 hl hl1 hl2 hm hb
        · by_cases h6 : kind = 6
          · subst h6; exact block_6 A1 ps c1 A2 bs c2 A3 os c3 A args cap vn ve un ue m w hk0 h.2 hl hl1 hl2 hm hb
          · by_cases h11 : kind = 11
            · subst h11; exact block_11 A1 ps c1 A2 bs c2 A3 os c3 A args cap vn ve un ue m w hk0 h.2 hl hl1 hl2 hm hb
            · exact block_x A1 ps c1 A2 bs c2 A3 os c3 kind A args cap vn ve un ue m w h0 h1 h2 h6 h11 hk0 h.2 hl hl1 hl2 hm hb
  · exact block_bad d b w h hl
theorem rport_ok {p q r : Int} (h : portE ⟨p, q, r⟩ = 0) : -2147483648 ≤ p ∧ p ≤ q ∧ q < 2147483648 ∧ 0 ≤ r ∧ r ≤ 30 := by
  unfold portE at h
  by_cases h2 : -2147483648 ≤ p ∧ p ≤ q ∧ q < 2147483648 ∧ 0 ≤ r ∧ r ≤ 30
  · exact h2
  · rw [if_neg h2] at h; cases h
theorem rport_bad {p q r : Int} (h : ¬ portE ⟨p, q, r⟩ = 0) : portE ⟨p, q, r⟩ = 3 := by
  unfold portE at h ⊢
  by_cases h2 : -2147483648 ≤ p ∧ p ≤ q ∧ q < 2147483648 ∧ 0 ≤ r ∧ r ≤ 30
  · exact absurd (if_pos h2) h
  · exact if_neg h2
theorem port_of {p q r : Int} (h : -2147483648 ≤ p ∧ p ≤ q ∧ q < 2147483648 ∧ withinB r 0 30 = true) : portE ⟨p, q, r⟩ = 0 := by
  have h5 : 0 ≤ r ∧ r ≤ 30 := of_decide_eq_true h.2.2.2
  exact if_pos ⟨h.1, h.2.1, h.2.2.1, h5.1, h5.2⟩
theorem ord_le (bs : List Bk) : (ordM bs).length ≤ nonDel bs := (ordN_ok bs.length (OutOk.nil bs)).le
set_option maxRecDepth 100000 in
set_option maxHeartbeats 8000000 in
theorem rCheck_any (d : Dg) (m : Nat) (w : World) (hm : m ≤ w.heap.size) (hd : DgAt w m d) :
    Calls Tryd.prog 18 #[d.val] w fun e w' => e = .returned (.int .i64 (dgErr d.ps d.bs d.os)) ∧ Below w.heap.size w w' := by
  have hl1 := hd.l1
  have hl2 := hd.l2
  have hl3 := hd.l3
  have HD := Lib.hid hd
  clear hd
  obtain ⟨A1, ps, c1, A2, bs, c2, A3, os, c3⟩ := d
  dsimp only at hl1 hl2 hl3
  simp only [Dg.val]
  by_cases hsz : sizeOk ps bs os
  · have HSZ := Lib.hid hsz
    clear hsz
    have l1' : (ps.length : Int) ≤ 16 := by have := HSZ.out.1; omega
    have l2' : (bs.length : Int) ≤ 64 := by have := HSZ.out.2.1; omega
    have l3' : (os.length : Int) ≤ 16 := by have := HSZ.out.2.2; omega
    have r0 := RowD.new_ w [.slice A1 ps.length c1, .slice A2 bs.length c2, .slice A3 os.length c3] 41
    have b0 := al_ w (.cells #[.slice A1 ps.length c1, .slice A2 bs.length c2, .slice A3 os.length c3] 41)
    go_enter Tryd.func18, Tryd.ntmps18
    go_wp2_with fail
    all_goals try (exfalso; omega)
    go_loopw [29] (fun i wr => cqRel w [.slice A1 ps.length c1, .slice A2 bs.length c2, .slice A3 os.length c3] (ps.map portE) i wr) (fun i _ => ps.length - (intOf i).toNat)
    case atStart => exact ⟨0, Nat.zero_le _, rfl, rfl, r0, b0⟩
    case round =>
      as_aux_lemma =>
        clear r0 b0
        obtain ⟨k, hk, rfl, hf, hbox, hb⟩ := hrel
        have HF := Lib.hid hf
        have HB := Lib.hid hbox
        have z0 := hbox.lt
        have q1 : wr.cell? ⟨w.heap.size, 1, none⟩ = some (.slice A2 bs.length c2) := hbox.cell 1
        clear hf hbox
        rw [List.length_map] at hk
        by_cases hlt : k < ps.length
        · obtain ⟨b, off, x, rfl, hbm, hbs, hx, hc⟩ := (HD.out.below hb hm).ps.row (s := 3) (fun _ => rfl) (by omega) hlt
          obtain ⟨plo, phi, pfr⟩ := x
          have g0 : wr.cell? ⟨b, off + k * 3, none⟩ = some (.int .i64 plo) := hc 0 _ rfl
          have g1 := hc 1 _ rfl
          have g2 := hc 2 _ rfl
          dsimp only at g1 g2
          have HX := Lib.hid hx
          clear hc hx
          by_cases hp : portE ⟨plo, phi, pfr⟩ = 0
          · have HPE := Lib.hid hp
            have hp2 : -2147483648 ≤ plo ∧ plo ≤ phi ∧ phi < 2147483648 ∧ 0 ≤ pfr ∧ pfr ≤ 30 := rport_ok hp
            obtain ⟨p1, p2, p3, p4, p5⟩ := hp2
            have HWB := Lib.hid (show withinB pfr 0 30 = true from decide_eq_true ⟨p4, p5⟩)
            clear hp
            go_wp2_with (go_at_call 47; refine (within_any _ _ _ _).mono ?_; rintro e w1 ⟨rfl, rfl⟩; rw [HWB.out])
            exact ⟨⟨k + 1, by rw [List.length_map]; omega, by go_num, fs1 HX.out HPE.out HF.out, HB.out.call (al_ _ _), ext_alloc hb _⟩, by simp [intOf]; omega⟩
          · have h3 : portE ⟨plo, phi, pfr⟩ = 3 := rport_bad hp
            have HE := Lib.hid (de1 HSZ.out (pe1 (bs := bs) (os := os) HX.out h3 (by decide) HF.out) (by decide))
            cases hwb : withinB pfr 0 30 with
            | true =>
              have hp2 : ¬ (-2147483648 ≤ plo ∧ plo ≤ phi ∧ phi < 2147483648) := fun h => hp (port_of ⟨h.1, h.2.1, h.2.2, hwb⟩)
              have HP2 := Lib.hid hp2
              have HWB := Lib.hid hwb
              clear hp h3 hp2 hwb
              go_wp2_with (go_at_call 47; refine (within_any _ _ _ _).mono ?_; rintro e w1 ⟨rfl, rfl⟩; rw [HWB.out])
              all_goals first
                | (go_ret
                   exact ⟨ar_eq (HE.out).symm, ext_alloc hb _⟩)
                | (exfalso; exact HP2.out ⟨by omega, by omega, by omega⟩)
            | false =>
              have HWB := Lib.hid hwb
              clear hp h3 hwb
              go_wp2_with (go_at_call 47; refine (within_any _ _ _ _).mono ?_; rintro e w1 ⟨rfl, rfl⟩; rw [HWB.out])
              all_goals
                go_ret
                exact ⟨ar_eq (HE.out).symm, ext_alloc hb _⟩
        · have P1 := Lib.hid (fe_all (k := k) (by rw [List.length_map]; omega) HF.out)
          clear HF
          go_wp2_with fail
          clear q1 hk hlt
          obtain ⟨w2, hw2⟩ : ∃ w2, w2 = wr := ⟨_, rfl⟩
          rw [← hw2] at HB hb
          rw [← hw2]
          clear hw2 z0
          go_loopw [58] (fun i wr => cqRel w [.slice A1 ps.length c1, .slice A2 bs.length c2, .slice A3 os.length c3] (bs.map (blkErr ps.length bs.length)) i wr) (fun i _ => bs.length - (intOf i).toNat)
          case atStart => exact ⟨0, Nat.zero_le _, rfl, rfl, HB.out, hb⟩
          case round =>
            as_aux_lemma =>
              clear HB hb
              obtain ⟨k, hk, rfl, hf, hbox, hb⟩ := hrel
              have HF := Lib.hid hf
              have HB := Lib.hid hbox
              have z0 := hbox.lt
              have q0 : wr.cell? ⟨w.heap.size, 0, none⟩ = some (.slice A1 ps.length c1) := hbox.cell 0
              have q1 : wr.cell? ⟨w.heap.size, 1, none⟩ = some (.slice A2 bs.length c2) := hbox.cell 1
              have q2 : wr.cell? ⟨w.heap.size, 2, none⟩ = some (.slice A3 os.length c3) := hbox.cell 2
              clear hf hbox
              rw [List.length_map] at hk
              by_cases hlt : k < bs.length
              · obtain ⟨b, off, kind, KA, args, cap, vn, ve, un, ue, hA, hbm, hbs, hx, g0, g1, g2, g3, g4, g5, ha, hal⟩ := (HD.out.below hb hm).blk hlt
                dsimp only at hA hx
                subst hA
                have HX := Lib.hid hx
                have HA := Lib.hid ha
                clear hx ha
                go_wp2_with fail
                go_at_call 48
                refine (block_any ⟨A1, ps, c1, some ⟨b, off, none⟩, bs, c2, A3, os, c3⟩ ⟨kind, KA, args, cap, vn, ve, un, ue⟩ m _ (by have := hb.size; simp; omega) (HA.out.below (al_ _ _) (by have := hb.size; omega)) hal hl1 hl2).mono ?_
                rintro e w5 ⟨rfl, hb5⟩
                dsimp only at hb5 ⊢
                have HB5 := Lib.hid ((HB.out.call (al_ _ _)).call hb5)
                have N5 := Lib.hid ((ext_alloc hb (.cells #[.int .i64 kind, .slice KA args.length cap, .int .i64 vn, .int .i64 ve, .int .i64 un, .int .i64 ue] 66)).trans (hb5.mono (by have := hb.size; simp; omega)))
                clear hb5 g0 g1 g2 g3 g4 g5 q0 q1 q2
                obtain ⟨E, hE⟩ : ∃ E, blkErr ps.length bs.length ⟨kind, KA, args, cap, vn, ve, un, ue⟩ = E := ⟨_, rfl⟩
                have HEE := Lib.hid hE
                rw [hE]
                clear hE
                by_cases he0 : E = 0
                · have HE0 := Lib.hid (HEE.out.trans he0)
                  rw [he0]
                  clear he0
                  go_wp2_with fail
                  exact ⟨⟨k + 1, by rw [List.length_map]; omega, by go_num, fs1 HX.out HE0.out HF.out, HB5.out, N5.out⟩, by simp [intOf]; omega⟩
                · have HE := Lib.hid (de1 HSZ.out (pe2 (os := os) P1.out HX.out HEE.out he0 HF.out) he0)
                  obtain ⟨q, hq⟩ : ∃ q, E = q := ⟨_, rfl⟩
                  rw [hq] at he0 HE
                  rw [hq]
                  have hqb : (q != 0) = true := by simpa using he0
                  clear hq he0
                  go_wp2_with fail
                  go_ret
                  exact ⟨ar_eq HE.out.symm, N5.out⟩
              · have P2 := Lib.hid (fe_all (k := k) (by rw [List.length_map]; omega) HF.out)
                clear HF
                go_wp2_with fail
                clear q0 q1 q2 hk hlt
                obtain ⟨w3, hw3⟩ : ∃ w3, w3 = wr := ⟨_, rfl⟩
                rw [← hw3] at HB hb
                rw [← hw3]
                clear hw3 z0
                go_loopw [72] (fun i wr => cqRel w [.slice A1 ps.length c1, .slice A2 bs.length c2, .slice A3 os.length c3] (os.map (outE bs.length)) i wr) (fun i _ => os.length - (intOf i).toNat)
                case atStart => exact ⟨0, Nat.zero_le _, rfl, rfl, HB.out, hb⟩
                case round =>
                  as_aux_lemma =>
                    clear HB hb
                    obtain ⟨k, hk, rfl, hf, hbox, hb⟩ := hrel
                    have HF := Lib.hid hf
                    have HB := Lib.hid hbox
                    have z0 := hbox.lt
                    have q0 : wr.cell? ⟨w.heap.size, 0, none⟩ = some (.slice A1 ps.length c1) := hbox.cell 0
                    have q1 : wr.cell? ⟨w.heap.size, 1, none⟩ = some (.slice A2 bs.length c2) := hbox.cell 1
                    have q2 : wr.cell? ⟨w.heap.size, 2, none⟩ = some (.slice A3 os.length c3) := hbox.cell 2
                    clear hf hbox
                    rw [List.length_map] at hk
                    by_cases hlt : k < os.length
                    · obtain ⟨b, off, z, rfl, hbm, hbs, hx, hc⟩ := (HD.out.below hb hm).os.int_ hlt
                      have HX := Lib.hid hx
                      clear hx
                      by_cases ho : 0 ≤ z ∧ z < (bs.length : Int)
                      · have HOE := Lib.hid (show outE bs.length z = 0 from if_pos ho)
                        have HWB := Lib.hid (show withinB z 0 ((bs.length : Int) - 1) = true from decide_eq_true ⟨ho.1, by have := ho.2; omega⟩)
                        clear ho
                        go_wp2_with (go_at_call 47; refine (within_any _ _ _ _).mono ?_; rintro e w1 ⟨rfl, rfl⟩; rw [HWB.out])
                        exact ⟨⟨k + 1, by rw [List.length_map]; omega, by go_num, fs1 HX.out HOE.out HF.out, HB.out, hb⟩, by simp [intOf]; omega⟩
                      · have HE := Lib.hid (de1 HSZ.out (pe3 P1.out P2.out HX.out (if_neg ho) (by decide) HF.out) (by decide))
                        have HWB := Lib.hid (show withinB z 0 ((bs.length : Int) - 1) = false from decide_eq_false (fun h => ho ⟨h.1, by have := h.2; omega⟩))
                        clear ho
                        go_wp2_with (go_at_call 47; refine (within_any _ _ _ _).mono ?_; rintro e w1 ⟨rfl, rfl⟩; rw [HWB.out])
                        go_ret
                        exact ⟨ar_eq (HE.out).symm, hb⟩
                    · have P3 := Lib.hid (fe_all (k := k) (by rw [List.length_map]; omega) HF.out)
                      have HE := Lib.hid (de2 HSZ.out (pe4 P1.out P2.out P3.out))
                      have HSO := Lib.hid (succ_ok P2.out)
                      clear HF
                      go_wp2_with fail
                      obtain ⟨w4, hw4⟩ : ∃ w4, w4 = wr := ⟨_, rfl⟩
                      rw [← hw4] at z0 q0 q1 q2 hb
                      rw [← hw4]
                      have HB4 := Lib.hid hb
                      clear hw4 HB hb hlt hk
                      have hk : KP w4 (w.heap.size + 1) w4 := ⟨Below.refl _ _, by omega⟩
                      have hmw : m ≤ w4.heap.size := by omega
                      have HD4 := Lib.hid (HD.out.below HB4.out hm)
                      go_region_held3 (fun w' => (∀ b o, b < w.heap.size + 1 → w'.cell? ⟨b, o, none⟩ = w4.cell? ⟨b, o, none⟩) ∧ KP w4 (w.heap.size + 1) w')
                        (first
                          | (refine KP.all ?_
                             first
                               | assumption
                               | exact hk
                               | exact hk.drew))
                        (first
                          | (go_at_call 49; refine (rOrder_any ⟨A1, ps, c1, A2, bs, c2, A3, os, c3⟩ m _ (by have := hk.drew.fits; omega) (HD4.out.below hk.drew.is (by omega)) HSO.out).mono ?_; (rintro e w7 ⟨v7, rfl, D7, hb7⟩; have hk7 := hk.drew.call hb7; obtain ⟨A7, c7, rfl, _, _⟩ := D7.view; have hz7 := hk7.fits))
                          | (go_at_call 26; refine (delays_any ⟨A1, ps, c1, A2, bs, c2, A3, os, c3⟩ m _ (by have := hk7.fits; omega) (HD4.out.below hk7.is (by omega))).mono ?_; (rintro e w8 ⟨v8, rfl, D8, hb8⟩; have hk8 := hk7.call hb8; obtain ⟨A8, c8, rfl, _, _⟩ := D8.view; have hz8 := hk8.fits)))
                      have N9 := Lib.hid (HB4.out.trans (hk8.is.mono (by omega)))
                      try dsimp only
                      have e7 : (natI (ordM bs)).length = (ordM bs).length := natI_len _
                      have e8 : (natI (delL bs)).length = (delL bs).length := natI_len _
                      have e9 := del_len bs
                      have e10 := ord_le bs
                      have hs7 : ((natI (ordM bs)).length : Int) ≤ 64 := by omega
                      have hs8 : ((natI (delL bs)).length : Int) ≤ 64 := by omega
                      have ew : IntKind.i64.wrap (((natI (ordM bs)).length : Int) + ((natI (delL bs)).length : Int)) = ((natI (ordM bs)).length : Int) + ((natI (delL bs)).length : Int) := IntWalk.i64_in _ ⟨by omega, by omega⟩
                      rw [ew]
                      clear ew
                      by_cases hor : (ordM bs).length = nonDel bs
                      · have HE2 := Lib.hid (HE.out.trans (if_pos hor))
                        have et : (((natI (ordM bs)).length : Int) + ((natI (delL bs)).length : Int) != (bs.length : Int)) = false := by
                          rw [bne_eq_false_iff_eq]; omega
                        clear hor e7 e8 e9 e10 D7 D8 hb7 hb8 hk7 hk8
                        go_wp2_with fail
                        go_ret
                        exact ⟨ar_eq (HE2.out).symm, N9.out⟩
                      · have HE2 := Lib.hid (HE.out.trans (if_neg hor))
                        have et : (((natI (ordM bs)).length : Int) + ((natI (delL bs)).length : Int) != (bs.length : Int)) = true := by
                          rw [bne_iff_ne]; omega
                        clear hor e7 e8 e9 e10 D7 D8 hb7 hb8 hk7 hk8
                        go_wp2_with fail
                        go_ret
                        exact ⟨ar_eq (HE2.out).symm, N9.out⟩
  · have HE := Lib.hid (de0 hsz)
    have b0 := al_ w (.cells #[.slice A1 ps.length c1, .slice A2 bs.length c2, .slice A3 os.length c3] 41)
    have key : 16 < (ps.length : Int) ∨ ((ps.length : Int) ≤ 16 ∧ 64 < (bs.length : Int)) ∨ ((ps.length : Int) ≤ 16 ∧ (bs.length : Int) ≤ 64 ∧ 16 < (os.length : Int)) := by
      unfold sizeOk at hsz
      omega
    clear hsz
    rcases key with k1 | ⟨k1, k2⟩ | ⟨k1, k2, k3⟩
    all_goals
      go_enter Tryd.func18, Tryd.ntmps18
      go_wp2_with fail
      all_goals try (exfalso; omega)
      go_ret
      exact ⟨ar_eq (HE.out).symm, b0⟩
theorem rdelays_cv (t : Bool) {ps : List Prt} {bs : List Bk} {os : List Int} (hl : DgLen ps bs os) : CVF Tryd.prog TabAt 26 [aDg t ps bs os] [.one (rowI false (natI (delL bs)))] := fun w S vs hg hlt ha => by
  obtain ⟨v, rfl, hv⟩ := one_arg ha
  obtain ⟨d, rfl, hd, rfl, hz, rfl, _, _⟩ := dg_open hlt hv hl
  refine (delays_any d _ w (Nat.le_refl _) hd).mono fun e w' ⟨so, he, hown, hb⟩ => ?_
  rw [show delL d.bs = delL bs by rw [← delL_z, hz, delL_z]] at hown
  exact ⟨_, he, own_freshI hown, hb⟩
theorem rorder_cv (t : Bool) {ps : List Prt} {bs : List Bk} {os : List Int} (hl : DgLen ps bs os) (h0 : dgErr ps bs os = 0) : CVF Tryd.prog TabAt 49 [aDg t ps bs os] [.one (rowI false (natI (ordM bs)))] := fun w S vs hg hlt ha => by
  obtain ⟨v, rfl, hv⟩ := one_arg ha
  obtain ⟨d, rfl, hd, rfl, hz, rfl, _, _⟩ := dg_open hlt hv hl
  have e1 : dgErr d.ps d.bs d.os = dgErr d.ps bs d.os := by rw [← dgErr_z, hz, dgErr_z]
  refine (rOrder_any d _ w (Nat.le_refl _) hd (succ_ok (pre_blk (pre_of (e1.trans h0)).2.1))).mono fun e w' ⟨so, he, hown, hb⟩ => ?_
  rw [show ordM d.bs = ordM bs by rw [← ordM_z, hz, ordM_z]] at hown
  exact ⟨_, he, own_freshI hown, hb⟩
theorem size_of_ok {ps : List Prt} {bs : List Bk} {os : List Int} (h : dgErr ps bs os = 0) : sizeOk ps bs os := by
  unfold dgErr at h
  by_cases hs : sizeOk ps bs os
  · exact hs
  · rw [if_pos hs] at h
    cases h
def lightB (ps : List Prt) (bs : List Bk) (os : List Int) : Bool := decide (ps.length ≤ 40 ∧ bs.length ≤ 80 ∧ os.length ≤ 40) && bs.all fun b => decide (b.args.length ≤ 10)
set_option maxRecDepth 100000 in
set_option maxHeartbeats 4000000 in
theorem light_cvT (t : Bool) (ps : List Prt) (bs : List Bk) (os : List Int) : CV Tryd.prog TabAt 39 [aDg t ps bs os] [aB (lightB ps bs os)] := by
  refine cv_of tab_G Tryd.func39 rfl Tryd.ntmps39 (Nat.le_of_ble_eq_true rfl) ?_
  by_cases cp : 40 < ps.length
  case pos =>
    repeat' (with_reducible first | apply qa | apply qb | apply qc | apply qd | apply qe | apply qf | apply qg | apply qh | apply qi | apply qj | apply qk | apply ql rfl | apply qm rfl | apply qn rfl | (refine Tx 0 ?_; refine Jn xBo ?_; refine Ja ?_; refine Je ?_) | (refine Tx 1 ?_; refine Jo (xFa tf_Diagram0 tk_s_Port) ?_; refine Jo (xLd tk_s_Port) ?_; refine Jo (xLn ts_s_Port) ?_; refine Jo xGt ?_; refine Jm ?_; (first | refine Jd ?_ | refine Jy (xFa tf_Diagram1 tk_s_Block) ?_); (first | refine Jd ?_ | refine Jy (xLd tk_s_Block) ?_); (first | refine Jd ?_ | refine Jy (xLn ts_s_Block) ?_); (first | refine Jd ?_ | refine Jy xGt ?_); refine Jo xPk ?_; refine Jm ?_; (first | refine Jd ?_ | refine Jy (xFa tf_Diagram2 tk_s_int) ?_); (first | refine Jd ?_ | refine Jy (xLd tk_s_int) ?_); (first | refine Jd ?_ | refine Jy (xLn ts_s_int) ?_); (first | refine Jd ?_ | refine Jy xGt ?_); refine Jo xPk ?_; refine Je ?_) | (refine Tx 2 ?_; refine Ja ?_; refine Je ?_))
    exact ret_q rfl (.cons_ (rv_b rfl (by unfold lightB; rw [decide_eq_false (by omega)]; rfl)) .nil_)
  by_cases cb : 80 < bs.length
  case pos =>
    repeat' (with_reducible first | apply qa | apply qb | apply qc | apply qd | apply qe | apply qf | apply qg | apply qh | apply qi | apply qj | apply qk | apply ql rfl | apply qm rfl | apply qn rfl | (refine Tx 0 ?_; refine Jn xBo ?_; refine Ja ?_; refine Je ?_) | (refine Tx 1 ?_; refine Jo (xFa tf_Diagram0 tk_s_Port) ?_; refine Jo (xLd tk_s_Port) ?_; refine Jo (xLn ts_s_Port) ?_; refine Jo xGt ?_; refine Jm ?_; (first | refine Jd ?_ | refine Jy (xFa tf_Diagram1 tk_s_Block) ?_); (first | refine Jd ?_ | refine Jy (xLd tk_s_Block) ?_); (first | refine Jd ?_ | refine Jy (xLn ts_s_Block) ?_); (first | refine Jd ?_ | refine Jy xGt ?_); refine Jo xPk ?_; refine Jm ?_; (first | refine Jd ?_ | refine Jy (xFa tf_Diagram2 tk_s_int) ?_); (first | refine Jd ?_ | refine Jy (xLd tk_s_int) ?_); (first | refine Jd ?_ | refine Jy (xLn ts_s_int) ?_); (first | refine Jd ?_ | refine Jy xGt ?_); refine Jo xPk ?_; refine Je ?_) | (refine Tx 2 ?_; refine Ja ?_; refine Je ?_))
    exact ret_q rfl (.cons_ (rv_b rfl (by unfold lightB; rw [decide_eq_false (by omega)]; rfl)) .nil_)
  by_cases co : 40 < os.length
  case pos =>
    repeat' (with_reducible first | apply qa | apply qb | apply qc | apply qd | apply qe | apply qf | apply qg | apply qh | apply qi | apply qj | apply qk | apply ql rfl | apply qm rfl | apply qn rfl | (refine Tx 0 ?_; refine Jn xBo ?_; refine Ja ?_; refine Je ?_) | (refine Tx 1 ?_; refine Jo (xFa tf_Diagram0 tk_s_Port) ?_; refine Jo (xLd tk_s_Port) ?_; refine Jo (xLn ts_s_Port) ?_; refine Jo xGt ?_; refine Jm ?_; (first | refine Jd ?_ | refine Jy (xFa tf_Diagram1 tk_s_Block) ?_); (first | refine Jd ?_ | refine Jy (xLd tk_s_Block) ?_); (first | refine Jd ?_ | refine Jy (xLn ts_s_Block) ?_); (first | refine Jd ?_ | refine Jy xGt ?_); refine Jo xPk ?_; refine Jm ?_; (first | refine Jd ?_ | refine Jy (xFa tf_Diagram2 tk_s_int) ?_); (first | refine Jd ?_ | refine Jy (xLd tk_s_int) ?_); (first | refine Jd ?_ | refine Jy (xLn ts_s_int) ?_); (first | refine Jd ?_ | refine Jy xGt ?_); refine Jo xPk ?_; refine Je ?_) | (refine Tx 2 ?_; refine Ja ?_; refine Je ?_))
    exact ret_q rfl (.cons_ (rv_b rfl (by unfold lightB; rw [decide_eq_false (by omega)]; rfl)) .nil_)
  repeat' (with_reducible first | apply qa | apply qb | apply qc | apply qd | apply qe | apply qf | apply qg | apply qh | apply qi | apply qj | apply qk | apply ql rfl | apply qm rfl | apply qn rfl | (refine Tx 0 ?_; refine Jn xBo ?_; refine Ja ?_; refine Je ?_) | (refine Tx 1 ?_; refine Jo (xFa tf_Diagram0 tk_s_Port) ?_; refine Jo (xLd tk_s_Port) ?_; refine Jo (xLn ts_s_Port) ?_; refine Jo xGt ?_; refine Jm ?_; (first | refine Jd ?_ | refine Jy (xFa tf_Diagram1 tk_s_Block) ?_); (first | refine Jd ?_ | refine Jy (xLd tk_s_Block) ?_); (first | refine Jd ?_ | refine Jy (xLn ts_s_Block) ?_); (first | refine Jd ?_ | refine Jy xGt ?_); refine Jo xPk ?_; refine Jm ?_; (first | refine Jd ?_ | refine Jy (xFa tf_Diagram2 tk_s_int) ?_); (first | refine Jd ?_ | refine Jy (xLd tk_s_int) ?_); (first | refine Jd ?_ | refine Jy (xLn ts_s_int) ?_); (first | refine Jd ?_ | refine Jy xGt ?_); refine Jo xPk ?_; refine Je ?_) | (refine Tx 3 ?_; refine Jo (xFa tf_Diagram1 tk_s_Block) ?_; refine Jo (xLd tk_s_Block) ?_; refine Jo (xLn ts_s_Block) ?_; refine Jm ?_; refine Je ?_))
  refine cw_wk (F' := ofL [(1, vr 0), (22, vd (rowB t bs)), (23, vi bs.length), (24, vi ((0 : Nat)))]) (H' := [.box 41 [.d (rowP t ps), .d (rowB t bs), .d (rowI t os)]]) (wk_go [(1, vr 0), (22, vd (rowB t bs)), (23, vi bs.length), (24, vi ((0 : Nat)))] 1 ?_ ?_ ?_) ?_
  · rfl
  · exact mB rfl rfl
  · exact ⟨bel_lit rfl, trivial⟩
  refine cw_loopW (fun n Fr H => ∃ k : Nat, k ≤ bs.length ∧ n = bs.length - k ∧ (bs.take k).all (fun b : Bk => decide (b.args.length ≤ 10)) = true ∧ Fr = ofL [(1, vr 0), (22, vd (rowB t bs)), (23, vi bs.length), (24, vi ((k : Nat)))] ∧ H = [.box 41 [.d (rowP t ps), .d (rowB t bs), .d (rowI t os)]]) (n0 := bs.length) ⟨0, Nat.zero_le _, rfl, rfl, rfl, rfl⟩ ?_
  rintro n Fr H ⟨k, hk, rfl, hall, rfl, rfl⟩
  by_cases hlt : k < bs.length
  case pos =>
    obtain ⟨y, hy⟩ : ∃ y, bs[k]? = some y := ⟨_, List.getElem?_eq_getElem hlt⟩
    by_cases hy10 : y.args.length ≤ 10
    case pos =>
      repeat' (with_reducible first | apply qa | apply qb | apply qc | apply qd | apply qe | apply qf | apply qg | apply qh | apply qi | apply qj | apply qk | apply ql rfl | apply qm rfl | apply qn rfl | (refine Tx 4 ?_; refine Jo xLt ?_; refine Je ?_) | (refine Tx 5 ?_; refine Jo (xIr ts_s_Block (bk_at hy)) ?_; refine Jo (xLa tk_Block) ?_; refine Jn (by exact ok_alloc rfl tz_Block) ?_; refine Js (xSk tk_Block) ?_; refine Je ?_) | (refine Tx 6 ?_; refine Jo (xFa tf_Block1 tk_s_int) ?_; refine Jo (xLd tk_s_int) ?_; refine Jo (xLn ts_s_int) ?_; refine Jo xGt ?_; refine Je ?_) | (refine Tx 8 ?_; refine Jo xAd ?_; refine Jm ?_; refine Je ?_))
      refine ⟨_, _, wk_go [(1, vr 0), (22, vd (rowB t bs)), (23, vi bs.length), (24, vi (((k + 1) : Nat)))] 1 ?_ ?_ ?_, _, ?_, k + 1, by omega, rfl, all_take hy hall (decide_eq_true hy10), rfl, rfl⟩
      · rfl
      · exact mB rfl rfl
      · exact ⟨bel_lit rfl, trivial⟩
      · omega
    case neg =>
      repeat' (with_reducible first | apply qa | apply qb | apply qc | apply qd | apply qe | apply qf | apply qg | apply qh | apply qi | apply qj | apply qk | apply ql rfl | apply qm rfl | apply qn rfl | (refine Tx 4 ?_; refine Jo xLt ?_; refine Je ?_) | (refine Tx 5 ?_; refine Jo (xIr ts_s_Block (bk_at hy)) ?_; refine Jo (xLa tk_Block) ?_; refine Jn (by exact ok_alloc rfl tz_Block) ?_; refine Js (xSk tk_Block) ?_; refine Je ?_) | (refine Tx 6 ?_; refine Jo (xFa tf_Block1 tk_s_int) ?_; refine Jo (xLd tk_s_int) ?_; refine Jo (xLn ts_s_int) ?_; refine Jo xGt ?_; refine Je ?_) | (refine Tx 7 ?_; refine Ja ?_; refine Je ?_))
      exact ret_q rfl (.cons_ (rv_b rfl (by unfold lightB; rw [show bs.all (fun b : Bk => decide (b.args.length ≤ 10)) = false from List.all_eq_false.2 ⟨y, List.mem_of_getElem? hy, by rw [decide_eq_false hy10]; exact Bool.false_ne_true⟩, Bool.and_false])) .nil_)
  obtain rfl : k = bs.length := by omega
  rw [List.take_length] at hall
  repeat' (with_reducible first | apply qa | apply qb | apply qc | apply qd | apply qe | apply qf | apply qg | apply qh | apply qi | apply qj | apply qk | apply ql rfl | apply qm rfl | apply qn rfl | (refine Tx 4 ?_; refine Jo xLt ?_; refine Je ?_) | (refine Tx 9 ?_; refine Ja ?_; refine Je ?_))
  exact ret_q rfl (.cons_ (rv_b rfl (by unfold lightB; rw [hall, decide_eq_true (by omega)]; rfl)) .nil_)
theorem rcheck_cv (t : Bool) {ps : List Prt} {bs : List Bk} {os : List Int} (hl : DgLen ps bs os) : CVF Tryd.prog TabAt 18 [aDg t ps bs os] [aI (dgErr ps bs os)] := fun w S vs hg hlt ha => by
  obtain ⟨v, rfl, hv⟩ := one_arg ha
  obtain ⟨d, rfl, hd, rfl, hz, rfl, _, _⟩ := dg_open hlt hv hl
  refine (rCheck_any d _ w (Nat.le_refl _) hd).mono fun e w' ⟨he, hb⟩ => ?_
  rw [show dgErr d.ps d.bs d.os = dgErr d.ps bs d.os by rw [← dgErr_z, hz, dgErr_z]] at he
  exact ⟨_, he, DRel.val rfl, hb⟩
theorem light_len {ps : List Prt} {bs : List Bk} {os : List Int} (h : lightB ps bs os = true) : DgLen ps bs os ∧ bs.length ≤ 80 := by
  unfold lightB at h
  rw [Bool.and_eq_true] at h
  have h1 := of_decide_eq_true h.1
  exact ⟨⟨by omega, by omega, by omega, fun b hb => by have := of_decide_eq_true (List.all_eq_true.1 h.2 b hb); omega⟩, h1.2.1⟩
theorem num_cv (E : Int) : CVF Tryd.prog TabAt 19 [aE E] [aI E] := fun w S vs hg hlt ha => by
  obtain ⟨u, hu, h2⟩ := one_arg ha
  subst hu
  cases h2
  refine (num_any E w).mono fun r w' ⟨he, hw⟩ => ?_
  subst hw
  exact ⟨_, he, DRel.val rfl, Below.refl _ _⟩
def prtD : Prt := ⟨0, 0, 0⟩
def inpV (ps : List Prt) (inn : List Int) (n : Nat) : List Int := (List.range n).map fun i => clipI (inn[i]?.getD 0) (ps[i]?.getD prtD).lo (ps[i]?.getD prtD).hi
structure HasB (vs : List (Option (Int × Nat))) (D : Nat → Prop) (B : Bool) : Prop where
  at_ : ∀ i, D i → ∃ p, vs[i]? = some (some p) ∧ Sm p 32000 65536 ∧ (longP p = true → B = true)
theorem HasB.set {vs : List (Option (Int × Nat))} {D D' : Nat → Prop} {B : Bool} (h : HasB vs D B) {j : Nat} {p : Int × Nat} (hj : j < vs.length) (hp : Sm p 32000 65536) (hB : longP p = true → B = true) (hD : ∀ i, D' i → D i ∨ i = j) : HasB (vs.set j (some p)) D' B := ⟨fun i hi => by
  rw [List.getElem?_set]
  by_cases hij : j = i
  · rw [if_pos hij, if_pos hj]
    exact ⟨p, rfl, hp, hB⟩
  · rw [if_neg hij]
    rcases hD i hi with h1 | h1
    · exact h.at_ i h1
    · exact absurd h1.symm hij⟩
theorem hasB_del {ps : List Prt} {bs : List Bk} {st : List (Int × Nat)} {ins : List Int} (hn : ∀ p ∈ st, Sm p 32000 65536) (hl : st.length = (delL bs).length) : HasB (valS ps bs st ins 0) (stdS bs 0) (stepBad ps bs st ins) := by
  rw [valS_0]
  have key : ∀ t, t ≤ (delL bs).length → HasB (delV ((delL bs).take t) (st.take t) (List.replicate bs.length none)) (fun i => i ∈ (delL bs).take t) (stepBad ps bs st ins) := fun t => by
    induction t with
    | zero => intro _; exact ⟨fun i hi => by simp at hi⟩
    | succ t ih =>
      intro ht
      obtain ⟨j, hj⟩ : ∃ j, (delL bs)[t]? = some j := ⟨_, List.getElem?_eq_getElem (by omega)⟩
      obtain ⟨p, hp⟩ : ∃ p, st[t]? = some p := ⟨_, List.getElem?_eq_getElem (by omega)⟩
      rw [delV_next _ hj hp]
      refine (ih (by omega)).set (by rw [delV_len, List.length_replicate]; exact (del_at hj).1) (hn p (List.mem_of_getElem? hp)) (bad_del hp) fun i hi => ?_
      rw [List.take_add_one, hj] at hi
      simpa using hi
  have h := key (delL bs).length (Nat.le_refl _)
  rw [List.take_length, List.take_of_length_le (by omega)] at h
  refine ⟨fun i hi => h.at_ i ?_⟩
  rcases hi with ⟨h1, h2⟩ | h1
  · unfold delL
    rw [List.mem_filter, List.mem_range, h2]
    exact ⟨h1, rfl⟩
  · simp at h1
theorem hasB_next {ps : List Prt} {bs : List Bk} {st : List (Int × Nat)} {ins : List Int} {t j : Nat} (h : HasB (valS ps bs st ins t) (stdS bs t) (stepBad ps bs st ins)) (hj : (ordM bs)[t]? = some j) (hsm : Sm (valN ps bs st ins t) LC LC) : HasB (valS ps bs st ins (t + 1)) (stdS bs (t + 1)) (stepBad ps bs st ins) := by
  rw [valS_next hj]
  refine h.set (by rw [valS_len]; exact (ord_at hj).1) (hsm.more (by decide) (by decide)) (bad_ord (List.getElem?_eq_some_iff.1 hj).1) fun i hi => ?_
  rcases hi with h1 | h1
  · exact .inl (.inl h1)
  · rw [List.take_add_one, hj] at h1
    rcases List.mem_append.1 h1 with h1 | h1
    · exact .inl (.inr h1)
    · exact .inr (by simpa using h1)
theorem std_all {ps : List Prt} {bs : List Bk} {os : List Int} (he : dgErr ps bs os = 0) {i : Nat} (hi : i < bs.length) : stdS bs (ordM bs).length i := by
  by_cases hk : kindAt bs i = 2
  · exact .inl ⟨hi, hk⟩
  · refine .inr ?_
    rw [List.take_length]
    exact ord_all (pre_of he).2.2 hi hk
theorem valS_ord {ps : List Prt} {bs : List Bk} {st : List (Int × Nat)} {ins : List Int} {t i : Nat} (ht : (ordM bs)[t]? = some i) : (valS ps bs st ins (ordM bs).length)[i]? = some (some (valN ps bs st ins t)) := by
  have htl := (List.getElem?_eq_some_iff.1 ht).1
  rw [val_keep (t := t + 1) htl (Nat.le_refl _) fun v k1 k2 kv => by have := nodup_at (ord_nodup bs) ht kv; omega]
  rw [valS_next ht, List.getElem?_set_self (by rw [valS_len]; exact (ord_at ht).1)]
theorem valS_del {ps : List Prt} {bs : List Bk} {st : List (Int × Nat)} {ins : List Int} (hl : st.length = (delL bs).length) {k i : Nat} (hk : (delL bs)[k]? = some i) : (valS ps bs st ins (ordM bs).length)[i]? = (st[k]?).map some := by
  have e1 := std_keep (ps := ps) (st := st) (ins := ins) (Nat.zero_le (ordM bs).length) (Nat.le_refl _) (.inl (del_at hk) : stdS bs 0 i)
  rwa [valS_0, del_vals (delL_nodup bs) hl (fun i hi => by rw [List.length_replicate]; exact (del_lt hi).1) hk] at e1
theorem good_all {ps : List Prt} {bs : List Bk} {st : List (Int × Nat)} {ins : List Int} (hl : st.length = (delL bs).length) (h : ∀ i, i < bs.length → ∃ p, (valS ps bs st ins (ordM bs).length)[i]? = some (some p) ∧ longP p = false) : stepBad ps bs st ins = false := by
  refine good_of (fun p hp => ?_) fun t ht => ?_
  · obtain ⟨k, hk⟩ := List.mem_iff_getElem?.1 hp
    have hkl := (List.getElem?_eq_some_iff.1 hk).1
    obtain ⟨i, hi⟩ : ∃ i, (delL bs)[k]? = some i := ⟨_, List.getElem?_eq_getElem (by omega)⟩
    obtain ⟨q, h1, h2⟩ := h i (del_at hi).1
    rw [valS_del hl hi, hk] at h1
    cases h1
    exact h2
  · obtain ⟨i, hi⟩ : ∃ i, (ordM bs)[t]? = some i := ⟨_, List.getElem?_eq_getElem ht⟩
    obtain ⟨q, h1, h2⟩ := h i (ord_at hi).1
    rw [valS_ord hi] at h1
    cases h1
    exact h2
theorem sm_lenN {p : Int × Nat} {n k : Nat} (h : Nf p.1 p.2) (hl : (canon p.1.natAbs).length ≤ k) (hn : 32 * k ≤ n) : Sm p n 65536 := by
  refine ⟨h, ?_, h.1⟩
  have hlt : p.1.natAbs < 2 ^ (32 * (canon p.1.natAbs).length) := by have := wval_lt (canon_ok p.1.natAbs); rw [wval_canon] at this; rw [Nat.pow_mul]; exact this
  exact Nat.lt_of_lt_of_le hlt (Nat.pow_le_pow_right (by decide) (by omega))
theorem sm_len {p : Int × Nat} (h : Nf p.1 p.2) (hl : (canon p.1.natAbs).length ≤ 1000) : Sm p 32000 65536 := sm_lenN h hl (by decide)
theorem tick_val {ps : List Prt} {ins : List Int} {y : Bk} {l : List (Int × Nat)} (h : y.kind ≠ 0) : tickV y l ps ins = blkD y l := by unfold tickV; rw [if_neg h]
theorem args_at {vs : List (Option (Int × Nat))} {y : Bk} (h : y.kind ≠ 0) {k : Nat} {a : Int} (ha : y.args[k]? = some a) {p : Int × Nat} (hp : vs[a.toNat]? = some (some p)) : (argsV vs y)[k]? = some p := by
  unfold argsV
  rw [if_neg h, List.getElem?_map, ha, Option.map_some, hp]
  rfl
theorem args_len {vs : List (Option (Int × Nat))} {y : Bk} (h : y.kind ≠ 0) : (argsV vs y).length = y.args.length := by unfold argsV; rw [if_neg h, List.length_map]
def sameB (r s : Rv) : Bool := decide (r.nb = s.nb ∧ r.den = s.den ∧ r.ws = s.ws)
theorem same_p {p q : Int × Nat} : sameB (rvOf p) (rvOf q) = decide (p = q) := by
  unfold sameB
  refine decide_eq_decide.2 ⟨fun ⟨h1, h2, h3⟩ => ?_, fun h => by rw [h]; exact ⟨rfl, rfl, rfl⟩⟩
  have : rvOf p = rvOf q := by
    cases hp : rvOf p; cases hq : rvOf q
    simp_all
  rw [← rvOf_P p, this, rvOf_P]
section
variable {P : Program} {G : World → Prop} {o : Oper} {F : Frm} {H : List Ob}
theorem ok_neqBT {t t' : TypeId} {x y : Operand} {p q : Bool} (ho : o.op = .binOp .neq t x y t') (ht : P.underlying t = some .bool) (hx : F.ev x = .one (.d (.val (.bool p)))) (hy : F.ev y = .one (.d (.val (.bool q)))) (h : ¬ p = q) : OpOk P G o F H (.one (.d (.val (.bool true)))) [] := by
  have := ok_neqB (P := P) (G := G) (H := H) ho ht hx hy
  rwa [show (p != q) = true by cases p <;> cases q <;> simp_all] at this
theorem ok_neqBF {t t' : TypeId} {x y : Operand} {p q : Bool} (ho : o.op = .binOp .neq t x y t') (ht : P.underlying t = some .bool) (hx : F.ev x = .one (.d (.val (.bool p)))) (hy : F.ev y = .one (.d (.val (.bool q)))) (h : p = q) : OpOk P G o F H (.one (.d (.val (.bool false)))) [] := by
  have := ok_neqB (P := P) (G := G) (H := H) ho ht hx hy
  rwa [show (p != q) = false by subst h; cases p <;> rfl] at this
end
theorem take_ext {α : Type} {l m : List α} {k : Nat} {x : α} (h : l.take k = m.take k) (h1 : l[k]? = some x) (h2 : m[k]? = some x) : l.take (k + 1) = m.take (k + 1) := by rw [List.take_add_one, List.take_add_one, h, h1, h2]
theorem ne_at {α : Type} {l m : List α} {k : Nat} {x y : α} (h1 : l[k]? = some x) (h2 : m[k]? = some y) (h : x ≠ y) : l ≠ m := fun e => h (by subst e; rw [h1] at h2; exact Option.some.inj h2)
set_option maxRecDepth 100000 in
set_option maxHeartbeats 4000000 in
theorem rvsame_cv (t u : Bool) (r s : Rv) (hr : r.ws.length ≤ 1000000) (hs : s.ws.length ≤ 1000000) : CV Tryd.prog TabAt 12 [aRv t r, aRv u s] [aB (sameB r s)] := by
  refine cv_of tab_G Tryd.func12 rfl Tryd.ntmps12 (Nat.le_of_ble_eq_true rfl) ?_
  have l1 : r.ws.length ≤ 1000000 := hr
  have l2 : s.ws.length ≤ 1000000 := hs
  by_cases hb : r.nb = s.nb
  case neg =>
    repeat' (with_reducible first | apply qa | apply qb | apply qc | apply qd | apply qe | apply qf | apply qg | apply qh | apply qi | apply qj | apply qk | apply ql rfl | apply qm rfl | apply qn rfl | (refine Tx 0 ?_; refine Jn xBo ?_; refine Jn xBo ?_; refine Ja ?_; refine Je ?_) | (refine Tx 1 ?_; refine Jo (xFa tf_Dyadic0 tk_bool) ?_; refine Jo (xLd tk_bool) ?_; refine Jo (xFa tf_Dyadic0 tk_bool) ?_; refine Jo (xLd tk_bool) ?_; refine Jo (by first | exact ok_neqBT rfl Tryd.underlying4 rfl rfl hb | exact xNe) ?_; refine Jm ?_; (first | refine Jd ?_ | refine Jy (xFa tf_Dyadic2 tk_int) ?_); (first | refine Jd ?_ | refine Jy (xLd tk_int) ?_); (first | refine Jd ?_ | refine Jy (xFa tf_Dyadic2 tk_int) ?_); (first | refine Jd ?_ | refine Jy (xLd tk_int) ?_); (first | refine Jd ?_ | refine Jy xNe ?_); refine Jo xPk ?_; refine Jm ?_; (first | refine Jd ?_ | refine Jy (xFa tf_Dyadic1 tk_s_uint32) ?_); (first | refine Jd ?_ | refine Jy (xLd tk_s_uint32) ?_); (first | refine Jd ?_ | refine Jy (xLn ts_s_uint32) ?_); (first | refine Jd ?_ | refine Jy (xFa tf_Dyadic1 tk_s_uint32) ?_); (first | refine Jd ?_ | refine Jy (xLd tk_s_uint32) ?_); (first | refine Jd ?_ | refine Jy (xLn ts_s_uint32) ?_); (first | refine Jd ?_ | refine Jy xNe ?_); refine Jo xPk ?_; refine Je ?_) | (refine Tx 2 ?_; refine Ja ?_; refine Je ?_))
    exact ret_q rfl (.cons_ (rv_b rfl (by unfold sameB; rw [decide_eq_false (fun h => hb h.1)])) .nil_)
  by_cases hd : r.den = s.den
  case neg =>
    repeat' (with_reducible first | apply qa | apply qb | apply qc | apply qd | apply qe | apply qf | apply qg | apply qh | apply qi | apply qj | apply qk | apply ql rfl | apply qm rfl | apply qn rfl | (refine Tx 0 ?_; refine Jn xBo ?_; refine Jn xBo ?_; refine Ja ?_; refine Je ?_) | (refine Tx 1 ?_; refine Jo (xFa tf_Dyadic0 tk_bool) ?_; refine Jo (xLd tk_bool) ?_; refine Jo (xFa tf_Dyadic0 tk_bool) ?_; refine Jo (xLd tk_bool) ?_; refine Jo (by first | exact ok_neqBF rfl Tryd.underlying4 rfl rfl hb | exact xNe) ?_; refine Jm ?_; (first | refine Jd ?_ | refine Jy (xFa tf_Dyadic2 tk_int) ?_); (first | refine Jd ?_ | refine Jy (xLd tk_int) ?_); (first | refine Jd ?_ | refine Jy (xFa tf_Dyadic2 tk_int) ?_); (first | refine Jd ?_ | refine Jy (xLd tk_int) ?_); (first | refine Jd ?_ | refine Jy xNe ?_); refine Jo xPk ?_; refine Jm ?_; (first | refine Jd ?_ | refine Jy (xFa tf_Dyadic1 tk_s_uint32) ?_); (first | refine Jd ?_ | refine Jy (xLd tk_s_uint32) ?_); (first | refine Jd ?_ | refine Jy (xLn ts_s_uint32) ?_); (first | refine Jd ?_ | refine Jy (xFa tf_Dyadic1 tk_s_uint32) ?_); (first | refine Jd ?_ | refine Jy (xLd tk_s_uint32) ?_); (first | refine Jd ?_ | refine Jy (xLn ts_s_uint32) ?_); (first | refine Jd ?_ | refine Jy xNe ?_); refine Jo xPk ?_; refine Je ?_) | (refine Tx 2 ?_; refine Ja ?_; refine Je ?_))
    exact ret_q rfl (.cons_ (rv_b rfl (by unfold sameB; rw [decide_eq_false (fun h => hd h.2.1)])) .nil_)
  by_cases hl : r.ws.length = s.ws.length
  case neg =>
    repeat' (with_reducible first | apply qa | apply qb | apply qc | apply qd | apply qe | apply qf | apply qg | apply qh | apply qi | apply qj | apply qk | apply ql rfl | apply qm rfl | apply qn rfl | (refine Tx 0 ?_; refine Jn xBo ?_; refine Jn xBo ?_; refine Ja ?_; refine Je ?_) | (refine Tx 1 ?_; refine Jo (xFa tf_Dyadic0 tk_bool) ?_; refine Jo (xLd tk_bool) ?_; refine Jo (xFa tf_Dyadic0 tk_bool) ?_; refine Jo (xLd tk_bool) ?_; refine Jo (by first | exact ok_neqBF rfl Tryd.underlying4 rfl rfl hb | exact xNe) ?_; refine Jm ?_; (first | refine Jd ?_ | refine Jy (xFa tf_Dyadic2 tk_int) ?_); (first | refine Jd ?_ | refine Jy (xLd tk_int) ?_); (first | refine Jd ?_ | refine Jy (xFa tf_Dyadic2 tk_int) ?_); (first | refine Jd ?_ | refine Jy (xLd tk_int) ?_); (first | refine Jd ?_ | refine Jy xNe ?_); refine Jo xPk ?_; refine Jm ?_; (first | refine Jd ?_ | refine Jy (xFa tf_Dyadic1 tk_s_uint32) ?_); (first | refine Jd ?_ | refine Jy (xLd tk_s_uint32) ?_); (first | refine Jd ?_ | refine Jy (xLn ts_s_uint32) ?_); (first | refine Jd ?_ | refine Jy (xFa tf_Dyadic1 tk_s_uint32) ?_); (first | refine Jd ?_ | refine Jy (xLd tk_s_uint32) ?_); (first | refine Jd ?_ | refine Jy (xLn ts_s_uint32) ?_); (first | refine Jd ?_ | refine Jy xNe ?_); refine Jo xPk ?_; refine Je ?_) | (refine Tx 2 ?_; refine Ja ?_; refine Je ?_))
    exact ret_q rfl (.cons_ (rv_b rfl (by unfold sameB; rw [decide_eq_false (fun h => hl (by rw [h.2.2]))])) .nil_)
  repeat' (with_reducible first | apply qa | apply qb | apply qc | apply qd | apply qe | apply qf | apply qg | apply qh | apply qi | apply qj | apply qk | apply ql rfl | apply qm rfl | apply qn rfl | (refine Tx 0 ?_; refine Jn xBo ?_; refine Jn xBo ?_; refine Ja ?_; refine Je ?_) | (refine Tx 1 ?_; refine Jo (xFa tf_Dyadic0 tk_bool) ?_; refine Jo (xLd tk_bool) ?_; refine Jo (xFa tf_Dyadic0 tk_bool) ?_; refine Jo (xLd tk_bool) ?_; refine Jo (by first | exact ok_neqBF rfl Tryd.underlying4 rfl rfl hb | exact xNe) ?_; refine Jm ?_; (first | refine Jd ?_ | refine Jy (xFa tf_Dyadic2 tk_int) ?_); (first | refine Jd ?_ | refine Jy (xLd tk_int) ?_); (first | refine Jd ?_ | refine Jy (xFa tf_Dyadic2 tk_int) ?_); (first | refine Jd ?_ | refine Jy (xLd tk_int) ?_); (first | refine Jd ?_ | refine Jy xNe ?_); refine Jo xPk ?_; refine Jm ?_; (first | refine Jd ?_ | refine Jy (xFa tf_Dyadic1 tk_s_uint32) ?_); (first | refine Jd ?_ | refine Jy (xLd tk_s_uint32) ?_); (first | refine Jd ?_ | refine Jy (xLn ts_s_uint32) ?_); (first | refine Jd ?_ | refine Jy (xFa tf_Dyadic1 tk_s_uint32) ?_); (first | refine Jd ?_ | refine Jy (xLd tk_s_uint32) ?_); (first | refine Jd ?_ | refine Jy (xLn ts_s_uint32) ?_); (first | refine Jd ?_ | refine Jy xNe ?_); refine Jo xPk ?_; refine Je ?_) | (refine Tx 3 ?_; refine Jo (xFa tf_Dyadic1 tk_s_uint32) ?_; refine Jo (xLd tk_s_uint32) ?_; refine Jo (xLn ts_s_uint32) ?_; refine Jm ?_; refine Je ?_))
  refine cw_wk (F' := ofL [(2, vr 0), (3, vr 1), (29, vi r.ws.length), (30, vi ((0 : Nat)))]) (H' := [.box 27 ((dRv t r).map C.d), .box 27 ((dRv u s).map C.d)]) (wk_go [(2, vr 0), (3, vr 1), (29, vi r.ws.length), (30, vi ((0 : Nat)))] 2 ?_ ?_ ?_) ?_
  · rfl
  · exact mB rfl rfl
  · exact ⟨bel_D, bel_D, trivial⟩
  refine cw_loopW (fun n Fr H => ∃ k : Nat, k ≤ r.ws.length ∧ n = r.ws.length - k ∧ r.ws.take k = s.ws.take k ∧ Fr = ofL [(2, vr 0), (3, vr 1), (29, vi r.ws.length), (30, vi ((k : Nat)))] ∧ H = [.box 27 ((dRv t r).map C.d), .box 27 ((dRv u s).map C.d)]) (n0 := r.ws.length) ⟨0, Nat.zero_le _, rfl, rfl, rfl, rfl⟩ ?_
  rintro n Fr H ⟨k, hk, rfl, he, rfl, rfl⟩
  by_cases hlt : k < r.ws.length
  case pos =>
    obtain ⟨p, hp⟩ : ∃ p, r.ws[k]? = some p := ⟨_, List.getElem?_eq_getElem hlt⟩
    obtain ⟨q, hq⟩ : ∃ q, s.ws[k]? = some q := ⟨_, List.getElem?_eq_getElem (by omega)⟩
    by_cases e : p = q
    case neg =>
      repeat' (with_reducible first | apply qa | apply qb | apply qc | apply qd | apply qe | apply qf | apply qg | apply qh | apply qi | apply qj | apply qk | apply ql rfl | apply qm rfl | apply qn rfl | (refine Tx 4 ?_; refine Jo xLt ?_; refine Je ?_) | (refine Tx 5 ?_; refine Jm ?_; refine Ja ?_; refine Je ?_) | (refine cw_any (id := 6) mixed (by kernel_rfl) ?_; refine Ko (xFa tf_Dyadic1 tk_s_uint32) ?_; refine Ko (xLd tk_s_uint32) ?_; refine Km ?_; refine Ko (by first | exact xIr ts_s_uint32 (word_at hp) | exact xIr ts_s_uint32 (word_at hq)) ?_; refine Ko (xLd tk_uint32) ?_; refine Ko (xFa tf_Dyadic1 tk_s_uint32) ?_; refine Ko (xLd tk_s_uint32) ?_; refine Km ?_; refine Ko (by first | exact xIr ts_s_uint32 (word_at hp) | exact xIr ts_s_uint32 (word_at hq)) ?_; refine Ko (xLd tk_uint32) ?_; refine Ko xNe ?_; refine Ke ?_) | (refine Tx 7 ?_; refine Ja ?_; refine Je ?_))
      exact ret_q rfl (.cons_ (rv_b rfl (by unfold sameB; rw [decide_eq_false (fun h => ne_at hp hq e h.2.2)])) .nil_)
    subst e
    repeat' (with_reducible first | apply qa | apply qb | apply qc | apply qd | apply qe | apply qf | apply qg | apply qh | apply qi | apply qj | apply qk | apply ql rfl | apply qm rfl | apply qn rfl | (refine Tx 4 ?_; refine Jo xLt ?_; refine Je ?_) | (refine Tx 5 ?_; refine Jm ?_; refine Ja ?_; refine Je ?_) | (refine cw_any (id := 6) mixed (by kernel_rfl) ?_; refine Ko (xFa tf_Dyadic1 tk_s_uint32) ?_; refine Ko (xLd tk_s_uint32) ?_; refine Km ?_; refine Ko (by first | exact xIr ts_s_uint32 (word_at hp) | exact xIr ts_s_uint32 (word_at hq)) ?_; refine Ko (xLd tk_uint32) ?_; refine Ko (xFa tf_Dyadic1 tk_s_uint32) ?_; refine Ko (xLd tk_s_uint32) ?_; refine Km ?_; refine Ko (by first | exact xIr ts_s_uint32 (word_at hp) | exact xIr ts_s_uint32 (word_at hq)) ?_; refine Ko (xLd tk_uint32) ?_; refine Ko xNe ?_; refine Ke ?_) | (refine Tx 8 ?_; refine Jo xAd ?_; refine Jm ?_; refine Je ?_))
    exact ⟨_, _, wk_go [(2, vr 0), (3, vr 1), (29, vi r.ws.length), (30, vi (((k + 1) : Nat)))] 2 rfl (mB rfl rfl) ⟨bel_D, bel_D, trivial⟩, _, by omega, k + 1, by omega, rfl, take_ext he hp hq, rfl, rfl⟩
  obtain rfl : k = r.ws.length := by omega
  clear hlt hk
  rw [List.take_length, hl, List.take_length] at he
  repeat' (with_reducible first | apply qa | apply qb | apply qc | apply qd | apply qe | apply qf | apply qg | apply qh | apply qi | apply qj | apply qk | apply ql rfl | apply qm rfl | apply qn rfl | (refine Tx 4 ?_; refine Jo xLt ?_; refine Je ?_) | (refine Tx 9 ?_; refine Ja ?_; refine Je ?_))
  exact ret_q rfl (.cons_ (rv_b rfl (by unfold sameB; rw [decide_eq_true ⟨hb, hd, he⟩])) .nil_)
theorem dsame_cv (t u : Bool) (p q : Int × Nat) (l1 : (canon p.1.natAbs).length ≤ 1000000) (l2 : (canon q.1.natAbs).length ≤ 1000000) : CV Tryd.prog TabAt 12 [aDy t p.1 p.2, aDy u q.1 q.2] [aB (decide (p = q))] := by
  have := rvsame_cv t u (rvOf p) (rvOf q) l1 l2
  rw [same_p] at this
  unfold aRv at this
  rwa [rvOf_D, rvOf_D] at this
theorem dyt_at {t : Bool} {l : List (Int × Nat)} {k : Nat} {p : Int × Nat} (h : l[k]? = some p) : ((flatD (fun p => dDy t p.1 p.2) l).drop (k * 3)).take 3 = dDy t p.1 p.2 := flatD_at (f := fun p => dDy t p.1 p.2) (s := 3) (fun _ => rfl) h
def LenOk (l : List (Int × Nat)) : Prop := ∀ p ∈ l, (canon p.1.natAbs).length ≤ 1000000
set_option maxRecDepth 100000 in
set_option maxHeartbeats 4000000 in
theorem lsame_cv (t u : Bool) (l m : List (Int × Nat)) (h1 : LenOk l) (h2 : LenOk m) (n1 : l.length ≤ 1000000) (n2 : m.length ≤ 1000000) : CV Tryd.prog TabAt 21 [.one (.row t 3 l.length (flatD (fun p => dDy t p.1 p.2) l)), .one (.row u 3 m.length (flatD (fun p => dDy u p.1 p.2) m))] [aB (decide (l = m))] := by
  refine cv_of tab_G Tryd.func21 rfl Tryd.ntmps21 (Nat.le_of_ble_eq_true rfl) ?_
  by_cases hn : l.length = m.length
  case neg =>
    repeat' (with_reducible first | apply qa | apply qb | apply qc | apply qd | apply qe | apply qf | apply qg | apply qh | apply qi | apply qj | apply qk | apply ql rfl | apply qm rfl | apply qn rfl | (refine Tx 0 ?_; refine Ja ?_; refine Je ?_) | (refine Tx 1 ?_; refine Jm ?_; refine Jo (xLn ts_s_Dyadic) ?_; refine Jm ?_; refine Jo (xLn ts_s_Dyadic) ?_; refine Jo xNe ?_; refine Je ?_) | (refine Tx 2 ?_; refine Ja ?_; refine Je ?_))
    exact ret_q rfl (.cons_ (rv_b rfl (decide_eq_false (fun h => hn (by rw [h]))|>.symm)) .nil_)
  repeat' (with_reducible first | apply qa | apply qb | apply qc | apply qd | apply qe | apply qf | apply qg | apply qh | apply qi | apply qj | apply qk | apply ql rfl | apply qm rfl | apply qn rfl | (refine Tx 0 ?_; refine Ja ?_; refine Je ?_) | (refine Tx 1 ?_; refine Jm ?_; refine Jo (xLn ts_s_Dyadic) ?_; refine Jm ?_; refine Jo (xLn ts_s_Dyadic) ?_; refine Jo xNe ?_; refine Je ?_) | (refine Tx 3 ?_; refine Jm ?_; refine Jo (xLn ts_s_Dyadic) ?_; refine Jm ?_; refine Je ?_))
  refine cw_wk (F' := ofL [(0, vd (.row t 3 l.length (flatD (fun p => dDy t p.1 p.2) l))), (1, vd (.row u 3 m.length (flatD (fun p => dDy u p.1 p.2) m))), (12, vi l.length), (13, vi ((0 : Nat)))]) (H' := []) (wk_go [(0, vd (.row t 3 l.length (flatD (fun p => dDy t p.1 p.2) l))), (1, vd (.row u 3 m.length (flatD (fun p => dDy u p.1 p.2) m))), (12, vi l.length), (13, vi ((0 : Nat)))] 0 ?_ ?_ ?_) ?_
  · rfl
  · exact mB rfl rfl
  · exact trivial
  refine cw_loopW (fun n Fr H => ∃ k : Nat, k ≤ l.length ∧ n = l.length - k ∧ l.take k = m.take k ∧ Fr = ofL [(0, vd (.row t 3 l.length (flatD (fun p => dDy t p.1 p.2) l))), (1, vd (.row u 3 m.length (flatD (fun p => dDy u p.1 p.2) m))), (12, vi l.length), (13, vi ((k : Nat)))] ∧ H = []) (n0 := l.length) ⟨0, Nat.zero_le _, rfl, rfl, rfl, rfl⟩ ?_
  rintro n Fr H ⟨k, hk, rfl, he, rfl, rfl⟩
  by_cases hlt : k < l.length
  case pos =>
    obtain ⟨p, hp⟩ : ∃ p, l[k]? = some p := ⟨_, List.getElem?_eq_getElem hlt⟩
    obtain ⟨q, hq⟩ : ∃ q, m[k]? = some q := ⟨_, List.getElem?_eq_getElem (by omega)⟩
    have SM := dsame_cv t u p q (h1 p (List.mem_of_getElem? hp)) (h2 q (List.mem_of_getElem? hq))
    by_cases e : p = q
    case neg =>
      rw [decide_eq_false e] at SM
      repeat' (with_reducible first | apply qa | apply qb | apply qc | apply qd | apply qe | apply qf | apply qg | apply qh | apply qi | apply qj | apply qk | apply ql rfl | apply qm rfl | apply qn rfl | (refine Tx 4 ?_; refine Jo xLt ?_; refine Je ?_) | (refine Tx 5 ?_; refine Jm ?_; refine Ja ?_; refine Je ?_) | (refine cw_any (id := 6) mixed (by kernel_rfl) ?_; refine Km ?_; refine Km ?_; refine Ko (by first | exact xIr ts_s_Dyadic (dyt_at hp) | exact xIr ts_s_Dyadic (dyt_at hq)) ?_; refine Ko (xLa tk_Dyadic) ?_; refine Km ?_; refine Km ?_; refine Ko (by first | exact xIr ts_s_Dyadic (dyt_at hp) | exact xIr ts_s_Dyadic (dyt_at hq)) ?_; refine Ko (xLa tk_Dyadic) ?_; refine Ko (xCl Tryd.func12 (SM)) ?_; refine Ko (by first | exact ok_not rfl rfl | exact ok_neg64 rfl rfl (by omega)) ?_; refine Ke ?_) | (refine Tx 7 ?_; refine Ja ?_; refine Je ?_))
      exact ret_q rfl (.cons_ (rv_b rfl (decide_eq_false (fun h => ne_at hp hq e h)|>.symm)) .nil_)
    rw [decide_eq_true e] at SM
    subst e
    repeat' (with_reducible first | apply qa | apply qb | apply qc | apply qd | apply qe | apply qf | apply qg | apply qh | apply qi | apply qj | apply qk | apply ql rfl | apply qm rfl | apply qn rfl | (refine Tx 4 ?_; refine Jo xLt ?_; refine Je ?_) | (refine Tx 5 ?_; refine Jm ?_; refine Ja ?_; refine Je ?_) | (refine cw_any (id := 6) mixed (by kernel_rfl) ?_; refine Km ?_; refine Km ?_; refine Ko (by first | exact xIr ts_s_Dyadic (dyt_at hp) | exact xIr ts_s_Dyadic (dyt_at hq)) ?_; refine Ko (xLa tk_Dyadic) ?_; refine Km ?_; refine Km ?_; refine Ko (by first | exact xIr ts_s_Dyadic (dyt_at hp) | exact xIr ts_s_Dyadic (dyt_at hq)) ?_; refine Ko (xLa tk_Dyadic) ?_; refine Ko (xCl Tryd.func12 (SM)) ?_; refine Ko (by first | exact ok_not rfl rfl | exact ok_neg64 rfl rfl (by omega)) ?_; refine Ke ?_) | (refine Tx 8 ?_; refine Jo xAd ?_; refine Jm ?_; refine Je ?_))
    exact ⟨_, _, wk_go [(0, vd (.row t 3 l.length (flatD (fun p => dDy t p.1 p.2) l))), (1, vd (.row u 3 m.length (flatD (fun p => dDy u p.1 p.2) m))), (12, vi l.length), (13, vi (((k + 1) : Nat)))] 0 rfl (mB rfl rfl) trivial, _, by omega, k + 1, by omega, rfl, take_ext he hp hq, rfl, rfl⟩
  obtain rfl : k = l.length := by omega
  clear hlt hk
  rw [List.take_length, hn, List.take_length] at he
  repeat' (with_reducible first | apply qa | apply qb | apply qc | apply qd | apply qe | apply qf | apply qg | apply qh | apply qi | apply qj | apply qk | apply ql rfl | apply qm rfl | apply qn rfl | (refine Tx 4 ?_; refine Jo xLt ?_; refine Je ?_) | (refine Tx 9 ?_; refine Ja ?_; refine Je ?_))
  exact ret_q rfl (.cons_ (rv_b rfl (decide_eq_true he|>.symm)) .nil_)
set_option maxRecDepth 100000 in
set_option maxHeartbeats 4000000 in
theorem rstart_cv (t : Bool) {ps : List Prt} {bs : List Bk} {os : List Int} (hl : DgLen ps bs os) (h0 : dgErr ps bs os = 0) : CV Tryd.prog TabAt 22 [aDg t ps bs os] [aDys (startM bs)] := by
  refine cv_of tab_G Tryd.func22 rfl Tryd.ntmps22 (Nat.le_of_ble_eq_true rfl) ?_
  have DL := (rdelays_cv t hl (ps := ps) (bs := bs) (os := os)).cv
  have hnl := natI_len (delL bs)
  repeat' (with_reducible first | apply qa | apply qb | apply qc | apply qd | apply qe | apply qf | apply qg | apply qh | apply qi | apply qj | apply qk | apply ql rfl | apply qm rfl | apply qn rfl | (refine Tx 0 ?_; refine Jn xBo ?_; refine Ja ?_; refine Je ?_) | (refine Tx 1 ?_; refine Ja ?_; refine Je ?_))
  refine cw_wk (wk_nil 3 27 3 rfl) ?_
  repeat' (with_reducible first | apply qa | apply qb | apply qc | apply qd | apply qe | apply qf | apply qg | apply qh | apply qi | apply qj | apply qk | apply ql rfl | apply qm rfl | apply qn rfl | (refine Tx 2 ?_; refine Jo (xLa tk_Diagram) ?_; refine Jo (xCl Tryd.func26 (DL)) ?_; refine Jo (xLn ts_s_int) ?_; refine Jm ?_; refine Je ?_))
  have hl2 := hl.l2
  have hdb := delL_le bs
  have hsl : (startM bs).length = (delL bs).length := (start_ok h0).len
  refine cw_wk (F' := ofL [(1, vr 0), (3, vo 1 (((startM bs).take 0).length)), (7, vd (rowI false (natI (delL bs)))), (8, vi ((natI (delL bs)).length)), (9, vi ((0 : Nat)))]) (H' := [.box 41 [.d (rowP t ps), .d (rowB t bs), .d (rowI t os)], .row 27 3 ((startM bs).take (0)).length ((flatD dyP ((startM bs).take (0))).map C.d)]) (wk_go [(1, vr 0), (3, vo 1 (((startM bs).take 0).length)), (7, vd (rowI false (natI (delL bs)))), (8, vi ((natI (delL bs)).length)), (9, vi ((0 : Nat)))] 2 ?_ ?_ ?_) ?_
  · rfl
  · exact mB rfl rfl
  · exact ⟨bel_lit rfl, bel_D, trivial⟩
  refine cw_loopW (fun n Fr H => ∃ k : Nat, k ≤ (delL bs).length ∧ n = (delL bs).length - k ∧ Fr = ofL [(1, vr 0), (3, vo 1 (((startM bs).take k).length)), (7, vd (rowI false (natI (delL bs)))), (8, vi ((natI (delL bs)).length)), (9, vi ((k : Nat)))] ∧ H = [.box 41 [.d (rowP t ps), .d (rowB t bs), .d (rowI t os)], .row 27 3 ((startM bs).take (k)).length ((flatD dyP ((startM bs).take (k))).map C.d)]) (n0 := (delL bs).length) ⟨0, Nat.zero_le _, rfl, rfl, rfl⟩ ?_
  rintro n Fr H ⟨k, hk, rfl, rfl, rfl⟩
  by_cases hlt : k < (delL bs).length
  case pos =>
    obtain ⟨i, hi⟩ : ∃ i, (delL bs)[k]? = some i := ⟨_, List.getElem?_eq_getElem hlt⟩
    have hid := del_at hi
    have hil := hid.1
    obtain ⟨y, hy⟩ : ∃ y, bs[i]? = some y := ⟨_, List.getElem?_eq_getElem hil⟩
    have hk2 := hid.2
    rw [kind_at hy] at hk2
    have hsc := acc_sc h0 hy (by unfold valU; rw [hk2]; rfl)
    obtain ⟨s1, s2, s3, s4⟩ := hsc
    have NU := (rvalue_cv (G := TabAt) y.vn y.ve (by omega) (by omega)).cv
    obtain ⟨hap, hap2, hoL⟩ := flat_next (start_at hi hy)
    repeat' (with_reducible first | apply qa | apply qb | apply qc | apply qd | apply qe | apply qf | apply qg | apply qh | apply qi | apply qj | apply qk | apply ql rfl | apply qm rfl | apply qn rfl | (refine Tx 3 ?_; refine Jo xLt ?_; refine Je ?_) | (refine Tx 4 ?_; refine Jo (xIr ts_s_int (int_at (natI_at hi))) ?_; refine Jo (xLd tk_int) ?_; refine Ja ?_; refine Je ?_) | (refine Tx 5 ?_; refine Jm ?_; refine Jo (xFa tf_Diagram1 tk_s_Block) ?_; refine Jo (xLd tk_s_Block) ?_; refine Jm ?_; refine Jo (xIr ts_s_Block (bk_at hy)) ?_; refine Jo (xFa tf_Block2 tk_Scalar) ?_; refine Jo (xLa tk_Scalar) ?_; refine Jo (xCl Tryd.func13 (NU)) ?_; refine Jn (by exact ok_build1 rfl ts_s_Dyadic tz_Dyadic rfl rfl (by decide) (by decide)) ?_; refine Jt (by exact to_apD rfl rfl rfl rfl rfl rfl ts_s_Dyadic tz_Dyadic (by omega) (by decide) (by decide) rfl hap hap2) ?_; refine Ja ?_; refine Je ?_) | (refine Tx 6 ?_; refine Jo xAd ?_; refine Jm ?_; refine Je ?_))
    refine ⟨_, _, wk_go [(1, vr 0), (3, vo 1 (((startM bs).take ((k + 1))).length)), (7, vd (rowI false (natI (delL bs)))), (8, vi ((natI (delL bs)).length)), (9, vi (((k + 1) : Nat)))] 2 ?_ ?_ ?_, _, ?_, k + 1, by omega, rfl, rfl, rfl⟩
    · rfl
    · exact mB rfl rfl
    · exact ⟨bel_lit rfl, bel_D, trivial⟩
    · omega
  obtain rfl : k = (delL bs).length := by omega
  clear hlt hk
  rw [← hsl, List.take_length]
  unfold aDys
  repeat' (with_reducible first | apply qa | apply qb | apply qc | apply qd | apply qe | apply qf | apply qg | apply qh | apply qi | apply qj | apply qk | apply ql rfl | apply qm rfl | apply qn rfl | (refine Tx 3 ?_; refine Jo xLt ?_; refine Je ?_) | (refine Tx 7 ?_; refine Jm ?_; refine Ja ?_; refine Je ?_))
  exact ret_q rfl (.cons_ (.tmp (.one (cexp_oD rfl rfl rfl))) .nil_)
set_option maxRecDepth 100000 in
set_option maxHeartbeats 4000000 in
theorem rstep_cv (t v : Bool) {ps : List Prt} {bs : List Bk} {os : List Int} (hl : DgLen ps bs os) (h0 : dgErr ps bs os = 0) (rs : List Rv) (hw : ∀ r ∈ rs, wordsOk r.ws ∧ r.ws.length ≤ 1000) (hrl : rs.length ≤ 1000000) (ins : List Int) (hil : ins.length ≤ 1000000) : CV Tryd.prog TabAt 20 [aDg t ps bs os, .one (rowR rs), .one (rowI v ins)] [aDys (okQ (stE ps bs os rs ins) (nextE ps bs (rs.map rvP) ins)), aDys (okQ (stE ps bs os rs ins) (valE ps bs (rs.map rvP) ins)), aI (stE ps bs os rs ins)] := by
  refine cv_of tab_G Tryd.func20 rfl Tryd.ntmps20 (Nat.le_of_ble_eq_true rfl) ?_
  have DL := (rdelays_cv t hl (ps := ps) (bs := bs) (os := os)).cv
  have OL := (rorder_cv t hl h0).cv
  have hnl := natI_len (delL bs)
  have hol := natI_len (ordM bs)
  have hl1 := hl.l1
  have hl2 := hl.l2
  have hl3 := hl.l3
  have hob := ord_len (bs := bs)
  have hdb := delL_le bs
  by_cases hL : rs.length = (delL bs).length
  case neg =>
    have hE := stE2 (os := os) (ins := ins) h0 hL
    rw [hE, okQ_n (by decide), okQ_n (by decide)]
    repeat' (with_reducible first | apply qa | apply qb | apply qc | apply qd | apply qe | apply qf | apply qg | apply qh | apply qi | apply qj | apply qk | apply ql rfl | apply qm rfl | apply qn rfl | (refine Tx 0 ?_; refine Jn xBo ?_; refine Ja ?_; refine Ja ?_; refine Ja ?_; refine Je ?_) | (refine Tx 1 ?_; refine Jo (xLa tk_Diagram) ?_; refine Jo (xCl Tryd.func26 (DL)) ?_; refine Ja ?_; refine Je ?_) | (refine Tx 2 ?_; refine Jm ?_; refine Jo (xLn ts_s_Dyadic) ?_; refine Jm ?_; refine Jo (xLn ts_s_int) ?_; refine Jo xNe ?_; refine Je ?_) | (refine Tx 3 ?_; refine Ja ?_; refine Ja ?_; refine Ja ?_; refine Je ?_))
    exact ret_q rfl (.cons_ (.tmp (.one (cexp_n rfl rfl))) (.cons_ (.tmp (.one (cexp_n rfl rfl))) (.cons_ (rv_i rfl rfl) .nil_)))
  repeat' (with_reducible first | apply qa | apply qb | apply qc | apply qd | apply qe | apply qf | apply qg | apply qh | apply qi | apply qj | apply qk | apply ql rfl | apply qm rfl | apply qn rfl | (refine Tx 0 ?_; refine Jn xBo ?_; refine Ja ?_; refine Ja ?_; refine Ja ?_; refine Je ?_) | (refine Tx 1 ?_; refine Jo (xLa tk_Diagram) ?_; refine Jo (xCl Tryd.func26 (DL)) ?_; refine Ja ?_; refine Je ?_) | (refine Tx 2 ?_; refine Jm ?_; refine Jo (xLn ts_s_Dyadic) ?_; refine Jm ?_; refine Jo (xLn ts_s_int) ?_; refine Jo xNe ?_; refine Je ?_) | (refine Tx 4 ?_; refine Jm ?_; refine Jo (xLn ts_s_Dyadic) ?_; refine Jm ?_; refine Je ?_))
  refine cw_wk (F' := ofL [(1, vd (rowR rs)), (2, vd (rowI v ins)), (3, vr 0), (9, vd (rowI false (natI (delL bs)))), (35, vd (rowR rs)), (36, vi rs.length), (37, vi ((0 : Nat)))]) (H' := [.box 41 [.d (rowP t ps), .d (rowB t bs), .d (rowI t os)]]) (wk_go [(1, vd (rowR rs)), (2, vd (rowI v ins)), (3, vr 0), (9, vd (rowI false (natI (delL bs)))), (35, vd (rowR rs)), (36, vi rs.length), (37, vi ((0 : Nat)))] 1 ?_ ?_ ?_) ?_
  · rfl
  · exact mB rfl rfl
  · exact ⟨bel_lit rfl, trivial⟩
  refine cw_loopW (fun n Fr H => ∃ k : Nat, k ≤ rs.length ∧ n = rs.length - k ∧ (∀ r ∈ rs.take k, vdB r.rw = true) ∧ Fr = ofL [(1, vd (rowR rs)), (2, vd (rowI v ins)), (3, vr 0), (9, vd (rowI false (natI (delL bs)))), (35, vd (rowR rs)), (36, vi rs.length), (37, vi ((k : Nat)))] ∧ H = [.box 41 [.d (rowP t ps), .d (rowB t bs), .d (rowI t os)]]) (n0 := rs.length) ⟨0, Nat.zero_le _, rfl, (fun r hr => by simp at hr), rfl, rfl⟩ ?_
  rintro n Fr H ⟨k, hk, rfl, hv, rfl, rfl⟩
  by_cases hlt : k < rs.length
  case pos =>
    obtain ⟨r, hr⟩ : ∃ r, rs[k]? = some r := ⟨_, List.getElem?_eq_getElem hlt⟩
    have hrm := hw r (List.mem_of_getElem? hr)
    have VA := dvalid_cv (G := TabAt) false r hrm.1 (by omega)
    cases hb : vdB r.rw
    case false =>
      rw [hb] at VA
      have hE := stE3 (os := os) (ins := ins) h0 hL (not_all hr hb)
      rw [hE, okQ_n (by decide), okQ_n (by decide)]
      repeat' (with_reducible first | apply qa | apply qb | apply qc | apply qd | apply qe | apply qf | apply qg | apply qh | apply qi | apply qj | apply qk | apply ql rfl | apply qm rfl | apply qn rfl | (refine Tx 5 ?_; refine Jo xLt ?_; refine Je ?_) | (refine Tx 6 ?_; refine Jo (xIr ts_s_Dyadic (rv_at hr)) ?_; refine Jo (xLa tk_Dyadic) ?_; refine Jn (by exact ok_alloc rfl tz_Dyadic) ?_; refine Js (xSk tk_Dyadic) ?_; refine Je ?_) | (refine Tx 7 ?_; refine Jo (xLa tk_Dyadic) ?_; refine Jo (xCl Tryd.func50 (VA.cv)) ?_; refine Jo (by first | exact ok_not rfl rfl | exact ok_neg64 rfl rfl (by omega)) ?_; refine Je ?_) | (refine Tx 8 ?_; refine Ja ?_; refine Ja ?_; refine Ja ?_; refine Je ?_))
      exact ret_q rfl (.cons_ (.tmp (.one (cexp_n rfl rfl))) (.cons_ (.tmp (.one (cexp_n rfl rfl))) (.cons_ (rv_i rfl rfl) .nil_)))
    case true =>
      rw [hb] at VA
      repeat' (with_reducible first | apply qa | apply qb | apply qc | apply qd | apply qe | apply qf | apply qg | apply qh | apply qi | apply qj | apply qk | apply ql rfl | apply qm rfl | apply qn rfl | (refine Tx 5 ?_; refine Jo xLt ?_; refine Je ?_) | (refine Tx 6 ?_; refine Jo (xIr ts_s_Dyadic (rv_at hr)) ?_; refine Jo (xLa tk_Dyadic) ?_; refine Jn (by exact ok_alloc rfl tz_Dyadic) ?_; refine Js (xSk tk_Dyadic) ?_; refine Je ?_) | (refine Tx 7 ?_; refine Jo (xLa tk_Dyadic) ?_; refine Jo (xCl Tryd.func50 (VA.cv)) ?_; refine Jo (by first | exact ok_not rfl rfl | exact ok_neg64 rfl rfl (by omega)) ?_; refine Je ?_) | (refine Tx 9 ?_; refine Jo xAd ?_; refine Jm ?_; refine Je ?_))
      exact ⟨_, _, wk_go [(1, vd (rowR rs)), (2, vd (rowI v ins)), (3, vr 0), (9, vd (rowI false (natI (delL bs)))), (35, vd (rowR rs)), (36, vi rs.length), (37, vi (((k + 1) : Nat)))] 1 rfl (mB rfl rfl) ⟨bel_lit rfl, trivial⟩, _, by omega, k + 1, by omega, rfl, take_all1 hv hr hb, rfl, rfl⟩
  obtain rfl : k = rs.length := by omega
  rw [List.take_length] at hv
  clear hlt hk
  have hva : ¬ rs.all (fun r => vdB r.rw) = false := by rw [Bool.not_eq_false]; exact List.all_eq_true.2 hv
  by_cases hI : ins.length = ps.length
  case neg =>
    have hE := stE4 (os := os) h0 hL hva hI
    rw [hE, okQ_n (by decide), okQ_n (by decide)]
    repeat' (with_reducible first | apply qa | apply qb | apply qc | apply qd | apply qe | apply qf | apply qg | apply qh | apply qi | apply qj | apply qk | apply ql rfl | apply qm rfl | apply qn rfl | (refine Tx 5 ?_; refine Jo xLt ?_; refine Je ?_) | (refine Tx 10 ?_; refine Jm ?_; refine Jo (xLn ts_s_int) ?_; refine Jo (xFa tf_Diagram0 tk_s_Port) ?_; refine Jo (xLd tk_s_Port) ?_; refine Jo (xLn ts_s_Port) ?_; refine Jo xNe ?_; refine Je ?_) | (refine Tx 11 ?_; refine Ja ?_; refine Ja ?_; refine Ja ?_; refine Je ?_))
    exact ret_q rfl (.cons_ (.tmp (.one (cexp_n rfl rfl))) (.cons_ (.tmp (.one (cexp_n rfl rfl))) (.cons_ (rv_i rfl rfl) .nil_)))
  repeat' (with_reducible first | apply qa | apply qb | apply qc | apply qd | apply qe | apply qf | apply qg | apply qh | apply qi | apply qj | apply qk | apply ql rfl | apply qm rfl | apply qn rfl | (refine Tx 5 ?_; refine Jo xLt ?_; refine Je ?_) | (refine Tx 10 ?_; refine Jm ?_; refine Jo (xLn ts_s_int) ?_; refine Jo (xFa tf_Diagram0 tk_s_Port) ?_; refine Jo (xLd tk_s_Port) ?_; refine Jo (xLn ts_s_Port) ?_; refine Jo xNe ?_; refine Je ?_) | (refine Tx 12 ?_; refine Jo (xFa tf_Diagram0 tk_s_Port) ?_; refine Jo (xLd tk_s_Port) ?_; refine Jo (xLn ts_s_Port) ?_; refine Jm ?_; refine Je ?_))
  refine cw_wk (F' := ofL [(1, vd (rowR rs)), (2, vd (rowI v ins)), (3, vr 0), (9, vd (rowI false (natI (delL bs)))), (52, vd (rowP t ps)), (53, vi ps.length), (54, vi ((0 : Nat)))]) (H' := [.box 41 [.d (rowP t ps), .d (rowB t bs), .d (rowI t os)]]) (wk_go [(1, vd (rowR rs)), (2, vd (rowI v ins)), (3, vr 0), (9, vd (rowI false (natI (delL bs)))), (52, vd (rowP t ps)), (53, vi ps.length), (54, vi ((0 : Nat)))] 1 ?_ ?_ ?_) ?_
  · rfl
  · exact mB rfl rfl
  · exact ⟨bel_lit rfl, trivial⟩
  refine cw_loopW (fun n Fr H => ∃ k : Nat, k ≤ ps.length ∧ n = ps.length - k ∧ (∀ i, i < k → rngB ps ins i = true) ∧ Fr = ofL [(1, vd (rowR rs)), (2, vd (rowI v ins)), (3, vr 0), (9, vd (rowI false (natI (delL bs)))), (52, vd (rowP t ps)), (53, vi ps.length), (54, vi ((k : Nat)))] ∧ H = [.box 41 [.d (rowP t ps), .d (rowB t bs), .d (rowI t os)]]) (n0 := ps.length) ⟨0, Nat.zero_le _, rfl, (fun i hi => absurd hi (Nat.not_lt_zero i)), rfl, rfl⟩ ?_
  rintro n Fr H ⟨k, hk, rfl, hr, rfl, rfl⟩
  by_cases hlt : k < ps.length
  case pos =>
    obtain ⟨z, hz⟩ : ∃ z, ins[k]? = some z := ⟨_, List.getElem?_eq_getElem (by omega)⟩
    obtain ⟨p, hp⟩ : ∃ p, ps[k]? = some p := ⟨_, List.getElem?_eq_getElem hlt⟩
    by_cases cl : z < p.lo
    case pos =>
      have hE := stE5 (os := os) h0 hL hva hI (not_rng hp hz (.inl cl))
      rw [hE, okQ_n (by decide), okQ_n (by decide)]
      repeat' (with_reducible first | apply qa | apply qb | apply qc | apply qd | apply qe | apply qf | apply qg | apply qh | apply qi | apply qj | apply qk | apply ql rfl | apply qm rfl | apply qn rfl | (refine Tx 13 ?_; refine Jo xLt ?_; refine Je ?_) | (refine Tx 14 ?_; refine Jm ?_; refine Jo (xIr ts_s_Port (prt_at hp)) ?_; refine Jo (xLa tk_Port) ?_; refine Jn (by exact ok_alloc rfl tz_Port) ?_; refine Ja ?_; refine Js (xSk tk_Port) ?_; refine Je ?_) | (refine cw_any (id := 15) mixed (by kernel_rfl) ?_; refine Km ?_; refine Km ?_; refine Ko (xIr ts_s_int (int_at hz)) ?_; refine Ko (xLd tk_int) ?_; refine Ko (xFa tf_Port0 tk_int) ?_; refine Ko (xLd tk_int) ?_; refine Ko xLt ?_; refine Km ?_; (first | refine Kd ?_ | refine Ky (by exact ok_mv1 rfl rfl) ?_); (first | refine Kd ?_ | refine Ky (by exact ok_mv1 rfl rfl) ?_); (first | refine Kd ?_ | refine Ky (xIr ts_s_int (int_at hz)) ?_); (first | refine Kd ?_ | refine Ky (xLd tk_int) ?_); (first | refine Kd ?_ | refine Ky (xFa tf_Port1 tk_int) ?_); (first | refine Kd ?_ | refine Ky (xLd tk_int) ?_); (first | refine Kd ?_ | refine Ky xGt ?_); refine Ko xPk ?_; refine Ke ?_) | (refine Tx 16 ?_; refine Ja ?_; refine Ja ?_; refine Ja ?_; refine Je ?_))
      exact ret_q rfl (.cons_ (.tmp (.one (cexp_n rfl rfl))) (.cons_ (.tmp (.one (cexp_n rfl rfl))) (.cons_ (rv_i rfl rfl) .nil_)))
    by_cases ch : p.hi < z
    case pos =>
      have hE := stE5 (os := os) h0 hL hva hI (not_rng hp hz (.inr ch))
      rw [hE, okQ_n (by decide), okQ_n (by decide)]
      repeat' (with_reducible first | apply qa | apply qb | apply qc | apply qd | apply qe | apply qf | apply qg | apply qh | apply qi | apply qj | apply qk | apply ql rfl | apply qm rfl | apply qn rfl | (refine Tx 13 ?_; refine Jo xLt ?_; refine Je ?_) | (refine Tx 14 ?_; refine Jm ?_; refine Jo (xIr ts_s_Port (prt_at hp)) ?_; refine Jo (xLa tk_Port) ?_; refine Jn (by exact ok_alloc rfl tz_Port) ?_; refine Ja ?_; refine Js (xSk tk_Port) ?_; refine Je ?_) | (refine cw_any (id := 15) mixed (by kernel_rfl) ?_; refine Km ?_; refine Km ?_; refine Ko (xIr ts_s_int (int_at hz)) ?_; refine Ko (xLd tk_int) ?_; refine Ko (xFa tf_Port0 tk_int) ?_; refine Ko (xLd tk_int) ?_; refine Ko xLt ?_; refine Km ?_; (first | refine Kd ?_ | refine Ky (by exact ok_mv1 rfl rfl) ?_); (first | refine Kd ?_ | refine Ky (by exact ok_mv1 rfl rfl) ?_); (first | refine Kd ?_ | refine Ky (xIr ts_s_int (int_at hz)) ?_); (first | refine Kd ?_ | refine Ky (xLd tk_int) ?_); (first | refine Kd ?_ | refine Ky (xFa tf_Port1 tk_int) ?_); (first | refine Kd ?_ | refine Ky (xLd tk_int) ?_); (first | refine Kd ?_ | refine Ky xGt ?_); refine Ko xPk ?_; refine Ke ?_) | (refine Tx 16 ?_; refine Ja ?_; refine Ja ?_; refine Ja ?_; refine Je ?_))
      exact ret_q rfl (.cons_ (.tmp (.one (cexp_n rfl rfl))) (.cons_ (.tmp (.one (cexp_n rfl rfl))) (.cons_ (rv_i rfl rfl) .nil_)))
    repeat' (with_reducible first | apply qa | apply qb | apply qc | apply qd | apply qe | apply qf | apply qg | apply qh | apply qi | apply qj | apply qk | apply ql rfl | apply qm rfl | apply qn rfl | (refine Tx 13 ?_; refine Jo xLt ?_; refine Je ?_) | (refine Tx 14 ?_; refine Jm ?_; refine Jo (xIr ts_s_Port (prt_at hp)) ?_; refine Jo (xLa tk_Port) ?_; refine Jn (by exact ok_alloc rfl tz_Port) ?_; refine Ja ?_; refine Js (xSk tk_Port) ?_; refine Je ?_) | (refine cw_any (id := 15) mixed (by kernel_rfl) ?_; refine Km ?_; refine Km ?_; refine Ko (xIr ts_s_int (int_at hz)) ?_; refine Ko (xLd tk_int) ?_; refine Ko (xFa tf_Port0 tk_int) ?_; refine Ko (xLd tk_int) ?_; refine Ko xLt ?_; refine Km ?_; (first | refine Kd ?_ | refine Ky (by exact ok_mv1 rfl rfl) ?_); (first | refine Kd ?_ | refine Ky (by exact ok_mv1 rfl rfl) ?_); (first | refine Kd ?_ | refine Ky (xIr ts_s_int (int_at hz)) ?_); (first | refine Kd ?_ | refine Ky (xLd tk_int) ?_); (first | refine Kd ?_ | refine Ky (xFa tf_Port1 tk_int) ?_); (first | refine Kd ?_ | refine Ky (xLd tk_int) ?_); (first | refine Kd ?_ | refine Ky xGt ?_); refine Ko xPk ?_; refine Ke ?_) | (refine Tx 17 ?_; refine Jo xAd ?_; refine Jm ?_; refine Je ?_))
    exact ⟨_, _, wk_go [(1, vd (rowR rs)), (2, vd (rowI v ins)), (3, vr 0), (9, vd (rowI false (natI (delL bs)))), (52, vd (rowP t ps)), (53, vi ps.length), (54, vi (((k + 1) : Nat)))] 1 rfl (mB rfl rfl) ⟨bel_lit rfl, trivial⟩, _, by omega, k + 1, by omega, rfl, lt_step hr (by unfold rngB; rw [hp, hz]; exact decide_eq_true (by omega)), rfl, rfl⟩
  obtain rfl : k = ps.length := by omega
  clear hlt hk
  have hin : inOk ps ins = true := List.all_eq_true.2 fun i hi => hr i (by have := List.mem_range.1 hi; omega)
  clear hr
  have hino : ¬ inOk ps ins = false := by rw [hin]; decide
  have hE := stE6 (os := os) h0 hL hva hI hino
  have hnf : ∀ p ∈ rs.map rvP, Sm p 32000 65536 := fun p hp => by
    obtain ⟨r, hr, rfl⟩ := List.mem_map.1 hp
    have h1 := rv_dy (t := false) (hw r hr).1 (hv r hr)
    exact sm_len h1.2.1 (Nat.le_trans (Nat.le_of_eq h1.2.2) (hw r hr).2)
  have hsl : (rs.map rvP).length = (delL bs).length := by rw [List.length_map]; exact hL
  repeat' (with_reducible first | apply qa | apply qb | apply qc | apply qd | apply qe | apply qf | apply qg | apply qh | apply qi | apply qj | apply qk | apply ql rfl | apply qm rfl | apply qn rfl | (refine Tx 13 ?_; refine Jo xLt ?_; refine Je ?_) | (refine Tx 18 ?_; refine Jo (xFa tf_Diagram1 tk_s_Block) ?_; refine Jo (xLd tk_s_Block) ?_; refine Jo (xLn ts_s_Block) ?_; refine Jn (by first | exact ok_makeV (n := bs.length) rfl rfl rfl ts_s_Dyadic tz_Dyadic (by omega) (by decide) | exact ok_makeSlice rfl rfl rfl ts_s_Dyadic tz_Dyadic (by omega) (by decide)) ?_; refine Ja ?_; refine Je ?_) | (refine Tx 19 ?_; refine Jm ?_; refine Jo (xLn ts_s_int) ?_; refine Jm ?_; refine Je ?_))
  refine cw_wk (F' := ofL [(1, vd (rowR rs)), (2, vd (rowI v ins)), (3, vr 0), (9, vd (rowI false (natI (delL bs)))), (14, vo 1 bs.length), (80, vd (rowI false (natI (delL bs)))), (81, vi ((natI (delL bs)).length)), (82, vi ((0 : Nat)))]) (H' := [.box 41 [.d (rowP t ps), .d (rowB t bs), .d (rowI t os)], .row 27 3 bs.length (cVs (delV ((delL bs).take (0)) ((rs.map rvP).take (0)) (List.replicate bs.length none)))]) (wk_go [(1, vd (rowR rs)), (2, vd (rowI v ins)), (3, vr 0), (9, vd (rowI false (natI (delL bs)))), (14, vo 1 bs.length), (80, vd (rowI false (natI (delL bs)))), (81, vi ((natI (delL bs)).length)), (82, vi ((0 : Nat)))] 2 ?_ ?_ ?_) ?_
  · rfl
  · exact mB rfl rfl
  · exact ⟨bel_lit rfl, bel_cVs, trivial⟩
  refine cw_loopW (fun n Fr H => ∃ k : Nat, k ≤ (delL bs).length ∧ n = (delL bs).length - k ∧ Fr = ofL [(1, vd (rowR rs)), (2, vd (rowI v ins)), (3, vr 0), (9, vd (rowI false (natI (delL bs)))), (14, vo 1 bs.length), (80, vd (rowI false (natI (delL bs)))), (81, vi ((natI (delL bs)).length)), (82, vi ((k : Nat)))] ∧ H = [.box 41 [.d (rowP t ps), .d (rowB t bs), .d (rowI t os)], .row 27 3 bs.length (cVs (delV ((delL bs).take (k)) ((rs.map rvP).take (k)) (List.replicate bs.length none)))]) (n0 := (delL bs).length) ⟨0, Nat.zero_le _, rfl, rfl, rfl⟩ ?_
  rintro n Fr H ⟨k, hk, rfl, rfl, rfl⟩
  by_cases hlt : k < (delL bs).length
  case pos =>
    obtain ⟨i, hi⟩ : ∃ i, (delL bs)[k]? = some i := ⟨_, List.getElem?_eq_getElem hlt⟩
    obtain ⟨r, hr⟩ : ∃ r, rs[k]? = some r := ⟨_, List.getElem?_eq_getElem (by omega)⟩
    have hrm := List.mem_of_getElem? hr
    have hdy := rv_dy (t := false) (hw r hrm).1 (hv r hrm)
    have hst : (rs.map rvP)[k]? = some (rvP r) := by rw [List.getElem?_map, hr]; rfl
    have hra := rv_at hr
    rw [hdy.1] at hra
    have hil2 := (del_at hi).1
    have hra : ((flatD (dRv false) rs).drop (k * 3)).take 3 = dDy false (rvP r).1 (rvP r).2 := hra
    generalize rvP r = p at *
    have tl : i < (delV ((delL bs).take (k)) ((rs.map rvP).take (k)) (List.replicate bs.length none)).length := by rw [delV_len, List.length_replicate]; exact hil2
    have stV : (delV ((delL bs).take (k)) ((rs.map rvP).take (k)) (List.replicate bs.length none)).set i (some p) = (delV ((delL bs).take (k + 1)) ((rs.map rvP).take (k + 1)) (List.replicate bs.length none)) := (delV_next _ hi hst).symm
    repeat' (with_reducible first | apply qa | apply qb | apply qc | apply qd | apply qe | apply qf | apply qg | apply qh | apply qi | apply qj | apply qk | apply ql rfl | apply qm rfl | apply qn rfl | (refine Tx 20 ?_; refine Jo xLt ?_; refine Je ?_) | (refine Tx 21 ?_; refine Jm ?_; refine Jo (by first | exact xIr ts_s_int (int_at (natI_at hi)) | exact xIr ts_s_int (hra) | exact xIo (i := i) ts_s_int) ?_; refine Jo (xLd tk_int) ?_; refine Ja ?_; refine Ja ?_; refine Je ?_) | (refine Tx 22 ?_; refine Jm ?_; refine Jm ?_; refine Jm ?_; refine Jm ?_; refine Jo (by first | exact xIr ts_s_Dyadic (hra) | exact xIo (i := i) ts_s_Dyadic) ?_; refine Jo (xLa tk_Dyadic) ?_; refine Jo (by first | exact xIr ts_s_Dyadic (hra) | exact xIo (i := i) ts_s_Dyadic) ?_; refine Js (by first | exact to_stV rfl rfl rfl rfl tk_Dyadic tl stV | exact xSk tk_Dyadic) ?_; refine Je ?_) | (refine Tx 23 ?_; refine Jo xAd ?_; refine Jm ?_; refine Je ?_))
    refine ⟨_, _, wk_go [(1, vd (rowR rs)), (2, vd (rowI v ins)), (3, vr 0), (9, vd (rowI false (natI (delL bs)))), (14, vo 1 bs.length), (80, vd (rowI false (natI (delL bs)))), (81, vi ((natI (delL bs)).length)), (82, vi (((k + 1) : Nat)))] 2 ?_ ?_ ?_, _, ?_, k + 1, by omega, rfl, rfl, rfl⟩
    · rfl
    · exact mB rfl rfl
    · exact ⟨bel_lit rfl, bel_cVs, trivial⟩
    · omega
  obtain rfl : k = (delL bs).length := by omega
  clear hlt hk
  have HD := hasB_del (ps := ps) (bs := bs) (st := (rs.map rvP)) (ins := ins) hnf hsl
  rw [List.take_length, List.take_of_length_le (l := (rs.map rvP)) (by omega), ← valS_0 ps bs (rs.map rvP) ins]
  repeat' (with_reducible first | apply qa | apply qb | apply qc | apply qd | apply qe | apply qf | apply qg | apply qh | apply qi | apply qj | apply qk | apply ql rfl | apply qm rfl | apply qn rfl | (refine Tx 20 ?_; refine Jo xLt ?_; refine Je ?_) | (refine Tx 24 ?_; refine Jo (xLa tk_Diagram) ?_; refine Jo (xCl Tryd.func49 (OL)) ?_; refine Jo (xLn ts_s_int) ?_; refine Jm ?_; refine Je ?_))
  refine cw_wk (F' := ofL [(2, vd (rowI v ins)), (3, vr 0), (9, vd (rowI false (natI (delL bs)))), (14, vo 1 bs.length), (96, vd (rowI false (natI (ordM bs)))), (97, vi ((natI (ordM bs)).length)), (98, vi ((0 : Nat)))]) (H' := [.box 41 [.d (rowP t ps), .d (rowB t bs), .d (rowI t os)], .row 27 3 bs.length (cVs (valS ps bs (rs.map rvP) ins (0)))]) (wk_go [(2, vd (rowI v ins)), (3, vr 0), (9, vd (rowI false (natI (delL bs)))), (14, vo 1 bs.length), (96, vd (rowI false (natI (ordM bs)))), (97, vi ((natI (ordM bs)).length)), (98, vi ((0 : Nat)))] 2 ?_ ?_ ?_) ?_
  · rfl
  · exact mB rfl rfl
  · exact ⟨bel_lit rfl, bel_cVs, trivial⟩
  refine cw_loopW (fun n Fr H => ∃ k : Nat, k ≤ (ordM bs).length ∧ n = (ordM bs).length - k ∧ HasB (valS ps bs (rs.map rvP) ins (k)) (stdS bs k) (stepBad ps bs (rs.map rvP) ins) ∧ Fr = ofL [(2, vd (rowI v ins)), (3, vr 0), (9, vd (rowI false (natI (delL bs)))), (14, vo 1 bs.length), (96, vd (rowI false (natI (ordM bs)))), (97, vi ((natI (ordM bs)).length)), (98, vi ((k : Nat)))] ∧ H = [.box 41 [.d (rowP t ps), .d (rowB t bs), .d (rowI t os)], .row 27 3 bs.length (cVs (valS ps bs (rs.map rvP) ins (k)))]) (n0 := (ordM bs).length) ⟨0, Nat.zero_le _, rfl, HD, rfl, rfl⟩ ?_
  rintro n Fr H ⟨k, hk, rfl, HK, rfl, rfl⟩
  by_cases hlt : k < (ordM bs).length
  case pos =>
    obtain ⟨j, hj⟩ : ∃ j, (ordM bs)[k]? = some j := ⟨_, List.getElem?_eq_getElem hlt⟩
    obtain ⟨hjl, hk2⟩ := ord_at hj
    obtain ⟨y, hy⟩ : ∃ y, bs[j]? = some y := ⟨_, List.getElem?_eq_getElem hjl⟩
    rw [kind_at hy] at hk2
    have hvn := valN_is (ps := ps) (st := (rs.map rvP)) (ins := ins) hj hy
    have tl : j < (valS ps bs (rs.map rvP) ins (k)).length := by rw [valS_len]; exact hjl
    have stV : (valS ps bs (rs.map rvP) ins (k)).set j (some (valN ps bs (rs.map rvP) ins k)) = (valS ps bs (rs.map rvP) ins (k + 1)) := (valS_next hj).symm
    by_cases k0 : y.kind = 0
    case pos =>
      have T := tick_of2 h0 hin hI (vs := (valS ps bs (rs.map rvP) ins (k))) hy hk2 (fun h => absurd k0 h)
      obtain ⟨i0, z, pp, q0, r0, w0, z0, z1, f0, f1⟩ := T.hin k0
      have m1 := (List.getElem?_eq_some_iff.1 q0).1
      have m2 := (List.getElem?_eq_some_iff.1 r0).1
      have m3 := (List.getElem?_eq_some_iff.1 w0).1
      have PO := port_cv pp z z0 z1 f0 f1
      have hb : tickV y (argsV (valS ps bs (rs.map rvP) ins (k)) y) ps ins = dyShift z 0 (-pp.fr) := by unfold tickV; rw [if_pos k0, q0]; simp [r0, w0]
      rw [hb] at hvn
      rw [hvn] at stV
      have hsm : Sm (valN ps bs (rs.map rvP) ins k) LC LC := by rw [hvn, ← hb]; exact T.sm
      repeat' (with_reducible first | apply qa | apply qb | apply qc | apply qd | apply qe | apply qf | apply qg | apply qh | apply qi | apply qj | apply qk | apply ql rfl | apply qm rfl | apply qn rfl | (refine Tx 25 ?_; refine Jo xLt ?_; refine Je ?_) | (refine Tx 26 ?_; refine Jo (by first | exact xIr ts_s_int (int_at (natI_at hj)) | exact xIo (i := j) ts_s_int | exact xIr ts_s_int (int_at r0)) ?_; refine Jo (xLd tk_int) ?_; refine Ja ?_; refine Je ?_) | (refine Tx 27 ?_; refine Jo (xFa tf_Diagram1 tk_s_Block) ?_; refine Jo (xLd tk_s_Block) ?_; refine Jm ?_; refine Jo (by first | exact xIr ts_s_Block (bk_at hy) | exact xIo (i := j) ts_s_Block) ?_; refine Jo (xLa tk_Block) ?_; refine Jn (by exact ok_alloc rfl tz_Block) ?_; refine Js (xSk tk_Block) ?_; refine Je ?_) | (refine Tx 28 ?_; refine Jo (xFa tf_Block0 tk_int) ?_; refine Jo (xLd tk_int) ?_; refine Jo xEq ?_; refine Je ?_) | (refine cw_part (id := 29) 19 mixed (by kernel_rfl) ?_; dsimp only [List.take, List.drop]; refine Km ?_; refine Km ?_; refine Ko (xFa tf_Diagram0 tk_s_Port) ?_; refine Ko (xLd tk_s_Port) ?_; refine Ko (xFa tf_Block1 tk_s_int) ?_; refine Ko (xLd tk_s_int) ?_; refine Ko (by first | exact xIr ts_s_int (int_at q0) | exact xIo (i := j) ts_s_int) ?_; refine Ko (xLd tk_int) ?_; refine Ko (by first | exact xIo (i := j) ts_s_Port | exact xIr ts_s_Port (prt_at w0)) ?_; refine Ko (xLa tk_Port) ?_; refine Km ?_; refine Ko (xFa tf_Block1 tk_s_int) ?_; refine Ko (xLd tk_s_int) ?_; refine Ko (by first | exact xIr ts_s_int (int_at q0) | exact xIo (i := j) ts_s_int) ?_; refine Ko (xLd tk_int) ?_; refine Ko (by first | exact xIr ts_s_int (int_at (natI_at hj)) | exact xIo (i := j) ts_s_int | exact xIr ts_s_int (int_at r0)) ?_; refine Ko (xLd tk_int) ?_; refine Ko (xCl Tryd.func28 (PO)) ?_; refine Ko (xIo (i := j) ts_s_Dyadic) ?_; refine Ke ?_; refine Js (by first | exact to_stV rfl rfl rfl rfl tk_Dyadic tl stV | exact xSk tk_Dyadic) ?_; refine Je ?_) | (refine Tx 39 ?_; refine Jo xAd ?_; refine Jm ?_; refine Je ?_))
      exact ⟨_, _, wk_go [(2, vd (rowI v ins)), (3, vr 0), (9, vd (rowI false (natI (delL bs)))), (14, vo 1 bs.length), (96, vd (rowI false (natI (ordM bs)))), (97, vi ((natI (ordM bs)).length)), (98, vi (((k + 1) : Nat)))] 2 rfl (mB rfl rfl) ⟨bel_lit rfl, bel_cVs, trivial⟩, _, by omega, k + 1, by omega, rfl, hasB_next HK hj hsm, rfl, rfl⟩
    have hA := acc_args h0 hy
    have hmo : mostM ps.length bs.length y.kind = bs.length := if_neg k0
    rw [hmo] at hA
    have hal : y.args.length ≤ 2 := by have h1 := hA.1; have h2 := hA.2.1; unfold arityM at h1 h2; (repeat' split at h2) <;> omega
    have hag : ∀ a ∈ y.args, ∃ p, (valS ps bs (rs.map rvP) ins (k))[a.toNat]? = some (some p) ∧ Sm p 32000 65536 ∧ (longP p = true → (stepBad ps bs (rs.map rvP) ins) = true) := fun a ha => by
      have hb := hA.2.2 a ha
      have hsplit : ordM bs = (ordM bs).take k ++ j :: (ordM bs).drop (k + 1) := by
        obtain ⟨hlt, he⟩ := List.getElem?_eq_some_iff.1 hj
        rw [← he, ← List.drop_eq_getElem_cons hlt, List.take_append_drop]
      exact HK.at_ a.toNat ((ord_done hsplit (a := a) (by rw [preds_at hy k0]; exact ha)).imp (fun h => ⟨by omega, h⟩) id)
    have hVL : (valS ps bs (rs.map rvP) ins (k)).length = bs.length := valS_len _ _ _ _ _
    have hXL := args_len (vs := (valS ps bs (rs.map rvP) ins (k))) k0
    repeat' (with_reducible first | apply qa | apply qb | apply qc | apply qd | apply qe | apply qf | apply qg | apply qh | apply qi | apply qj | apply qk | apply ql rfl | apply qm rfl | apply qn rfl | (refine Tx 25 ?_; refine Jo xLt ?_; refine Je ?_) | (refine Tx 26 ?_; refine Jo (by first | exact xIr ts_s_int (int_at (natI_at hj)) | exact xIo (i := j) ts_s_int) ?_; refine Jo (xLd tk_int) ?_; refine Ja ?_; refine Je ?_) | (refine Tx 27 ?_; refine Jo (xFa tf_Diagram1 tk_s_Block) ?_; refine Jo (xLd tk_s_Block) ?_; refine Jm ?_; refine Jo (by first | exact xIr ts_s_Block (bk_at hy) | exact xIo (i := j) ts_s_Block) ?_; refine Jo (xLa tk_Block) ?_; refine Jn (by exact ok_alloc rfl tz_Block) ?_; refine Js (xSk tk_Block) ?_; refine Je ?_) | (refine Tx 28 ?_; refine Jo (xFa tf_Block0 tk_int) ?_; refine Jo (xLd tk_int) ?_; refine Jo xEq ?_; refine Je ?_) | (refine Tx 30 ?_; refine Ja ?_; refine Je ?_))
    refine cw_wk (wk_nil 20 27 3 rfl) ?_
    repeat' (with_reducible first | apply qa | apply qb | apply qc | apply qd | apply qe | apply qf | apply qg | apply qh | apply qi | apply qj | apply qk | apply ql rfl | apply qm rfl | apply qn rfl | (refine Tx 31 ?_; refine Jo (xFa tf_Block1 tk_s_int) ?_; refine Jo (xLd tk_s_int) ?_; refine Jo (xLn ts_s_int) ?_; refine Jm ?_; refine Je ?_))
    refine cw_wk (F' := ofL [(2, vd (rowI v ins)), (3, vr 0), (9, vd (rowI false (natI (delL bs)))), (14, vo 1 bs.length), (96, vd (rowI false (natI (ordM bs)))), (97, vi ((natI (ordM bs)).length)), (98, vi ((k : Nat))), (18, vi ((j : Nat))), (19, vr 2), (20, vo 3 (((argsV (valS ps bs (rs.map rvP) ins k) y).take 0).length)), (130, vd (rowI t y.args)), (131, vi y.args.length), (132, vi ((0 : Nat)))]) (H' := [.box 41 [.d (rowP t ps), .d (rowB t bs), .d (rowI t os)], .row 27 3 bs.length (cVs (valS ps bs (rs.map rvP) ins (k))), .box 66 ((dBk t y).map C.d), .row 27 3 ((argsV (valS ps bs (rs.map rvP) ins (k)) y).take (0)).length ((flatD dyP ((argsV (valS ps bs (rs.map rvP) ins (k)) y).take (0))).map C.d)]) (wk_go [(2, vd (rowI v ins)), (3, vr 0), (9, vd (rowI false (natI (delL bs)))), (14, vo 1 bs.length), (96, vd (rowI false (natI (ordM bs)))), (97, vi ((natI (ordM bs)).length)), (98, vi ((k : Nat))), (18, vi ((j : Nat))), (19, vr 2), (20, vo 3 (((argsV (valS ps bs (rs.map rvP) ins k) y).take 0).length)), (130, vd (rowI t y.args)), (131, vi y.args.length), (132, vi ((0 : Nat)))] 4 ?_ ?_ ?_) ?_
    · rfl
    · exact mB rfl rfl
    · exact ⟨bel_lit rfl, bel_cVs, bel_D, bel_D, trivial⟩
    refine cw_loopW (fun n Fr H => ∃ u : Nat, u ≤ y.args.length ∧ n = y.args.length - u ∧ (∀ a ∈ y.args.take u, ∃ p, (valS ps bs (rs.map rvP) ins (k))[a.toNat]? = some (some p) ∧ Sm p LB LB) ∧ Fr = ofL [(2, vd (rowI v ins)), (3, vr 0), (9, vd (rowI false (natI (delL bs)))), (14, vo 1 bs.length), (96, vd (rowI false (natI (ordM bs)))), (97, vi ((natI (ordM bs)).length)), (98, vi ((k : Nat))), (18, vi ((j : Nat))), (19, vr 2), (20, vo 3 (((argsV (valS ps bs (rs.map rvP) ins k) y).take u).length)), (130, vd (rowI t y.args)), (131, vi y.args.length), (132, vi ((u : Nat)))] ∧ H = [.box 41 [.d (rowP t ps), .d (rowB t bs), .d (rowI t os)], .row 27 3 bs.length (cVs (valS ps bs (rs.map rvP) ins (k))), .box 66 ((dBk t y).map C.d), .row 27 3 ((argsV (valS ps bs (rs.map rvP) ins (k)) y).take (u)).length ((flatD dyP ((argsV (valS ps bs (rs.map rvP) ins (k)) y).take (u))).map C.d)]) (n0 := y.args.length) ⟨0, Nat.zero_le _, rfl, (fun a ha => by simp at ha), rfl, rfl⟩ ?_
    rintro n Fr H ⟨u, hu, rfl, hga, rfl, rfl⟩
    by_cases hlu : u < y.args.length
    case pos =>
      obtain ⟨a, ha⟩ : ∃ a, y.args[u]? = some a := ⟨_, List.getElem?_eq_getElem hlu⟩
      obtain ⟨a0, a1⟩ := hA.2.2 a (List.mem_of_getElem? ha)
      obtain ⟨p, hp, hsm, hB⟩ := hag a (List.mem_of_getElem? ha)
      have hae : a = ((a.toNat : Nat) : Int) := by omega
      have hat := args_at (vs := (valS ps bs (rs.map rvP) ins (k))) k0 ha hp
      obtain ⟨hap, hap2, hoL⟩ := flat_next hat
      have lp := Nat.le_trans (hsm.lenN 1000 (by decide)) (show 1000 ≤ 40000 by decide)
      have LO := dlong_cv p.1 p.2 hsm.ok lp
      by_cases hlg : longP p = true
      case pos =>
        rw [show longB p.1.natAbs p.2 = true from hlg] at LO
        rw [hB hlg, if_pos rfl] at hE
        rw [hE, okQ_n (by decide), okQ_n (by decide)]
        repeat' (with_reducible first | apply qa | apply qb | apply qc | apply qd | apply qe | apply qf | apply qg | apply qh | apply qi | apply qj | apply qk | apply ql rfl | apply qm rfl | apply qn rfl | (refine Tx 32 ?_; refine Jo xLt ?_; refine Je ?_) | (refine Tx 33 ?_; refine Jo (by first | exact xIr ts_s_int (int_at ha) | exact ok_ixO (i := a.toNat) rfl rfl rfl rfl hae ts_s_int (by omega) (by decide)) ?_; refine Jo (xLd tk_int) ?_; refine Ja ?_; refine Je ?_) | (refine Tx 34 ?_; refine Jm ?_; refine Jm ?_; refine Jm ?_; refine Jo (by exact ok_ixO (i := a.toNat) rfl rfl rfl rfl hae ts_s_Dyadic (by omega) (by decide)) ?_; refine Jo (by first | exact ok_ldV rfl rfl rfl hp tk_Dyadic | exact xLa tk_Dyadic) ?_; refine Jn (by exact ok_build1 rfl ts_s_Dyadic tz_Dyadic rfl rfl (by decide) (by decide)) ?_; refine Jt (by exact to_apD rfl rfl rfl rfl rfl rfl ts_s_Dyadic tz_Dyadic (by omega) (by decide) (by decide) rfl hap hap2) ?_; refine Ja ?_; refine Je ?_) | (refine Tx 35 ?_; refine Jm ?_; refine Jm ?_; refine Jo (by exact ok_ixO (i := a.toNat) rfl rfl rfl rfl hae ts_s_Dyadic (by omega) (by decide)) ?_; refine Jo (by first | exact ok_ldV rfl rfl rfl hp tk_Dyadic | exact xLa tk_Dyadic) ?_; refine Jo (xCl Tryd.func51 (LO)) ?_; refine Je ?_) | (refine Tx 36 ?_; refine Ja ?_; refine Ja ?_; refine Ja ?_; refine Je ?_))
        exact ret_q rfl (.cons_ (.tmp (.one (cexp_n rfl rfl))) (.cons_ (.tmp (.one (cexp_n rfl rfl))) (.cons_ (rv_i rfl rfl) .nil_)))
      rw [Bool.not_eq_true] at hlg
      rw [show longB p.1.natAbs p.2 = false from hlg] at LO
      repeat' (with_reducible first | apply qa | apply qb | apply qc | apply qd | apply qe | apply qf | apply qg | apply qh | apply qi | apply qj | apply qk | apply ql rfl | apply qm rfl | apply qn rfl | (refine Tx 32 ?_; refine Jo xLt ?_; refine Je ?_) | (refine Tx 33 ?_; refine Jo (by first | exact xIr ts_s_int (int_at ha) | exact ok_ixO (i := a.toNat) rfl rfl rfl rfl hae ts_s_int (by omega) (by decide)) ?_; refine Jo (xLd tk_int) ?_; refine Ja ?_; refine Je ?_) | (refine Tx 34 ?_; refine Jm ?_; refine Jm ?_; refine Jm ?_; refine Jo (by exact ok_ixO (i := a.toNat) rfl rfl rfl rfl hae ts_s_Dyadic (by omega) (by decide)) ?_; refine Jo (by first | exact ok_ldV rfl rfl rfl hp tk_Dyadic | exact xLa tk_Dyadic) ?_; refine Jn (by exact ok_build1 rfl ts_s_Dyadic tz_Dyadic rfl rfl (by decide) (by decide)) ?_; refine Jt (by exact to_apD rfl rfl rfl rfl rfl rfl ts_s_Dyadic tz_Dyadic (by omega) (by decide) (by decide) rfl hap hap2) ?_; refine Ja ?_; refine Je ?_) | (refine Tx 35 ?_; refine Jm ?_; refine Jm ?_; refine Jo (by exact ok_ixO (i := a.toNat) rfl rfl rfl rfl hae ts_s_Dyadic (by omega) (by decide)) ?_; refine Jo (by first | exact ok_ldV rfl rfl rfl hp tk_Dyadic | exact xLa tk_Dyadic) ?_; refine Jo (xCl Tryd.func51 (LO)) ?_; refine Je ?_) | (refine Tx 37 ?_; refine Jo xAd ?_; refine Jm ?_; refine Je ?_))
      exact ⟨_, _, wk_go [(2, vd (rowI v ins)), (3, vr 0), (9, vd (rowI false (natI (delL bs)))), (14, vo 1 bs.length), (96, vd (rowI false (natI (ordM bs)))), (97, vi ((natI (ordM bs)).length)), (98, vi ((k : Nat))), (18, vi ((j : Nat))), (19, vr 2), (20, vo 3 (((argsV (valS ps bs (rs.map rvP) ins k) y).take ((u + 1))).length)), (130, vd (rowI t y.args)), (131, vi y.args.length), (132, vi (((u + 1) : Nat)))] 4 rfl (mB rfl rfl) ⟨bel_lit rfl, bel_cVs, bel_D, bel_D, trivial⟩, _, by omega, u + 1, by omega, rfl, take_all1 hga ha ⟨p, hp, sm_of hsm.ok hlg⟩, rfl, rfl⟩
    obtain rfl : u = y.args.length := by omega
    clear hlu hu
    rw [List.take_length] at hga
    rw [← hXL, List.take_length]
    have T := tick_of2 h0 hin hI (vs := (valS ps bs (rs.map rvP) ins (k))) hy hk2 (fun h a ha _ _ => hga a ha)
    rw [tick_val k0] at hvn
    have hsm : Sm (valN ps bs (rs.map rvP) ins k) LC LC := by rw [hvn, ← tick_val (ps := ps) (ins := ins) k0]; exact T.sm
    rw [hvn] at stV
    have BL := dblock_cv t true y (argsV (valS ps bs (rs.map rvP) ins (k)) y) (by have := T.hk; omega) (fun h => by rw [hXL]; have h1 := hA.1; have h2 := hA.2.1; have := T.hk; unfold arityM at h1 h2; (repeat' split at h2) <;> omega) (fun h => by rw [hXL]; have h1 := hA.1; have h2 := hA.2.1; unfold arityM at h1 h2; (repeat' split at h2) <;> omega) (fun p hp => (T.hs p hp).more (by decide) (by decide)) (fun h => by obtain ⟨s1, s2, s3, s4⟩ := T.hsv h; omega) (fun h => by obtain ⟨s1, s2, s3, s4⟩ := T.hsu h; omega)
    skip
    repeat' (with_reducible first | apply qa | apply qb | apply qc | apply qd | apply qe | apply qf | apply qg | apply qh | apply qi | apply qj | apply qk | apply ql rfl | apply qm rfl | apply qn rfl | (refine Tx 32 ?_; refine Jo xLt ?_; refine Je ?_) | (refine Tx 38 ?_; refine Jm ?_; refine Jm ?_; refine Jo (xLa tk_Block) ?_; refine Jm ?_; refine Jo (xCl Tryd.func29 BL (ha := by with_unfolding_all first | ((repeat' first | exact lrel_n rfl rfl | refine lrel_c rfl rfl ?_ ?_ | refine xexp_1 rfl rfl ?_ | refine xexp_a rfl rfl ?_ | exact cexp_d rfl (fun h => by cases h) | exact cexp_oD rfl rfl rfl) <;> fail) | fail)) ?_; refine Jo (xIo (i := j) ts_s_Dyadic) ?_; refine Js (by first | exact to_stV rfl rfl rfl rfl tk_Dyadic tl stV | exact xSk tk_Dyadic) ?_; refine Je ?_) | (refine Tx 39 ?_; refine Jo xAd ?_; refine Jm ?_; refine Je ?_))
    exact ⟨_, _, wk_go [(2, vd (rowI v ins)), (3, vr 0), (9, vd (rowI false (natI (delL bs)))), (14, vo 1 bs.length), (96, vd (rowI false (natI (ordM bs)))), (97, vi ((natI (ordM bs)).length)), (98, vi (((k + 1) : Nat)))] 2 rfl (mB rfl rfl) ⟨bel_lit rfl, bel_cVs, trivial⟩, _, by omega, k + 1, by omega, rfl, hasB_next HK hj hsm, rfl, rfl⟩
  obtain rfl : k = (ordM bs).length := by omega
  clear hlt hk
  have hVL : (valS ps bs (rs.map rvP) ins ((ordM bs).length)).length = bs.length := valS_len _ _ _ _ _
  repeat' (with_reducible first | apply qa | apply qb | apply qc | apply qd | apply qe | apply qf | apply qg | apply qh | apply qi | apply qj | apply qk | apply ql rfl | apply qm rfl | apply qn rfl | (refine Tx 25 ?_; refine Jo xLt ?_; refine Je ?_) | (refine Tx 40 ?_; refine Jm ?_; refine Jo (xLn ts_s_Dyadic) ?_; refine Jm ?_; refine Je ?_))
  refine cw_wk (F' := ofL [(3, vr 0), (9, vd (rowI false (natI (delL bs)))), (14, vo 1 bs.length), (156, vo 1 bs.length), (157, vi bs.length), (158, vi ((0 : Nat)))]) (H' := [.box 41 [.d (rowP t ps), .d (rowB t bs), .d (rowI t os)], .row 27 3 bs.length (cVs (valS ps bs (rs.map rvP) ins ((ordM bs).length)))]) (wk_go [(3, vr 0), (9, vd (rowI false (natI (delL bs)))), (14, vo 1 bs.length), (156, vo 1 bs.length), (157, vi bs.length), (158, vi ((0 : Nat)))] 2 ?_ ?_ ?_) ?_
  · rfl
  · exact mB rfl rfl
  · exact ⟨bel_lit rfl, bel_cVs, trivial⟩
  refine cw_loopW (fun n Fr H => ∃ k : Nat, k ≤ bs.length ∧ n = bs.length - k ∧ (∀ i, i < k → ∃ p, (valS ps bs (rs.map rvP) ins ((ordM bs).length))[i]? = some (some p) ∧ longP p = false) ∧ Fr = ofL [(3, vr 0), (9, vd (rowI false (natI (delL bs)))), (14, vo 1 bs.length), (156, vo 1 bs.length), (157, vi bs.length), (158, vi ((k : Nat)))] ∧ H = [.box 41 [.d (rowP t ps), .d (rowB t bs), .d (rowI t os)], .row 27 3 bs.length (cVs (valS ps bs (rs.map rvP) ins ((ordM bs).length)))]) (n0 := bs.length) ⟨0, Nat.zero_le _, rfl, (fun i hi => absurd hi (Nat.not_lt_zero i)), rfl, rfl⟩ ?_
  rintro n Fr H ⟨k, hk, rfl, hgd, rfl, rfl⟩
  by_cases hlt : k < bs.length
  case pos =>
    obtain ⟨p, hp, hsm, hB⟩ := HK.at_ k (std_all h0 hlt)
    have lp := Nat.le_trans (hsm.lenN 1000 (by decide)) (show 1000 ≤ 40000 by decide)
    have LO := dlong_cv p.1 p.2 hsm.ok lp
    by_cases hlg : longP p = true
    case pos =>
      rw [show longB p.1.natAbs p.2 = true from hlg] at LO
      rw [hB hlg, if_pos rfl] at hE
      rw [hE, okQ_n (by decide), okQ_n (by decide)]
      repeat' (with_reducible first | apply qa | apply qb | apply qc | apply qd | apply qe | apply qf | apply qg | apply qh | apply qi | apply qj | apply qk | apply ql rfl | apply qm rfl | apply qn rfl | (refine Tx 41 ?_; refine Jo xLt ?_; refine Je ?_) | (refine Tx 42 ?_; refine Jo (xIo (i := k) ts_s_Dyadic) ?_; refine Jo (by first | exact ok_ldV rfl rfl rfl hp tk_Dyadic | exact xLa tk_Dyadic) ?_; refine Jn (by exact ok_alloc rfl tz_Dyadic) ?_; refine Js (xSk tk_Dyadic) ?_; refine Je ?_) | (refine Tx 43 ?_; refine Jo (by first | exact ok_ldV rfl rfl rfl hp tk_Dyadic | exact xLa tk_Dyadic) ?_; refine Jo (xCl Tryd.func51 (LO)) ?_; refine Je ?_) | (refine Tx 44 ?_; refine Ja ?_; refine Ja ?_; refine Ja ?_; refine Je ?_))
      exact ret_q rfl (.cons_ (.tmp (.one (cexp_n rfl rfl))) (.cons_ (.tmp (.one (cexp_n rfl rfl))) (.cons_ (rv_i rfl rfl) .nil_)))
    rw [Bool.not_eq_true] at hlg
    rw [show longB p.1.natAbs p.2 = false from hlg] at LO
    repeat' (with_reducible first | apply qa | apply qb | apply qc | apply qd | apply qe | apply qf | apply qg | apply qh | apply qi | apply qj | apply qk | apply ql rfl | apply qm rfl | apply qn rfl | (refine Tx 41 ?_; refine Jo xLt ?_; refine Je ?_) | (refine Tx 42 ?_; refine Jo (xIo (i := k) ts_s_Dyadic) ?_; refine Jo (by first | exact ok_ldV rfl rfl rfl hp tk_Dyadic | exact xLa tk_Dyadic) ?_; refine Jn (by exact ok_alloc rfl tz_Dyadic) ?_; refine Js (xSk tk_Dyadic) ?_; refine Je ?_) | (refine Tx 43 ?_; refine Jo (by first | exact ok_ldV rfl rfl rfl hp tk_Dyadic | exact xLa tk_Dyadic) ?_; refine Jo (xCl Tryd.func51 (LO)) ?_; refine Je ?_) | (refine Tx 45 ?_; refine Jo xAd ?_; refine Jm ?_; refine Je ?_))
    exact ⟨_, _, wk_go [(3, vr 0), (9, vd (rowI false (natI (delL bs)))), (14, vo 1 bs.length), (156, vo 1 bs.length), (157, vi bs.length), (158, vi (((k + 1) : Nat)))] 2 rfl (mB rfl rfl) ⟨bel_lit rfl, bel_cVs, trivial⟩, _, by omega, k + 1, by omega, rfl, lt_step hgd ⟨p, hp, hlg⟩, rfl, rfl⟩
  obtain rfl : k = bs.length := by omega
  clear hlt hk
  rw [good_all hsl hgd, if_neg (by decide)] at hE
  rw [hE, okQ_z rfl, okQ_z rfl]
  repeat' (with_reducible first | apply qa | apply qb | apply qc | apply qd | apply qe | apply qf | apply qg | apply qh | apply qi | apply qj | apply qk | apply ql rfl | apply qm rfl | apply qn rfl | (refine Tx 41 ?_; refine Jo xLt ?_; refine Je ?_) | (refine Tx 46 ?_; refine Ja ?_; refine Je ?_))
  refine cw_wk (wk_nil 25 27 3 rfl) ?_
  repeat' (with_reducible first | apply qa | apply qb | apply qc | apply qd | apply qe | apply qf | apply qg | apply qh | apply qi | apply qj | apply qk | apply ql rfl | apply qm rfl | apply qn rfl | (refine Tx 47 ?_; refine Jm ?_; refine Jo (xLn ts_s_int) ?_; refine Jm ?_; refine Je ?_))
  refine cw_wk (F' := ofL [(3, vr 0), (14, vo 1 bs.length), (25, vo 2 (((nextE ps bs (rs.map rvP) ins).take 0).length)), (165, vd (rowI false (natI (delL bs)))), (166, vi ((natI (delL bs)).length)), (167, vi ((0 : Nat)))]) (H' := [.box 41 [.d (rowP t ps), .d (rowB t bs), .d (rowI t os)], .row 27 3 bs.length (cVs (valS ps bs (rs.map rvP) ins ((ordM bs).length))), .row 27 3 ((nextE ps bs (rs.map rvP) ins).take (0)).length ((flatD dyP ((nextE ps bs (rs.map rvP) ins).take (0))).map C.d)]) (wk_go [(3, vr 0), (14, vo 1 bs.length), (25, vo 2 (((nextE ps bs (rs.map rvP) ins).take 0).length)), (165, vd (rowI false (natI (delL bs)))), (166, vi ((natI (delL bs)).length)), (167, vi ((0 : Nat)))] 3 ?_ ?_ ?_) ?_
  · rfl
  · exact mB rfl rfl
  · exact ⟨bel_lit rfl, bel_cVs, bel_D, trivial⟩
  refine cw_loopW (fun n Fr H => ∃ k : Nat, k ≤ (delL bs).length ∧ n = (delL bs).length - k ∧ Fr = ofL [(3, vr 0), (14, vo 1 bs.length), (25, vo 2 (((nextE ps bs (rs.map rvP) ins).take k).length)), (165, vd (rowI false (natI (delL bs)))), (166, vi ((natI (delL bs)).length)), (167, vi ((k : Nat)))] ∧ H = [.box 41 [.d (rowP t ps), .d (rowB t bs), .d (rowI t os)], .row 27 3 bs.length (cVs (valS ps bs (rs.map rvP) ins ((ordM bs).length))), .row 27 3 ((nextE ps bs (rs.map rvP) ins).take (k)).length ((flatD dyP ((nextE ps bs (rs.map rvP) ins).take (k))).map C.d)]) (n0 := (delL bs).length) ⟨0, Nat.zero_le _, rfl, rfl, rfl⟩ ?_
  rintro n Fr H ⟨k, hk, rfl, rfl, rfl⟩
  by_cases hlt : k < (delL bs).length
  case pos =>
    obtain ⟨i, hi⟩ : ∃ i, (delL bs)[k]? = some i := ⟨_, List.getElem?_eq_getElem hlt⟩
    have hil2 := (del_at hi).1
    obtain ⟨y, hy⟩ : ∃ y, bs[i]? = some y := ⟨_, List.getElem?_eq_getElem hil2⟩
    obtain ⟨b, hA0, hbl⟩ := del_arg h0 hy (by rw [← kind_at hy]; exact (del_at hi).2)
    obtain ⟨p, hp, hlg⟩ := hgd b hbl
    have hal := (List.getElem?_eq_some_iff.1 hA0).1
    have hne : (nextE ps bs (rs.map rvP) ins)[k]? = some p := by rw [next_at hi, argZ_at hy hA0]; unfold valE; rw [gV_at hp]; rfl
    obtain ⟨hap, hap2, hoL⟩ := flat_next hne
    repeat' (with_reducible first | apply qa | apply qb | apply qc | apply qd | apply qe | apply qf | apply qg | apply qh | apply qi | apply qj | apply qk | apply ql rfl | apply qm rfl | apply qn rfl | (refine Tx 48 ?_; refine Jo xLt ?_; refine Je ?_) | (refine Tx 49 ?_; refine Jo (by first | exact xIr ts_s_int (int_at (natI_at hi)) | exact xIo (i := b) ts_s_int) ?_; refine Jo (xLd tk_int) ?_; refine Ja ?_; refine Je ?_) | (refine Tx 50 ?_; refine Jm ?_; refine Jm ?_; refine Jo (xFa tf_Diagram1 tk_s_Block) ?_; refine Jo (xLd tk_s_Block) ?_; refine Jm ?_; refine Jo (by first | exact xIr ts_s_Block (bk_at hy) | exact xIo (i := b) ts_s_Block) ?_; refine Jo (xFa tf_Block1 tk_s_int) ?_; refine Jo (xLd tk_s_int) ?_; refine Jo (by first | exact xIr ts_s_int (int_at hA0) | exact xIo (i := b) ts_s_int) ?_; refine Jo (xLd tk_int) ?_; refine Jo (xIo (i := b) ts_s_Dyadic) ?_; refine Jo (by first | exact ok_ldV rfl rfl rfl hp tk_Dyadic | exact xLa tk_Dyadic) ?_; refine Jn (by exact ok_build1 rfl ts_s_Dyadic tz_Dyadic rfl rfl (by decide) (by decide)) ?_; refine Jt (by exact to_apD rfl rfl rfl rfl rfl rfl ts_s_Dyadic tz_Dyadic (by omega) (by decide) (by decide) rfl hap hap2) ?_; refine Ja ?_; refine Je ?_) | (refine Tx 51 ?_; refine Jo xAd ?_; refine Jm ?_; refine Je ?_))
    refine ⟨_, _, wk_go [(3, vr 0), (14, vo 1 bs.length), (25, vo 2 (((nextE ps bs (rs.map rvP) ins).take ((k + 1))).length)), (165, vd (rowI false (natI (delL bs)))), (166, vi ((natI (delL bs)).length)), (167, vi (((k + 1) : Nat)))] 3 ?_ ?_ ?_, _, ?_, k + 1, by omega, rfl, rfl, rfl⟩
    · rfl
    · exact mB rfl rfl
    · exact ⟨bel_lit rfl, bel_cVs, bel_D, trivial⟩
    · omega
  obtain rfl : k = (delL bs).length := by omega
  clear hlt hk
  have hnE := nextE_len (ps := ps) (bs := bs) (st := (rs.map rvP)) (ins := ins)
  rw [← hnE, List.take_length]
  have hvE := valE_len (ps := ps) (bs := bs) (st := (rs.map rvP)) (ins := ins)
  unfold aDys
  rw [hvE]
  repeat' (with_reducible first | apply qa | apply qb | apply qc | apply qd | apply qe | apply qf | apply qg | apply qh | apply qi | apply qj | apply qk | apply ql rfl | apply qm rfl | apply qn rfl | (refine Tx 48 ?_; refine Jo xLt ?_; refine Je ?_) | (refine Tx 52 ?_; refine Jm ?_; refine Jm ?_; refine Ja ?_; refine Ja ?_; refine Ja ?_; refine Je ?_))
  exact ret_q rfl (.cons_ (.tmp (.one (cexp_oD rfl rfl rfl))) (.cons_ (.tmp (.one (cexp_oV rfl rfl rfl))) (.cons_ (rv_i rfl rfl) .nil_)))
set_option maxRecDepth 100000 in
set_option maxHeartbeats 4000000 in
theorem rrun_cv (t u : Bool) {ps : List Prt} {bs : List Bk} {os : List Int} (hl : DgLen ps bs os) (h0 : dgErr ps bs os = 0) (ls : List (List Int)) (hls : ∀ l ∈ ls, l.length ≤ 1000000) (hln : ls.length ≤ 1000000) : CV Tryd.prog TabAt 24 [aDg t ps bs os, .one (rowLI u ls)] [.one (rowLD (okQ (runQE ps bs os ls) (runO ps bs os (startM bs) ls))), aI (runQE ps bs os ls)] := by
  refine cv_of tab_G Tryd.func24 rfl Tryd.ntmps24 (Nat.le_of_ble_eq_true rfl) ?_
  have SC := rstart_cv t hl h0
  by_cases hL : 256 < ls.length
  case pos =>
    have hE : runQE ps bs os ls = 4 := by unfold runQE; rw [if_neg (not_not_intro h0), if_pos hL]
    rw [hE, okQ_n (by decide)]
    repeat' (with_reducible first | apply qa | apply qb | apply qc | apply qd | apply qe | apply qf | apply qg | apply qh | apply qi | apply qj | apply qk | apply ql rfl | apply qm rfl | apply qn rfl | (refine Tx 0 ?_; refine Jn xBo ?_; refine Ja ?_; refine Ja ?_; refine Je ?_) | (refine Tx 1 ?_; refine Jm ?_; refine Jo (xLn ts_s_s_int) ?_; refine Jo xGt ?_; refine Je ?_) | (refine Tx 2 ?_; refine Ja ?_; refine Ja ?_; refine Je ?_))
    exact ret_q rfl (.cons_ (.tmp (.one (cexp_n rfl rfl))) (.cons_ (rv_i rfl rfl) .nil_))
  have hE : runQE ps bs os ls = runE ps bs (startM bs) ls := by unfold runQE; rw [if_neg (not_not_intro h0), if_neg hL]
  rw [hE]
  repeat' (with_reducible first | apply qa | apply qb | apply qc | apply qd | apply qe | apply qf | apply qg | apply qh | apply qi | apply qj | apply qk | apply ql rfl | apply qm rfl | apply qn rfl | (refine Tx 0 ?_; refine Jn xBo ?_; refine Ja ?_; refine Ja ?_; refine Je ?_) | (refine Tx 1 ?_; refine Jm ?_; refine Jo (xLn ts_s_s_int) ?_; refine Jo xGt ?_; refine Je ?_) | (refine Tx 3 ?_; refine Jo (xLa tk_Diagram) ?_; refine Jo (xCl Tryd.func22 (SC)) ?_; refine Ja ?_; refine Je ?_) | (refine Tx 4 ?_; refine Ja ?_; refine Je ?_))
  refine cw_wk (wk_nil 7 42 1 rfl) ?_
  repeat' (with_reducible first | apply qa | apply qb | apply qc | apply qd | apply qe | apply qf | apply qg | apply qh | apply qi | apply qj | apply qk | apply ql rfl | apply qm rfl | apply qn rfl | (refine Tx 5 ?_; refine Jm ?_; refine Jo (xLn ts_s_s_int) ?_; refine Jm ?_; refine Je ?_))
  refine cw_wk (F' := ofL [(2, vr 0), (6, vd (.row false 3 (stN ps bs (startM bs) (ls.take 0)).length (flatD dyP (stN ps bs (startM bs) (ls.take 0))))), (7, vo 1 ((runO ps bs os (startM bs) (ls.take 0)).length)), (21, vd (rowLI u ls)), (22, vi ls.length), (23, vi ((0 : Nat)))]) (H' := [.box 41 [.d (rowP t ps), .d (rowB t bs), .d (rowI t os)], .row 42 1 (runO ps bs os (startM bs) (ls.take (0))).length (((runO ps bs os (startM bs) (ls.take (0))).map dRw).map C.d)]) (wk_go [(2, vr 0), (6, vd (.row false 3 (stN ps bs (startM bs) (ls.take 0)).length (flatD dyP (stN ps bs (startM bs) (ls.take 0))))), (7, vo 1 ((runO ps bs os (startM bs) (ls.take 0)).length)), (21, vd (rowLI u ls)), (22, vi ls.length), (23, vi ((0 : Nat)))] 2 ?_ ?_ ?_) ?_
  · rfl
  · exact mB rfl rfl
  · exact ⟨bel_lit rfl, bel_D, trivial⟩
  refine cw_loopW (fun n Fr H => ∃ k : Nat, k ≤ ls.length ∧ n = ls.length - k ∧ AllT ps bs (startM bs) (ls.take k) ∧ Fr = ofL [(2, vr 0), (6, vd (.row false 3 (stN ps bs (startM bs) (ls.take k)).length (flatD dyP (stN ps bs (startM bs) (ls.take k))))), (7, vo 1 ((runO ps bs os (startM bs) (ls.take k)).length)), (21, vd (rowLI u ls)), (22, vi ls.length), (23, vi ((k : Nat)))] ∧ H = [.box 41 [.d (rowP t ps), .d (rowB t bs), .d (rowI t os)], .row 42 1 (runO ps bs os (startM bs) (ls.take (k))).length (((runO ps bs os (startM bs) (ls.take (k))).map dRw).map C.d)]) (n0 := ls.length) ⟨0, Nat.zero_le _, rfl, AllT.nil, rfl, rfl⟩ ?_
  rintro n Fr H ⟨k, hk, rfl, hA, rfl, rfl⟩
  have hl2 := hl.l2
  have hl3 := hl.l3
  by_cases hlt : k < ls.length
  case pos =>
    obtain ⟨l, hi⟩ : ∃ l, ls[k]? = some l := ⟨_, List.getElem?_eq_getElem hlt⟩
    have hll := hls l (List.mem_of_getElem? hi)
    have hok := stN_ok h0 (start_ok h0) hA
    have hdb := delL_le bs
    have hsl := hok.len
    have ST := rstep_cv t u hl h0 ((stN ps bs (startM bs) (ls.take (k))).map rvOf) (fun r hr => by obtain ⟨p, hp, rfl⟩ := List.mem_map.1 hr; exact ⟨canon_ok _, Nat.le_trans ((hok.sm p hp).lenN 128 (by decide)) (by decide)⟩) (by rw [List.length_map]; omega) l hll
    rw [rowR_of, rvOf_map, stE_of h0 hok] at ST
    by_cases hT : tickE ps bs (stN ps bs (startM bs) (ls.take (k))) l = 0
    case neg =>
      rw [runE_bad hA hi hT, okQ_n hT]
      rw [okQ_n hT, okQ_n hT] at ST
      repeat' (with_reducible first | apply qa | apply qb | apply qc | apply qd | apply qe | apply qf | apply qg | apply qh | apply qi | apply qj | apply qk | apply ql rfl | apply qm rfl | apply qn rfl | (refine Tx 6 ?_; refine Jo xLt ?_; refine Je ?_) | (refine Tx 7 ?_; refine Jo (xIr ts_s_s_int (lin_at hi)) ?_; refine Jo (xLd tk_s_int) ?_; refine Ja ?_; refine Je ?_) | (refine Tx 8 ?_; refine Jo (xLa tk_Diagram) ?_; refine Jm ?_; refine Jm ?_; refine Jo (xCl Tryd.func20 (ST)) ?_; refine Jo (by exact ok_mvT rfl rfl) ?_; refine Jo xEx ?_; refine Jo xEx ?_; refine Jo xEx ?_; refine Ja ?_; refine Ja ?_; refine Ja ?_; refine Je ?_) | (refine Tx 9 ?_; refine Jm ?_; refine Jo xNe ?_; refine Je ?_) | (refine Tx 10 ?_; refine Jm ?_; refine Ja ?_; refine Ja ?_; refine Je ?_))
      exact ret_q rfl (.cons_ (.tmp (.one (cexp_n rfl rfl))) (.cons_ (rv_i rfl rfl) .nil_))
    rw [hT, okQ_z rfl, okQ_z rfl] at ST
    repeat' (with_reducible first | apply qa | apply qb | apply qc | apply qd | apply qe | apply qf | apply qg | apply qh | apply qi | apply qj | apply qk | apply ql rfl | apply qm rfl | apply qn rfl | (refine Tx 6 ?_; refine Jo xLt ?_; refine Je ?_) | (refine Tx 7 ?_; refine Jo (xIr ts_s_s_int (lin_at hi)) ?_; refine Jo (xLd tk_s_int) ?_; refine Ja ?_; refine Je ?_) | (refine Tx 8 ?_; refine Jo (xLa tk_Diagram) ?_; refine Jm ?_; refine Jm ?_; refine Jo (xCl Tryd.func20 (ST)) ?_; refine Jo (by exact ok_mvT rfl rfl) ?_; refine Jo xEx ?_; refine Jo xEx ?_; refine Jo xEx ?_; refine Ja ?_; refine Ja ?_; refine Ja ?_; refine Je ?_) | (refine Tx 9 ?_; refine Jm ?_; refine Jo xNe ?_; refine Je ?_) | (refine Tx 11 ?_; refine Ja ?_; refine Je ?_))
    refine cw_wk (wk_nil 13 27 3 rfl) ?_
    repeat' (with_reducible first | apply qa | apply qb | apply qc | apply qd | apply qe | apply qf | apply qg | apply qh | apply qi | apply qj | apply qk | apply ql rfl | apply qm rfl | apply qn rfl | (refine Tx 12 ?_; refine Jo (xFa tf_Diagram2 tk_s_int) ?_; refine Jo (xLd tk_s_int) ?_; refine Jo (xLn ts_s_int) ?_; refine Jm ?_; refine Je ?_))
    have hvs := val_sm h0 hok.len hok.nf hT
    have hvl : (valE ps bs (stN ps bs (startM bs) (ls.take (k))) l).length = bs.length := valE_len
    have hra := hA.take_step hi hT
    have hrn := runO_next (os := os) (st := startM bs) (ps := ps) (bs := bs) hi
    have hsn := stN_next (st := startM bs) (ps := ps) (bs := bs) hi
    have hro : (runO ps bs os (startM bs) (ls.take (k))).length = k := by rw [runO_len, List.length_take]; omega
    refine cw_wk (F' := ofL [(2, vr 0), (7, vo 1 ((runO ps bs os (startM bs) (ls.take k)).length)), (10, vd (.row false 3 (nextE ps bs (stN ps bs (startM bs) (ls.take k)) l).length (flatD dyP (nextE ps bs (stN ps bs (startM bs) (ls.take k)) l)))), (11, vd (.row false 3 (valE ps bs (stN ps bs (startM bs) (ls.take k)) l).length (flatD dyP (valE ps bs (stN ps bs (startM bs) (ls.take k)) l)))), (13, vo 2 (((outV ps bs os (stN ps bs (startM bs) (ls.take k)) l).take 0).length)), (21, vd (rowLI u ls)), (22, vi ls.length), (23, vi ((k : Nat))), (39, vd (rowI t os)), (40, vi os.length), (41, vi ((0 : Nat)))]) (H' := [.box 41 [.d (rowP t ps), .d (rowB t bs), .d (rowI t os)], .row 42 1 (runO ps bs os (startM bs) (ls.take (k))).length (((runO ps bs os (startM bs) (ls.take (k))).map dRw).map C.d), .row 27 3 ((outV ps bs os (stN ps bs (startM bs) (ls.take (k))) l).take (0)).length ((flatD dyP ((outV ps bs os (stN ps bs (startM bs) (ls.take (k))) l).take (0))).map C.d)]) (wk_go [(2, vr 0), (7, vo 1 ((runO ps bs os (startM bs) (ls.take k)).length)), (10, vd (.row false 3 (nextE ps bs (stN ps bs (startM bs) (ls.take k)) l).length (flatD dyP (nextE ps bs (stN ps bs (startM bs) (ls.take k)) l)))), (11, vd (.row false 3 (valE ps bs (stN ps bs (startM bs) (ls.take k)) l).length (flatD dyP (valE ps bs (stN ps bs (startM bs) (ls.take k)) l)))), (13, vo 2 (((outV ps bs os (stN ps bs (startM bs) (ls.take k)) l).take 0).length)), (21, vd (rowLI u ls)), (22, vi ls.length), (23, vi ((k : Nat))), (39, vd (rowI t os)), (40, vi os.length), (41, vi ((0 : Nat)))] 3 ?_ ?_ ?_) ?_
    · rfl
    · exact mB rfl rfl
    · exact ⟨bel_lit rfl, bel_D, bel_D, trivial⟩
    refine cw_loopW (fun n Fr H => ∃ j : Nat, j ≤ os.length ∧ n = os.length - j ∧ Fr = ofL [(2, vr 0), (7, vo 1 ((runO ps bs os (startM bs) (ls.take k)).length)), (10, vd (.row false 3 (nextE ps bs (stN ps bs (startM bs) (ls.take k)) l).length (flatD dyP (nextE ps bs (stN ps bs (startM bs) (ls.take k)) l)))), (11, vd (.row false 3 (valE ps bs (stN ps bs (startM bs) (ls.take k)) l).length (flatD dyP (valE ps bs (stN ps bs (startM bs) (ls.take k)) l)))), (13, vo 2 (((outV ps bs os (stN ps bs (startM bs) (ls.take k)) l).take j).length)), (21, vd (rowLI u ls)), (22, vi ls.length), (23, vi ((k : Nat))), (39, vd (rowI t os)), (40, vi os.length), (41, vi ((j : Nat)))] ∧ H = [.box 41 [.d (rowP t ps), .d (rowB t bs), .d (rowI t os)], .row 42 1 (runO ps bs os (startM bs) (ls.take (k))).length (((runO ps bs os (startM bs) (ls.take (k))).map dRw).map C.d), .row 27 3 ((outV ps bs os (stN ps bs (startM bs) (ls.take (k))) l).take (j)).length ((flatD dyP ((outV ps bs os (stN ps bs (startM bs) (ls.take (k))) l).take (j))).map C.d)]) (n0 := os.length) ⟨0, Nat.zero_le _, rfl, rfl, rfl⟩ ?_
    rintro n Fr H ⟨j, hj, rfl, rfl, rfl⟩
    by_cases hlj : j < os.length
    case pos =>
      obtain ⟨o, ho⟩ : ∃ o, os[j]? = some o := ⟨_, List.getElem?_eq_getElem hlj⟩
      obtain ⟨o0, o1⟩ := acc_out h0 (List.mem_of_getElem? ho)
      obtain ⟨p, hp⟩ : ∃ p, (valE ps bs (stN ps bs (startM bs) (ls.take (k))) l)[o.toNat]? = some p := ⟨_, List.getElem?_eq_getElem (by omega)⟩
      obtain ⟨hap, hap2, hoL⟩ := flat_next (outV_at ho hp)
      have hoe : o = ((o.toNat : Nat) : Int) := by omega
      have hpl := (List.getElem?_eq_some_iff.1 hp).1
      repeat' (with_reducible first | apply qa | apply qb | apply qc | apply qd | apply qe | apply qf | apply qg | apply qh | apply qi | apply qj | apply qk | apply ql rfl | apply qm rfl | apply qn rfl | (refine Tx 13 ?_; refine Jo xLt ?_; refine Je ?_) | (refine Tx 14 ?_; refine Jo (by first | exact xIr ts_s_int (int_at ho) | exact ok_ixR (i := o.toNat) rfl rfl rfl hoe ts_s_int (by omega) (by decide) (dy_at hp)) ?_; refine Jo (xLd tk_int) ?_; refine Ja ?_; refine Je ?_) | (refine Tx 15 ?_; refine Jm ?_; refine Jm ?_; refine Jm ?_; refine Jo (by exact ok_ixR (i := o.toNat) rfl rfl rfl hoe ts_s_Dyadic (by omega) (by decide) (dy_at hp)) ?_; refine Jo (xLa tk_Dyadic) ?_; refine Jn (by exact ok_build1 rfl ts_s_Dyadic tz_Dyadic rfl rfl (by decide) (by decide)) ?_; refine Jt (by exact to_apD rfl rfl rfl rfl rfl rfl ts_s_Dyadic tz_Dyadic (by omega) (by decide) (by decide) rfl hap hap2) ?_; refine Ja ?_; refine Je ?_) | (refine Tx 16 ?_; refine Jo xAd ?_; refine Jm ?_; refine Je ?_))
      refine ⟨_, _, wk_go [(2, vr 0), (7, vo 1 ((runO ps bs os (startM bs) (ls.take k)).length)), (10, vd (.row false 3 (nextE ps bs (stN ps bs (startM bs) (ls.take k)) l).length (flatD dyP (nextE ps bs (stN ps bs (startM bs) (ls.take k)) l)))), (11, vd (.row false 3 (valE ps bs (stN ps bs (startM bs) (ls.take k)) l).length (flatD dyP (valE ps bs (stN ps bs (startM bs) (ls.take k)) l)))), (13, vo 2 (((outV ps bs os (stN ps bs (startM bs) (ls.take k)) l).take ((j + 1))).length)), (21, vd (rowLI u ls)), (22, vi ls.length), (23, vi ((k : Nat))), (39, vd (rowI t os)), (40, vi os.length), (41, vi (((j + 1) : Nat)))] 3 ?_ ?_ ?_, _, ?_, j + 1, by omega, rfl, rfl, rfl⟩
      · rfl
      · exact mB rfl rfl
      · exact ⟨bel_lit rfl, bel_D, bel_D, trivial⟩
      · omega
    obtain rfl : j = os.length := by omega
    clear hlj hj
    have hol : (outV ps bs os (stN ps bs (startM bs) (ls.take (k))) l).length = os.length := by unfold outV; rw [List.length_map]
    rw [← hol, List.take_length]
    repeat' (with_reducible first | apply qa | apply qb | apply qc | apply qd | apply qe | apply qf | apply qg | apply qh | apply qi | apply qj | apply qk | apply ql rfl | apply qm rfl | apply qn rfl | (refine Tx 13 ?_; refine Jo xLt ?_; refine Je ?_))
    refine cw_wk (wk_freeze (ds := flatD dyP (outV ps bs os (stN ps bs (startM bs) (ls.take (k))) l)) 13 2 rfl rfl) ?_
    have hap : ((runO ps bs os (startM bs) (ls.take (k))).map dRw).map C.d ++ [C.d (dRw (outV ps bs os (stN ps bs (startM bs) (ls.take (k))) l))] = ((runO ps bs os (startM bs) (ls.take (k + 1))).map dRw).map C.d := by rw [hrn, List.map_append, List.map_append]; rfl
    have hap2 : (runO ps bs os (startM bs) (ls.take (k))).length + 1 = (runO ps bs os (startM bs) (ls.take (k + 1))).length := by rw [hrn, List.length_append]; rfl
    repeat' (with_reducible first | apply qa | apply qb | apply qc | apply qd | apply qe | apply qf | apply qg | apply qh | apply qi | apply qj | apply qk | apply ql rfl | apply qm rfl | apply qn rfl | (refine Tx 17 ?_; refine Jm ?_; refine Jm ?_; refine Jn (by exact ok_build1 rfl ts_s_s_Dyadic tz_s_Dyadic rfl rfl (by decide) (by decide)) ?_; refine Jt (by exact to_apD rfl rfl rfl rfl rfl rfl ts_s_s_Dyadic tz_s_Dyadic (by omega) (by decide) (by decide) rfl hap hap2) ?_; refine Jm ?_; refine Ja ?_; refine Ja ?_; refine Je ?_) | (refine Tx 18 ?_; refine Jo xAd ?_; refine Jm ?_; refine Je ?_))
    rw [← hsn]
    exact ⟨_, _, wk_go [(2, vr 0), (6, vd (.row false 3 (stN ps bs (startM bs) (ls.take ((k + 1)))).length (flatD dyP (stN ps bs (startM bs) (ls.take ((k + 1))))))), (7, vo 1 ((runO ps bs os (startM bs) (ls.take ((k + 1)))).length)), (21, vd (rowLI u ls)), (22, vi ls.length), (23, vi (((k + 1) : Nat)))] 2 rfl (mB rfl rfl) ⟨bel_lit rfl, bel_D, trivial⟩, _, by omega, k + 1, by omega, rfl, hra, rfl, rfl⟩
  obtain rfl : k = ls.length := by omega
  clear hlt hk
  rw [List.take_length] at hA
  rw [List.take_length, runE_good hA, okQ_z rfl]
  repeat' (with_reducible first | apply qa | apply qb | apply qc | apply qd | apply qe | apply qf | apply qg | apply qh | apply qi | apply qj | apply qk | apply ql rfl | apply qm rfl | apply qn rfl | (refine Tx 6 ?_; refine Jo xLt ?_; refine Je ?_) | (refine Tx 19 ?_; refine Jm ?_; refine Ja ?_; refine Ja ?_; refine Je ?_))
  exact ret_q rfl (.cons_ (rv_RD rfl rfl rfl) (.cons_ (rv_i rfl rfl) .nil_))
def exP : List Prt := [⟨-8, 8, 0⟩]
def exB : List Bk := [⟨0, none, [0], 0, 0, 0, 0, 0⟩, ⟨3, none, [0, 2], 0, 0, 0, 0, 0⟩, ⟨2, none, [1], 0, 0, 0, 0, 0⟩]
def exO : List Int := [1]
def exL : List (List Int) := [[3], [4], [-2]]
def exR : List (List (Int × Nat)) := [[(3, 0)], [(7, 0)], [(5, 0)]]
theorem exq_len : DgLen exP exB exO := ⟨by decide, by decide, by decide, by decide⟩
theorem exq_err : runQE exP exB exO exL = 0 := by decide +kernel
theorem exq_out : runO exP exB exO (startM exB) exL = exR := by decide +kernel
def light11 (ps : List Prt) (bs : List Bk) (os : List Int) (ls : List (List Int)) : Bool := lightB ps bs os && decide (ls.length ≤ 300 ∧ ls.length * bs.length ≤ 3000) && ls.all fun l => decide (l.length ≤ 40)
def lean11B (rs : List Rv) : Bool := (rs.all fun r => decide (r.ws.length ≤ 300 ∧ r.den ≤ 20000)) && decide (rs.length ≤ 100)
theorem rvT_at {t : Bool} {rs : List Rv} {k : Nat} {r : Rv} (h : rs[k]? = some r) : ((flatD (dRv t) rs).drop (k * 3)).take 3 = dRv t r := flatD_at (f := dRv t) (s := 3) (fun _ => rfl) h
theorem rowLD_nil : rowLD [] = .row false 1 0 [] := rfl
theorem aDys_nil : aDys [] = .one (.row false 3 0 []) := rfl
theorem all_no {α : Type} {p : α → Bool} {l : List α} {k : Nat} {x : α} (h : l[k]? = some x) (hp : p x = false) : l.all p = false := List.all_eq_false.2 ⟨x, List.mem_of_getElem? h, by rw [hp]; exact Bool.false_ne_true⟩
theorem stE_zero {ps : List Prt} {bs : List Bk} {os : List Int} {rs : List Rv} {ins : List Int} (h : stE ps bs os rs ins = 0) : dgErr ps bs os = 0 ∧ rs.length = (delL bs).length ∧ (∀ r ∈ rs, vdB r.rw = true) ∧ tickE ps bs (rs.map rvP) ins = 0 := by
  by_cases h0 : dgErr ps bs os = 0
  · by_cases h1 : rs.length = (delL bs).length
    · by_cases h2 : rs.all (fun r => vdB r.rw) = false
      · rw [stE3 h0 h1 h2] at h; cases h
      · refine ⟨h0, h1, fun r hr => List.all_eq_true.1 (by simpa using h2) r hr, ?_⟩
        unfold stE at h
        rw [if_neg (not_not_intro h0), if_neg (not_not_intro h1), if_neg h2] at h
        exact h
    · rw [stE2 h0 h1] at h; cases h
  · rw [stE1 h0] at h; exact absurd h h0
theorem sm_lenOk {l : List (Int × Nat)} (h : ∀ p ∈ l, Sm p LB LB) : LenOk l := fun p hp => Nat.le_trans ((h p hp).lenN 128 (by decide)) (by decide)
theorem len_nil : LenOk [] := fun p hp => by cases hp
theorem step_len {ps : List Prt} {bs : List Bk} {os : List Int} {rs : List Rv} {ins : List Int} (hb : bs.length ≤ 1000000) (hw : ∀ r ∈ rs, wordsOk r.ws ∧ r.ws.length ≤ 1000) :
    LenOk (okQ (stE ps bs os rs ins) (nextE ps bs (rs.map rvP) ins)) ∧ LenOk (okQ (stE ps bs os rs ins) (valE ps bs (rs.map rvP) ins)) ∧ (okQ (stE ps bs os rs ins) (nextE ps bs (rs.map rvP) ins)).length ≤ 1000000 ∧ (okQ (stE ps bs os rs ins) (valE ps bs (rs.map rvP) ins)).length ≤ 1000000 := by
  by_cases h : stE ps bs os rs ins = 0
  · obtain ⟨h0, h1, h2, h3⟩ := stE_zero h
    have hl : (rs.map rvP).length = (delL bs).length := by rw [List.length_map]; exact h1
    have hn : ∀ p ∈ rs.map rvP, Nf p.1 p.2 := fun p hp => by
      obtain ⟨r, hr, rfl⟩ := List.mem_map.1 hp
      exact (rv_dy (t := false) (hw r hr).1 (h2 r hr)).2.1
    rw [okQ_z h, okQ_z h]
    refine ⟨sm_lenOk (next_ok h0 hl hn h3).sm, sm_lenOk (val_sm h0 hl hn h3), ?_, ?_⟩
    · rw [nextE_len]; exact Nat.le_trans (delL_le bs) hb
    · rw [valE_len]; exact hb
  · rw [okQ_n h, okQ_n h]
    exact ⟨len_nil, len_nil, by decide, by decide⟩
theorem start_lenOk {ps : List Prt} {bs : List Bk} {os : List Int} (h0 : dgErr ps bs os = 0) : LenOk (startM bs) := sm_lenOk (start_ok h0).sm
theorem runO_sm {ps : List Prt} {bs : List Bk} {os : List Int} (h0 : dgErr ps bs os = 0) : ∀ {ls : List (List Int)} {st : List (Int × Nat)}, StOk bs st → AllT ps bs st ls → ∀ row ∈ runO ps bs os st ls, (∀ p ∈ row, Sm p LB LB) ∧ row.length = os.length
  | [], st, _, _, row, hr => by cases hr
  | ins :: l, st, h, ha, row, hr => by
    obtain ⟨h1, h2⟩ := ha.head
    rcases List.mem_cons.1 (show row ∈ outV ps bs os st ins :: runO ps bs os (nextE ps bs st ins) l from hr) with rfl | hr
    · refine ⟨fun p hp => ?_, by unfold outV; rw [List.length_map]⟩
      obtain ⟨o, _, rfl⟩ := List.mem_map.1 hp
      exact getD_sm (val_sm h0 h.len h.nf h1) _
    · exact runO_sm h0 (next_ok h0 h.len h.nf h1) h2 row hr
theorem runE_all {ps : List Prt} {bs : List Bk} : ∀ {ls : List (List Int)} {st : List (Int × Nat)}, runE ps bs st ls = 0 → AllT ps bs st ls
  | [], st, _ => AllT.nil
  | ins :: l, st, h => by
    have h' : (if tickE ps bs st ins = 0 then runE ps bs (nextE ps bs st ins) l else tickE ps bs st ins) = 0 := h
    by_cases h1 : tickE ps bs st ins = 0
    · rw [if_pos h1] at h'
      have ih := runE_all h'
      intro k j hj
      cases k with
      | zero => simp only [List.getElem?_cons_zero, Option.some.injEq] at hj; subst hj; exact h1
      | succ k => exact ih k j hj
    · rw [if_neg h1] at h'; exact absurd h' h1
theorem runQ_zero {ps : List Prt} {bs : List Bk} {os : List Int} {ls : List (List Int)} (h : runQE ps bs os ls = 0) : dgErr ps bs os = 0 ∧ ls.length ≤ 256 ∧ AllT ps bs (startM bs) ls := by
  unfold runQE at h
  by_cases h0 : dgErr ps bs os = 0
  · rw [if_neg (not_not_intro h0)] at h
    by_cases h1 : 256 < ls.length
    · rw [if_pos h1] at h; cases h
    · rw [if_neg h1] at h
      exact ⟨h0, by omega, runE_all h⟩
  · rw [if_pos h0] at h; exact absurd h h0
theorem runQ_rows {ps : List Prt} {bs : List Bk} {os : List Int} {ls : List (List Int)} : ∀ row ∈ okQ (runQE ps bs os ls) (runO ps bs os (startM bs) ls), LenOk row ∧ row.length = os.length := fun row hr => by
  by_cases h : runQE ps bs os ls = 0
  · rw [okQ_z h] at hr
    obtain ⟨h0, _, h2⟩ := runQ_zero h
    have := runO_sm h0 (start_ok h0) h2 row hr
    exact ⟨sm_lenOk this.1, this.2⟩
  · rw [okQ_n h] at hr; cases hr
theorem rows_at {rows : List (List (Int × Nat))} {k : Nat} {l : List (Int × Nat)} (h : rows[k]? = some l) : ((rows.map dRw).drop (k * 1)).take 1 = [dRw l] := map_at h
theorem light11_len {ps : List Prt} {bs : List Bk} {os : List Int} {ls : List (List Int)} (h : light11 ps bs os ls = true) : DgLen ps bs os ∧ (ls.length ≤ 300 ∧ bs.length ≤ 80) ∧ ∀ l ∈ ls, l.length ≤ 40 := by
  unfold light11 at h
  rw [Bool.and_eq_true, Bool.and_eq_true] at h
  obtain ⟨⟨h1, h2⟩, h3⟩ := h
  have h4 := of_decide_eq_true h2
  have h5 := light_len h1
  exact ⟨h5.1, ⟨h4.1, h5.2⟩, fun l hl => of_decide_eq_true (List.all_eq_true.1 h3 l hl)⟩
theorem lean11_len {rs : List Rv} (h : lean11B rs = true) (hw : ∀ r ∈ rs, wordsOk r.ws) : (∀ r ∈ rs, wordsOk r.ws ∧ r.ws.length ≤ 1000) ∧ rs.length ≤ 100 := by
  unfold lean11B at h
  rw [Bool.and_eq_true] at h
  refine ⟨fun r hr => ⟨hw r hr, ?_⟩, of_decide_eq_true h.2⟩
  have := of_decide_eq_true (List.all_eq_true.1 h.1 r hr)
  omega
set_option maxRecDepth 100000 in
set_option maxHeartbeats 4000000 in
theorem example_cv  : CV Tryd.prog TabAt 34 [] [aDg false exP exB exO] := by
  refine cv_of tab_G Tryd.func34 rfl Tryd.ntmps34 (Nat.le_of_ble_eq_true rfl) ?_
  repeat' (with_reducible first | apply qa | apply qb | apply qc | apply qd | apply qe | apply qf | apply qg | apply qh | apply qi | apply qj | apply qk | apply ql rfl | apply qm rfl | apply qn rfl | (refine Tx 0 ?_; refine Jn (by exact ok_alloc rfl tz_Diagram) ?_; refine Je ?_) | (refine Tx 1 ?_; refine Jo (by exact ok_build rfl tb_Port rfl rfl) ?_; refine Jn (by exact ok_build1 rfl ts_s_Port tz_Port rfl rfl (by decide) (by decide)) ?_; refine Jn (by exact ok_build1 rfl ts_s_int tz_int rfl rfl (by decide) (by decide)) ?_; refine Jn (by exact ok_build1 rfl ts_s_int tz_int rfl rfl (by decide) (by decide)) ?_; refine Jo (by exact ok_build rfl tb_Block rfl rfl) ?_; refine Jn (by exact ok_build2 rfl ts_s_int tz_int rfl rfl rfl rfl (by decide) (by decide)) ?_; refine Jo (by exact ok_build rfl tb_Block rfl rfl) ?_; refine Jn (by exact ok_build1 rfl ts_s_int tz_int rfl rfl (by decide) (by decide)) ?_; refine Jo (by exact ok_build rfl tb_Block rfl rfl) ?_; refine Jn (by exact ok_buildN rfl rfl ts_s_Block tz_Block (by decide) (by decide) (by decide) rfl rfl rfl) ?_; refine Jo (by exact ok_build rfl tb_Diagram rfl rfl) ?_; refine Js (xSk tk_Diagram) ?_; refine Je ?_))
  exact ret_q rfl (.cons_ (rv_box rfl rfl tk_Diagram rfl rfl (by first | ((repeat' first | exact lrel_n rfl rfl | refine lrel_c rfl rfl ?_ ?_ | refine xexp_1 rfl rfl ?_ | refine xexp_a rfl rfl ?_ | exact cexp_d rfl (fun _ => DFree.val _) | exact cexp_n rfl rfl | exact cexp_e rfl rfl | refine cexp_o rfl rfl rfl ?_) <;> fail) | fail)) .nil_)
set_option maxRecDepth 100000 in
set_option maxHeartbeats 4000000 in
theorem awake11_cv  : CV Tryd.prog TabAt 9 [] [aB true] := by
  refine cv_of tab_G Tryd.func9 rfl Tryd.ntmps9 (Nat.le_of_ble_eq_true rfl) ?_
  have RU := prun_cv false true true (ps := exP) (bs := exB) (os := exO) exq_len exL (by decide) (by decide)
  rw [exq_err, okQ_z rfl, exq_out, show rowLD exR = .row false 1 3 [.row false 3 1 (flatD dyP [(3, 0)]), .row false 3 1 (flatD dyP [(7, 0)]), .row false 3 1 (flatD dyP [(5, 0)])] from rfl] at RU
  have OF := pdof_cv 7 (by decide) (by decide)
  have OG := pdof_cv 5 (by decide) (by decide)
  have CM := pdcmp_cv 7 0 7 0 ⟨by decide, fun h => absurd rfl h⟩ ⟨by decide, fun h => absurd rfl h⟩ (by decide +kernel) (by decide +kernel)
  have CN := pdcmp_cv 5 0 5 0 ⟨by decide, fun h => absurd rfl h⟩ ⟨by decide, fun h => absurd rfl h⟩ (by decide +kernel) (by decide +kernel)
  rw [show dyCmp 7 0 7 0 = 0 by decide +kernel] at CM
  rw [show dyCmp 5 0 5 0 = 0 by decide +kernel] at CN
  repeat' (with_reducible first | apply qa | apply qb | apply qc | apply qd | apply qe | apply qf | apply qg | apply qh | apply qi | apply qj | apply qk | apply ql rfl | apply qm rfl | apply qn rfl | (refine Tx 0 ?_; refine Ja ?_; refine Je ?_) | (refine Tx 1 ?_; refine Jo (xCl Tryd.func34 (example_cv)) ?_; refine Jn (by exact ok_build1 rfl ts_s_int tz_int rfl rfl (by decide) (by decide)) ?_; refine Jn (by exact ok_build1 rfl ts_s_int tz_int rfl rfl (by decide) (by decide)) ?_; refine Jn (by exact ok_build1 rfl ts_s_int tz_int rfl rfl (by decide) (by decide)) ?_; refine Jn (by exact ok_buildN rfl rfl ts_s_s_int tz_s_int (by decide) (by decide) (by decide) rfl rfl rfl) ?_; refine Jo (xCl Tryd.func23 (RU)) ?_; refine Jo (by exact ok_mvT rfl rfl) ?_; refine Jo xEx ?_; refine Jo xEx ?_; refine Ja ?_; refine Ja ?_; refine Je ?_) | (refine cw_any (id := 2) mixed (by kernel_rfl) ?_; refine Km ?_; refine Ko (by first | exact ok_eqlE rfl ti_error rfl (beq_t rfl) | exact ok_eqlE rfl ti_error rfl (beq_t (by first | rfl | omega)) | exact ok_eqlE rfl ti_error rfl (beq_f (by first | assumption | omega)) | exact ok_eqlE rfl ti_error rfl rfl) ?_; refine Km ?_; (first | refine Kd ?_ | refine Ky (by exact ok_mv1 rfl rfl) ?_); (first | refine Kd ?_ | refine Ky (xLn ts_s_s_Dyadic) ?_); (first | refine Kd ?_ | refine Ky xEq ?_); refine Ko xPk ?_; refine Km ?_; (first | refine Kd ?_ | refine Ky (by exact ok_mv1 rfl rfl) ?_); (first | refine Kd ?_ | refine Ky (by exact ok_ixR (i := 2) rfl rfl rfl rfl ts_s_s_Dyadic (by decide) (by decide) rfl) ?_); (first | refine Kd ?_ | refine Ky (xLd tk_s_Dyadic) ?_); (first | refine Kd ?_ | refine Ky (xLn ts_s_Dyadic) ?_); (first | refine Kd ?_ | refine Ky xEq ?_); refine Ko xPk ?_; refine Km ?_; (first | refine Kd ?_ | refine Ky (by exact ok_mv1 rfl rfl) ?_); (first | refine Kd ?_ | refine Ky (by exact ok_ixR (i := 1) rfl rfl rfl rfl ts_s_s_Dyadic (by decide) (by decide) rfl) ?_); (first | refine Kd ?_ | refine Ky (xLd tk_s_Dyadic) ?_); (first | refine Kd ?_ | refine Ky (by exact ok_ixR (i := 0) rfl rfl rfl rfl ts_s_Dyadic (by decide) (by decide) rfl) ?_); (first | refine Kd ?_ | refine Ky (xLa tk_Dyadic) ?_); (first | refine Kd ?_ | refine Ky (by first | exact xCl Tryd.func35 (OF) | exact xCl Tryd.func35 (OG)) ?_); (first | refine Kd ?_ | refine Ky (by first | exact xCl Tryd.func31 (CM) | exact xCl Tryd.func31 (CN)) ?_); (first | refine Kd ?_ | refine Ky xEq ?_); refine Ko xPk ?_; refine Km ?_; (first | refine Kd ?_ | refine Ky (by exact ok_mv1 rfl rfl) ?_); (first | refine Kd ?_ | refine Ky (by exact ok_ixR (i := 2) rfl rfl rfl rfl ts_s_s_Dyadic (by decide) (by decide) rfl) ?_); (first | refine Kd ?_ | refine Ky (xLd tk_s_Dyadic) ?_); (first | refine Kd ?_ | refine Ky (by exact ok_ixR (i := 0) rfl rfl rfl rfl ts_s_Dyadic (by decide) (by decide) rfl) ?_); (first | refine Kd ?_ | refine Ky (xLa tk_Dyadic) ?_); (first | refine Kd ?_ | refine Ky (by first | exact xCl Tryd.func35 (OF) | exact xCl Tryd.func35 (OG)) ?_); (first | refine Kd ?_ | refine Ky (by first | exact xCl Tryd.func31 (CM) | exact xCl Tryd.func31 (CN)) ?_); (first | refine Kd ?_ | refine Ky xEq ?_); refine Ko xPk ?_; refine Ka ?_; refine Ke ?_))
  exact ret_q rfl (.cons_ (rv_b rfl (rfl)) .nil_)
set_option maxRecDepth 100000 in
set_option maxHeartbeats 4000000 in
theorem light11_cv (t u : Bool) (ps : List Prt) (bs : List Bk) (os : List Int) (ls : List (List Int)) : CV Tryd.prog TabAt 14 [aDg t ps bs os, .one (rowLI u ls)] [aB (light11 ps bs os ls)] := by
  refine cv_of tab_G Tryd.func14 rfl Tryd.ntmps14 (Nat.le_of_ble_eq_true rfl) ?_
  have LT := light_cvT t ps bs os
  by_cases h1 : lightB ps bs os = true
  case neg =>
    rw [Bool.not_eq_true] at h1
    rw [h1] at LT
    repeat' (with_reducible first | apply qa | apply qb | apply qc | apply qd | apply qe | apply qf | apply qg | apply qh | apply qi | apply qj | apply qk | apply ql rfl | apply qm rfl | apply qn rfl | (refine Tx 0 ?_; refine Jn xBo ?_; refine Ja ?_; refine Je ?_) | (refine Tx 1 ?_; refine Jo (xLa tk_Diagram) ?_; refine Jo (xCl Tryd.func39 (LT)) ?_; refine Jo (by first | exact ok_not rfl rfl | exact ok_neg64 rfl rfl (by omega)) ?_; refine Jm ?_; (first | refine Jd ?_ | refine Jy (by exact ok_mv1 rfl rfl) ?_); (first | refine Jd ?_ | refine Jy (xLn ts_s_s_int) ?_); (first | refine Jd ?_ | refine Jy xGt ?_); refine Jo xPk ?_; refine Jm ?_; (first | refine Jd ?_ | refine Jy (by exact ok_mv1 rfl rfl) ?_); (first | refine Jd ?_ | refine Jy (xLn ts_s_s_int) ?_); (first | refine Jd ?_ | refine Jy (xFa tf_Diagram1 tk_s_Block) ?_); (first | refine Jd ?_ | refine Jy (xLd tk_s_Block) ?_); (first | refine Jd ?_ | refine Jy (xLn ts_s_Block) ?_); (first | refine Jd ?_ | refine Jy (by exact ok_mul64 rfl rfl rfl (by omega)) ?_); (first | refine Jd ?_ | refine Jy xGt ?_); refine Jo xPk ?_; refine Je ?_) | (refine Tx 2 ?_; refine Ja ?_; refine Je ?_))
    exact ret_q rfl (.cons_ (rv_b rfl (by unfold light11; rw [h1]; rfl)) .nil_)
  rw [h1] at LT
  have hbl := (light_len h1).2
  by_cases h2 : 300 < ls.length
  case pos =>
    repeat' (with_reducible first | apply qa | apply qb | apply qc | apply qd | apply qe | apply qf | apply qg | apply qh | apply qi | apply qj | apply qk | apply ql rfl | apply qm rfl | apply qn rfl | (refine Tx 0 ?_; refine Jn xBo ?_; refine Ja ?_; refine Je ?_) | (refine Tx 1 ?_; refine Jo (xLa tk_Diagram) ?_; refine Jo (xCl Tryd.func39 (LT)) ?_; refine Jo (by first | exact ok_not rfl rfl | exact ok_neg64 rfl rfl (by omega)) ?_; refine Jm ?_; (first | refine Jd ?_ | refine Jy (by exact ok_mv1 rfl rfl) ?_); (first | refine Jd ?_ | refine Jy (xLn ts_s_s_int) ?_); (first | refine Jd ?_ | refine Jy xGt ?_); refine Jo xPk ?_; refine Jm ?_; (first | refine Jd ?_ | refine Jy (by exact ok_mv1 rfl rfl) ?_); (first | refine Jd ?_ | refine Jy (xLn ts_s_s_int) ?_); (first | refine Jd ?_ | refine Jy (xFa tf_Diagram1 tk_s_Block) ?_); (first | refine Jd ?_ | refine Jy (xLd tk_s_Block) ?_); (first | refine Jd ?_ | refine Jy (xLn ts_s_Block) ?_); (first | refine Jd ?_ | refine Jy (by exact ok_mul64 rfl rfl rfl (by omega)) ?_); (first | refine Jd ?_ | refine Jy xGt ?_); refine Jo xPk ?_; refine Je ?_) | (refine Tx 2 ?_; refine Ja ?_; refine Je ?_))
    exact ret_q rfl (.cons_ (rv_b rfl (by unfold light11; rw [h1, decide_eq_false (by omega)]; rfl)) .nil_)
  have hq : ls.length * bs.length ≤ 300 * 80 := Nat.mul_le_mul (by omega) hbl
  have hm : IntKind.i64.wrap (((ls.length : Nat) : Int) * ((bs.length : Nat) : Int)) = ((ls.length * bs.length : Nat) : Int) := by rw [← Int.natCast_mul, IntWalk.i64_in _ (by omega)]
  generalize hmm : ls.length * bs.length = q at *
  by_cases h3 : 3000 < q
  case pos =>
    repeat' (with_reducible first | apply qa | apply qb | apply qc | apply qd | apply qe | apply qf | apply qg | apply qh | apply qi | apply qj | apply qk | apply ql rfl | apply qm rfl | apply qn rfl | (refine Tx 0 ?_; refine Jn xBo ?_; refine Ja ?_; refine Je ?_) | (refine Tx 1 ?_; refine Jo (xLa tk_Diagram) ?_; refine Jo (xCl Tryd.func39 (LT)) ?_; refine Jo (by first | exact ok_not rfl rfl | exact ok_neg64 rfl rfl (by omega)) ?_; refine Jm ?_; (first | refine Jd ?_ | refine Jy (by exact ok_mv1 rfl rfl) ?_); (first | refine Jd ?_ | refine Jy (xLn ts_s_s_int) ?_); (first | refine Jd ?_ | refine Jy xGt ?_); refine Jo xPk ?_; refine Jm ?_; (first | refine Jd ?_ | refine Jy (by exact ok_mv1 rfl rfl) ?_); (first | refine Jd ?_ | refine Jy (xLn ts_s_s_int) ?_); (first | refine Jd ?_ | refine Jy (xFa tf_Diagram1 tk_s_Block) ?_); (first | refine Jd ?_ | refine Jy (xLd tk_s_Block) ?_); (first | refine Jd ?_ | refine Jy (xLn ts_s_Block) ?_); (first | refine Jd ?_ | refine Jy (by exact ok_mul64 rfl rfl rfl (by omega)) ?_); (first | refine Jd ?_ | refine Jy (by first | exact ok_mulR rfl rfl rfl hm | exact xGt) ?_); refine Jo xPk ?_; refine Je ?_) | (refine Tx 2 ?_; refine Ja ?_; refine Je ?_))
    exact ret_q rfl (.cons_ (rv_b rfl (by unfold light11; rw [h1, hmm, decide_eq_false (by omega)]; rfl)) .nil_)
  repeat' (with_reducible first | apply qa | apply qb | apply qc | apply qd | apply qe | apply qf | apply qg | apply qh | apply qi | apply qj | apply qk | apply ql rfl | apply qm rfl | apply qn rfl | (refine Tx 0 ?_; refine Jn xBo ?_; refine Ja ?_; refine Je ?_) | (refine Tx 1 ?_; refine Jo (xLa tk_Diagram) ?_; refine Jo (xCl Tryd.func39 (LT)) ?_; refine Jo (by first | exact ok_not rfl rfl | exact ok_neg64 rfl rfl (by omega)) ?_; refine Jm ?_; (first | refine Jd ?_ | refine Jy (by exact ok_mv1 rfl rfl) ?_); (first | refine Jd ?_ | refine Jy (xLn ts_s_s_int) ?_); (first | refine Jd ?_ | refine Jy xGt ?_); refine Jo xPk ?_; refine Jm ?_; (first | refine Jd ?_ | refine Jy (by exact ok_mv1 rfl rfl) ?_); (first | refine Jd ?_ | refine Jy (xLn ts_s_s_int) ?_); (first | refine Jd ?_ | refine Jy (xFa tf_Diagram1 tk_s_Block) ?_); (first | refine Jd ?_ | refine Jy (xLd tk_s_Block) ?_); (first | refine Jd ?_ | refine Jy (xLn ts_s_Block) ?_); (first | refine Jd ?_ | refine Jy (by exact ok_mul64 rfl rfl rfl (by omega)) ?_); (first | refine Jd ?_ | refine Jy (by first | exact ok_mulR rfl rfl rfl hm | exact xGt) ?_); refine Jo xPk ?_; refine Je ?_) | (refine Tx 3 ?_; refine Jm ?_; refine Jo (xLn ts_s_s_int) ?_; refine Jm ?_; refine Je ?_))
  refine cw_wk (F' := ofL [(24, vd (rowLI u ls)), (25, vi ls.length), (26, vi ((0 : Nat)))]) (H' := []) (wk_go [(24, vd (rowLI u ls)), (25, vi ls.length), (26, vi ((0 : Nat)))] 0 ?_ ?_ ?_) ?_
  · rfl
  · exact mB rfl rfl
  · exact trivial
  refine cw_loopW (fun n Fr H => ∃ k : Nat, k ≤ ls.length ∧ n = ls.length - k ∧ (ls.take k).all (fun l => decide (l.length ≤ 40)) = true ∧ Fr = ofL [(24, vd (rowLI u ls)), (25, vi ls.length), (26, vi ((k : Nat)))] ∧ H = []) (n0 := ls.length) ⟨0, Nat.zero_le _, rfl, rfl, rfl, rfl⟩ ?_
  rintro n Fr H ⟨k, hk, rfl, hall, rfl, rfl⟩
  by_cases hlt : k < ls.length
  case pos =>
    obtain ⟨l, hl⟩ : ∃ l, ls[k]? = some l := ⟨_, List.getElem?_eq_getElem hlt⟩
    by_cases h4 : l.length ≤ 40
    case neg =>
      repeat' (with_reducible first | apply qa | apply qb | apply qc | apply qd | apply qe | apply qf | apply qg | apply qh | apply qi | apply qj | apply qk | apply ql rfl | apply qm rfl | apply qn rfl | (refine Tx 4 ?_; refine Jo xLt ?_; refine Je ?_) | (refine Tx 5 ?_; refine Jo (xIr ts_s_s_int (lin_at hl)) ?_; refine Jo (xLd tk_s_int) ?_; refine Ja ?_; refine Je ?_) | (refine Tx 6 ?_; refine Jm ?_; refine Jo (xLn ts_s_int) ?_; refine Jo xGt ?_; refine Je ?_) | (refine Tx 7 ?_; refine Ja ?_; refine Je ?_))
      exact ret_q rfl (.cons_ (rv_b rfl (by unfold light11; rw [all_no hl (decide_eq_false h4), Bool.and_false])) .nil_)
    repeat' (with_reducible first | apply qa | apply qb | apply qc | apply qd | apply qe | apply qf | apply qg | apply qh | apply qi | apply qj | apply qk | apply ql rfl | apply qm rfl | apply qn rfl | (refine Tx 4 ?_; refine Jo xLt ?_; refine Je ?_) | (refine Tx 5 ?_; refine Jo (xIr ts_s_s_int (lin_at hl)) ?_; refine Jo (xLd tk_s_int) ?_; refine Ja ?_; refine Je ?_) | (refine Tx 6 ?_; refine Jm ?_; refine Jo (xLn ts_s_int) ?_; refine Jo xGt ?_; refine Je ?_) | (refine Tx 8 ?_; refine Jo xAd ?_; refine Jm ?_; refine Je ?_))
    exact ⟨_, _, wk_go [(24, vd (rowLI u ls)), (25, vi ls.length), (26, vi (((k + 1) : Nat)))] 0 rfl (mB rfl rfl) trivial, _, by omega, k + 1, by omega, rfl, all_take hl hall (decide_eq_true h4), rfl, rfl⟩
  obtain rfl : k = ls.length := by omega
  rw [List.take_length] at hall
  repeat' (with_reducible first | apply qa | apply qb | apply qc | apply qd | apply qe | apply qf | apply qg | apply qh | apply qi | apply qj | apply qk | apply ql rfl | apply qm rfl | apply qn rfl | (refine Tx 4 ?_; refine Jo xLt ?_; refine Je ?_) | (refine Tx 9 ?_; refine Ja ?_; refine Je ?_))
  exact ret_q rfl (.cons_ (rv_b rfl (by unfold light11; rw [h1, hall, hmm, decide_eq_true (by omega)]; rfl)) .nil_)
set_option maxRecDepth 100000 in
set_option maxHeartbeats 4000000 in
theorem lean11_cv (t : Bool) (rs : List Rv) (hrl : (rs.length : Int) ≤ 9223372036854775807) : CV Tryd.prog TabAt 15 [.one (.row t 3 rs.length (flatD (dRv t) rs))] [aB (lean11B rs)] := by
  refine cv_of tab_G Tryd.func15 rfl Tryd.ntmps15 (Nat.le_of_ble_eq_true rfl) ?_
  repeat' (with_reducible first | apply qa | apply qb | apply qc | apply qd | apply qe | apply qf | apply qg | apply qh | apply qi | apply qj | apply qk | apply ql rfl | apply qm rfl | apply qn rfl | (refine Tx 0 ?_; refine Ja ?_; refine Je ?_) | (refine Tx 1 ?_; refine Jm ?_; refine Jo (xLn ts_s_Dyadic) ?_; refine Jm ?_; refine Je ?_))
  refine cw_wk (F' := ofL [(0, vd (.row t 3 rs.length (flatD (dRv t) rs))), (5, vd (.row t 3 rs.length (flatD (dRv t) rs))), (6, vi rs.length), (7, vi ((0 : Nat)))]) (H' := []) (wk_go [(0, vd (.row t 3 rs.length (flatD (dRv t) rs))), (5, vd (.row t 3 rs.length (flatD (dRv t) rs))), (6, vi rs.length), (7, vi ((0 : Nat)))] 0 ?_ ?_ ?_) ?_
  · rfl
  · exact mB rfl rfl
  · exact trivial
  refine cw_loopW (fun n Fr H => ∃ k : Nat, k ≤ rs.length ∧ n = rs.length - k ∧ (rs.take k).all (fun r : Rv => decide (r.ws.length ≤ 300 ∧ r.den ≤ 20000)) = true ∧ Fr = ofL [(0, vd (.row t 3 rs.length (flatD (dRv t) rs))), (5, vd (.row t 3 rs.length (flatD (dRv t) rs))), (6, vi rs.length), (7, vi ((k : Nat)))] ∧ H = []) (n0 := rs.length) ⟨0, Nat.zero_le _, rfl, rfl, rfl, rfl⟩ ?_
  rintro n Fr H ⟨k, hk, rfl, hall, rfl, rfl⟩
  by_cases hlt : k < rs.length
  case pos =>
    obtain ⟨r, hr⟩ : ∃ r, rs[k]? = some r := ⟨_, List.getElem?_eq_getElem hlt⟩
    by_cases c1 : r.ws.length ≤ 300
    case neg =>
      repeat' (with_reducible first | apply qa | apply qb | apply qc | apply qd | apply qe | apply qf | apply qg | apply qh | apply qi | apply qj | apply qk | apply ql rfl | apply qm rfl | apply qn rfl | (refine Tx 2 ?_; refine Jo xLt ?_; refine Je ?_) | (refine Tx 3 ?_; refine Jo (xIr ts_s_Dyadic (rvT_at hr)) ?_; refine Jo (xLa tk_Dyadic) ?_; refine Jn (by exact ok_alloc rfl tz_Dyadic) ?_; refine Js (xSk tk_Dyadic) ?_; refine Je ?_) | (refine Tx 4 ?_; refine Jo (xFa tf_Dyadic1 tk_s_uint32) ?_; refine Jo (xLd tk_s_uint32) ?_; refine Jo (xLn ts_s_uint32) ?_; refine Jo xGt ?_; refine Jm ?_; (first | refine Jd ?_ | refine Jy (xFa tf_Dyadic2 tk_int) ?_); (first | refine Jd ?_ | refine Jy (xLd tk_int) ?_); (first | refine Jd ?_ | refine Jy xGt ?_); refine Jo xPk ?_; refine Je ?_) | (refine Tx 5 ?_; refine Ja ?_; refine Je ?_))
      exact ret_q rfl (.cons_ (rv_b rfl (by unfold lean11B; rw [all_no hr (decide_eq_false (by omega)), Bool.false_and])) .nil_)
    by_cases c2 : r.den ≤ 20000
    case neg =>
      repeat' (with_reducible first | apply qa | apply qb | apply qc | apply qd | apply qe | apply qf | apply qg | apply qh | apply qi | apply qj | apply qk | apply ql rfl | apply qm rfl | apply qn rfl | (refine Tx 2 ?_; refine Jo xLt ?_; refine Je ?_) | (refine Tx 3 ?_; refine Jo (xIr ts_s_Dyadic (rvT_at hr)) ?_; refine Jo (xLa tk_Dyadic) ?_; refine Jn (by exact ok_alloc rfl tz_Dyadic) ?_; refine Js (xSk tk_Dyadic) ?_; refine Je ?_) | (refine Tx 4 ?_; refine Jo (xFa tf_Dyadic1 tk_s_uint32) ?_; refine Jo (xLd tk_s_uint32) ?_; refine Jo (xLn ts_s_uint32) ?_; refine Jo xGt ?_; refine Jm ?_; (first | refine Jd ?_ | refine Jy (xFa tf_Dyadic2 tk_int) ?_); (first | refine Jd ?_ | refine Jy (xLd tk_int) ?_); (first | refine Jd ?_ | refine Jy xGt ?_); refine Jo xPk ?_; refine Je ?_) | (refine Tx 5 ?_; refine Ja ?_; refine Je ?_))
      exact ret_q rfl (.cons_ (rv_b rfl (by unfold lean11B; rw [all_no hr (decide_eq_false (by omega)), Bool.false_and])) .nil_)
    repeat' (with_reducible first | apply qa | apply qb | apply qc | apply qd | apply qe | apply qf | apply qg | apply qh | apply qi | apply qj | apply qk | apply ql rfl | apply qm rfl | apply qn rfl | (refine Tx 2 ?_; refine Jo xLt ?_; refine Je ?_) | (refine Tx 3 ?_; refine Jo (xIr ts_s_Dyadic (rvT_at hr)) ?_; refine Jo (xLa tk_Dyadic) ?_; refine Jn (by exact ok_alloc rfl tz_Dyadic) ?_; refine Js (xSk tk_Dyadic) ?_; refine Je ?_) | (refine Tx 4 ?_; refine Jo (xFa tf_Dyadic1 tk_s_uint32) ?_; refine Jo (xLd tk_s_uint32) ?_; refine Jo (xLn ts_s_uint32) ?_; refine Jo xGt ?_; refine Jm ?_; (first | refine Jd ?_ | refine Jy (xFa tf_Dyadic2 tk_int) ?_); (first | refine Jd ?_ | refine Jy (xLd tk_int) ?_); (first | refine Jd ?_ | refine Jy xGt ?_); refine Jo xPk ?_; refine Je ?_) | (refine Tx 6 ?_; refine Jo xAd ?_; refine Jm ?_; refine Je ?_))
    exact ⟨_, _, wk_go [(0, vd (.row t 3 rs.length (flatD (dRv t) rs))), (5, vd (.row t 3 rs.length (flatD (dRv t) rs))), (6, vi rs.length), (7, vi (((k + 1) : Nat)))] 0 rfl (mB rfl rfl) trivial, _, by omega, k + 1, by omega, rfl, all_take hr hall (decide_eq_true ⟨c1, c2⟩), rfl, rfl⟩
  obtain rfl : k = rs.length := by omega
  rw [List.take_length] at hall
  by_cases c3 : rs.length ≤ 100
  case pos =>
    repeat' (with_reducible first | apply qa | apply qb | apply qc | apply qd | apply qe | apply qf | apply qg | apply qh | apply qi | apply qj | apply qk | apply ql rfl | apply qm rfl | apply qn rfl | (refine Tx 2 ?_; refine Jo xLt ?_; refine Je ?_) | (refine Tx 7 ?_; refine Jm ?_; refine Jo (xLn ts_s_Dyadic) ?_; refine Jo xLe ?_; refine Ja ?_; refine Je ?_))
    exact ret_q rfl (.cons_ (rv_b rfl (by unfold lean11B; rw [hall, decide_eq_true c3]; rfl)) .nil_)
  case neg =>
    repeat' (with_reducible first | apply qa | apply qb | apply qc | apply qd | apply qe | apply qf | apply qg | apply qh | apply qi | apply qj | apply qk | apply ql rfl | apply qm rfl | apply qn rfl | (refine Tx 2 ?_; refine Jo xLt ?_; refine Je ?_) | (refine Tx 7 ?_; refine Jm ?_; refine Jo (xLn ts_s_Dyadic) ?_; refine Jo xLe ?_; refine Ja ?_; refine Je ?_))
    exact ret_q rfl (.cons_ (rv_b rfl (by unfold lean11B; rw [hall, decide_eq_false c3]; rfl)) .nil_)
end Go.Proofs.YtfooonellkgaeaaDoor
