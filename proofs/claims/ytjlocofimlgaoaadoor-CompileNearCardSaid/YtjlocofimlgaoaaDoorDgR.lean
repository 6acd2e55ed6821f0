/- What is wrong with a diagram, as the document says it. Condition: lists of at most a million. -/
import Derived.Test.YtjlocofimlgaoaaDoorDgP
import Derived.Test.YtjlocofimlgaoaaDoorDgO
import Derived.Deep.RegionHeld3
namespace Go.Proofs.YtjlocofimlgaoaaDoor
set_option linter.unusedVariables false
set_option linter.unusedSimpArgs false
set_option linter.unusedSectionVars false
open Go.RowKit

theorem port_ok {p q r : Int} (h : portE ⟨p, q, r⟩ = 0) : -2147483648 ≤ p ∧ p ≤ q ∧ q < 2147483648 ∧ 0 ≤ r ∧ r ≤ 30 := by
  unfold portE at h
  by_cases h2 : -2147483648 ≤ p ∧ p ≤ q ∧ q < 2147483648 ∧ 0 ≤ r ∧ r ≤ 30
  · exact h2
  · rw [if_neg h2] at h; cases h
theorem port_bad {p q r : Int} (h : ¬ portE ⟨p, q, r⟩ = 0) : portE ⟨p, q, r⟩ = 3 := by
  unfold portE at h ⊢
  by_cases h2 : -2147483648 ≤ p ∧ p ≤ q ∧ q < 2147483648 ∧ 0 ≤ r ∧ r ≤ 30
  · exact absurd (if_pos h2) h
  · exact if_neg h2
theorem port_of {p q r : Int} (h : -2147483648 ≤ p ∧ p ≤ q ∧ q < 2147483648 ∧ withinB r 0 30 = true) : portE ⟨p, q, r⟩ = 0 := by
  have h5 : 0 ≤ r ∧ r ≤ 30 := of_decide_eq_true h.2.2.2
  exact if_pos ⟨h.1, h.2.1, h.2.2.1, h5.1, h5.2⟩
theorem ord_le (bs : List Bk) : (ordM bs).length ≤ nonDel bs := (ordN_ok bs.length (OutOk.nil bs)).le
set_option maxRecDepth 100000 in
set_option maxHeartbeats 8000000 in
theorem rCheck_any (d : Dg) (m : Nat) (w : World) (hm : m ≤ w.heap.size) (hd : DgAt w m d) :
    Calls Tryd.prog 19 #[d.val] w fun e w' => e = .returned (.int .i64 (dgErr d.ps d.bs d.os)) ∧ Below w.heap.size w w' := by
  have hl1 := hd.l1
  have hl2 := hd.l2
  have hl3 := hd.l3
  have HD := Lib.hid hd
  clear hd
  obtain ⟨A1, ps, c1, A2, bs, c2, A3, os, c3⟩ := d
  dsimp only at hl1 hl2 hl3
  simp only [Dg.val]
  by_cases hsz : sizeOk ps bs os
  · have HSZ := Lib.hid hsz
    clear hsz
    have l1' : (ps.length : Int) ≤ 16 := by have := HSZ.out.1; omega
    have l2' : (bs.length : Int) ≤ 64 := by have := HSZ.out.2.1; omega
    have l3' : (os.length : Int) ≤ 16 := by have := HSZ.out.2.2; omega
    have r0 := RowD.new_ w [.slice A1 ps.length c1, .slice A2 bs.length c2, .slice A3 os.length c3] 46
    have b0 := al_ w (.cells #[.slice A1 ps.length c1, .slice A2 bs.length c2, .slice A3 os.length c3] 46)
    go_enter Tryd.func19, Tryd.ntmps19
    go_wp2_with fail
    all_goals try (exfalso; omega)
    go_loopw [29] (fun i wr => cqRel w [.slice A1 ps.length c1, .slice A2 bs.length c2, .slice A3 os.length c3] (ps.map portE) i wr) (fun i _ => ps.length - (intOf i).toNat)
    case atStart => exact ⟨0, Nat.zero_le _, rfl, rfl, r0, b0⟩
    case round =>
      as_aux_lemma =>
        clear r0 b0
        obtain ⟨k, hk, rfl, hf, hbox, hb⟩ := hrel
        have HF := Lib.hid hf
        have HB := Lib.hid hbox
        have z0 := hbox.lt
        have q1 : wr.cell? ⟨w.heap.size, 1, none⟩ = some (.slice A2 bs.length c2) := hbox.cell 1
        clear hf hbox
        rw [List.length_map] at hk
        by_cases hlt : k < ps.length
        · obtain ⟨b, off, x, rfl, hbm, hbs, hx, hc⟩ := (HD.out.below hb hm).ps.row (s := 3) (fun _ => rfl) (by omega) hlt
          obtain ⟨plo, phi, pfr⟩ := x
          have g0 : wr.cell? ⟨b, off + k * 3, none⟩ = some (.int .i64 plo) := hc 0 _ rfl
          have g1 := hc 1 _ rfl
          have g2 := hc 2 _ rfl
          dsimp only at g1 g2
          have HX := Lib.hid hx
          clear hc hx
          by_cases hp : portE ⟨plo, phi, pfr⟩ = 0
          · have HPE := Lib.hid hp
            have hp2 : -2147483648 ≤ plo ∧ plo ≤ phi ∧ phi < 2147483648 ∧ 0 ≤ pfr ∧ pfr ≤ 30 := port_ok hp
            obtain ⟨p1, p2, p3, p4, p5⟩ := hp2
            have HWB := Lib.hid (show withinB pfr 0 30 = true from decide_eq_true ⟨p4, p5⟩)
            clear hp
            go_wp2_with (go_at_call 51; refine (within_any _ _ _ _).mono ?_; rintro e w1 ⟨rfl, rfl⟩; rw [HWB.out])
            exact ⟨⟨k + 1, by rw [List.length_map]; omega, by go_num, fs1 HX.out HPE.out HF.out, HB.out.call (al_ _ _), ext_alloc hb _⟩, by simp [intOf]; omega⟩
          · have h3 : portE ⟨plo, phi, pfr⟩ = 3 := port_bad hp
            have HE := Lib.hid (de1 HSZ.out (pe1 (bs := bs) (os := os) HX.out h3 (by decide) HF.out) (by decide))
            cases hwb : withinB pfr 0 30 with
            | true =>
              have hp2 : ¬ (-2147483648 ≤ plo ∧ plo ≤ phi ∧ phi < 2147483648) := fun h => hp (port_of ⟨h.1, h.2.1, h.2.2, hwb⟩)
              have HP2 := Lib.hid hp2
              have HWB := Lib.hid hwb
              clear hp h3 hp2 hwb
              go_wp2_with (go_at_call 51; refine (within_any _ _ _ _).mono ?_; rintro e w1 ⟨rfl, rfl⟩; rw [HWB.out])
              all_goals first
                | (go_ret
                   exact ⟨ar_eq (HE.out).symm, ext_alloc hb _⟩)
                | (exfalso; exact HP2.out ⟨by omega, by omega, by omega⟩)
            | false =>
              have HWB := Lib.hid hwb
              clear hp h3 hwb
              go_wp2_with (go_at_call 51; refine (within_any _ _ _ _).mono ?_; rintro e w1 ⟨rfl, rfl⟩; rw [HWB.out])
              all_goals
                go_ret
                exact ⟨ar_eq (HE.out).symm, ext_alloc hb _⟩
        · have P1 := Lib.hid (fe_all (k := k) (by rw [List.length_map]; omega) HF.out)
          clear HF
          go_wp2_with fail
          clear q1 hk hlt
          obtain ⟨w2, hw2⟩ : ∃ w2, w2 = wr := ⟨_, rfl⟩
          rw [← hw2] at HB hb
          rw [← hw2]
          clear hw2 z0
          go_loopw [58] (fun i wr => cqRel w [.slice A1 ps.length c1, .slice A2 bs.length c2, .slice A3 os.length c3] (bs.map (blkErr ps.length bs.length)) i wr) (fun i _ => bs.length - (intOf i).toNat)
          case atStart => exact ⟨0, Nat.zero_le _, rfl, rfl, HB.out, hb⟩
          case round =>
            as_aux_lemma =>
              clear HB hb
              obtain ⟨k, hk, rfl, hf, hbox, hb⟩ := hrel
              have HF := Lib.hid hf
              have HB := Lib.hid hbox
              have z0 := hbox.lt
              have q0 : wr.cell? ⟨w.heap.size, 0, none⟩ = some (.slice A1 ps.length c1) := hbox.cell 0
              have q1 : wr.cell? ⟨w.heap.size, 1, none⟩ = some (.slice A2 bs.length c2) := hbox.cell 1
              have q2 : wr.cell? ⟨w.heap.size, 2, none⟩ = some (.slice A3 os.length c3) := hbox.cell 2
              clear hf hbox
              rw [List.length_map] at hk
              by_cases hlt : k < bs.length
              · obtain ⟨b, off, kind, KA, args, cap, vn, ve, un, ue, hA, hbm, hbs, hx, g0, g1, g2, g3, g4, g5, ha, hal⟩ := (HD.out.below hb hm).blk hlt
                dsimp only at hA hx
                subst hA
                have HX := Lib.hid hx
                have HA := Lib.hid ha
                clear hx ha
                go_wp2_with fail
                go_at_call 52
                refine (block_any ⟨A1, ps, c1, some ⟨b, off, none⟩, bs, c2, A3, os, c3⟩ ⟨kind, KA, args, cap, vn, ve, un, ue⟩ m _ (by have := hb.size; simp; omega) (HA.out.below (al_ _ _) (by have := hb.size; omega)) hal hl1 hl2).mono ?_
                rintro e w5 ⟨rfl, hb5⟩
                dsimp only at hb5 ⊢
                have HB5 := Lib.hid ((HB.out.call (al_ _ _)).call hb5)
                have N5 := Lib.hid ((ext_alloc hb (.cells #[.int .i64 kind, .slice KA args.length cap, .int .i64 vn, .int .i64 ve, .int .i64 un, .int .i64 ue] 67)).trans (hb5.mono (by have := hb.size; simp; omega)))
                clear hb5 g0 g1 g2 g3 g4 g5 q0 q1 q2
                obtain ⟨E, hE⟩ : ∃ E, blkErr ps.length bs.length ⟨kind, KA, args, cap, vn, ve, un, ue⟩ = E := ⟨_, rfl⟩
                have HEE := Lib.hid hE
                rw [hE]
                clear hE
                by_cases he0 : E = 0
                · have HE0 := Lib.hid (HEE.out.trans he0)
                  rw [he0]
                  clear he0
                  go_wp2_with fail
                  exact ⟨⟨k + 1, by rw [List.length_map]; omega, by go_num, fs1 HX.out HE0.out HF.out, HB5.out, N5.out⟩, by simp [intOf]; omega⟩
                · have HE := Lib.hid (de1 HSZ.out (pe2 (os := os) P1.out HX.out HEE.out he0 HF.out) he0)
                  obtain ⟨q, hq⟩ : ∃ q, E = q := ⟨_, rfl⟩
                  rw [hq] at he0 HE
                  rw [hq]
                  have hqb : (q != 0) = true := by simpa using he0
                  clear hq he0
                  go_wp2_with fail
                  go_ret
                  exact ⟨ar_eq HE.out.symm, N5.out⟩
              · have P2 := Lib.hid (fe_all (k := k) (by rw [List.length_map]; omega) HF.out)
                clear HF
                go_wp2_with fail
                clear q0 q1 q2 hk hlt
                obtain ⟨w3, hw3⟩ : ∃ w3, w3 = wr := ⟨_, rfl⟩
                rw [← hw3] at HB hb
                rw [← hw3]
                clear hw3 z0
                go_loopw [72] (fun i wr => cqRel w [.slice A1 ps.length c1, .slice A2 bs.length c2, .slice A3 os.length c3] (os.map (outE bs.length)) i wr) (fun i _ => os.length - (intOf i).toNat)
                case atStart => exact ⟨0, Nat.zero_le _, rfl, rfl, HB.out, hb⟩
                case round =>
                  as_aux_lemma =>
                    clear HB hb
                    obtain ⟨k, hk, rfl, hf, hbox, hb⟩ := hrel
                    have HF := Lib.hid hf
                    have HB := Lib.hid hbox
                    have z0 := hbox.lt
                    have q0 : wr.cell? ⟨w.heap.size, 0, none⟩ = some (.slice A1 ps.length c1) := hbox.cell 0
                    have q1 : wr.cell? ⟨w.heap.size, 1, none⟩ = some (.slice A2 bs.length c2) := hbox.cell 1
                    have q2 : wr.cell? ⟨w.heap.size, 2, none⟩ = some (.slice A3 os.length c3) := hbox.cell 2
                    clear hf hbox
                    rw [List.length_map] at hk
                    by_cases hlt : k < os.length
                    · obtain ⟨b, off, z, rfl, hbm, hbs, hx, hc⟩ := (HD.out.below hb hm).os.int_ hlt
                      have HX := Lib.hid hx
                      clear hx
                      by_cases ho : 0 ≤ z ∧ z < (bs.length : Int)
                      · have HOE := Lib.hid (show outE bs.length z = 0 from if_pos ho)
                        have HWB := Lib.hid (show withinB z 0 ((bs.length : Int) - 1) = true from decide_eq_true ⟨ho.1, by have := ho.2; omega⟩)
                        clear ho
                        go_wp2_with (go_at_call 51; refine (within_any _ _ _ _).mono ?_; rintro e w1 ⟨rfl, rfl⟩; rw [HWB.out])
                        exact ⟨⟨k + 1, by rw [List.length_map]; omega, by go_num, fs1 HX.out HOE.out HF.out, HB.out, hb⟩, by simp [intOf]; omega⟩
                      · have HE := Lib.hid (de1 HSZ.out (pe3 P1.out P2.out HX.out (if_neg ho) (by decide) HF.out) (by decide))
                        have HWB := Lib.hid (show withinB z 0 ((bs.length : Int) - 1) = false from decide_eq_false (fun h => ho ⟨h.1, by have := h.2; omega⟩))
                        clear ho
                        go_wp2_with (go_at_call 51; refine (within_any _ _ _ _).mono ?_; rintro e w1 ⟨rfl, rfl⟩; rw [HWB.out])
                        go_ret
                        exact ⟨ar_eq (HE.out).symm, hb⟩
                    · have P3 := Lib.hid (fe_all (k := k) (by rw [List.length_map]; omega) HF.out)
                      have HE := Lib.hid (de2 HSZ.out (pe4 P1.out P2.out P3.out))
                      have HSO := Lib.hid (succ_ok P2.out)
                      clear HF
                      go_wp2_with fail
                      obtain ⟨w4, hw4⟩ : ∃ w4, w4 = wr := ⟨_, rfl⟩
                      rw [← hw4] at z0 q0 q1 q2 hb
                      rw [← hw4]
                      have HB4 := Lib.hid hb
                      clear hw4 HB hb hlt hk
                      have hk : KP w4 (w.heap.size + 1) w4 := ⟨Below.refl _ _, by omega⟩
                      have hmw : m ≤ w4.heap.size := by omega
                      have HD4 := Lib.hid (HD.out.below HB4.out hm)
                      go_region_held3 (fun w' => (∀ b o, b < w.heap.size + 1 → w'.cell? ⟨b, o, none⟩ = w4.cell? ⟨b, o, none⟩) ∧ KP w4 (w.heap.size + 1) w')
                        (first
                          | (refine KP.all ?_
                             first
                               | assumption
                               | exact hk
                               | exact hk.drew))
                        (first
                          | (go_at_call 53; refine (rOrder_any ⟨A1, ps, c1, A2, bs, c2, A3, os, c3⟩ m _ (by have := hk.drew.fits; omega) (HD4.out.below hk.drew.is (by omega)) HSO.out).mono ?_; (rintro e w7 ⟨v7, rfl, D7, hb7⟩; have hk7 := hk.drew.call hb7; obtain ⟨A7, c7, rfl, _, _⟩ := D7.view; have hz7 := hk7.fits))
                          | (go_at_call 30; refine (delays_any ⟨A1, ps, c1, A2, bs, c2, A3, os, c3⟩ m _ (by have := hk7.fits; omega) (HD4.out.below hk7.is (by omega))).mono ?_; (rintro e w8 ⟨v8, rfl, D8, hb8⟩; have hk8 := hk7.call hb8; obtain ⟨A8, c8, rfl, _, _⟩ := D8.view; have hz8 := hk8.fits)))
                      have N9 := Lib.hid (HB4.out.trans (hk8.is.mono (by omega)))
                      try dsimp only
                      have e7 : (natI (ordM bs)).length = (ordM bs).length := natI_len _
                      have e8 : (natI (delL bs)).length = (delL bs).length := natI_len _
                      have e9 := del_len bs
                      have e10 := ord_le bs
                      have hs7 : ((natI (ordM bs)).length : Int) ≤ 64 := by omega
                      have hs8 : ((natI (delL bs)).length : Int) ≤ 64 := by omega
                      have ew : IntKind.i64.wrap (((natI (ordM bs)).length : Int) + ((natI (delL bs)).length : Int)) = ((natI (ordM bs)).length : Int) + ((natI (delL bs)).length : Int) := IntWalk.i64_in _ ⟨by omega, by omega⟩
                      rw [ew]
                      clear ew
                      by_cases hor : (ordM bs).length = nonDel bs
                      · have HE2 := Lib.hid (HE.out.trans (if_pos hor))
                        have et : (((natI (ordM bs)).length : Int) + ((natI (delL bs)).length : Int) != (bs.length : Int)) = false := by
                          rw [bne_eq_false_iff_eq]; omega
                        clear hor e7 e8 e9 e10 D7 D8 hb7 hb8 hk7 hk8
                        go_wp2_with fail
                        go_ret
                        exact ⟨ar_eq (HE2.out).symm, N9.out⟩
                      · have HE2 := Lib.hid (HE.out.trans (if_neg hor))
                        have et : (((natI (ordM bs)).length : Int) + ((natI (delL bs)).length : Int) != (bs.length : Int)) = true := by
                          rw [bne_iff_ne]; omega
                        clear hor e7 e8 e9 e10 D7 D8 hb7 hb8 hk7 hk8
                        go_wp2_with fail
                        go_ret
                        exact ⟨ar_eq (HE2.out).symm, N9.out⟩
  · have HE := Lib.hid (de0 hsz)
    have b0 := al_ w (.cells #[.slice A1 ps.length c1, .slice A2 bs.length c2, .slice A3 os.length c3] 46)
    have key : 16 < (ps.length : Int) ∨ ((ps.length : Int) ≤ 16 ∧ 64 < (bs.length : Int)) ∨ ((ps.length : Int) ≤ 16 ∧ (bs.length : Int) ≤ 64 ∧ 16 < (os.length : Int)) := by
      unfold sizeOk at hsz
      omega
    clear hsz
    rcases key with k1 | ⟨k1, k2⟩ | ⟨k1, k2, k3⟩
    all_goals
      go_enter Tryd.func19, Tryd.ntmps19
      go_wp2_with fail
      all_goals try (exfalso; omega)
      go_ret
      exact ⟨ar_eq (HE.out).symm, b0⟩
end Go.Proofs.YtjlocofimlgaoaaDoor
