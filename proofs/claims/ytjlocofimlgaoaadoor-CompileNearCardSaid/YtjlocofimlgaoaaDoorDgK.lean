/- The document's order of the blocks. Condition: arguments that are blocks lie within the list. -/
import Derived.Test.YtjlocofimlgaoaaDoorDgJ
namespace Go.Proofs.YtjlocofimlgaoaaDoor
set_option linter.unusedVariables false
set_option linter.unusedSimpArgs false
set_option linter.unusedSectionVars false
open Go.RowKit

def lenOf : Value → Nat
  | .slice _ n _ => n
  | _ => 0
def ro1 (bs : List Bk) (w : World) (vs : List Value) (v : Value) (wr : World) : Prop :=
  ∃ outN, OwnI wr (w.heap.size + 1) v (natI outN) ∧ OrdOk bs outN ∧ RowD wr w.heap.size vs 46 ∧ Below w.heap.size w wr
def ro2 (bs : List Bk) (outN : List Nat) (w : World) (vs : List Value) (v p i : Value) (wr : World) : Prop :=
  ∃ k : Nat, k ≤ bs.length ∧ i = .int .i64 (k : Int) ∧ p = .int .i64 (-1) ∧ NoneB bs outN k ∧ OwnI wr (w.heap.size + 1) v (natI outN) ∧ RowD wr w.heap.size vs 46 ∧ Below w.heap.size w wr
def ro3 (bs : List Bk) (outN : List Nat) (xs : List Int) (w : World) (vs : List Value) (v r i : Value) (wr : World) : Prop :=
  ∃ t : Nat, t ≤ xs.length ∧ i = .int .i64 (t : Int) ∧ r = .bool (allT bs outN xs t) ∧ OwnI wr (w.heap.size + 1) v (natI outN) ∧ RowD wr w.heap.size vs 46 ∧ Below w.heap.size w wr
theorem OwnI.cells {w : World} {base n c : Nat} {A : Option Addr} {xs : List Int} (h : OwnI w base (.slice A n c) xs) : CellsAt w w.heap.size A (ints xs) := by
  obtain ⟨A', c', hv, _, hc⟩ := h.view
  cases hv
  exact hc
theorem OwnI.len {w : World} {base : Nat} {v : Value} {xs : List Int} (h : OwnI w base v xs) : lenOf v = xs.length := by
  obtain ⟨A', c', hv, _, hc⟩ := h.view
  subst hv
  rfl
theorem CellsAt.two {w w3 wr : World} {m : Nat} {A : Option Addr} {xs : List Value} (h : CellsAt w3 m A xs) (h3 : Below w.heap.size w w3) (hr : Below w.heap.size w wr) (hm : m ≤ w.heap.size) : CellsAt wr m A xs := fun hx => by
  obtain ⟨b, off, hA, hbm, hbs, hc⟩ := h hx
  have hb : b < w.heap.size := by omega
  refine ⟨b, off, hA, hbm, Nat.lt_of_lt_of_le hb hr.size, fun j u hu => ?_⟩
  rw [hr.cell (p := ⟨b, off + j, none⟩) hb, ← h3.cell (p := ⟨b, off + j, none⟩) hb]
  exact hc j u hu
theorem doneB_of {bs : List Bk} {out : List Nat} {a : Nat} {x : Bk} (h : bs[a]? = some x) : doneB bs out a = (x.kind == 2 || out.contains a) := by unfold doneB; rw [kind_of h]
set_option maxRecDepth 100000 in
set_option maxHeartbeats 8000000 in
theorem rOrder_any (d : Dg) (m : Nat) (w : World) (hm : m ≤ w.heap.size) (hd : DgAt w m d) (hok : SuccOk d.bs) :
    Calls Tryd.prog 53 #[d.val] w (RetO (natI (ordM d.bs)) w) := by
  have h2 := hd.l2
  have HD := Lib.hid hd
  have HOK := Lib.hid hok
  clear hok hd
  obtain ⟨A1, ps, c1, A2, bs, c2, A3, os, c3⟩ := d
  dsimp only at h2 HOK
  simp only [Dg.val]
  have r0 := RowD.new_ w [.slice A1 ps.length c1, .slice A2 bs.length c2, .slice A3 os.length c3] 46
  have hnd := nonDel_le bs
  go_enter Tryd.func53, Tryd.ntmps53
  go_wp2_with fail
  go_loopw [3] (fun v wr => ro1 bs w [.slice A1 ps.length c1, .slice A2 bs.length c2, .slice A3 os.length c3] v wr) (fun v _ => nonDel bs - lenOf v)
  case atStart => exact ⟨[], OwnI.nil_ _ _, OrdOk.nil _, r0, al_ _ _⟩
  case round =>
    as_aux_lemma =>
      clear r0
      obtain ⟨outN, hown, hord, hbox, hb⟩ := hrel
      obtain ⟨A, c, rfl, hAc, _⟩ := hown.view
      have hle := hord.ok.le
      have hlo : (natI outN).length ≤ 1000000 := by rw [natI_len]; omega
      have b1 : wr.cell? ⟨w.heap.size, 1, none⟩ = some (.slice A2 bs.length c2) := hbox.cell 1
      have z0 := hbox.lt
      have HO := Lib.hid hown
      have HB := Lib.hid hbox
      have HORD := Lib.hid hord
      clear hown hbox hord hAc
      go_wp2_with fail
      clear b1 z0
      obtain ⟨w1, hw1⟩ : ∃ w1, w1 = wr := ⟨_, rfl⟩
      rw [← hw1] at HO HB hb
      rw [← hw1]
      clear hw1
      go_loopw [4, 13] (fun p i wr => ro2 bs outN w [.slice A1 ps.length c1, .slice A2 bs.length c2, .slice A3 os.length c3] (.slice A (natI outN).length c) p i wr) (fun _ i _ => bs.length - (intOf i).toNat)
      case atStart => exact ⟨0, Nat.zero_le _, rfl, rfl, NoneB.zero _ _, HO.out, HB.out, hb⟩
      case round =>
        as_aux_lemma =>
          clear HO HB hb
          obtain ⟨k, hk, rfl, rfl, hnone, hown, hbox, hb⟩ := hrel
          have b1 : wr.cell? ⟨w.heap.size, 1, none⟩ = some (.slice A2 bs.length c2) := hbox.cell 1
          have z0 := hbox.lt
          have HO := Lib.hid hown
          have HB := Lib.hid hbox
          have HN := Lib.hid hnone
          clear hown hbox hnone
          by_cases hkl : k < bs.length
          · obtain ⟨b, off, kind, KA, args, cap, vn, ve, un, ue, hA, hbm, hbs, hx, g0, g1, g2, g3, g4, g5, ha, hl⟩ := (HD.out.below hb hm).blk hkl
            dsimp only at hA hx
            subst hA
            have hln : (preds bs k).length ≤ 1000000 := by rw [preds_of hx]; split <;> simp; exact hl
            have HX := Lib.hid hx
            have HA := Lib.hid ha
            clear hx ha hl
            have n1 : Below w.heap.size w (wr.alloc (.cells #[.int .i64 kind, .slice KA args.length cap, .int .i64 vn, .int .i64 ve, .int .i64 un, .int .i64 ue] 67)) := ext_alloc hb _
            by_cases hk2 : kind = 2
            · have hr : rdy bs outN k = false := by
                rw [rdy_def, doneB_of HX.out]
                simp [hk2]
              have HRD := Lib.hid hr
              subst hk2
              clear hr
              go_wp2_with fail
              exact ⟨⟨k + 1, by omega, by go_num, rfl, HN.out.succ HRD.out, HO.out.alloc _, HB.out.call (al_ _ _), n1⟩, by simp [intOf]; omega⟩
            · have hkb : (kind == 2) = false := by simpa using hk2
              have HC6 := Lib.hid (HO.out.alloc (.cells #[.int .i64 kind, .slice KA args.length cap, .int .i64 vn, .int .i64 ve, .int .i64 un, .int .i64 ue] 67))
              cases hct : outN.contains k with
              | true =>
                have hr : rdy bs outN k = false := by
                  rw [rdy_def, doneB_of HX.out, hct]
                  simp
                have HRD := Lib.hid hr
                have HCT := Lib.hid hct
                clear hr hct hk2
                go_wp2_with (go_at_call 93; refine (has_any A (natI outN) c _ (k : Int) _ HC6.out.cells hlo).mono ?_; rintro e w5 ⟨rfl, rfl⟩; rw [natI_has, HCT.out])
                exact ⟨⟨k + 1, by omega, by go_num, rfl, HN.out.succ HRD.out, HO.out.alloc _, HB.out.call (al_ _ _), n1⟩, by simp [intOf]; omega⟩
              | false =>
                have HCT := Lib.hid hct
                have HK2 := Lib.hid hk2
                clear hct hk2
                go_wp2_with (go_at_call 93; refine (has_any A (natI outN) c _ (k : Int) _ HC6.out.cells hlo).mono ?_; rintro e w5 ⟨rfl, rfl⟩; rw [natI_has, HCT.out])
                by_cases hk0 : kind = 0
                · subst hk0
                  have hs : preds bs k = [] := by
                    rw [preds_of HX.out]
                    simp
                  obtain ⟨X, hX⟩ : ∃ X : Option Addr, X = none := ⟨_, rfl⟩
                  have HXN := Lib.hid hX
                  clear hX
                  have HS : Hid (CellsAt wr m X (ints (preds bs k))) := by rw [hs]; exact CellsAt.nil_
                  have HE := Lib.hid hs
                  clear hs
                  go_at_call 94
                  refine (blocks_any ⟨0, KA, args, cap, vn, ve, un, ue⟩ _).mono ?_
                  rintro e w5 ⟨he, hb5⟩
                  obtain rfl := he.trans (show _ = Ending.returned (.slice X (preds bs k).length 0) by unfold blkV; rw [if_pos rfl, HE.out, HXN.out]; rfl)
                  clear he
                  have O5 := Lib.hid ((HO.out.alloc _).call hb5)
                  have B5 := Lib.hid ((HB.out.call (al_ _ _)).call hb5)
                  have N5 := Lib.hid (n1.trans (hb5.mono (by have := hb.size; simp; omega)))
                  have HBL := Lib.hid hb
                  clear hb5 n1 g0 g1 g2 g3 g4 g5 b1 z0
                  go_wp2_with fail
                  go_loopw [7, 29] (fun r i wr => ro3 bs outN (preds bs k) w [.slice A1 ps.length c1, .slice (some ⟨b, off, none⟩) bs.length c2, .slice A3 os.length c3] (.slice A (natI outN).length c) r i wr) (fun _ i _ => (preds bs k).length - (intOf i).toNat)
                  case atStart => exact ⟨0, Nat.zero_le _, rfl, rfl, O5.out, B5.out, N5.out⟩
                  case round =>
                    as_aux_lemma =>
                      clear O5 B5 N5 HC6
                      obtain ⟨t, ht, rfl, rfl, hown, hbox, hb7⟩ := hrel
                      have HO7 := Lib.hid hown
                      have HB7 := Lib.hid hbox
                      have b1 : wr.cell? ⟨w.heap.size, 1, none⟩ = some (.slice (some ⟨b, off, none⟩) bs.length c2) := hbox.cell 1
                      have z0 := hbox.lt
                      clear hown hbox
                      by_cases hlt : t < (preds bs k).length
                      · obtain ⟨ab, ao, z, rfl, hab, hab2, hz, hzc⟩ := (CellsAt.two HS.out HBL.out hb7 hm).int_ hlt
                        have hzb := HOK.out k hkl z (List.mem_of_getElem? hz)
                        obtain ⟨a, rfl⟩ := Int.eq_ofNat_of_zero_le hzb.1
                        have ha : a < bs.length := by have := hzb.2; omega
                        have hai : (a : Int) < (bs.length : Int) := by omega
                        have HZ := Lib.hid (allT_succ (bs := bs) (out := outN) hz)
                        clear hz hzb
                        obtain ⟨b', off', kd, KA', args', cap', vn', ve', un', ue', hA', hbm', hbs', hx', g0, _, _, _, _, _, _, _⟩ := (HD.out.below hb7 hm).blk ha
                        dsimp only at hA' hx'
                        cases hA'
                        have HDN := Lib.hid (doneB_of (out := outN) hx')
                        dsimp only at HDN
                        clear hx'
                        cases hr : allT bs outN (preds bs k) t with
                        | false =>
                          have HRT := Lib.hid hr
                          clear hr
                          go_wp2_with fail
                          exact ⟨⟨t + 1, by omega, by go_num, by rw [HZ.out, HRT.out]; rfl, HO7.out, HB7.out, hb7⟩, by simp [intOf]; omega⟩
                        | true =>
                          have HRT := Lib.hid hr
                          clear hr
                          by_cases hd2 : kd = 2
                          · subst hd2
                            go_wp2_with fail
                            exact ⟨⟨t + 1, by omega, by go_num, by rw [HZ.out, HRT.out, Int.toNat_natCast, HDN.out]; rfl, HO7.out, HB7.out, hb7⟩, by simp [intOf]; omega⟩
                          · have hdb : (kd == 2) = false := by simpa using hd2
                            have HDB := Lib.hid hdb
                            clear hd2
                            go_wp2_with (go_at_call 93; refine (has_any A (natI outN) c _ (a : Int) _ HO7.out.cells hlo).mono ?_; rintro e w5 ⟨rfl, rfl⟩; rw [natI_has])
                            exact ⟨⟨t + 1, by omega, by go_num, by rw [HZ.out, HRT.out, Int.toNat_natCast, HDN.out, HDB.out]; simp, HO7.out, HB7.out, hb7⟩, by simp [intOf]; omega⟩
                      · have hrd : rdy bs outN k = allT bs outN (preds bs k) t := by
                          rw [rdy_def, doneB_of HX.out, HCT.out, allT_all (by omega)]
                          simp [HK2.out]
                        cases hr : allT bs outN (preds bs k) t with
                        | true =>
                          have HNX := Lib.hid (nxt_at hkl HN.out (hrd.trans hr))
                          clear hr hrd
                          have hb7s := hb7.size
                          have h7 := HORD.out.lt HNX.out
                          have hlt7 : (natI outN).length < 1000000 := by rw [natI_len]; omega
                          go_wp2_with (at_builtin; refine push_int rfl _ _ rfl (w.heap.size + 1) _ (natI outN) (k : Int) wr.heap.size rfl (HO7.out.alloc _) rfl (by simp [go_sem]) hlt7 (by simp; omega) ?_; intro v' w4 hown hg hb4)
                          have hst : Below (w.heap.size + 1) wr w4 := ((Below.refl _ wr).alloc (by omega) _).trans hb4
                          refine ⟨⟨outN ++ [k], by rw [natI_app]; exact hown, HORD.out.push HNX.out, HB7.out.below hst (by omega), hb7.trans (hst.mono (by omega))⟩, ?_⟩
                          rw [hown.len]
                          simp [lenOf, natI_len]
                          omega
                        | false =>
                          have HRD := Lib.hid (hrd.trans hr)
                          clear hr hrd
                          go_wp2_with fail
                          exact ⟨⟨k + 1, by omega, by go_num, rfl, HN.out.succ HRD.out, HO7.out, HB7.out, hb7⟩, by simp [intOf]; omega⟩
                · have hs : args = preds bs k := by
                    rw [preds_of HX.out]
                    simp [hk0]
                  have HS : Hid (CellsAt wr m KA (ints (preds bs k))) := by rw [← hs]; exact HA
                  have HE := Lib.hid hs
                  have HK0 := Lib.hid hk0
                  clear hs hk0
                  go_at_call 94
                  refine (blocks_any ⟨kind, KA, args, cap, vn, ve, un, ue⟩ _).mono ?_
                  rintro e w5 ⟨he, hb5⟩
                  obtain rfl := he.trans (show _ = Ending.returned (.slice KA (preds bs k).length cap) by unfold blkV; rw [if_neg HK0.out]; rw [HE.out])
                  clear he
                  have O5 := Lib.hid ((HO.out.alloc _).call hb5)
                  have B5 := Lib.hid ((HB.out.call (al_ _ _)).call hb5)
                  have N5 := Lib.hid (n1.trans (hb5.mono (by have := hb.size; simp; omega)))
                  have HBL := Lib.hid hb
                  clear hb5 n1 g0 g1 g2 g3 g4 g5 b1 z0
                  go_wp2_with fail
                  go_loopw [7, 29] (fun r i wr => ro3 bs outN (preds bs k) w [.slice A1 ps.length c1, .slice (some ⟨b, off, none⟩) bs.length c2, .slice A3 os.length c3] (.slice A (natI outN).length c) r i wr) (fun _ i _ => (preds bs k).length - (intOf i).toNat)
                  case atStart => exact ⟨0, Nat.zero_le _, rfl, rfl, O5.out, B5.out, N5.out⟩
                  case round =>
                    as_aux_lemma =>
                      clear O5 B5 N5 HC6
                      obtain ⟨t, ht, rfl, rfl, hown, hbox, hb7⟩ := hrel
                      have HO7 := Lib.hid hown
                      have HB7 := Lib.hid hbox
                      have b1 : wr.cell? ⟨w.heap.size, 1, none⟩ = some (.slice (some ⟨b, off, none⟩) bs.length c2) := hbox.cell 1
                      have z0 := hbox.lt
                      clear hown hbox
                      by_cases hlt : t < (preds bs k).length
                      · obtain ⟨ab, ao, z, rfl, hab, hab2, hz, hzc⟩ := (CellsAt.two HS.out HBL.out hb7 hm).int_ hlt
                        have hzb := HOK.out k hkl z (List.mem_of_getElem? hz)
                        obtain ⟨a, rfl⟩ := Int.eq_ofNat_of_zero_le hzb.1
                        have ha : a < bs.length := by have := hzb.2; omega
                        have hai : (a : Int) < (bs.length : Int) := by omega
                        have HZ := Lib.hid (allT_succ (bs := bs) (out := outN) hz)
                        clear hz hzb
                        obtain ⟨b', off', kd, KA', args', cap', vn', ve', un', ue', hA', hbm', hbs', hx', g0, _, _, _, _, _, _, _⟩ := (HD.out.below hb7 hm).blk ha
                        dsimp only at hA' hx'
                        cases hA'
                        have HDN := Lib.hid (doneB_of (out := outN) hx')
                        dsimp only at HDN
                        clear hx'
                        cases hr : allT bs outN (preds bs k) t with
                        | false =>
                          have HRT := Lib.hid hr
                          clear hr
                          go_wp2_with fail
                          exact ⟨⟨t + 1, by omega, by go_num, by rw [HZ.out, HRT.out]; rfl, HO7.out, HB7.out, hb7⟩, by simp [intOf]; omega⟩
                        | true =>
                          have HRT := Lib.hid hr
                          clear hr
                          by_cases hd2 : kd = 2
                          · subst hd2
                            go_wp2_with fail
                            exact ⟨⟨t + 1, by omega, by go_num, by rw [HZ.out, HRT.out, Int.toNat_natCast, HDN.out]; rfl, HO7.out, HB7.out, hb7⟩, by simp [intOf]; omega⟩
                          · have hdb : (kd == 2) = false := by simpa using hd2
                            have HDB := Lib.hid hdb
                            clear hd2
                            go_wp2_with (go_at_call 93; refine (has_any A (natI outN) c _ (a : Int) _ HO7.out.cells hlo).mono ?_; rintro e w5 ⟨rfl, rfl⟩; rw [natI_has])
                            exact ⟨⟨t + 1, by omega, by go_num, by rw [HZ.out, HRT.out, Int.toNat_natCast, HDN.out, HDB.out]; simp, HO7.out, HB7.out, hb7⟩, by simp [intOf]; omega⟩
                      · have hrd : rdy bs outN k = allT bs outN (preds bs k) t := by
                          rw [rdy_def, doneB_of HX.out, HCT.out, allT_all (by omega)]
                          simp [HK2.out]
                        cases hr : allT bs outN (preds bs k) t with
                        | true =>
                          have HNX := Lib.hid (nxt_at hkl HN.out (hrd.trans hr))
                          clear hr hrd
                          have hb7s := hb7.size
                          have h7 := HORD.out.lt HNX.out
                          have hlt7 : (natI outN).length < 1000000 := by rw [natI_len]; omega
                          go_wp2_with (at_builtin; refine push_int rfl _ _ rfl (w.heap.size + 1) _ (natI outN) (k : Int) wr.heap.size rfl (HO7.out.alloc _) rfl (by simp [go_sem]) hlt7 (by simp; omega) ?_; intro v' w4 hown hg hb4)
                          have hst : Below (w.heap.size + 1) wr w4 := ((Below.refl _ wr).alloc (by omega) _).trans hb4
                          refine ⟨⟨outN ++ [k], by rw [natI_app]; exact hown, HORD.out.push HNX.out, HB7.out.below hst (by omega), hb7.trans (hst.mono (by omega))⟩, ?_⟩
                          rw [hown.len]
                          simp [lenOf, natI_len]
                          omega
                        | false =>
                          have HRD := Lib.hid (hrd.trans hr)
                          clear hr hrd
                          go_wp2_with fail
                          exact ⟨⟨k + 1, by omega, by go_num, rfl, HN.out.succ HRD.out, HO7.out, HB7.out, hb7⟩, by simp [intOf]; omega⟩
          · have hkn : k = bs.length := by omega
            go_wp2_with fail
            subst hkn
            have HV := HORD.out.done (nxt_none HN.out)
            go_ret
            exact ⟨_, rfl, by rw [HV]; exact HO.out.base_ (by omega), hb⟩
end Go.Proofs.YtjlocofimlgaoaaDoor
