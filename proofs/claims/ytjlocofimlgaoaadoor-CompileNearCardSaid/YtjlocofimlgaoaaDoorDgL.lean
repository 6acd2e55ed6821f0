/- The program's order of the blocks. Condition: arguments that are blocks lie within the list. -/
import Derived.Test.YtjlocofimlgaoaaDoorDgK
namespace Go.Proofs.YtjlocofimlgaoaaDoor
set_option linter.unusedVariables false
set_option linter.unusedSimpArgs false
set_option linter.unusedSectionVars false
open Go.RowKit

theorem info_bool : (Tryd.prog.info? 4).map (fun i => (i.zero, i.size, i.bytes)) = some (some (.bool false), 1, 1) := by kernel_rfl
theorem under_bools : Tryd.prog.underlying 112 = some (.slice 4) := by kernel_rfl
def ordErr (bs : List Bk) : Int := if (ordM bs).length = nonDel bs then 0 else 24
def ordL (bs : List Bk) : List Int := if ordErr bs = 0 then natI (ordM bs) else []
def OrdP (bs : List Bk) (w : World) (e : Ending) (w' : World) : Prop := ∃ v, e = .returned (.tuple #[v, errV (ordErr bs)]) ∧ OwnI w' w.heap.size v (ordL bs) ∧ Below w.heap.size w w'
theorem made_bools (n : Nat) : (madeCells (Value.bool false).cells (n * 1)).toList = bools (List.replicate n false) := by
  simp only [Value.cells, Nat.mul_one, bools, List.map_replicate]
  exact toList_madeCells_one _ _
theorem size_al1 (w : World) (o : Obj) : (w.alloc o).heap.size = w.heap.size + 1 := by simp
theorem OwnI.setLow {w : World} {base g : Nat} {v : Value} {xs : List Int} (h : OwnI w base v xs) (hg : g < base) (j : Nat) (u : Value) : OwnI (w.setCell ⟨g, j, none⟩ u) base v xs := by
  refine ⟨h.1, ?_⟩
  rcases h.2 with hn | ⟨g', cap, cur, he, hbg, hh, rest⟩
  · exact .inl hn
  · refine .inr ⟨g', cap, cur, he, hbg, ?_, rest⟩
    rw [heap_setCell_other _ _ _ _ (by show g' ≠ g; omega)]
    exact hh
def doneK (bs : List Bk) (k : Nat) : List Bool := (List.range bs.length).map fun j => decide (j < k) && isDel bs j
def doneL (bs : List Bk) (out : List Nat) : List Bool := (List.range bs.length).map (doneB bs out)
theorem doneK_len (bs : List Bk) (k : Nat) : (doneK bs k).length = bs.length := by simp [doneK]
theorem doneL_len (bs : List Bk) (out : List Nat) : (doneL bs out).length = bs.length := by simp [doneL]
theorem doneL_get {bs : List Bk} {out : List Nat} {j : Nat} (h : j < bs.length) : isM (doneL bs out) j = doneB bs out j := by simp [isM, doneL, h]
theorem doneK_zero (bs : List Bk) : doneK bs 0 = List.replicate bs.length false := by
  refine List.ext_getElem (by simp [doneK]) fun i h1 h2 => ?_
  simp [doneK]
theorem doneK_all (bs : List Bk) : doneK bs bs.length = doneL bs [] := by
  refine List.ext_getElem (by simp [doneK, doneL]) fun i h1 h2 => ?_
  have : i < bs.length := by rw [doneK_len] at h1; exact h1
  simp [doneK, doneL, doneB, isDel, this]
theorem doneK_hit {bs : List Bk} {k : Nat} (hd : isDel bs k = true) : (doneK bs k).set k true = doneK bs (k + 1) := by
  refine List.ext_getElem (by simp [doneK]) fun i h1 h2 => ?_
  rw [List.getElem_set]
  simp only [doneK, List.getElem_map, List.getElem_range]
  by_cases h : k = i
  · subst h; simp [hd]
  · rw [if_neg h]
    congr 1
    exact decide_eq_decide.2 (by omega)
theorem doneK_no {bs : List Bk} {k : Nat} (hd : isDel bs k = false) : doneK bs (k + 1) = doneK bs k := by
  refine List.ext_getElem (by simp [doneK]) fun i h1 h2 => ?_
  simp only [doneK, List.getElem_map, List.getElem_range]
  by_cases h : i = k
  · subst h; simp [hd]
  · congr 1
    exact decide_eq_decide.2 (by omega)
theorem doneL_push (bs : List Bk) (out : List Nat) (p : Nat) : doneL bs (out ++ [p]) = (doneL bs out).set p true := by
  refine List.ext_getElem (by simp [doneL]) fun i h1 h2 => ?_
  rw [List.getElem_set]
  simp only [doneL, List.getElem_map, List.getElem_range, doneB]
  by_cases h : p = i
  · subst h; simp
  · have h2 : ¬ i = p := fun e => h e.symm
    simp [h, h2]
def notDel (bs : List Bk) (i : Nat) : Bool := kindAt bs i != 2
theorem notDel_all (bs : List Bk) : (fl (notDel bs) bs.length).length = nonDel bs := rfl
def pickI (bs : List Bk) (out : List Nat) (k : Nat) : Int := match (List.range k).find? (rdy bs out) with | none => -1 | some p => (p : Int)
theorem pickI_hit {bs : List Bk} {out : List Nat} {k : Nat} (hp : pickI bs out k < 0) (hr : rdy bs out k = true) : pickI bs out (k + 1) = (k : Int) := by
  unfold pickI at hp ⊢
  rw [List.range_succ, List.find?_append]
  cases h : (List.range k).find? (rdy bs out) with
  | none => simp [hr]
  | some p => rw [h] at hp; simp at hp; omega
theorem pickI_no {bs : List Bk} {out : List Nat} {k : Nat} (h : 0 ≤ pickI bs out k ∨ rdy bs out k = false) : pickI bs out (k + 1) = pickI bs out k := by
  unfold pickI at h ⊢
  rw [List.range_succ, List.find?_append]
  cases hf : (List.range k).find? (rdy bs out) with
  | none =>
    rw [hf] at h
    rcases h with h | h
    · simp at h
    · simp [h]
  | some p => simp
theorem pickI_range (bs : List Bk) (out : List Nat) (k : Nat) : -1 ≤ pickI bs out k ∧ pickI bs out k < (k : Int) := by
  unfold pickI
  cases hf : (List.range k).find? (rdy bs out) with
  | none => dsimp only; omega
  | some p =>
    have := List.mem_of_find?_eq_some hf
    simp at this
    dsimp only
    omega
theorem pick_none {bs : List Bk} {out : List Nat} (h : nxt bs out = none) : pickI bs out bs.length = -1 := by unfold pickI; unfold nxt at h; rw [h]
theorem pick_some {bs : List Bk} {out : List Nat} {p : Nat} (h : nxt bs out = some p) : pickI bs out bs.length = (p : Int) := by unfold pickI; unfold nxt at h; rw [h]
theorem rdy_succs {bs : List Bk} {out : List Nat} {k : Nat} (hd : doneB bs out k = false) : rdy bs out k = (succs bs false k).all fun a => doneB bs out a.toNat := by
  rw [rdy_def, hd]
  have hk : kindAt bs k ≠ 2 := by
    unfold doneB at hd
    simp at hd
    exact hd.1
  unfold succs
  rw [if_neg (fun h => hk h.1)]
  simp
def po1 (bs : List Bk) (w : World) (vs : List Value) (L i : Value) (wr : World) : Prop :=
  ∃ k : Nat, k ≤ bs.length ∧ i = .int .i64 (k : Int) ∧ L = .int .i64 ((fl (notDel bs) k).length : Int) ∧ RowD wr (w.heap.size + 1) (bools (doneK bs k)) 4 ∧ RowD wr w.heap.size vs 46 ∧ Below w.heap.size w wr
def po2 (bs : List Bk) (w : World) (vs : List Value) (v L : Value) (wr : World) : Prop :=
  ∃ (outN : List Nat) (l : Nat), L = .int .i64 (l : Int) ∧ l + outN.length = nonDel bs ∧ OrdOk bs outN ∧ OwnI wr (w.heap.size + 2) v (natI outN) ∧ RowD wr (w.heap.size + 1) (bools (doneL bs outN)) 4 ∧ RowD wr w.heap.size vs 46 ∧ Below w.heap.size w wr
def po3 (bs : List Bk) (outN : List Nat) (w : World) (vs : List Value) (v p i : Value) (wr : World) : Prop :=
  ∃ k : Nat, k ≤ bs.length ∧ i = .int .i64 (k : Int) ∧ p = .int .i64 (pickI bs outN k) ∧ OwnI wr (w.heap.size + 2) v (natI outN) ∧ RowD wr (w.heap.size + 1) (bools (doneL bs outN)) 4 ∧ RowD wr w.heap.size vs 46 ∧ Below w.heap.size w wr
def po4F (w w5 : World) (xs : List Int) (r i : Value) (wr : World) : Prop := ∃ t : Nat, t ≤ xs.length ∧ i = .int .i64 (t : Int) ∧ r = .bool false ∧ wr = w5
def po4T (bs : List Bk) (outN : List Nat) (w w5 : World) (xs : List Int) (r i : Value) (wr : World) : Prop := ∃ t : Nat, t ≤ xs.length ∧ i = .int .i64 (t : Int) ∧ r = .bool (allT bs outN xs t) ∧ wr = w5
set_option maxRecDepth 100000 in
set_option maxHeartbeats 8000000 in
theorem order_any (d : Dg) (m : Nat) (w : World) (hm : m ≤ w.heap.size) (hd : DgAt w m d) (hok : SuccOk d.bs) :
    Calls Tryd.prog 67 #[d.val] w (OrdP d.bs w) := by
  have h2 := hd.l2
  have HD := Lib.hid hd
  have HOK := Lib.hid hok
  clear hok hd
  obtain ⟨A1, ps, c1, A2, bs, c2, A3, os, c3⟩ := d
  dsimp only at h2 HOK
  simp only [Dg.val]
  have r0 := RowD.new_ w [.slice A1 ps.length c1, .slice A2 bs.length c2, .slice A3 os.length c3] 46
  have hnd := nonDel_le bs
  obtain ⟨i0, hi, hz0, hz1, hz2⟩ := info_parts info_bool
  go_enter Tryd.func67, Tryd.ntmps67
  go_wp2_with (with_reducible refine wpList_make_full _ rfl (.tmp 16) (.tmp 16) 112 rfl (w.heap.size + 1) 4 i0 (.bool false) 1 under_bools hi hz0 hz1 .i64 .i64 bs.length bs.length bs.length rfl rfl rfl rfl (by rw [hz2]; omega) (by unfold maxLen; omega) (by simp) ?_; intro w2 hown hg; have hst : Below (w.heap.size + 1) (w.alloc (.cells #[.slice A1 ps.length c1, .slice A2 bs.length c2, .slice A3 os.length c3] 46)) w2 := (Below.refl _ _).grown hg (by simp) (fun k h => by simp at h); obtain ⟨hc, hf, hs, hz'⟩ := ext_at (m := w.heap.size + 1) hst (by simp) (by simp))
  have hrow := rowD_of hown
  rw [made_bools, ← doneK_zero] at hrow
  simp only [size_al1] at hrow
  replace r0 := r0.below hst (by omega)
  have hb2 : Below w.heap.size w w2 := (al_ _ _).trans (hst.mono (by omega))
  clear hown hc hf hs hz' hg hst
  go_loopw [6, 21] (fun L i wr => po1 bs w [.slice A1 ps.length c1, .slice A2 bs.length c2, .slice A3 os.length c3] L i wr) (fun _ i _ => bs.length - (intOf i).toNat)
  case atStart => exact ⟨0, Nat.zero_le _, rfl, rfl, hrow, r0, hb2⟩
  case round =>
    as_aux_lemma =>
      clear hrow r0 hb2
      obtain ⟨k, hk, rfl, rfl, hrow, hbox, hb⟩ := hrel
      have HR := Lib.hid hrow
      have HB := Lib.hid hbox
      have f0 := hrow.free
      have z1 := hrow.lt
      have z0 := hbox.lt
      clear hrow hbox
      by_cases hkl : k < bs.length
      · obtain ⟨b, off, kind, KA, args, cap, vn, ve, un, ue, hA, hbm, hbs, hx, g0, g1, g2, g3, g4, g5, ha, hl⟩ := (HD.out.below hb hm).blk hkl
        dsimp only at hA hx
        subst hA
        have HX := Lib.hid (kind_of hx)
        dsimp only at HX
        have fc : wr.cell? ⟨w.heap.size + 1, k, none⟩ = some (.bool (isM (doneK bs k) k)) := by
          rw [HR.out.cell, bools_get (by rw [doneK_len]; exact hkl)]
        have hki : (k : Int) < (bs.length : Int) := by omega
        have hfl := fl_le (notDel bs) k
        clear hx ha hl
        by_cases hk2 : kind = 2
        · subst hk2
          have HT : Hid (isDel bs k = true) := by unfold isDel; rw [HX.out]; exact Lib.hid rfl
          have HT2 : Hid (notDel bs k = false) := by unfold notDel; rw [HX.out]; exact Lib.hid rfl
          go_wp2_with fail
          exact ⟨⟨k + 1, by omega, by go_num, by rw [fl_no HT2.out], by rw [← doneK_hit HT.out, bools_set]; exact (HR.out.set_ k (.bool true)).call (al_ _ _), (HB.out.other_ (by omega) k (.bool true)).call (al_ _ _), ext_alloc (ext_set hb (by simp) _) _⟩, by simp [intOf]; omega⟩
        · have hkb : (kind == 2) = false := by simpa using hk2
          have HT : Hid (isDel bs k = false) := by unfold isDel; rw [HX.out]; exact Lib.hid hkb
          have HT2 : Hid (notDel bs k = true) := by unfold notDel; rw [HX.out]; exact Lib.hid (by simpa using hk2)
          clear hk2
          go_wp2_with fail
          exact ⟨⟨k + 1, by omega, by go_num, by rw [fl_hit HT2.out, List.length_append]; go_num, by rw [doneK_no HT.out]; exact HR.out.call (al_ _ _), HB.out.call (al_ _ _), ext_alloc hb _⟩, by simp [intOf]; omega⟩
      · have hkn : k = bs.length := by omega
        subst hkn
        clear hk hkl f0
        rw [notDel_all]
        rw [doneK_all] at HR
        go_wp2_with fail
        obtain ⟨w3, hw3⟩ : ∃ w3, w3 = wr := ⟨_, rfl⟩
        rw [← hw3] at HR HB hb
        rw [← hw3]
        clear hw3 z0 z1
        go_loopw [4, 6] (fun v L wr => po2 bs w [.slice A1 ps.length c1, .slice A2 bs.length c2, .slice A3 os.length c3] v L wr) (fun _ L _ => (intOf L).toNat)
        case atStart => exact ⟨[], nonDel bs, rfl, rfl, OrdOk.nil _, OwnI.nil_ _ _, HR.out, HB.out, hb⟩
        case round =>
          as_aux_lemma =>
            clear HR HB hb
            obtain ⟨outN, l, rfl, hlen, hord, hown, hrow, hbox, hb⟩ := hrel
            have HLN := Lib.hid hlen
            have hl1 : (l : Int) ≤ 1000000 := by omega
            obtain ⟨A, c, rfl, hAc, _⟩ := hown.view
            have HO := Lib.hid hown
            have HR := Lib.hid hrow
            have HB := Lib.hid hbox
            have HORD := Lib.hid hord
            have b1 : wr.cell? ⟨w.heap.size, 1, none⟩ = some (.slice A2 bs.length c2) := hbox.cell 1
            have z1 := hrow.lt
            have z0 := hbox.lt
            clear hown hrow hbox hord hlen hAc
            by_cases hl0 : l = 0
            · have hfull := HORD.out.full (by have := HLN.out; omega)
              have HF := Lib.hid hfull
              subst hl0
              clear hfull
              go_wp2_with fail
              have he : ordErr bs = 0 := by unfold ordErr; rw [HF.out, if_pos (by have := HLN.out; omega)]
              have hv : ordL bs = natI outN := by unfold ordL; rw [if_pos he, HF.out]
              refine bodyPost_ret (v := .tuple #[.slice A (natI outN).length c, .nilIface]) (by simp [results, Tryd.results67, go_sem]) rfl ⟨_, by rw [he]; rfl, by rw [hv]; exact HO.out.base_ (by omega), hb⟩
            · obtain ⟨l', rfl⟩ : ∃ l', l = l' + 1 := ⟨l - 1, by omega⟩
              have hl2 : (l' : Int) ≤ 999999 := by omega
              clear hl0 hl1
              have hl3 : (0 : Int) < ((l' + 1 : Nat) : Int) := by omega
              go_wp2_with fail
              clear b1 z0 z1 hl3
              obtain ⟨w4, hw4⟩ : ∃ w4, w4 = wr := ⟨_, rfl⟩
              rw [← hw4] at HO HR HB hb
              rw [← hw4]
              clear hw4
              go_loopw [9, 42] (fun p i wr => po3 bs outN w [.slice A1 ps.length c1, .slice A2 bs.length c2, .slice A3 os.length c3] (.slice A (natI outN).length c) p i wr) (fun _ i _ => bs.length - (intOf i).toNat)
              case atStart => exact ⟨0, Nat.zero_le _, rfl, rfl, HO.out, HR.out, HB.out, hb⟩
              case round =>
                as_aux_lemma =>
                  clear HR HB hb HO
                  obtain ⟨k, hk, rfl, hp, hown, hrow, hbox, hb⟩ := hrel
                  have HO := Lib.hid hown
                  have HR := Lib.hid hrow
                  have HB := Lib.hid hbox
                  have b0 : wr.cell? ⟨w.heap.size, 0, none⟩ = some (.slice A1 ps.length c1) := hbox.cell 0
                  have b1 : wr.cell? ⟨w.heap.size, 1, none⟩ = some (.slice A2 bs.length c2) := hbox.cell 1
                  have b2 : wr.cell? ⟨w.heap.size, 2, none⟩ = some (.slice A3 os.length c3) := hbox.cell 2
                  have f0 := hrow.free
                  have z1 := hrow.lt
                  have z0 := hbox.lt
                  clear hown hrow hbox
                  by_cases hkl : k < bs.length
                  · subst hp
                    have fc : wr.cell? ⟨w.heap.size + 1, k, none⟩ = some (.bool (doneB bs outN k)) := by
                      rw [HR.out.cell, bools_get (by rw [doneL_len]; exact hkl), doneL_get hkl]
                    have hki : (k : Int) < (bs.length : Int) := by omega
                    have hpr := pickI_range bs outN k
                    obtain ⟨P, hP⟩ : ∃ P, P = pickI bs outN k := ⟨_, rfl⟩
                    rw [← hP] at hpr
                    rw [← hP]
                    have HP := Lib.hid hP
                    clear hP
                    have hls : (succs bs false k).length ≤ 1000000 := by
                      obtain ⟨_, _, _, _, _, _, _, _, _, _, _, _, _, hx, _, _, _, _, _, _, _, hl⟩ := HD.out.blk hkl
                      exact succs_len hx hl
                    have HLS := Lib.hid hls
                    clear hls
                    cases hdn : doneB bs outN k with
                    | true =>
                      rw [hdn] at fc
                      have HNO := Lib.hid (pickI_no (bs := bs) (out := outN) (k := k) (.inr (by rw [rdy_def, hdn]; rfl)))
                      clear hdn
                      go_wp2_with fail
                      go_at_call 102
                      refine (before_any ⟨A1, ps, c1, A2, bs, c2, A3, os, c3⟩ k m wr (by have := hb.size; omega) (HD.out.below hb hm) hkl).mono ?_
                      rintro e w5 ⟨X, cx, rfl, hcx, hb5⟩
                      dsimp only at hcx ⊢
                      have hln : (succs bs false k).length ≤ 1000000 := HLS.out
                      have O5 := Lib.hid (HO.out.call hb5)
                      have R5 := Lib.hid (HR.out.call hb5)
                      have B5 := Lib.hid (HB.out.call hb5)
                      have N5 := Lib.hid (hb.trans (hb5.mono hb.size))
                      have HCX := Lib.hid hcx
                      clear hb5 hb b0 b1 b2 f0 fc z0 z1 hcx
                      go_wp2_with fail
                      go_loopw [11, 58] (fun r i wr => po4F w w5 (succs bs false k) r i wr) (fun _ i _ => (succs bs false k).length - (intOf i).toNat)
                      case atStart => exact ⟨0, Nat.zero_le _, rfl, rfl, rfl⟩
                      case round =>
                        as_aux_lemma =>
                          obtain ⟨t, ht, rfl, rfl, rfl⟩ := hrel
                          by_cases hlt : t < (succs bs false k).length
                          · obtain ⟨ab, ao, z, rfl, hab, hab2, hz, hzc⟩ := HCX.out.int_ hlt
                            clear hz
                            go_wp2_with fail
                            exact ⟨⟨t + 1, by omega, by go_num, rfl, rfl⟩, by simp [intOf]; omega⟩
                          · go_wp2_with fail
                            first
                              | exact ⟨⟨k + 1, by omega, by go_num, by rw [HNO.out, HP.out], O5.out, R5.out, B5.out, N5.out⟩, by simp [intOf]; omega⟩
                              | (refine ⟨?_, by simp [intOf]; omega⟩
                                 repeat apply Exists.intro
                                 exact ⟨⟨k + 1, by omega, by go_num, by rw [HNO.out, HP.out], O5.out, R5.out, B5.out, N5.out⟩, rfl⟩)
                    | false =>
                      rw [hdn] at fc
                      by_cases hpn : P < 0
                      · have HRD := Lib.hid (rdy_succs hdn)
                        clear hdn
                        go_wp2_with fail
                        go_at_call 102
                        refine (before_any ⟨A1, ps, c1, A2, bs, c2, A3, os, c3⟩ k m wr (by have := hb.size; omega) (HD.out.below hb hm) hkl).mono ?_
                        rintro e w5 ⟨X, cx, rfl, hcx, hb5⟩
                        dsimp only at hcx ⊢
                        have hln : (succs bs false k).length ≤ 1000000 := HLS.out
                        have O5 := Lib.hid (HO.out.call hb5)
                        have R5 := Lib.hid (HR.out.call hb5)
                        have B5 := Lib.hid (HB.out.call hb5)
                        have N5 := Lib.hid (hb.trans (hb5.mono hb.size))
                        have HCX := Lib.hid hcx
                        clear hb5 hb b0 b1 b2 f0 fc z0 z1 hcx
                        go_wp2_with fail
                        go_loopw [11, 58] (fun r i wr => po4T bs outN w w5 (succs bs false k) r i wr) (fun _ i _ => (succs bs false k).length - (intOf i).toNat)
                        case atStart => exact ⟨0, Nat.zero_le _, rfl, rfl, rfl⟩
                        case round =>
                          as_aux_lemma =>
                            obtain ⟨t, ht, rfl, rfl, rfl⟩ := hrel
                            by_cases hlt : t < (succs bs false k).length
                            · obtain ⟨ab, ao, z, rfl, hab, hab2, hz, hzc⟩ := HCX.out.int_ hlt
                              have hzb := HOK.out k hkl z (succs_preds (List.mem_of_getElem? hz))
                              obtain ⟨a, rfl⟩ := Int.eq_ofNat_of_zero_le hzb.1
                              have ha : a < bs.length := by have := hzb.2; omega
                              have hai : (a : Int) < (bs.length : Int) := by omega
                              have HZ := Lib.hid (allT_succ (bs := bs) (out := outN) hz)
                              clear hz hzb
                              have fd : wr.cell? ⟨w.heap.size + 1, a, none⟩ = some (.bool (doneB bs outN a)) := by
                                rw [R5.out.cell, bools_get (by rw [doneL_len]; exact ha), doneL_get ha]
                              have z1 := R5.out.lt
                              cases hr : allT bs outN (succs bs false k) t with
                              | false =>
                                have HRT := Lib.hid hr
                                clear hr
                                go_wp2_with fail
                                exact ⟨⟨t + 1, by omega, by go_num, by rw [HZ.out, HRT.out]; rfl, rfl⟩, by simp [intOf]; omega⟩
                              | true =>
                                have HRT := Lib.hid hr
                                clear hr
                                go_wp2_with fail
                                exact ⟨⟨t + 1, by omega, by go_num, by rw [HZ.out, HRT.out, Int.toNat_natCast]; rfl, rfl⟩, by simp [intOf]; omega⟩
                            · have hrd : rdy bs outN k = allT bs outN (succs bs false k) t := by
                                rw [HRD.out, allT_all (by omega)]
                              cases hr : allT bs outN (succs bs false k) t with
                              | true =>
                                have HNX := Lib.hid (pickI_hit (by rw [← HP.out]; exact hpn) (hrd.trans hr))
                                clear hr hrd
                                go_wp2_with fail
                                exact ⟨⟨k + 1, by omega, by go_num, by rw [HNX.out], O5.out, R5.out, B5.out, N5.out⟩, by simp [intOf]; omega⟩
                              | false =>
                                have HNO := Lib.hid (pickI_no (.inr (hrd.trans hr)))
                                clear hr hrd
                                go_wp2_with fail
                                exact ⟨⟨k + 1, by omega, by go_num, by rw [HNO.out, HP.out], O5.out, R5.out, B5.out, N5.out⟩, by simp [intOf]; omega⟩
                      · have HNO := Lib.hid (pickI_no (bs := bs) (out := outN) (k := k) (.inl (by rw [← HP.out]; omega)))
                        clear hdn
                        go_wp2_with fail
                        go_at_call 102
                        refine (before_any ⟨A1, ps, c1, A2, bs, c2, A3, os, c3⟩ k m wr (by have := hb.size; omega) (HD.out.below hb hm) hkl).mono ?_
                        rintro e w5 ⟨X, cx, rfl, hcx, hb5⟩
                        dsimp only at hcx ⊢
                        have hln : (succs bs false k).length ≤ 1000000 := HLS.out
                        have O5 := Lib.hid (HO.out.call hb5)
                        have R5 := Lib.hid (HR.out.call hb5)
                        have B5 := Lib.hid (HB.out.call hb5)
                        have N5 := Lib.hid (hb.trans (hb5.mono hb.size))
                        have HCX := Lib.hid hcx
                        clear hb5 hb b0 b1 b2 f0 fc z0 z1 hcx
                        go_wp2_with fail
                        go_loopw [11, 58] (fun r i wr => po4F w w5 (succs bs false k) r i wr) (fun _ i _ => (succs bs false k).length - (intOf i).toNat)
                        case atStart => exact ⟨0, Nat.zero_le _, rfl, rfl, rfl⟩
                        case round =>
                          as_aux_lemma =>
                            obtain ⟨t, ht, rfl, rfl, rfl⟩ := hrel
                            by_cases hlt : t < (succs bs false k).length
                            · obtain ⟨ab, ao, z, rfl, hab, hab2, hz, hzc⟩ := HCX.out.int_ hlt
                              clear hz
                              go_wp2_with fail
                              exact ⟨⟨t + 1, by omega, by go_num, rfl, rfl⟩, by simp [intOf]; omega⟩
                            · go_wp2_with fail
                              first
                                | exact ⟨⟨k + 1, by omega, by go_num, by rw [HNO.out, HP.out], O5.out, R5.out, B5.out, N5.out⟩, by simp [intOf]; omega⟩
                                | (refine ⟨?_, by simp [intOf]; omega⟩
                                   repeat apply Exists.intro
                                   exact ⟨⟨k + 1, by omega, by go_num, by rw [HNO.out, HP.out], O5.out, R5.out, B5.out, N5.out⟩, rfl⟩)
                  · have hkn : k = bs.length := by omega
                    subst hkn
                    clear hk hkl
                    cases hn : nxt bs outN with
                    | none =>
                      rw [pick_none hn] at hp
                      subst hp
                      have HF := Lib.hid (HORD.out.done hn)
                      clear hn
                      go_wp2_with fail
                      have he : ordErr bs = 24 := by unfold ordErr; rw [HF.out, if_neg (by have := HLN.out; omega)]
                      have hv : ordL bs = [] := by unfold ordL; rw [he]; rfl
                      refine bodyPost_ret (v := .tuple #[.slice none 0 0, .iface 34 (.int .i64 24)]) (by simp [results, Tryd.results67, go_sem]) rfl ⟨_, by rw [he]; rfl, by rw [hv]; exact OwnI.nil_ _ _, hb⟩
                    | some q =>
                      rw [pick_some hn] at hp
                      subst hp
                      have hq := (nxt_some hn).1
                      have hqi : (q : Int) < (bs.length : Int) := by omega
                      have hlo := HORD.out.lt hn
                      have HN := Lib.hid hn
                      clear hn
                      have fc : wr.cell? ⟨w.heap.size + 1, q, none⟩ = some (.bool (doneB bs outN q)) := by
                        rw [HR.out.cell, bools_get (by rw [doneL_len]; exact hq), doneL_get hq]
                      have hlt7 : (natI outN).length < 1000000 := by rw [natI_len]; omega
                      have hbz := hb.size
                      go_wp2_with (at_builtin; refine push_int rfl _ _ rfl (w.heap.size + 2) _ (natI outN) (q : Int) wr.heap.size rfl ((HO.out.setLow (by omega) q (.bool true)).alloc _) rfl (by simp [go_sem]) hlt7 (by simp; omega) ?_; intro v' w6 hown hg hb6)
                      have hst : Below (w.heap.size + 2) ((wr.setCell ⟨w.heap.size + 1, q, none⟩ (.bool true))) w6 := ((Below.refl _ _).alloc (by simp; omega) _).trans hb6
                      have e1 : l' + (outN ++ [q]).length = nonDel bs := by have := HLN.out; simp; omega
                      have e2 : RowD w6 (w.heap.size + 1) (bools (doneL bs (outN ++ [q]))) 4 := by rw [doneL_push, bools_set]; exact (HR.out.set_ q (.bool true)).below hst (by omega)
                      have e3 := (HB.out.other_ (k := w.heap.size + 1) (by omega) q (.bool true)).below hst (by omega)
                      have e4 : Below w.heap.size w w6 := (ext_set hb (p := ⟨w.heap.size + 1, q, none⟩) (by simp) (.bool true)).trans (hst.mono (by omega))
                      have e5 : OwnI w6 (w.heap.size + 2) v' (natI (outN ++ [q])) := by rw [natI_app]; exact hown
                      refine ⟨⟨outN ++ [q], l', ?_, e1, HORD.out.push HN.out, e5, e2, e3, e4⟩, ?_⟩
                      · go_num
                      · first | (simp [intOf]; done) | (simp [intOf]; omega)
end Go.Proofs.YtjlocofimlgaoaaDoor
