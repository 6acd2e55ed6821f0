/- Whether a block varies, whether a diagram is affine, as the program says it. Condition: lists of at most a million; the table of math/bits stands in block 0. Whether a diagram is affine, as the document says it. Condition: lists of at most a million; arguments lie within the list. -/
import Derived.Test.YtaheedieingpiaaDoorDhC
import Derived.Test.YtaheedieingpiaaDoorDgX
import Derived.Test.YtaheedieingpiaaDoorDgY
namespace Go.Proofs.YtaheedieingpiaaDoor
set_option linter.unusedVariables false
set_option linter.unusedSimpArgs false
set_option linter.unusedSectionVars false
open Go.RowKit

theorem any_hit {α : Type} {p : α → Bool} {l : List α} {t : Nat} {x : α} (hx : l[t]? = some x) (h : p x = true) : l.any p = true := List.any_eq_true.2 ⟨x, List.mem_of_getElem? hx, h⟩
def NoneT {α : Type} (p : α → Bool) (l : List α) (t : Nat) : Prop := (l.take t).any p = false
theorem NoneT.zero {α : Type} (p : α → Bool) (l : List α) : NoneT p l 0 := by simp [NoneT]
theorem NoneT.succ {α : Type} {p : α → Bool} {l : List α} {t : Nat} {x : α} (h : NoneT p l t) (hx : l[t]? = some x) (hp : p x = false) : NoneT p l (t + 1) := by
  unfold NoneT at h ⊢
  rw [List.take_add_one, hx, List.any_append, h]
  simp [hp]
theorem NoneT.all {α : Type} {p : α → Bool} {l : List α} {t : Nat} (h : NoneT p l t) (ht : l.length ≤ t) : l.any p = false := by
  unfold NoneT at h
  rwa [List.take_of_length_le ht] at h
def vaRel (bs : List Bk) (L : List Nat) (w4 : World) (i : Value) (wr : World) : Prop := ∃ t : Nat, t ≤ L.length ∧ i = .int .i64 (t : Int) ∧ NoneT (srcB bs) L t ∧ wr = w4
set_option maxRecDepth 100000 in
set_option maxHeartbeats 4000000 in
theorem varies_any (d : Dg) (k m : Nat) (w : World) (hm : m ≤ w.heap.size) (hd : DgAt w m d) (hok : SuccOk d.bs) (hk : k < d.bs.length) :
    Calls Tryd.prog 39 #[d.val, .int .i64 (k : Int)] w fun e w' => e = .returned (.bool (variesB d.bs k)) ∧ Below w.heap.size w w' := by
  have hl2 := hd.l2
  have HD := Lib.hid hd
  have HOK := Lib.hid hok
  clear hd hok
  obtain ⟨A1, ps, c1, A2, bs, c2, A3, os, c3⟩ := d
  dsimp only at hl2 hk HOK
  simp only [Dg.val]
  have hki : (k : Int) < (bs.length : Int) := by omega
  have r0 := RowD.new_ w [.slice A1 ps.length c1, .slice A2 bs.length c2, .slice A3 os.length c3] 26
  have R0 := Lib.hid r0
  clear r0
  obtain ⟨i0, hi, hz0, hz1, hz2⟩ := info_parts info_bool
  go_enter Tryd.func39, Tryd.ntmps39
  go_wp2_with (first
    | (at_make; (with_reducible refine wpList_make_full _ rfl (.tmp 10) (.tmp 10) 46 rfl (w.heap.size + 1) 4 i0 (.bool false) 1 under_bools hi hz0 hz1 .i64 .i64 bs.length bs.length bs.length rfl rfl rfl rfl (by rw [hz2]; omega) (by unfold maxLen; omega) (by first | assumption | (simp; done) | (simp; omega)) ?_; intro w2 hown hg); have hst : Below (w.heap.size + 1) (w.alloc (.cells #[.slice A1 ps.length c1, .slice A2 bs.length c2, .slice A3 os.length c3] 26)) w2 := (Below.refl _ _).grown hg (by simp) (fun k h => by simp at h); have hrow := rowD_of hown; rw [made_bools] at hrow; simp only [size_al1] at hrow; have R2 := Lib.hid (R0.out.below hst (by omega)); have HROW := Lib.hid hrow; have hzg := hrow.lt; have q0 : w2.cell? ⟨w.heap.size, 0, none⟩ = some (.slice A1 ps.length c1) := R2.out.cell 0; have q1 : w2.cell? ⟨w.heap.size, 1, none⟩ = some (.slice A2 bs.length c2) := R2.out.cell 1; have q2 : w2.cell? ⟨w.heap.size, 2, none⟩ = some (.slice A3 os.length c3) := R2.out.cell 2; have z2 : w.heap.size < w2.heap.size := (by omega); have N2 := Lib.hid ((al_ w _).trans (hst.mono (by omega))); clear hown hrow hst hg)
    | (go_at_call 33; refine (mark_any ⟨A1, ps, c1, A2, bs, c2, A3, os, c3⟩ m (w.heap.size + 1) true (by omega) HOK.out (bs.length + 1) (List.replicate bs.length false) k w2 (by have := unM_le (List.replicate bs.length false); simp at this; omega) (by simp) hk (HD.out.below N2.out hm) HROW.out).mono ?_; rintro e w3 ⟨rfl, l', hp, hrow3, hap⟩; have HL := Lib.hid (mark_isT HOK.out hk hp); have hl3 : l'.length = bs.length := (by rw [hp.len]; simp); have HROW3 := Lib.hid hrow3; have N3 := Lib.hid (N2.out.trans (hap.below (by omega) (by omega))); have R3 := Lib.hid (R2.out.apart hap (by omega)); have HLL := Lib.hid hl3; clear hp hrow3 hap hl3 q0 q1 q2)
    | (go_at_call 34; rw [← HLL.out]; refine (list_any (some ⟨w.heap.size + 1, 0, none⟩) l' l'.length w3.heap.size w3 (Nat.le_refl _) (HROW3.out.cells_ HROW3.out.lt) (by have := HLL.out; omega)).mono ?_; rintro e w4 ⟨v4, rfl, D4, hb4⟩; obtain ⟨A4, c4, rfl, _, hc4⟩ := D4.view; have N4 := Lib.hid (N3.out.trans (hb4.mono N3.out.size)); have R4 := Lib.hid (R3.out.call hb4); have HC4 := Lib.hid hc4; clear hc4 hb4))
  rw [natI_len]
  have hkl : (markL l').length ≤ bs.length := by have := markL_len l'; rw [HLL.out] at this; exact this
  obtain ⟨L, hL⟩ : ∃ L, L = markL l' := ⟨_, rfl⟩
  rw [← hL]
  rw [← hL] at HC4 D4
  have HLM := Lib.hid hL
  have hLl : L.length ≤ bs.length := by rw [hL]; exact hkl
  have q1 : w4.cell? ⟨w.heap.size, 1, none⟩ = some (.slice A2 bs.length c2) := R4.out.cell 1
  have z4 : w.heap.size < w4.heap.size := R4.out.lt
  have HV := Lib.hid (show variesB bs k = L.any (srcB bs) by unfold variesB; rw [← HL.out, hL])
  have HLT := Lib.hid (show ∀ j ∈ L, j < bs.length from fun j hj => by rw [hL] at hj; have := isM_lt (markL_mem.1 hj); rw [HLL.out] at this; exact this)
  have D4' := Lib.hid (HD.out.below N4.out hm)
  clear hkl hL D4
  go_loopw [19] (fun i wr => vaRel bs L w4 i wr) (fun i _ => L.length - (intOf i).toNat)
  case atStart => exact ⟨0, Nat.zero_le _, rfl, NoneT.zero _ _, rfl⟩
  case round =>
    obtain ⟨t, ht, rfl, hn, rfl⟩ := hrel
    have HN := Lib.hid hn
    clear hn
    by_cases hlt : t < L.length
    · obtain ⟨b, off, z, rfl, hbm, hbs, hx, g⟩ := HC4.out.int_ (k := t) (by rw [natI_len]; exact hlt)
      rw [natI_get] at hx
      obtain ⟨j, hj, rfl⟩ := Option.map_eq_some_iff.1 hx
      have HJ := Lib.hid hj
      have hjl : j < bs.length := HLT.out j (List.mem_of_getElem? hj)
      have hji : (j : Int) < (bs.length : Int) := by omega
      have hti : (t : Int) < (L.length : Int) := by omega
      clear hx hj
      obtain ⟨b2, off2, kind, KA, args, cap, vn, ve, un, ue, hA, hbm2, hbs2, hx, g0, _, _, _, _, _, _, _⟩ := D4'.out.blk hjl
      dsimp only at hA hx
      subst hA
      have HX := Lib.hid hx
      clear hx
      by_cases k0 : kind = 0
      · subst k0
        have HS := Lib.hid (show srcB bs j = true by unfold srcB; rw [kind_of HX.out]; rfl)
        go_wp2_with fail
        go_ret
        exact ⟨ret_bool (by rw [HV.out]; exact (any_hit HJ.out HS.out).symm), N4.out⟩
      · by_cases k2 : kind = 2
        · subst k2
          have HS := Lib.hid (show srcB bs j = true by unfold srcB; rw [kind_of HX.out]; rfl)
          clear k0
          go_wp2_with fail
          go_ret
          exact ⟨ret_bool (by rw [HV.out]; exact (any_hit HJ.out HS.out).symm), N4.out⟩
        · have n0 : (kind == 0) = false := by simpa using k0
          have n2 : (kind == 2) = false := by simpa using k2
          have HS := Lib.hid (show srcB bs j = false by unfold srcB; rw [kind_of HX.out, n0, n2]; rfl)
          clear k0 k2
          go_wp2_with fail
          exact ⟨⟨t + 1, by omega, by go_num, HN.out.succ HJ.out HS.out, rfl⟩, by simp [intOf]; omega⟩
    · have e : (t : Int) = (L.length : Int) := by omega
      go_wp2_with fail
      go_ret
      exact ⟨ret_bool (by rw [HV.out]; exact (HN.out.all (by omega)).symm), N4.out⟩
def affO (d : Dg) : Bool := if dgE d = 0 then affB d.bs else false
def AffP (d : Dg) (w : World) (e : Ending) (w' : World) : Prop := e = .returned (.tuple #[.bool (affO d), errV (dgE d)]) ∧ Below w.heap.size w w'
def afRel (w : World) (vs : List Value) (bs : List Bk) (i : Value) (wr : World) : Prop := ∃ k : Nat, k ≤ bs.length ∧ i = .int .i64 (k : Int) ∧ NoAff bs k ∧ RowD wr w.heap.size vs 26 ∧ Below w.heap.size w wr
theorem dg_blk {ps : List Prt} {bs : List Bk} {os : List Int} {k : Nat} {b : Bk} (h : dgErr ps bs os = 0) (hb : bs[k]? = some b) : blkErr ps.length bs.length b = 0 :=
  firstErr_zero (pre_blk (pre_of h).2.1) _ (List.mem_map_of_mem (List.mem_of_getElem? hb))
theorem two_args {np nb : Nat} {b : Bk} (h : blkErr np nb b = 0) (hk : b.kind = 7) : ∃ z0 z1, b.args = [z0, z1] ∧ (0 ≤ z0 ∧ z0 < (nb : Int)) ∧ (0 ≤ z1 ∧ z1 < (nb : Int)) := by
  obtain ⟨_, h2, h3⟩ := blk_args h
  rw [hk] at h2 h3
  have e : arityM 7 = 2 := by decide
  have e2 : mostM np nb 7 = nb := rfl
  rw [e] at h2
  rw [e2] at h3
  match hb : b.args, h2, h3 with
  | [z0, z1], _, h3 => exact ⟨z0, z1, rfl, h3 z0 (by simp), h3 z1 (by simp)⟩
set_option maxRecDepth 100000 in
set_option maxHeartbeats 4000000 in
theorem Affine_any (d : Dg) (m : Nat) (w : World) (hm : m ≤ w.heap.size) (hd : DgAt w m d) (ht : TabAt w) :
    Calls Tryd.prog 25 #[d.val] w (AffP d w) := by
  have hl2 := hd.l2
  have HD := Lib.hid hd
  have HT := Lib.hid ht
  clear hd ht
  obtain ⟨A1, ps, c1, A2, bs, c2, A3, os, c3⟩ := d
  dsimp only at hl2
  simp only [Dg.val]
  have b0 := al_ w (.cells #[.slice A1 ps.length c1, .slice A2 bs.length c2, .slice A3 os.length c3] 26)
  have r0 := RowD.new_ w [.slice A1 ps.length c1, .slice A2 bs.length c2, .slice A3 os.length c3] 26
  have HB0 := Lib.hid b0
  have R0 := Lib.hid r0
  clear b0 r0
  obtain ⟨E, hE⟩ : ∃ E, dgErr ps bs os = E := ⟨_, rfl⟩
  have HE := Lib.hid hE
  clear hE
  go_enter Tryd.func25, Tryd.ntmps25
  go_wp2_with fail
  go_at_call 18
  refine (Check_any ⟨A1, ps, c1, A2, bs, c2, A3, os, c3⟩ m _ (by simp; omega) (HD.out.below HB0.out hm) (HT.out.below HB0.out HT.out.1)).mono ?_
  rintro e w1 ⟨rfl, hb1⟩
  dsimp only
  rw [HE.out]
  have R1 := Lib.hid (R0.out.call hb1)
  have N1 := Lib.hid (HB0.out.trans (hb1.mono HB0.out.size))
  have z1 : w.heap.size < w1.heap.size := R1.out.lt
  have q1 : w1.cell? ⟨w.heap.size, 1, none⟩ = some (.slice A2 bs.length c2) := R1.out.cell 1
  clear hb1
  by_cases he : E = 0
  · have HE0 := Lib.hid (HE.out.trans he)
    rw [he, errV_0]
    clear he
    have AFF : ∀ {b : Bool}, affB bs = b → (Value.tuple #[.bool (affO ⟨A1, ps, c1, A2, bs, c2, A3, os, c3⟩), errV (dgE ⟨A1, ps, c1, A2, bs, c2, A3, os, c3⟩)] = .tuple #[.bool b, .nilIface]) := fun {b} h => by
      have h1 : dgE ⟨A1, ps, c1, A2, bs, c2, A3, os, c3⟩ = 0 := HE0.out
      unfold affO
      rw [if_pos h1, h1, ← h]
      rfl
    have HOK := Lib.hid (dg_succ HE0.out)
    have HVI := Lib.hid (show ∀ z, z < bs.length → variesB bs z = isM (varyM bs) z from fun z hz => varies_is hz HOK.out)
    go_wp2_with fail
    go_loopw [15] (fun i wr => afRel w [.slice A1 ps.length c1, .slice A2 bs.length c2, .slice A3 os.length c3] bs i wr) (fun i _ => bs.length - (intOf i).toNat)
    case atStart => exact ⟨0, Nat.zero_le _, rfl, NoAff.zero _, R1.out, N1.out⟩
    case round =>
      as_aux_lemma =>
      clear q1 R1 N1 z1
      obtain ⟨k, hk, rfl, hn, hr, hb⟩ := hrel
      have HN := Lib.hid hn
      have HR := Lib.hid hr
      have q0 : wr.cell? ⟨w.heap.size, 0, none⟩ = some (.slice A1 ps.length c1) := HR.out.cell 0
      have q1 : wr.cell? ⟨w.heap.size, 1, none⟩ = some (.slice A2 bs.length c2) := HR.out.cell 1
      have q2 : wr.cell? ⟨w.heap.size, 2, none⟩ = some (.slice A3 os.length c3) := HR.out.cell 2
      have zr : w.heap.size < wr.heap.size := HR.out.lt
      clear hn hr
      by_cases hlt : k < bs.length
      · have HDR := Lib.hid (HD.out.below hb hm)
        obtain ⟨b, off, kind, B, args, cap, vn, ve, un, ue, hA2, hbm, hbs, hx, g0, g1, g2, g3, g4, g5, ha, hl⟩ := HDR.out.blk hlt
        dsimp only at hA2 hx
        subst hA2
        have HX := Lib.hid hx
        clear hx hl
        by_cases k8 : kind = 8
        · subst k8
          have HAF := Lib.hid (AFF (affB_hit hlt (show nonAff bs k = true by unfold nonAff; rw [kind_of HX.out]; rfl)))
          clear AFF ha
          go_wp2_with fail
          refine bodyPost_ret (v := .tuple #[.bool false, .nilIface]) (by simp [results, Tryd.results25, go_sem]) rfl ⟨by rw [HAF.out], ext_alloc hb _⟩
        · by_cases k9 : kind = 9
          · subst k9
            have HAF := Lib.hid (AFF (affB_hit hlt (show nonAff bs k = true by unfold nonAff; rw [kind_of HX.out]; rfl)))
            clear AFF ha
            go_wp2_with fail
            refine bodyPost_ret (v := .tuple #[.bool false, .nilIface]) (by simp [results, Tryd.results25, go_sem]) rfl ⟨by rw [HAF.out], ext_alloc hb _⟩
          · by_cases k10 : kind = 10
            · subst k10
              have HAF := Lib.hid (AFF (affB_hit hlt (show nonAff bs k = true by unfold nonAff; rw [kind_of HX.out]; rfl)))
              clear AFF ha
              go_wp2_with fail
              refine bodyPost_ret (v := .tuple #[.bool false, .nilIface]) (by simp [results, Tryd.results25, go_sem]) rfl ⟨by rw [HAF.out], ext_alloc hb _⟩
            · by_cases k11 : kind = 11
              · subst k11
                have HAF := Lib.hid (AFF (affB_hit hlt (show nonAff bs k = true by unfold nonAff; rw [kind_of HX.out]; rfl)))
                clear AFF ha
                go_wp2_with fail
                refine bodyPost_ret (v := .tuple #[.bool false, .nilIface]) (by simp [results, Tryd.results25, go_sem]) rfl ⟨by rw [HAF.out], ext_alloc hb _⟩
              · by_cases k7 : kind = 7
                · as_aux_lemma =>
                  subst k7
                  obtain ⟨z0, z1, hargs, hz0, hz1⟩ := two_args (dg_blk HE0.out HX.out) rfl
                  dsimp only at hargs
                  subst hargs
                  obtain ⟨z0, rfl⟩ := Int.eq_ofNat_of_zero_le hz0.1
                  obtain ⟨z1, rfl⟩ := Int.eq_ofNat_of_zero_le hz1.1
                  have hl0 : z0 < bs.length := by have := hz0.2; omega
                  have hl1 : z1 < bs.length := by have := hz1.2; omega
                  obtain ⟨ab, ao, y0, rfl, hab, hab2, hy0, gz0⟩ := CellsAt.int_ ha (k := 0) (by simp)
                  obtain ⟨ab', ao', y1, hA', _, _, hy1, gz1⟩ := CellsAt.int_ ha (k := 1) (by simp)
                  cases hA'
                  simp at hy0 hy1
                  subst hy0 hy1
                  rw [Nat.add_zero] at gz0
                  clear hz0 hz1 ha
                  have HDW := Lib.hid (HDR.out.below (al_ wr (.cells #[.int .i64 7, .slice (some ⟨ab, ao, none⟩) 2 cap, .int .i64 vn, .int .i64 ve, .int .i64 un, .int .i64 ue] 44)) (by have := hb.size; omega))
                  cases hv0 : variesB bs z0 with
                  | false =>
                    as_aux_lemma =>
                    have HV0 := Lib.hid hv0
                    clear hv0
                    have HNA := Lib.hid (show nonAff bs k = false by unfold nonAff; rw [kind_of HX.out, args_of HX.out]; show (false || (isM (varyM bs) z0 && isM (varyM bs) z1)) = false; rw [Bool.false_or, ← HVI.out z0 hl0, ← HVI.out z1 hl1, HV0.out]; rfl)
                    go_wp2_with fail
                    have HC0 : ∀ x : ExtW (wr.alloc (.cells #[.int .i64 7, .slice (some ⟨ab, ao, none⟩) 2 cap, .int .i64 vn, .int .i64 ve, .int .i64 un, .int .i64 ue] 44)) (wr.heap.size + 1), Calls Tryd.prog 39 #[.agg #[.slice A1 ps.length c1, .slice (some ⟨b, off, none⟩) bs.length c2, .slice A3 os.length c3], .int .i64 (z0 : Int)] x.val (fun e w' => e = .returned (.bool false) ∧ Below x.val.heap.size x.val w') := fun x => by
                      have h := varies_any ⟨A1, ps, c1, some ⟨b, off, none⟩, bs, c2, A3, os, c3⟩ z0 m x.val (by have := x.fits; omega) (HDW.out.below x.is (by omega)) HOK.out hl0
                      dsimp only [Dg.val] at h
                      rw [HV0.out] at h
                      exact h
                    have HCC0 := Lib.hid HC0
                    clear HC0
                    refine wp_region_qext (wr.heap.size + 1) (by simp) (by kernel_rfl) (by kernel_rfl) ?_
                    intro _
                    repeat (go_big_quiet_step (((go_at_call 39; exact qext_call (HCC0.out _)))))
                    refine wpQuiet_nil ?_
                    intro w5 hw'
                    obtain ⟨⟨_, hb5, hz5⟩, rfl⟩ := hw'
                    have HB5 := Lib.hid ((ext_alloc hb _).trans (hb5.mono (by have := hb.size; omega)))
                    have HR5 := Lib.hid ((HR.out.call (al_ _ _)).below hb5 (by omega))
                    clear hb5
                    go_wp2_with fail
                    exact ⟨⟨k + 1, by omega, by go_num, HN.out.succ HNA.out, HR5.out, HB5.out⟩, by simp [intOf]; omega⟩
                  | true =>
                    cases hv1 : variesB bs z1 with
                    | false =>
                      as_aux_lemma =>
                      have HV0 := Lib.hid hv0
                      have HV1 := Lib.hid hv1
                      clear hv0 hv1
                      have HNA := Lib.hid (show nonAff bs k = false by unfold nonAff; rw [kind_of HX.out, args_of HX.out]; show (false || (isM (varyM bs) z0 && isM (varyM bs) z1)) = false; rw [Bool.false_or, ← HVI.out z0 hl0, ← HVI.out z1 hl1, HV0.out, HV1.out]; rfl)
                      go_wp2_with fail
                      have HC0 : ∀ x : ExtW (wr.alloc (.cells #[.int .i64 7, .slice (some ⟨ab, ao, none⟩) 2 cap, .int .i64 vn, .int .i64 ve, .int .i64 un, .int .i64 ue] 44)) (wr.heap.size + 1), Calls Tryd.prog 39 #[.agg #[.slice A1 ps.length c1, .slice (some ⟨b, off, none⟩) bs.length c2, .slice A3 os.length c3], .int .i64 (z0 : Int)] x.val (fun e w' => e = .returned (.bool true) ∧ Below x.val.heap.size x.val w') := fun x => by
                        have h := varies_any ⟨A1, ps, c1, some ⟨b, off, none⟩, bs, c2, A3, os, c3⟩ z0 m x.val (by have := x.fits; omega) (HDW.out.below x.is (by omega)) HOK.out hl0
                        dsimp only [Dg.val] at h
                        rw [HV0.out] at h
                        exact h
                      have HCC0 := Lib.hid HC0
                      clear HC0
                      have HC1 : ∀ x : ExtW (wr.alloc (.cells #[.int .i64 7, .slice (some ⟨ab, ao, none⟩) 2 cap, .int .i64 vn, .int .i64 ve, .int .i64 un, .int .i64 ue] 44)) (wr.heap.size + 1), Calls Tryd.prog 39 #[.agg #[.slice A1 ps.length c1, .slice (some ⟨b, off, none⟩) bs.length c2, .slice A3 os.length c3], .int .i64 (z1 : Int)] x.val (fun e w' => e = .returned (.bool false) ∧ Below x.val.heap.size x.val w') := fun x => by
                        have h := varies_any ⟨A1, ps, c1, some ⟨b, off, none⟩, bs, c2, A3, os, c3⟩ z1 m x.val (by have := x.fits; omega) (HDW.out.below x.is (by omega)) HOK.out hl1
                        dsimp only [Dg.val] at h
                        rw [HV1.out] at h
                        exact h
                      have HCC1 := Lib.hid HC1
                      clear HC1
                      refine wp_region_qext (wr.heap.size + 1) (by simp) (by kernel_rfl) (by kernel_rfl) ?_
                      intro _
                      repeat (go_big_quiet_step ((first | (go_at_call 39; with_reducible exact qext_call (HCC0.out _)) | (go_at_call 39; with_reducible exact qext_call (HCC1.out _)))))
                      refine wpQuiet_nil ?_
                      intro w5 hw'
                      obtain ⟨⟨_, hb5, hz5⟩, rfl⟩ := hw'
                      have HB5 := Lib.hid ((ext_alloc hb _).trans (hb5.mono (by have := hb.size; omega)))
                      have HR5 := Lib.hid ((HR.out.call (al_ _ _)).below hb5 (by omega))
                      clear hb5
                      go_wp2_with fail
                      exact ⟨⟨k + 1, by omega, by go_num, HN.out.succ HNA.out, HR5.out, HB5.out⟩, by simp [intOf]; omega⟩
                    | true =>
                      as_aux_lemma =>
                      have HV0 := Lib.hid hv0
                      have HV1 := Lib.hid hv1
                      clear hv0 hv1
                      have HNA := Lib.hid (show nonAff bs k = true by unfold nonAff; rw [kind_of HX.out, args_of HX.out]; show (false || (isM (varyM bs) z0 && isM (varyM bs) z1)) = true; rw [Bool.false_or, ← HVI.out z0 hl0, ← HVI.out z1 hl1, HV0.out, HV1.out]; rfl)
                      go_wp2_with fail
                      have HC0 : ∀ x : ExtW (wr.alloc (.cells #[.int .i64 7, .slice (some ⟨ab, ao, none⟩) 2 cap, .int .i64 vn, .int .i64 ve, .int .i64 un, .int .i64 ue] 44)) (wr.heap.size + 1), Calls Tryd.prog 39 #[.agg #[.slice A1 ps.length c1, .slice (some ⟨b, off, none⟩) bs.length c2, .slice A3 os.length c3], .int .i64 (z0 : Int)] x.val (fun e w' => e = .returned (.bool true) ∧ Below x.val.heap.size x.val w') := fun x => by
                        have h := varies_any ⟨A1, ps, c1, some ⟨b, off, none⟩, bs, c2, A3, os, c3⟩ z0 m x.val (by have := x.fits; omega) (HDW.out.below x.is (by omega)) HOK.out hl0
                        dsimp only [Dg.val] at h
                        rw [HV0.out] at h
                        exact h
                      have HCC0 := Lib.hid HC0
                      clear HC0
                      have HC1 : ∀ x : ExtW (wr.alloc (.cells #[.int .i64 7, .slice (some ⟨ab, ao, none⟩) 2 cap, .int .i64 vn, .int .i64 ve, .int .i64 un, .int .i64 ue] 44)) (wr.heap.size + 1), Calls Tryd.prog 39 #[.agg #[.slice A1 ps.length c1, .slice (some ⟨b, off, none⟩) bs.length c2, .slice A3 os.length c3], .int .i64 (z1 : Int)] x.val (fun e w' => e = .returned (.bool true) ∧ Below x.val.heap.size x.val w') := fun x => by
                        have h := varies_any ⟨A1, ps, c1, some ⟨b, off, none⟩, bs, c2, A3, os, c3⟩ z1 m x.val (by have := x.fits; omega) (HDW.out.below x.is (by omega)) HOK.out hl1
                        dsimp only [Dg.val] at h
                        rw [HV1.out] at h
                        exact h
                      have HCC1 := Lib.hid HC1
                      clear HC1
                      refine wp_region_qext (wr.heap.size + 1) (by simp) (by kernel_rfl) (by kernel_rfl) ?_
                      intro _
                      repeat (go_big_quiet_step ((first | (go_at_call 39; with_reducible exact qext_call (HCC0.out _)) | (go_at_call 39; with_reducible exact qext_call (HCC1.out _)))))
                      refine wpQuiet_nil ?_
                      intro w5 hw'
                      obtain ⟨⟨_, hb5, hz5⟩, rfl⟩ := hw'
                      have HAF := Lib.hid (AFF (affB_hit hlt HNA.out))
                      have HB5 := Lib.hid ((ext_alloc hb _).trans (hb5.mono (by have := hb.size; omega)))
                      clear hb5 AFF
                      go_wp2_with fail
                      refine bodyPost_ret (v := .tuple #[.bool false, .nilIface]) (by simp [results, Tryd.results25, go_sem]) rfl ⟨by rw [HAF.out], HB5.out⟩
                · as_aux_lemma =>
                  have n8 : (kind == 8) = false := by simpa using k8
                  have n9 : (kind == 9) = false := by simpa using k9
                  have n10 : (kind == 10) = false := by simpa using k10
                  have n11 : (kind == 11) = false := by simpa using k11
                  have n7 : (kind == 7) = false := by simpa using k7
                  have HNA := Lib.hid (show nonAff bs k = false by unfold nonAff; rw [kind_of HX.out, n8, n9, n10, n11, n7]; rfl)
                  clear k7 k8 k9 k10 k11 ha
                  go_wp2_with fail
                  exact ⟨⟨k + 1, by omega, by go_num, HN.out.succ HNA.out, HR.out.call (al_ _ _), ext_alloc hb _⟩, by simp [intOf]; omega⟩
      · have e : k = bs.length := by omega
        subst e
        have HAF := Lib.hid (AFF (affB_all HN.out))
        clear AFF
        go_wp2_with fail
        refine bodyPost_ret (v := .tuple #[.bool true, .nilIface]) (by simp [results, Tryd.results25, go_sem]) rfl ⟨by rw [HAF.out], hb⟩
  · have AFF : affO ⟨A1, ps, c1, A2, bs, c2, A3, os, c3⟩ = false := if_neg (by show ¬ dgErr ps bs os = 0; rw [HE.out]; exact he)
    have hde : dgE ⟨A1, ps, c1, A2, bs, c2, A3, os, c3⟩ = E := HE.out
    have HAF := Lib.hid AFF
    have HDE := Lib.hid hde
    have HEN := Lib.hid (errV_n he)
    clear AFF hde he
    rw [HEN.out]
    go_wp2_with fail
    refine bodyPost_ret (v := .tuple #[.bool false, .iface 35 (.int .i64 E)]) (by simp [results, Tryd.results25, go_sem]) rfl ⟨by rw [HAF.out, HDE.out, HEN.out], N1.out⟩
end Go.Proofs.YtaheedieingpiaaDoor
namespace Go.Proofs.YtaheedieingpiaaDoor
set_option linter.unusedVariables false
set_option linter.unusedSimpArgs false
set_option linter.unusedSectionVars false
open Go.RowKit

def vr1 (w : World) (vs : List Value) (n : Nat) (f : Nat → List Bool) (v : Value) (wr : World) : Prop := ∃ k : Nat, k ≤ n ∧ v = .int .i64 (k : Int) ∧ RowD wr (w.heap.size + 1) (bools (f k)) 4 ∧ RowD wr w.heap.size vs 26 ∧ Below w.heap.size w wr
theorem bools_set_get (l : List Bool) (i : Nat) (b : Bool) : (bools l).set i (.bool b) = bools (l.set i b) := (bools_set l i b).symm
theorem RowD.setB {w : World} {g t : Nat} {l l' : List Bool} (h : RowD w g (bools l) t) (i : Nat) (b : Bool) (hl : l.set i b = l') : RowD (w.setCell ⟨g, i, none⟩ (.bool b)) g (bools l') t := by
  rw [← hl, bools_set]
  exact h.set_ i (.bool b)
def vr4 (w : World) (vs : List Value) (bs : List Bk) (v : Value) (wr : World) : Prop := ∃ k : Nat, k ≤ bs.length ∧ v = .int .i64 (k : Int) ∧ NoAff bs k ∧ RowD wr (w.heap.size + 1) (bools (varyM bs)) 4 ∧ RowD wr w.heap.size vs 26 ∧ Below w.heap.size w wr
set_option maxRecDepth 100000 in
set_option maxHeartbeats 4000000 in
theorem rAffine_any (d : Dg) (m : Nat) (w : World) (hm : m ≤ w.heap.size) (hd : DgAt w m d) (he : dgErr d.ps d.bs d.os = 0) :
    Calls Tryd.prog 28 #[d.val] w fun e w' => e = .returned (.bool (affB d.bs)) ∧ Below w.heap.size w w' := by
  have hl2 := hd.l2
  have HD := Lib.hid hd
  have HE := Lib.hid he
  have HOK := Lib.hid (dg_succ he)
  clear hd he
  obtain ⟨A1, ps, c1, A2, bs, c2, A3, os, c3⟩ := d
  dsimp only at hl2 HOK HE
  simp only [Dg.val]
  have r0 := RowD.new_ w [.slice A1 ps.length c1, .slice A2 bs.length c2, .slice A3 os.length c3] 26
  have R0 := Lib.hid r0
  clear r0
  obtain ⟨i0, hi0, hz0, hz1, hz2⟩ := info_parts info_bool
  go_enter Tryd.func28, Tryd.ntmps28
  go_wp2_with (at_make; (with_reducible refine wpList_make_full _ rfl (.tmp 12) (.tmp 12) 46 rfl (w.heap.size + 1) 4 i0 (.bool false) 1 under_bools hi0 hz0 hz1 .i64 .i64 bs.length bs.length bs.length rfl rfl rfl rfl (by rw [hz2]; omega) (by unfold maxLen; omega) (by first | assumption | (simp; done) | (simp; omega)) ?_; intro w2 hown hg); have hst : Below (w.heap.size + 1) (w.alloc (.cells #[.slice A1 ps.length c1, .slice A2 bs.length c2, .slice A3 os.length c3] 26)) w2 := (Below.refl _ _).grown hg (by simp) (fun k h => by simp at h); have hrow := rowD_of hown; rw [made_bools] at hrow; simp only [size_al1] at hrow; have R2 := Lib.hid (R0.out.below hst (by omega)); have HROW := Lib.hid hrow; have q1 : w2.cell? ⟨w.heap.size, 1, none⟩ = some (.slice A2 bs.length c2) := R2.out.cell 1; have z2 : w.heap.size < w2.heap.size := R2.out.lt; have N2 := Lib.hid ((al_ w _).trans (hst.mono (by omega))); clear hown hrow hst hg)
  have HVL0 : (List.replicate bs.length false).length = bs.length := by simp
  obtain ⟨m0, hm0⟩ : ∃ m0, m0 = List.replicate bs.length false := ⟨_, rfl⟩
  have HM0 := Lib.hid hm0
  have HML0 := Lib.hid (show m0.length = bs.length by rw [hm0]; exact HVL0)
  rw [← hm0] at HROW
  clear HVL0 hm0
  go_loopw [17] (fun v wr => vr1 w [.slice A1 ps.length c1, .slice A2 bs.length c2, .slice A3 os.length c3] bs.length (vPass bs m0) v wr) (fun v _ => bs.length - (intOf v).toNat)
  case atStart => exact ⟨0, Nat.zero_le _, rfl, HROW.out, R2.out, N2.out⟩
  case round =>
    clear R2 HROW q1 z2 N2
    obtain ⟨k, hk, rfl, hr, hx, hb⟩ := hrel
    have HR := Lib.hid hr
    have HB := Lib.hid hx
    have b1 : wr.cell? ⟨w.heap.size, 1, none⟩ = some (.slice A2 bs.length c2) := hx.cell 1
    have z0 := hx.lt
    clear hr hx
    by_cases hlt : k < bs.length
    · as_aux_lemma =>
      have hki : (k : Int) < (bs.length : Int) := by omega
      go_wp2_with fail
      clear b1 z0
      obtain ⟨mk, hmk⟩ : ∃ mk, mk = vPass bs m0 k := ⟨_, rfl⟩
      have HMK := Lib.hid hmk
      have HML := Lib.hid (show mk.length = bs.length by rw [hmk, vPass_len]; exact HML0.out)
      rw [← hmk] at HR
      clear hmk
      go_loopw [22] (fun v wr => vr1 w [.slice A1 ps.length c1, .slice A2 bs.length c2, .slice A3 os.length c3] bs.length (vFold bs mk) v wr) (fun v _ => bs.length - (intOf v).toNat)
      case atStart => exact ⟨0, Nat.zero_le _, rfl, HR.out, HB.out, hb⟩
      case round =>
        as_aux_lemma =>
        clear HR HB hb
        obtain ⟨i, hi, rfl, hr, hx, hb⟩ := hrel
        have HR := Lib.hid hr
        have HB := Lib.hid hx
        have z0 := hx.lt
        have zg : (w.heap.size + 1) < wr.heap.size := hr.lt
        have ff := hr.free
        clear hr hx
        by_cases hil : i < bs.length
        · have hii : (i : Int) < (bs.length : Int) := by omega
          obtain ⟨b, off, kind, B, args, cap, vn, ve, un, ue, hA, hbm, hbs, hx, g0, g1, g2, g3, g4, g5, ha, hl⟩ := (HD.out.below hb hm).blk hil
          dsimp only at hA hx
          subst hA
          have HX := Lib.hid hx
          have HA := Lib.hid ha
          have HPL := Lib.hid (show (preds bs i).length ≤ 1000000 by rw [← succs_true]; exact succs_len hx hl)
          obtain ⟨mi, hmi⟩ : ∃ mi, mi = vFold bs mk i := ⟨_, rfl⟩
          have HMIF := Lib.hid hmi
          have HMN := Lib.hid (show mi.length = bs.length by rw [hmi, vFold_len]; exact HML.out)
          rw [← hmi] at HR
          have fm : wr.cell? ⟨(w.heap.size + 1), i, none⟩ = some (.bool (isM mi i)) := by rw [HR.out.cell, bools_get (by rw [HMN.out]; exact hil)]
          clear ha hl hmi hx
          by_cases k0 : kind = 0
          · subst k0
            have HSRC := Lib.hid (show srcB bs i = true by unfold srcB; rw [kind_of HX.out]; rfl)
            cases hmi : isM mi i with
            | true =>
              as_aux_lemma =>
              have HMI := Lib.hid hmi
              rw [hmi] at fm
              clear hmi
              have HM := Lib.hid (show mi.set i true = vT bs mi i 0 from (by rw [vT_zero, HMI.out, HSRC.out]; rfl))
              go_wp2_with fail
              go_at_call 41
              refine (blocks_any ⟨0, B, args, cap, vn, ve, un, ue⟩ _).mono ?_
              rintro e w5 ⟨he, hb5⟩
              have HPR := Lib.hid (show ([] : List Int) = preds bs i from (by rw [preds_of HX.out]; rfl))
              obtain ⟨xs, A7, c7, hxs, rfl, hc7⟩ : ∃ (xs : List Int) (A7 : Option Addr) (c7 : Nat), xs = preds bs i ∧ e = .returned (.slice A7 xs.length c7) ∧ CellsAt wr m A7 (ints xs) := ⟨[], none, 0, HPR.out, he, CellsAt.nil_⟩
              clear HPR
              clear he
              have HXS := Lib.hid hxs
              have hxl : xs.length ≤ 1000000 := by rw [hxs]; exact HPL.out
              clear hxs
              have HB5 := Lib.hid (Below.trans (((Below.refl (w.heap.size + 1) wr).setCell (p := ⟨(w.heap.size + 1), i, none⟩) (Nat.le_refl _) (.bool true)).alloc (by show (w.heap.size + 1) ≤ (wr.setCell _ _).heap.size; simp; omega) (.cells #[.int .i64 0, .slice B args.length cap, .int .i64 vn, .int .i64 ve, .int .i64 un, .int .i64 ue] 44)) (hb5.mono (by simp; omega)))
              have HC7 := Lib.hid (hc7.below HB5.out (by have := hb.size; omega))
              have R5 := Lib.hid (((HR.out.setB i true HM.out).al (.cells #[.int .i64 0, .slice B args.length cap, .int .i64 vn, .int .i64 ve, .int .i64 un, .int .i64 ue] 44)).call hb5)
              have X5 := Lib.hid (HB.out.below HB5.out (by omega))
              have N5 := Lib.hid (hb.trans (HB5.out.mono (by omega)))
              clear hb5 hc7 hb HR HB HB5
              clear fm
              go_wp2_with fail
              go_loopw [47] (fun v wr => vr1 w [.slice A1 ps.length c1, .slice (some ⟨b, off, none⟩) bs.length c2, .slice A3 os.length c3] xs.length (vT bs mi i) v wr) (fun v _ => xs.length - (intOf v).toNat)
              case atStart => exact ⟨0, Nat.zero_le _, rfl, R5.out, X5.out, N5.out⟩
              case round =>
                as_aux_lemma =>
                obtain ⟨t, ht, rfl, hr, hx, hb⟩ := hrel
                have HR := Lib.hid hr
                have HB := Lib.hid hx
                have zg : (w.heap.size + 1) < wr.heap.size := hr.lt
                have z0 : w.heap.size < wr.heap.size := hx.lt
                have ff := hr.free
                have hni : w.heap.size + 1 ≠ w.heap.size := by omega
                have fm : wr.cell? ⟨(w.heap.size + 1), i, none⟩ = some (.bool (isM (vT bs mi i t) i)) := by rw [HR.out.cell, bools_get (by rw [vT_len, HMN.out]; exact hil)]
                clear hr hx
                by_cases hlt : t < xs.length
                · have hti : (t : Int) < (xs.length : Int) := by omega
                  obtain ⟨ab, ao, z, hA7, hab, hab2, hz, gz⟩ := CellsAt.int_ (HC7.out.two N5.out hb hm) hlt
                  subst hA7
                  have hz' : (preds bs i)[t]? = some z := by rw [← HXS.out]; exact hz
                  have hzb := HOK.out i hil z (List.mem_of_getElem? hz')
                  obtain ⟨a, rfl⟩ := Int.eq_ofNat_of_zero_le hzb.1
                  have haN : a < bs.length := by have := hzb.2; omega
                  have haI : (a : Int) < (bs.length : Int) := hzb.2
                  have HZ := Lib.hid hz'
                  clear hz hz' hzb
                  cases hmt : isM (vT bs mi i t) i with
                  | true =>
                    rw [hmt] at fm
                    have HS := Lib.hid (vT_succ (bs := bs) (m := mi) (i := i) (t := t) (by rw [HMN.out]; exact hil) HZ.out)
                    rw [hmt, Bool.true_or] at HS
                    clear hmt
                    go_wp2_with fail
                    exact ⟨⟨t + 1, by omega, by go_num, HR.out.setB i true HS.out, HB.out.other_ (by omega) i (.bool true), hb.setCell (p := ⟨(w.heap.size + 1), i, none⟩) (by show w.heap.size ≤ w.heap.size + 1; omega) (.bool true)⟩, by simp [intOf]; omega⟩
                  | false =>
                    rw [hmt] at fm
                    have HS := Lib.hid (vT_succ (bs := bs) (m := mi) (i := i) (t := t) (by rw [HMN.out]; exact hil) HZ.out)
                    rw [hmt, Bool.false_or, Int.toNat_natCast] at HS
                    have hca : wr.cell? ⟨(w.heap.size + 1), a, none⟩ = some (.bool (isM (vT bs mi i t) a)) := by rw [HR.out.cell, bools_get (by rw [vT_len, HMN.out]; exact haN)]
                    clear hmt
                    obtain ⟨va, hva⟩ : ∃ va, va = isM (vT bs mi i t) a := ⟨_, rfl⟩
                    rw [← hva] at hca HS
                    clear hva
                    go_wp2_with fail
                    exact ⟨⟨t + 1, by omega, by go_num, HR.out.setB i va HS.out, HB.out.other_ (by omega) i (.bool va), hb.setCell (p := ⟨(w.heap.size + 1), i, none⟩) (by show w.heap.size ≤ w.heap.size + 1; omega) (.bool va)⟩, by simp [intOf]; omega⟩
                · have e5 : vT bs mi i t = vFold bs mk (i + 1) := by rw [vFold_succ, ← HMIF.out]; exact vT_done (by rw [← HXS.out]; omega)
                  have hne : ¬ (t : Int) < (xs.length : Int) := by omega
                  go_wp2_with fail
                  exact ⟨⟨i + 1, by omega, by go_num, by rw [← e5]; exact HR.out, HB.out, hb⟩, by simp [intOf]; omega⟩
            | false =>
              as_aux_lemma =>
              have HMI := Lib.hid hmi
              rw [hmi] at fm
              clear hmi
              have HM := Lib.hid (show mi.set i true = vT bs mi i 0 from (by rw [vT_zero, HMI.out, HSRC.out]; rfl))
              go_wp2_with fail
              go_at_call 41
              refine (blocks_any ⟨0, B, args, cap, vn, ve, un, ue⟩ _).mono ?_
              rintro e w5 ⟨he, hb5⟩
              have HPR := Lib.hid (show ([] : List Int) = preds bs i from (by rw [preds_of HX.out]; rfl))
              obtain ⟨xs, A7, c7, hxs, rfl, hc7⟩ : ∃ (xs : List Int) (A7 : Option Addr) (c7 : Nat), xs = preds bs i ∧ e = .returned (.slice A7 xs.length c7) ∧ CellsAt wr m A7 (ints xs) := ⟨[], none, 0, HPR.out, he, CellsAt.nil_⟩
              clear HPR
              clear he
              have HXS := Lib.hid hxs
              have hxl : xs.length ≤ 1000000 := by rw [hxs]; exact HPL.out
              clear hxs
              have HB5 := Lib.hid (Below.trans (((Below.refl (w.heap.size + 1) wr).setCell (p := ⟨(w.heap.size + 1), i, none⟩) (Nat.le_refl _) (.bool true)).alloc (by show (w.heap.size + 1) ≤ (wr.setCell _ _).heap.size; simp; omega) (.cells #[.int .i64 0, .slice B args.length cap, .int .i64 vn, .int .i64 ve, .int .i64 un, .int .i64 ue] 44)) (hb5.mono (by simp; omega)))
              have HC7 := Lib.hid (hc7.below HB5.out (by have := hb.size; omega))
              have R5 := Lib.hid (((HR.out.setB i true HM.out).al (.cells #[.int .i64 0, .slice B args.length cap, .int .i64 vn, .int .i64 ve, .int .i64 un, .int .i64 ue] 44)).call hb5)
              have X5 := Lib.hid (HB.out.below HB5.out (by omega))
              have N5 := Lib.hid (hb.trans (HB5.out.mono (by omega)))
              clear hb5 hc7 hb HR HB HB5
              clear fm
              go_wp2_with fail
              go_loopw [47] (fun v wr => vr1 w [.slice A1 ps.length c1, .slice (some ⟨b, off, none⟩) bs.length c2, .slice A3 os.length c3] xs.length (vT bs mi i) v wr) (fun v _ => xs.length - (intOf v).toNat)
              case atStart => exact ⟨0, Nat.zero_le _, rfl, R5.out, X5.out, N5.out⟩
              case round =>
                as_aux_lemma =>
                obtain ⟨t, ht, rfl, hr, hx, hb⟩ := hrel
                have HR := Lib.hid hr
                have HB := Lib.hid hx
                have zg : (w.heap.size + 1) < wr.heap.size := hr.lt
                have z0 : w.heap.size < wr.heap.size := hx.lt
                have ff := hr.free
                have hni : w.heap.size + 1 ≠ w.heap.size := by omega
                have fm : wr.cell? ⟨(w.heap.size + 1), i, none⟩ = some (.bool (isM (vT bs mi i t) i)) := by rw [HR.out.cell, bools_get (by rw [vT_len, HMN.out]; exact hil)]
                clear hr hx
                by_cases hlt : t < xs.length
                · have hti : (t : Int) < (xs.length : Int) := by omega
                  obtain ⟨ab, ao, z, hA7, hab, hab2, hz, gz⟩ := CellsAt.int_ (HC7.out.two N5.out hb hm) hlt
                  subst hA7
                  have hz' : (preds bs i)[t]? = some z := by rw [← HXS.out]; exact hz
                  have hzb := HOK.out i hil z (List.mem_of_getElem? hz')
                  obtain ⟨a, rfl⟩ := Int.eq_ofNat_of_zero_le hzb.1
                  have haN : a < bs.length := by have := hzb.2; omega
                  have haI : (a : Int) < (bs.length : Int) := hzb.2
                  have HZ := Lib.hid hz'
                  clear hz hz' hzb
                  cases hmt : isM (vT bs mi i t) i with
                  | true =>
                    rw [hmt] at fm
                    have HS := Lib.hid (vT_succ (bs := bs) (m := mi) (i := i) (t := t) (by rw [HMN.out]; exact hil) HZ.out)
                    rw [hmt, Bool.true_or] at HS
                    clear hmt
                    go_wp2_with fail
                    exact ⟨⟨t + 1, by omega, by go_num, HR.out.setB i true HS.out, HB.out.other_ (by omega) i (.bool true), hb.setCell (p := ⟨(w.heap.size + 1), i, none⟩) (by show w.heap.size ≤ w.heap.size + 1; omega) (.bool true)⟩, by simp [intOf]; omega⟩
                  | false =>
                    rw [hmt] at fm
                    have HS := Lib.hid (vT_succ (bs := bs) (m := mi) (i := i) (t := t) (by rw [HMN.out]; exact hil) HZ.out)
                    rw [hmt, Bool.false_or, Int.toNat_natCast] at HS
                    have hca : wr.cell? ⟨(w.heap.size + 1), a, none⟩ = some (.bool (isM (vT bs mi i t) a)) := by rw [HR.out.cell, bools_get (by rw [vT_len, HMN.out]; exact haN)]
                    clear hmt
                    obtain ⟨va, hva⟩ : ∃ va, va = isM (vT bs mi i t) a := ⟨_, rfl⟩
                    rw [← hva] at hca HS
                    clear hva
                    go_wp2_with fail
                    exact ⟨⟨t + 1, by omega, by go_num, HR.out.setB i va HS.out, HB.out.other_ (by omega) i (.bool va), hb.setCell (p := ⟨(w.heap.size + 1), i, none⟩) (by show w.heap.size ≤ w.heap.size + 1; omega) (.bool va)⟩, by simp [intOf]; omega⟩
                · have e5 : vT bs mi i t = vFold bs mk (i + 1) := by rw [vFold_succ, ← HMIF.out]; exact vT_done (by rw [← HXS.out]; omega)
                  have hne : ¬ (t : Int) < (xs.length : Int) := by omega
                  go_wp2_with fail
                  exact ⟨⟨i + 1, by omega, by go_num, by rw [← e5]; exact HR.out, HB.out, hb⟩, by simp [intOf]; omega⟩
          · by_cases k2 : kind = 2
            · subst k2
              clear k0
              have HSRC := Lib.hid (show srcB bs i = true by unfold srcB; rw [kind_of HX.out]; rfl)
              cases hmi : isM mi i with
              | true =>
                as_aux_lemma =>
                have HMI := Lib.hid hmi
                rw [hmi] at fm
                clear hmi
                have HM := Lib.hid (show mi.set i true = vT bs mi i 0 from (by rw [vT_zero, HMI.out, HSRC.out]; rfl))
                go_wp2_with fail
                go_at_call 41
                refine (blocks_any ⟨2, B, args, cap, vn, ve, un, ue⟩ _).mono ?_
                rintro e w5 ⟨he, hb5⟩
                have HPR := Lib.hid (show args = preds bs i from (by rw [preds_of HX.out]; exact (if_neg (by show ¬ (2 : Int) = 0; decide)).symm))
                obtain ⟨xs, A7, c7, hxs, rfl, hc7⟩ : ∃ (xs : List Int) (A7 : Option Addr) (c7 : Nat), xs = preds bs i ∧ e = .returned (.slice A7 xs.length c7) ∧ CellsAt wr m A7 (ints xs) := ⟨args, B, cap, HPR.out, by rw [he]; unfold blkV; rw [if_neg (by show ¬ (2 : Int) = 0; decide)], HA.out⟩
                clear HPR
                clear he
                have HXS := Lib.hid hxs
                have hxl : xs.length ≤ 1000000 := by rw [hxs]; exact HPL.out
                clear hxs
                have HB5 := Lib.hid (Below.trans (((Below.refl (w.heap.size + 1) wr).setCell (p := ⟨(w.heap.size + 1), i, none⟩) (Nat.le_refl _) (.bool true)).alloc (by show (w.heap.size + 1) ≤ (wr.setCell _ _).heap.size; simp; omega) (.cells #[.int .i64 2, .slice B args.length cap, .int .i64 vn, .int .i64 ve, .int .i64 un, .int .i64 ue] 44)) (hb5.mono (by simp; omega)))
                have HC7 := Lib.hid (hc7.below HB5.out (by have := hb.size; omega))
                have R5 := Lib.hid (((HR.out.setB i true HM.out).al (.cells #[.int .i64 2, .slice B args.length cap, .int .i64 vn, .int .i64 ve, .int .i64 un, .int .i64 ue] 44)).call hb5)
                have X5 := Lib.hid (HB.out.below HB5.out (by omega))
                have N5 := Lib.hid (hb.trans (HB5.out.mono (by omega)))
                clear hb5 hc7 hb HR HB HB5
                clear fm
                go_wp2_with fail
                go_loopw [47] (fun v wr => vr1 w [.slice A1 ps.length c1, .slice (some ⟨b, off, none⟩) bs.length c2, .slice A3 os.length c3] xs.length (vT bs mi i) v wr) (fun v _ => xs.length - (intOf v).toNat)
                case atStart => exact ⟨0, Nat.zero_le _, rfl, R5.out, X5.out, N5.out⟩
                case round =>
                  as_aux_lemma =>
                  obtain ⟨t, ht, rfl, hr, hx, hb⟩ := hrel
                  have HR := Lib.hid hr
                  have HB := Lib.hid hx
                  have zg : (w.heap.size + 1) < wr.heap.size := hr.lt
                  have z0 : w.heap.size < wr.heap.size := hx.lt
                  have ff := hr.free
                  have hni : w.heap.size + 1 ≠ w.heap.size := by omega
                  have fm : wr.cell? ⟨(w.heap.size + 1), i, none⟩ = some (.bool (isM (vT bs mi i t) i)) := by rw [HR.out.cell, bools_get (by rw [vT_len, HMN.out]; exact hil)]
                  clear hr hx
                  by_cases hlt : t < xs.length
                  · have hti : (t : Int) < (xs.length : Int) := by omega
                    obtain ⟨ab, ao, z, hA7, hab, hab2, hz, gz⟩ := CellsAt.int_ (HC7.out.two N5.out hb hm) hlt
                    subst hA7
                    have hz' : (preds bs i)[t]? = some z := by rw [← HXS.out]; exact hz
                    have hzb := HOK.out i hil z (List.mem_of_getElem? hz')
                    obtain ⟨a, rfl⟩ := Int.eq_ofNat_of_zero_le hzb.1
                    have haN : a < bs.length := by have := hzb.2; omega
                    have haI : (a : Int) < (bs.length : Int) := hzb.2
                    have HZ := Lib.hid hz'
                    clear hz hz' hzb
                    cases hmt : isM (vT bs mi i t) i with
                    | true =>
                      rw [hmt] at fm
                      have HS := Lib.hid (vT_succ (bs := bs) (m := mi) (i := i) (t := t) (by rw [HMN.out]; exact hil) HZ.out)
                      rw [hmt, Bool.true_or] at HS
                      clear hmt
                      go_wp2_with fail
                      exact ⟨⟨t + 1, by omega, by go_num, HR.out.setB i true HS.out, HB.out.other_ (by omega) i (.bool true), hb.setCell (p := ⟨(w.heap.size + 1), i, none⟩) (by show w.heap.size ≤ w.heap.size + 1; omega) (.bool true)⟩, by simp [intOf]; omega⟩
                    | false =>
                      rw [hmt] at fm
                      have HS := Lib.hid (vT_succ (bs := bs) (m := mi) (i := i) (t := t) (by rw [HMN.out]; exact hil) HZ.out)
                      rw [hmt, Bool.false_or, Int.toNat_natCast] at HS
                      have hca : wr.cell? ⟨(w.heap.size + 1), a, none⟩ = some (.bool (isM (vT bs mi i t) a)) := by rw [HR.out.cell, bools_get (by rw [vT_len, HMN.out]; exact haN)]
                      clear hmt
                      obtain ⟨va, hva⟩ : ∃ va, va = isM (vT bs mi i t) a := ⟨_, rfl⟩
                      rw [← hva] at hca HS
                      clear hva
                      go_wp2_with fail
                      exact ⟨⟨t + 1, by omega, by go_num, HR.out.setB i va HS.out, HB.out.other_ (by omega) i (.bool va), hb.setCell (p := ⟨(w.heap.size + 1), i, none⟩) (by show w.heap.size ≤ w.heap.size + 1; omega) (.bool va)⟩, by simp [intOf]; omega⟩
                  · have e5 : vT bs mi i t = vFold bs mk (i + 1) := by rw [vFold_succ, ← HMIF.out]; exact vT_done (by rw [← HXS.out]; omega)
                    have hne : ¬ (t : Int) < (xs.length : Int) := by omega
                    go_wp2_with fail
                    exact ⟨⟨i + 1, by omega, by go_num, by rw [← e5]; exact HR.out, HB.out, hb⟩, by simp [intOf]; omega⟩
              | false =>
                as_aux_lemma =>
                have HMI := Lib.hid hmi
                rw [hmi] at fm
                clear hmi
                have HM := Lib.hid (show mi.set i true = vT bs mi i 0 from (by rw [vT_zero, HMI.out, HSRC.out]; rfl))
                go_wp2_with fail
                go_at_call 41
                refine (blocks_any ⟨2, B, args, cap, vn, ve, un, ue⟩ _).mono ?_
                rintro e w5 ⟨he, hb5⟩
                have HPR := Lib.hid (show args = preds bs i from (by rw [preds_of HX.out]; exact (if_neg (by show ¬ (2 : Int) = 0; decide)).symm))
                obtain ⟨xs, A7, c7, hxs, rfl, hc7⟩ : ∃ (xs : List Int) (A7 : Option Addr) (c7 : Nat), xs = preds bs i ∧ e = .returned (.slice A7 xs.length c7) ∧ CellsAt wr m A7 (ints xs) := ⟨args, B, cap, HPR.out, by rw [he]; unfold blkV; rw [if_neg (by show ¬ (2 : Int) = 0; decide)], HA.out⟩
                clear HPR
                clear he
                have HXS := Lib.hid hxs
                have hxl : xs.length ≤ 1000000 := by rw [hxs]; exact HPL.out
                clear hxs
                have HB5 := Lib.hid (Below.trans (((Below.refl (w.heap.size + 1) wr).setCell (p := ⟨(w.heap.size + 1), i, none⟩) (Nat.le_refl _) (.bool true)).alloc (by show (w.heap.size + 1) ≤ (wr.setCell _ _).heap.size; simp; omega) (.cells #[.int .i64 2, .slice B args.length cap, .int .i64 vn, .int .i64 ve, .int .i64 un, .int .i64 ue] 44)) (hb5.mono (by simp; omega)))
                have HC7 := Lib.hid (hc7.below HB5.out (by have := hb.size; omega))
                have R5 := Lib.hid (((HR.out.setB i true HM.out).al (.cells #[.int .i64 2, .slice B args.length cap, .int .i64 vn, .int .i64 ve, .int .i64 un, .int .i64 ue] 44)).call hb5)
                have X5 := Lib.hid (HB.out.below HB5.out (by omega))
                have N5 := Lib.hid (hb.trans (HB5.out.mono (by omega)))
                clear hb5 hc7 hb HR HB HB5
                clear fm
                go_wp2_with fail
                go_loopw [47] (fun v wr => vr1 w [.slice A1 ps.length c1, .slice (some ⟨b, off, none⟩) bs.length c2, .slice A3 os.length c3] xs.length (vT bs mi i) v wr) (fun v _ => xs.length - (intOf v).toNat)
                case atStart => exact ⟨0, Nat.zero_le _, rfl, R5.out, X5.out, N5.out⟩
                case round =>
                  as_aux_lemma =>
                  obtain ⟨t, ht, rfl, hr, hx, hb⟩ := hrel
                  have HR := Lib.hid hr
                  have HB := Lib.hid hx
                  have zg : (w.heap.size + 1) < wr.heap.size := hr.lt
                  have z0 : w.heap.size < wr.heap.size := hx.lt
                  have ff := hr.free
                  have hni : w.heap.size + 1 ≠ w.heap.size := by omega
                  have fm : wr.cell? ⟨(w.heap.size + 1), i, none⟩ = some (.bool (isM (vT bs mi i t) i)) := by rw [HR.out.cell, bools_get (by rw [vT_len, HMN.out]; exact hil)]
                  clear hr hx
                  by_cases hlt : t < xs.length
                  · have hti : (t : Int) < (xs.length : Int) := by omega
                    obtain ⟨ab, ao, z, hA7, hab, hab2, hz, gz⟩ := CellsAt.int_ (HC7.out.two N5.out hb hm) hlt
                    subst hA7
                    have hz' : (preds bs i)[t]? = some z := by rw [← HXS.out]; exact hz
                    have hzb := HOK.out i hil z (List.mem_of_getElem? hz')
                    obtain ⟨a, rfl⟩ := Int.eq_ofNat_of_zero_le hzb.1
                    have haN : a < bs.length := by have := hzb.2; omega
                    have haI : (a : Int) < (bs.length : Int) := hzb.2
                    have HZ := Lib.hid hz'
                    clear hz hz' hzb
                    cases hmt : isM (vT bs mi i t) i with
                    | true =>
                      rw [hmt] at fm
                      have HS := Lib.hid (vT_succ (bs := bs) (m := mi) (i := i) (t := t) (by rw [HMN.out]; exact hil) HZ.out)
                      rw [hmt, Bool.true_or] at HS
                      clear hmt
                      go_wp2_with fail
                      exact ⟨⟨t + 1, by omega, by go_num, HR.out.setB i true HS.out, HB.out.other_ (by omega) i (.bool true), hb.setCell (p := ⟨(w.heap.size + 1), i, none⟩) (by show w.heap.size ≤ w.heap.size + 1; omega) (.bool true)⟩, by simp [intOf]; omega⟩
                    | false =>
                      rw [hmt] at fm
                      have HS := Lib.hid (vT_succ (bs := bs) (m := mi) (i := i) (t := t) (by rw [HMN.out]; exact hil) HZ.out)
                      rw [hmt, Bool.false_or, Int.toNat_natCast] at HS
                      have hca : wr.cell? ⟨(w.heap.size + 1), a, none⟩ = some (.bool (isM (vT bs mi i t) a)) := by rw [HR.out.cell, bools_get (by rw [vT_len, HMN.out]; exact haN)]
                      clear hmt
                      obtain ⟨va, hva⟩ : ∃ va, va = isM (vT bs mi i t) a := ⟨_, rfl⟩
                      rw [← hva] at hca HS
                      clear hva
                      go_wp2_with fail
                      exact ⟨⟨t + 1, by omega, by go_num, HR.out.setB i va HS.out, HB.out.other_ (by omega) i (.bool va), hb.setCell (p := ⟨(w.heap.size + 1), i, none⟩) (by show w.heap.size ≤ w.heap.size + 1; omega) (.bool va)⟩, by simp [intOf]; omega⟩
                  · have e5 : vT bs mi i t = vFold bs mk (i + 1) := by rw [vFold_succ, ← HMIF.out]; exact vT_done (by rw [← HXS.out]; omega)
                    have hne : ¬ (t : Int) < (xs.length : Int) := by omega
                    go_wp2_with fail
                    exact ⟨⟨i + 1, by omega, by go_num, by rw [← e5]; exact HR.out, HB.out, hb⟩, by simp [intOf]; omega⟩
            · have n0 : (kind == 0) = false := by simpa using k0
              have n2 : (kind == 2) = false := by simpa using k2
              have HK0 := Lib.hid k0
              have HSRC := Lib.hid (show srcB bs i = false by unfold srcB; rw [kind_of HX.out, n0, n2]; rfl)
              clear k0 k2
              cases hmi : isM mi i with
              | true =>
                as_aux_lemma =>
                have HMI := Lib.hid hmi
                rw [hmi] at fm
                clear hmi
                have HM := Lib.hid (show mi.set i true = vT bs mi i 0 from (by rw [vT_zero, HMI.out, HSRC.out]; rfl))
                go_wp2_with fail
                go_at_call 41
                refine (blocks_any ⟨kind, B, args, cap, vn, ve, un, ue⟩ _).mono ?_
                rintro e w5 ⟨he, hb5⟩
                have HPR := Lib.hid (show args = preds bs i from (by rw [preds_of HX.out]; exact (if_neg HK0.out).symm))
                obtain ⟨xs, A7, c7, hxs, rfl, hc7⟩ : ∃ (xs : List Int) (A7 : Option Addr) (c7 : Nat), xs = preds bs i ∧ e = .returned (.slice A7 xs.length c7) ∧ CellsAt wr m A7 (ints xs) := ⟨args, B, cap, HPR.out, by rw [he]; unfold blkV; rw [if_neg HK0.out], HA.out⟩
                clear HPR
                clear he
                have HXS := Lib.hid hxs
                have hxl : xs.length ≤ 1000000 := by rw [hxs]; exact HPL.out
                clear hxs
                have HB5 := Lib.hid (Below.trans (((Below.refl (w.heap.size + 1) wr).setCell (p := ⟨(w.heap.size + 1), i, none⟩) (Nat.le_refl _) (.bool true)).alloc (by show (w.heap.size + 1) ≤ (wr.setCell _ _).heap.size; simp; omega) (.cells #[.int .i64 kind, .slice B args.length cap, .int .i64 vn, .int .i64 ve, .int .i64 un, .int .i64 ue] 44)) (hb5.mono (by simp; omega)))
                have HC7 := Lib.hid (hc7.below HB5.out (by have := hb.size; omega))
                have R5 := Lib.hid (((HR.out.setB i true HM.out).al (.cells #[.int .i64 kind, .slice B args.length cap, .int .i64 vn, .int .i64 ve, .int .i64 un, .int .i64 ue] 44)).call hb5)
                have X5 := Lib.hid (HB.out.below HB5.out (by omega))
                have N5 := Lib.hid (hb.trans (HB5.out.mono (by omega)))
                clear hb5 hc7 hb HR HB HB5
                clear fm
                go_wp2_with fail
                go_loopw [47] (fun v wr => vr1 w [.slice A1 ps.length c1, .slice (some ⟨b, off, none⟩) bs.length c2, .slice A3 os.length c3] xs.length (vT bs mi i) v wr) (fun v _ => xs.length - (intOf v).toNat)
                case atStart => exact ⟨0, Nat.zero_le _, rfl, R5.out, X5.out, N5.out⟩
                case round =>
                  as_aux_lemma =>
                  obtain ⟨t, ht, rfl, hr, hx, hb⟩ := hrel
                  have HR := Lib.hid hr
                  have HB := Lib.hid hx
                  have zg : (w.heap.size + 1) < wr.heap.size := hr.lt
                  have z0 : w.heap.size < wr.heap.size := hx.lt
                  have ff := hr.free
                  have hni : w.heap.size + 1 ≠ w.heap.size := by omega
                  have fm : wr.cell? ⟨(w.heap.size + 1), i, none⟩ = some (.bool (isM (vT bs mi i t) i)) := by rw [HR.out.cell, bools_get (by rw [vT_len, HMN.out]; exact hil)]
                  clear hr hx
                  by_cases hlt : t < xs.length
                  · have hti : (t : Int) < (xs.length : Int) := by omega
                    obtain ⟨ab, ao, z, hA7, hab, hab2, hz, gz⟩ := CellsAt.int_ (HC7.out.two N5.out hb hm) hlt
                    subst hA7
                    have hz' : (preds bs i)[t]? = some z := by rw [← HXS.out]; exact hz
                    have hzb := HOK.out i hil z (List.mem_of_getElem? hz')
                    obtain ⟨a, rfl⟩ := Int.eq_ofNat_of_zero_le hzb.1
                    have haN : a < bs.length := by have := hzb.2; omega
                    have haI : (a : Int) < (bs.length : Int) := hzb.2
                    have HZ := Lib.hid hz'
                    clear hz hz' hzb
                    cases hmt : isM (vT bs mi i t) i with
                    | true =>
                      rw [hmt] at fm
                      have HS := Lib.hid (vT_succ (bs := bs) (m := mi) (i := i) (t := t) (by rw [HMN.out]; exact hil) HZ.out)
                      rw [hmt, Bool.true_or] at HS
                      clear hmt
                      go_wp2_with fail
                      exact ⟨⟨t + 1, by omega, by go_num, HR.out.setB i true HS.out, HB.out.other_ (by omega) i (.bool true), hb.setCell (p := ⟨(w.heap.size + 1), i, none⟩) (by show w.heap.size ≤ w.heap.size + 1; omega) (.bool true)⟩, by simp [intOf]; omega⟩
                    | false =>
                      rw [hmt] at fm
                      have HS := Lib.hid (vT_succ (bs := bs) (m := mi) (i := i) (t := t) (by rw [HMN.out]; exact hil) HZ.out)
                      rw [hmt, Bool.false_or, Int.toNat_natCast] at HS
                      have hca : wr.cell? ⟨(w.heap.size + 1), a, none⟩ = some (.bool (isM (vT bs mi i t) a)) := by rw [HR.out.cell, bools_get (by rw [vT_len, HMN.out]; exact haN)]
                      clear hmt
                      obtain ⟨va, hva⟩ : ∃ va, va = isM (vT bs mi i t) a := ⟨_, rfl⟩
                      rw [← hva] at hca HS
                      clear hva
                      go_wp2_with fail
                      exact ⟨⟨t + 1, by omega, by go_num, HR.out.setB i va HS.out, HB.out.other_ (by omega) i (.bool va), hb.setCell (p := ⟨(w.heap.size + 1), i, none⟩) (by show w.heap.size ≤ w.heap.size + 1; omega) (.bool va)⟩, by simp [intOf]; omega⟩
                  · have e5 : vT bs mi i t = vFold bs mk (i + 1) := by rw [vFold_succ, ← HMIF.out]; exact vT_done (by rw [← HXS.out]; omega)
                    have hne : ¬ (t : Int) < (xs.length : Int) := by omega
                    go_wp2_with fail
                    exact ⟨⟨i + 1, by omega, by go_num, by rw [← e5]; exact HR.out, HB.out, hb⟩, by simp [intOf]; omega⟩
              | false =>
                as_aux_lemma =>
                have HMI := Lib.hid hmi
                rw [hmi] at fm
                clear hmi
                have HM := Lib.hid (show mi.set i false = vT bs mi i 0 from (by rw [vT_zero, HMI.out, HSRC.out]; rfl))
                go_wp2_with fail
                go_at_call 41
                refine (blocks_any ⟨kind, B, args, cap, vn, ve, un, ue⟩ _).mono ?_
                rintro e w5 ⟨he, hb5⟩
                have HPR := Lib.hid (show args = preds bs i from (by rw [preds_of HX.out]; exact (if_neg HK0.out).symm))
                obtain ⟨xs, A7, c7, hxs, rfl, hc7⟩ : ∃ (xs : List Int) (A7 : Option Addr) (c7 : Nat), xs = preds bs i ∧ e = .returned (.slice A7 xs.length c7) ∧ CellsAt wr m A7 (ints xs) := ⟨args, B, cap, HPR.out, by rw [he]; unfold blkV; rw [if_neg HK0.out], HA.out⟩
                clear HPR
                clear he
                have HXS := Lib.hid hxs
                have hxl : xs.length ≤ 1000000 := by rw [hxs]; exact HPL.out
                clear hxs
                have HB5 := Lib.hid (Below.trans (((Below.refl (w.heap.size + 1) wr).setCell (p := ⟨(w.heap.size + 1), i, none⟩) (Nat.le_refl _) (.bool false)).alloc (by show (w.heap.size + 1) ≤ (wr.setCell _ _).heap.size; simp; omega) (.cells #[.int .i64 kind, .slice B args.length cap, .int .i64 vn, .int .i64 ve, .int .i64 un, .int .i64 ue] 44)) (hb5.mono (by simp; omega)))
                have HC7 := Lib.hid (hc7.below HB5.out (by have := hb.size; omega))
                have R5 := Lib.hid (((HR.out.setB i false HM.out).al (.cells #[.int .i64 kind, .slice B args.length cap, .int .i64 vn, .int .i64 ve, .int .i64 un, .int .i64 ue] 44)).call hb5)
                have X5 := Lib.hid (HB.out.below HB5.out (by omega))
                have N5 := Lib.hid (hb.trans (HB5.out.mono (by omega)))
                clear hb5 hc7 hb HR HB HB5
                clear fm
                go_wp2_with fail
                go_loopw [47] (fun v wr => vr1 w [.slice A1 ps.length c1, .slice (some ⟨b, off, none⟩) bs.length c2, .slice A3 os.length c3] xs.length (vT bs mi i) v wr) (fun v _ => xs.length - (intOf v).toNat)
                case atStart => exact ⟨0, Nat.zero_le _, rfl, R5.out, X5.out, N5.out⟩
                case round =>
                  as_aux_lemma =>
                  obtain ⟨t, ht, rfl, hr, hx, hb⟩ := hrel
                  have HR := Lib.hid hr
                  have HB := Lib.hid hx
                  have zg : (w.heap.size + 1) < wr.heap.size := hr.lt
                  have z0 : w.heap.size < wr.heap.size := hx.lt
                  have ff := hr.free
                  have hni : w.heap.size + 1 ≠ w.heap.size := by omega
                  have fm : wr.cell? ⟨(w.heap.size + 1), i, none⟩ = some (.bool (isM (vT bs mi i t) i)) := by rw [HR.out.cell, bools_get (by rw [vT_len, HMN.out]; exact hil)]
                  clear hr hx
                  by_cases hlt : t < xs.length
                  · have hti : (t : Int) < (xs.length : Int) := by omega
                    obtain ⟨ab, ao, z, hA7, hab, hab2, hz, gz⟩ := CellsAt.int_ (HC7.out.two N5.out hb hm) hlt
                    subst hA7
                    have hz' : (preds bs i)[t]? = some z := by rw [← HXS.out]; exact hz
                    have hzb := HOK.out i hil z (List.mem_of_getElem? hz')
                    obtain ⟨a, rfl⟩ := Int.eq_ofNat_of_zero_le hzb.1
                    have haN : a < bs.length := by have := hzb.2; omega
                    have haI : (a : Int) < (bs.length : Int) := hzb.2
                    have HZ := Lib.hid hz'
                    clear hz hz' hzb
                    cases hmt : isM (vT bs mi i t) i with
                    | true =>
                      rw [hmt] at fm
                      have HS := Lib.hid (vT_succ (bs := bs) (m := mi) (i := i) (t := t) (by rw [HMN.out]; exact hil) HZ.out)
                      rw [hmt, Bool.true_or] at HS
                      clear hmt
                      go_wp2_with fail
                      exact ⟨⟨t + 1, by omega, by go_num, HR.out.setB i true HS.out, HB.out.other_ (by omega) i (.bool true), hb.setCell (p := ⟨(w.heap.size + 1), i, none⟩) (by show w.heap.size ≤ w.heap.size + 1; omega) (.bool true)⟩, by simp [intOf]; omega⟩
                    | false =>
                      rw [hmt] at fm
                      have HS := Lib.hid (vT_succ (bs := bs) (m := mi) (i := i) (t := t) (by rw [HMN.out]; exact hil) HZ.out)
                      rw [hmt, Bool.false_or, Int.toNat_natCast] at HS
                      have hca : wr.cell? ⟨(w.heap.size + 1), a, none⟩ = some (.bool (isM (vT bs mi i t) a)) := by rw [HR.out.cell, bools_get (by rw [vT_len, HMN.out]; exact haN)]
                      clear hmt
                      obtain ⟨va, hva⟩ : ∃ va, va = isM (vT bs mi i t) a := ⟨_, rfl⟩
                      rw [← hva] at hca HS
                      clear hva
                      go_wp2_with fail
                      exact ⟨⟨t + 1, by omega, by go_num, HR.out.setB i va HS.out, HB.out.other_ (by omega) i (.bool va), hb.setCell (p := ⟨(w.heap.size + 1), i, none⟩) (by show w.heap.size ≤ w.heap.size + 1; omega) (.bool va)⟩, by simp [intOf]; omega⟩
                  · have e5 : vT bs mi i t = vFold bs mk (i + 1) := by rw [vFold_succ, ← HMIF.out]; exact vT_done (by rw [← HXS.out]; omega)
                    have hne : ¬ (t : Int) < (xs.length : Int) := by omega
                    go_wp2_with fail
                    exact ⟨⟨i + 1, by omega, by go_num, by rw [← e5]; exact HR.out, HB.out, hb⟩, by simp [intOf]; omega⟩
        · have e : i = bs.length := by omega
          subst e
          go_wp2_with fail
          rw [HMK.out] at HR
          exact ⟨⟨k + 1, by omega, by go_num, HR.out, HB.out, hb⟩, by simp [intOf]; omega⟩
    · as_aux_lemma =>
      have e : k = bs.length := by omega
      subst e
      go_wp2_with fail
      rw [HM0.out] at HR
      have HVL := Lib.hid (show (varyM bs).length = bs.length by unfold varyM; rw [vPass_len]; simp)
      have HR : Hid (RowD wr (w.heap.size + 1) (bools (varyM bs)) 4) := HR
      go_loopw [70] (fun v wr => vr4 w [.slice A1 ps.length c1, .slice A2 bs.length c2, .slice A3 os.length c3] bs v wr) (fun v _ => bs.length - (intOf v).toNat)
      case atStart => exact ⟨0, Nat.zero_le _, rfl, NoAff.zero _, HR.out, HB.out, hb⟩
      case round =>
        as_aux_lemma =>
        clear HR HB hb b1 z0
        obtain ⟨k, hk, rfl, hn, hr, hx, hb⟩ := hrel
        have HN := Lib.hid hn
        have HR := Lib.hid hr
        have HB := Lib.hid hx
        have z0 := hx.lt
        have zg : (w.heap.size + 1) < wr.heap.size := hr.lt
        clear hn hr hx
        by_cases hlt : k < bs.length
        · have hki : (k : Int) < (bs.length : Int) := by omega
          obtain ⟨b, off, kind, B, args, cap, vn, ve, un, ue, hA2, hbm, hbs, hx, g0, g1, g2, g3, g4, g5, ha, hl⟩ := (HD.out.below hb hm).blk hlt
          dsimp only at hA2 hx
          subst hA2
          have HX := Lib.hid hx
          clear hx hl
          by_cases k8 : kind = 8
          · subst k8
            have HAF := Lib.hid (affB_hit hlt (show nonAff bs k = true by unfold nonAff; rw [kind_of HX.out]; rfl))
            clear ha
            go_wp2_with fail
            go_ret
            exact ⟨ret_bool HAF.out.symm, ext_alloc hb _⟩
          · by_cases k9 : kind = 9
            · subst k9
              have HAF := Lib.hid (affB_hit hlt (show nonAff bs k = true by unfold nonAff; rw [kind_of HX.out]; rfl))
              clear ha
              go_wp2_with fail
              go_ret
              exact ⟨ret_bool HAF.out.symm, ext_alloc hb _⟩
            · by_cases k10 : kind = 10
              · subst k10
                have HAF := Lib.hid (affB_hit hlt (show nonAff bs k = true by unfold nonAff; rw [kind_of HX.out]; rfl))
                clear ha
                go_wp2_with fail
                go_ret
                exact ⟨ret_bool HAF.out.symm, ext_alloc hb _⟩
              · by_cases k11 : kind = 11
                · subst k11
                  have HAF := Lib.hid (affB_hit hlt (show nonAff bs k = true by unfold nonAff; rw [kind_of HX.out]; rfl))
                  clear ha
                  go_wp2_with fail
                  go_ret
                  exact ⟨ret_bool HAF.out.symm, ext_alloc hb _⟩
                · by_cases k7 : kind = 7
                  · as_aux_lemma =>
                    subst k7
                    obtain ⟨z0, z1, hargs, hz0, hz1⟩ := two_args (dg_blk HE.out HX.out) rfl
                    dsimp only at hargs
                    subst hargs
                    obtain ⟨z0, rfl⟩ := Int.eq_ofNat_of_zero_le hz0.1
                    obtain ⟨z1, rfl⟩ := Int.eq_ofNat_of_zero_le hz1.1
                    have hl0 : z0 < bs.length := by have := hz0.2; omega
                    have hl1 : z1 < bs.length := by have := hz1.2; omega
                    have hi0 : (z0 : Int) < (bs.length : Int) := hz0.2
                    have hi1 : (z1 : Int) < (bs.length : Int) := hz1.2
                    obtain ⟨ab, ao, y0, rfl, hab, hab2, hy0, gz0⟩ := CellsAt.int_ ha (k := 0) (by simp)
                    obtain ⟨ab', ao', y1, hA', _, _, hy1, gz1⟩ := CellsAt.int_ ha (k := 1) (by simp)
                    cases hA'
                    simp at hy0 hy1
                    subst hy0 hy1
                    rw [Nat.add_zero] at gz0
                    clear hz0 hz1 ha
                    have hc0 : wr.cell? ⟨(w.heap.size + 1), z0, none⟩ = some (.bool (isM (varyM bs) z0)) := by rw [HR.out.cell, bools_get (by rw [HVL.out]; exact hl0)]
                    have hc1 : wr.cell? ⟨(w.heap.size + 1), z1, none⟩ = some (.bool (isM (varyM bs) z1)) := by rw [HR.out.cell, bools_get (by rw [HVL.out]; exact hl1)]
                    cases hv0 : isM (varyM bs) z0 with
                    | false =>
                      rw [hv0] at hc0

                      have HNA := Lib.hid (show nonAff bs k = false by unfold nonAff; rw [kind_of HX.out, args_of HX.out]; show (false || (isM (varyM bs) z0 && isM (varyM bs) z1)) = false; rw [hv0]; rfl)
                      clear hv0 
                      go_wp2_with fail
                      exact ⟨⟨k + 1, by omega, by go_num, HN.out.succ HNA.out, HR.out.call (al_ _ _), HB.out.call (al_ _ _), ext_alloc hb _⟩, by simp [intOf]; omega⟩
                    | true =>
                      cases hv1 : isM (varyM bs) z1 with
                      | false =>
                        rw [hv0] at hc0
                        rw [hv1] at hc1
                        have HNA := Lib.hid (show nonAff bs k = false by unfold nonAff; rw [kind_of HX.out, args_of HX.out]; show (false || (isM (varyM bs) z0 && isM (varyM bs) z1)) = false; rw [hv0, hv1]; rfl)
                        clear hv0 hv1
                        go_wp2_with fail
                        exact ⟨⟨k + 1, by omega, by go_num, HN.out.succ HNA.out, HR.out.call (al_ _ _), HB.out.call (al_ _ _), ext_alloc hb _⟩, by simp [intOf]; omega⟩
                      | true =>
                        rw [hv0] at hc0
                        rw [hv1] at hc1
                        have HNA := Lib.hid (show nonAff bs k = true by unfold nonAff; rw [kind_of HX.out, args_of HX.out]; show (false || (isM (varyM bs) z0 && isM (varyM bs) z1)) = true; rw [hv0, hv1]; rfl)
                        clear hv0 hv1
                        go_wp2_with fail
                        go_ret
                        exact ⟨ret_bool (affB_hit hlt HNA.out).symm, ext_alloc hb _⟩
                  · as_aux_lemma =>
                    have n8 : (kind == 8) = false := by simpa using k8
                    have n9 : (kind == 9) = false := by simpa using k9
                    have n10 : (kind == 10) = false := by simpa using k10
                    have n11 : (kind == 11) = false := by simpa using k11
                    have n7 : (kind == 7) = false := by simpa using k7
                    have HNA := Lib.hid (show nonAff bs k = false by unfold nonAff; rw [kind_of HX.out, n8, n9, n10, n11, n7]; rfl)
                    clear k7 k8 k9 k10 k11 ha
                    go_wp2_with fail
                    exact ⟨⟨k + 1, by omega, by go_num, HN.out.succ HNA.out, HR.out.call (al_ _ _), HB.out.call (al_ _ _), ext_alloc hb _⟩, by simp [intOf]; omega⟩
        · have e : k = bs.length := by omega
          subst e
          have HAF := Lib.hid (affB_all HN.out)
          go_wp2_with fail
          go_ret
          exact ⟨ret_bool HAF.out.symm, hb⟩
end Go.Proofs.YtaheedieingpiaaDoor
