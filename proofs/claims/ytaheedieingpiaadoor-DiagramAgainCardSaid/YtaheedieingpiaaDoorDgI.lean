/- The document's marking, pass after pass. Condition: arguments that are blocks lie within the list. -/
import Derived.Test.YtaheedieingpiaaDoorDgH
namespace Go.Proofs.YtaheedieingpiaaDoor
set_option linter.unusedVariables false
set_option linter.unusedSimpArgs false
set_option linter.unusedSectionVars false
open Go.RowKit

theorem passes_succ (bs : List Bk) (over : Bool) : ∀ (k : Nat) (m : List Bool), passes bs over (k + 1) m = passM bs over (passes bs over k m)
  | 0, _ => rfl
  | k + 1, m => passes_succ bs over k (passM bs over m)
def foldI (bs : List Bk) (over : Bool) (m : List Bool) (i : Nat) : List Bool := (List.range i).foldl (pass1 bs over) m
theorem foldI_succ (bs : List Bk) (over : Bool) (m : List Bool) (i : Nat) : foldI bs over m (i + 1) = pass1 bs over (foldI bs over m i) i := by unfold foldI; rw [List.range_succ, List.foldl_append]; rfl
theorem foldI_len (bs : List Bk) (over : Bool) (m : List Bool) (i : Nat) : (foldI bs over m i).length = m.length := foldP_len _ _ _ _
def setsT (xs : List Int) (c : List Bool) (t : Nat) : List Bool := (xs.take t).foldl (fun m a => m.set a.toNat true) c
theorem setsT_succ {xs : List Int} {c : List Bool} {t : Nat} {a : Int} (h : xs[t]? = some a) : setsT xs c (t + 1) = (setsT xs c t).set a.toNat true := by
  unfold setsT
  rw [List.take_add_one, h, List.foldl_append]
  rfl
theorem setsT_len (xs : List Int) (c : List Bool) (t : Nat) : (setsT xs c t).length = c.length := foldSet_len _ _
theorem setsT_all {bs : List Bk} {over : Bool} {c : List Bool} {i t : Nat} (hm : isM c i = true) (ht : (succs bs over i).length ≤ t) : setsT (succs bs over i) c t = pass1 bs over c i := by
  unfold setsT pass1
  rw [if_pos hm, List.take_of_length_le ht]
theorem pass1_no {bs : List Bk} {over : Bool} {c : List Bool} {i : Nat} (hm : isM c i = false) : pass1 bs over c i = c := by unfold pass1; rw [if_neg (by rw [hm]; decide)]
theorem pass1_nil {bs : List Bk} {over : Bool} {c : List Bool} {i : Nat} (hs : succs bs over i = []) : pass1 bs over c i = c := by unfold pass1; rw [hs]; split <;> rfl
def NeedP (bs : List Bk) (over : Bool) (l : List Bool) (g : Nat) (w : World) (e : Ending) (w' : World) : Prop :=
  e = .returned (.slice (some ⟨g, 0, none⟩) bs.length bs.length) ∧ RowD w' g (bools (passes bs over bs.length l)) 4 ∧ Apart g w w'
def nd1 (bs : List Bk) (over : Bool) (l : List Bool) (g : Nat) (w : World) (vs : List Value) (v : Value) (wr : World) : Prop :=
  ∃ k : Nat, k ≤ bs.length ∧ v = .int .i64 (k : Int) ∧ RowD wr g (bools (passes bs over k l)) 4 ∧ RowD wr w.heap.size vs 26 ∧ Apart g w wr
def nd2 (bs : List Bk) (over : Bool) (l : List Bool) (g : Nat) (w : World) (vs : List Value) (v : Value) (wr : World) : Prop :=
  ∃ i : Nat, i ≤ bs.length ∧ v = .int .i64 (i : Int) ∧ RowD wr g (bools (foldI bs over l i)) 4 ∧ RowD wr w.heap.size vs 26 ∧ Apart g w wr
def nd3 (xs : List Int) (c : List Bool) (g : Nat) (w : World) (vs : List Value) (v : Value) (wr : World) : Prop :=
  ∃ t : Nat, t ≤ xs.length ∧ v = .int .i64 (t : Int) ∧ RowD wr g (bools (setsT xs c t)) 4 ∧ RowD wr w.heap.size vs 26 ∧ Apart g w wr
set_option maxRecDepth 100000 in
set_option maxHeartbeats 4000000 in
theorem needed_any (d : Dg) (m g : Nat) (over : Bool) (l : List Bool) (w : World) (hmg : m ≤ g) (hok : SuccOk d.bs) (hll : l.length = d.bs.length) (hm : m ≤ w.heap.size) (hd : DgAt w m d) (hrow : RowD w g (bools l) 4) :
    Calls Tryd.prog 36 #[d.val, .slice (some ⟨g, 0, none⟩) d.bs.length d.bs.length, .bool over] w (NeedP d.bs over l g w) := by
  have h2 := hd.l2
  have hgl := hrow.lt
  have HR := Lib.hid hrow
  have HD := Lib.hid hd
  have HL := Lib.hid hll
  have HOK := Lib.hid hok
  clear hrow hok hll hd
  obtain ⟨A1, ps, c1, A2, bs, c2, A3, os, c3⟩ := d
  dsimp only at h2 HOK HL
  simp only [Dg.val]
  have r0 := RowD.new_ w [.slice A1 ps.length c1, .slice A2 bs.length c2, .slice A3 os.length c3] 26
  have r1 := HR.out.call (al_ _ (.cells #[.slice A1 ps.length c1, .slice A2 bs.length c2, .slice A3 os.length c3] 26))
  have p0 : Apart g w (w.alloc (.cells #[.slice A1 ps.length c1, .slice A2 bs.length c2, .slice A3 os.length c3] 26)) := Apart.of (al_ _ _)
  go_enter Tryd.func36, Tryd.ntmps36
  go_wp2_with fail
  obtain ⟨W, hW⟩ : ∃ W, W = (w.alloc (.cells #[.slice A1 ps.length c1, .slice A2 bs.length c2, .slice A3 os.length c3] 26)) := ⟨_, rfl⟩
  rw [← hW]
  rw [← hW] at r0 r1 p0
  clear hW
  go_loopw [14] (fun v wr => nd1 bs over l g w [.slice A1 ps.length c1, .slice A2 bs.length c2, .slice A3 os.length c3] v wr) (fun v _ => bs.length - (intOf v).toNat)
  case atStart => exact ⟨0, Nat.zero_le _, rfl, r1, r0, p0⟩
  case round =>
    as_aux_lemma =>
      clear r1 r0 p0
      obtain ⟨k, hk, rfl, hrow, hbox, hap⟩ := hrel
      have HR := Lib.hid hrow
      have HB := Lib.hid hbox
      have HP := Lib.hid hap
      have b1 : wr.cell? ⟨w.heap.size, 1, none⟩ = some (.slice A2 bs.length c2) := hbox.cell 1
      have z0 := hbox.lt
      clear hrow hbox hap
      by_cases hlt : k < bs.length
      · go_wp2_with fail
        clear b1 z0
        obtain ⟨w1, hw1⟩ : ∃ w1, w1 = wr := ⟨_, rfl⟩
        rw [← hw1] at HR HB HP
        rw [← hw1]
        clear hw1
        obtain ⟨lk, hlk⟩ : ∃ lk, lk = passes bs over k l := ⟨_, rfl⟩
        have HLK := Lib.hid hlk
        have hll : lk.length = bs.length := by rw [hlk, passes_len]; exact HL.out
        have HLL := Lib.hid hll
        rw [← hlk] at HR
        clear hlk hll
        go_loopw [19] (fun v wr => nd2 bs over lk g w [.slice A1 ps.length c1, .slice A2 bs.length c2, .slice A3 os.length c3] v wr) (fun v _ => bs.length - (intOf v).toNat)
        case atStart => exact ⟨0, Nat.zero_le _, rfl, HR.out, HB.out, HP.out⟩
        case round =>
          as_aux_lemma =>
            clear HR HB HP
            obtain ⟨i, hi, rfl, hrow, hbox, hap⟩ := hrel
            have hgl2 := hrow.lt
            have HR := Lib.hid hrow
            have HB := Lib.hid hbox
            have HP := Lib.hid hap
            have z0 := hbox.lt
            clear hrow hbox hap
            by_cases hil : i < bs.length
            · obtain ⟨b, off, kind, A, args, cap, vn, ve, un, ue, hA, hbm, hbs, hx, g0, g1, g2, g3, g4, g5, ha, hl⟩ := (HD.out.below (HP.out.below hmg hm) (Nat.le_refl _)).blk hil
              dsimp only at hA hx
              subst hA
              have hln : (succs bs over i).length ≤ 1000000 := succs_len hx hl
              have HX := Lib.hid hx
              have HA := Lib.hid ha
              have fm : wr.cell? ⟨g, i, none⟩ = some (.bool (isM (foldI bs over lk i) i)) := by
                rw [HR.out.cell, bools_get (by rw [foldI_len, HLL.out]; exact hil)]
              clear ha hl
              have hil' : (i : Int) < (bs.length : Int) := by omega
              have hgb : g ≠ w.heap.size := by omega
              cases hmk : isM (foldI bs over lk i) i with
              | false =>
                have HMK := Lib.hid hmk
                rw [hmk] at fm
                clear hmk hx
                go_wp2_with fail
                exact ⟨⟨i + 1, by omega, by go_num, by rw [foldI_succ, pass1_no HMK.out]; exact HR.out.call (al_ _ _), HB.out.call (al_ _ _), HP.out.trans (Apart.of (al_ _ _))⟩, by simp [intOf]; omega⟩
              | true =>
                have HMK := Lib.hid hmk
                rw [hmk] at fm
                clear hmk hx
                by_cases hk2 : kind = 2
                · subst hk2
                  cases over with
                  | false =>
                    have hs : succs bs false i = [] := by
                      rw [succs_of HX.out]
                      simp
                    have HS := Lib.hid hs
                    clear hs
                    go_wp2_with fail
                    exact ⟨⟨i + 1, by omega, by go_num, by rw [foldI_succ, pass1_nil HS.out]; exact HR.out.call (al_ _ _), HB.out.call (al_ _ _), HP.out.trans (Apart.of (al_ _ _))⟩, by simp [intOf]; omega⟩
                  | true =>
                    have hs : args = succs bs true i := by
                      rw [succs_of HX.out]
                      simp
                    have HS : Hid (CellsAt wr m A (ints (succs bs true i))) := by rw [← hs]; exact HA
                    have HE := Lib.hid hs
                    clear hs
                    go_wp2_with fail
                    go_at_call 41
                    refine (blocks_any ⟨2, A, args, cap, vn, ve, un, ue⟩ _).mono ?_
                    rintro e w5 ⟨he, hb5⟩
                    obtain rfl := he.trans (show _ = Ending.returned (.slice A (succs bs true i).length cap) by unfold blkV; rw [if_neg (by show ¬ (2 : Int) = 0; decide)]; rw [HE.out])
                    clear he
                    have R5 := Lib.hid ((HR.out.call (al_ _ _)).call hb5)
                    have B5 := Lib.hid ((HB.out.call (al_ _ _)).call hb5)
                    have P5 := Lib.hid ((HP.out.trans (Apart.of (al_ _ _))).trans (Apart.of hb5))
                    clear hb5 fm g0 g1 g2 g3 g4 g5 z0
                    go_wp2_with fail
                    go_loopw [41] (fun v wr => nd3 (succs bs true i) (foldI bs true lk i) g w [.slice A1 ps.length c1, .slice (some ⟨b, off, none⟩) bs.length c2, .slice A3 os.length c3] v wr) (fun v _ => (succs bs true i).length - (intOf v).toNat)
                    case atStart => exact ⟨0, Nat.zero_le _, rfl, R5.out, B5.out, P5.out⟩
                    case round =>
                      as_aux_lemma =>
                        clear R5 B5
                        obtain ⟨t, ht, rfl, hrow, hbox, hap⟩ := hrel
                        have HR6 := Lib.hid hrow
                        have HB6 := Lib.hid hbox
                        have HP6 := Lib.hid hap
                        have z1 := hrow.lt
                        have f0 := hrow.free
                        clear hrow hbox hap
                        by_cases hlt : t < (succs bs true i).length
                        · obtain ⟨ab, ao, z, rfl, hab, hab2, hz, hzc⟩ := (CellsAt.below2 HS.out HP.out HP6.out hmg hm).int_ hlt
                          have hzb := HOK.out i hil z (succs_preds (List.mem_of_getElem? hz))
                          obtain ⟨a, rfl⟩ := Int.eq_ofNat_of_zero_le hzb.1
                          have ha : a < bs.length := by have := hzb.2; omega
                          have HZ := Lib.hid hz
                          have fc : wr.cell? ⟨g, a, none⟩ = some (.bool (isM (setsT (succs bs true i) (foldI bs true lk i) t) a)) := by
                            rw [HR6.out.cell, bools_get (by rw [setsT_len, foldI_len, HLL.out]; exact ha)]
                          have hai : (a : Int) < (bs.length : Int) := by omega
                          clear hz hzb
                          go_wp2_with fail
                          exact ⟨⟨t + 1, by omega, by go_num, by rw [setsT_succ HZ.out, Int.toNat_natCast, bools_set]; exact HR6.out.set_ a (.bool true), HB6.out.other_ (by omega) a (.bool true), HP6.out.trans (Apart.set _)⟩, by simp [intOf]; omega⟩
                        · go_wp2_with fail
                          exact ⟨⟨i + 1, by omega, by go_num, by rw [foldI_succ, ← setsT_all HMK.out (t := t) (by omega)]; exact HR6.out, HB6.out, HP6.out⟩, by simp [intOf]; omega⟩
                · have hkb : (kind == 2) = false := by simpa using hk2
                  by_cases hk0 : kind = 0
                  · subst hk0
                    have hs : succs bs over i = [] := by
                      rw [succs_of HX.out]
                      simp
                    obtain ⟨X, hX⟩ : ∃ X : Option Addr, X = none := ⟨_, rfl⟩
                    have HXN := Lib.hid hX
                    clear hX
                    have HS : Hid (CellsAt wr m X (ints (succs bs over i))) := by rw [hs]; exact CellsAt.nil_
                    have HE := Lib.hid hs
                    clear hs
                    go_wp2_with fail
                    go_at_call 41
                    refine (blocks_any ⟨0, A, args, cap, vn, ve, un, ue⟩ _).mono ?_
                    rintro e w5 ⟨he, hb5⟩
                    obtain rfl := he.trans (show _ = Ending.returned (.slice X (succs bs over i).length 0) by unfold blkV; rw [if_pos rfl, HE.out, HXN.out]; rfl)
                    clear he
                    have R5 := Lib.hid ((HR.out.call (al_ _ _)).call hb5)
                    have B5 := Lib.hid ((HB.out.call (al_ _ _)).call hb5)
                    have P5 := Lib.hid ((HP.out.trans (Apart.of (al_ _ _))).trans (Apart.of hb5))
                    clear hb5 fm g0 g1 g2 g3 g4 g5 z0
                    go_wp2_with fail
                    go_loopw [41] (fun v wr => nd3 (succs bs over i) (foldI bs over lk i) g w [.slice A1 ps.length c1, .slice (some ⟨b, off, none⟩) bs.length c2, .slice A3 os.length c3] v wr) (fun v _ => (succs bs over i).length - (intOf v).toNat)
                    case atStart => exact ⟨0, Nat.zero_le _, rfl, R5.out, B5.out, P5.out⟩
                    case round =>
                      as_aux_lemma =>
                        clear R5 B5
                        obtain ⟨t, ht, rfl, hrow, hbox, hap⟩ := hrel
                        have HR6 := Lib.hid hrow
                        have HB6 := Lib.hid hbox
                        have HP6 := Lib.hid hap
                        have z1 := hrow.lt
                        have f0 := hrow.free
                        clear hrow hbox hap
                        by_cases hlt : t < (succs bs over i).length
                        · obtain ⟨ab, ao, z, rfl, hab, hab2, hz, hzc⟩ := (CellsAt.below2 HS.out HP.out HP6.out hmg hm).int_ hlt
                          have hzb := HOK.out i hil z (succs_preds (List.mem_of_getElem? hz))
                          obtain ⟨a, rfl⟩ := Int.eq_ofNat_of_zero_le hzb.1
                          have ha : a < bs.length := by have := hzb.2; omega
                          have HZ := Lib.hid hz
                          have fc : wr.cell? ⟨g, a, none⟩ = some (.bool (isM (setsT (succs bs over i) (foldI bs over lk i) t) a)) := by
                            rw [HR6.out.cell, bools_get (by rw [setsT_len, foldI_len, HLL.out]; exact ha)]
                          have hai : (a : Int) < (bs.length : Int) := by omega
                          clear hz hzb
                          go_wp2_with fail
                          exact ⟨⟨t + 1, by omega, by go_num, by rw [setsT_succ HZ.out, Int.toNat_natCast, bools_set]; exact HR6.out.set_ a (.bool true), HB6.out.other_ (by omega) a (.bool true), HP6.out.trans (Apart.set _)⟩, by simp [intOf]; omega⟩
                        · go_wp2_with fail
                          exact ⟨⟨i + 1, by omega, by go_num, by rw [foldI_succ, ← setsT_all HMK.out (t := t) (by omega)]; exact HR6.out, HB6.out, HP6.out⟩, by simp [intOf]; omega⟩
                  · have hs : args = succs bs over i := by
                      rw [succs_of HX.out]
                      simp [hk2, hk0]
                    have HS : Hid (CellsAt wr m A (ints (succs bs over i))) := by rw [← hs]; exact HA
                    have HE := Lib.hid hs
                    have HK0 := Lib.hid hk0
                    clear hs hk0 hk2
                    go_wp2_with fail
                    go_at_call 41
                    refine (blocks_any ⟨kind, A, args, cap, vn, ve, un, ue⟩ _).mono ?_
                    rintro e w5 ⟨he, hb5⟩
                    obtain rfl := he.trans (show _ = Ending.returned (.slice A (succs bs over i).length cap) by unfold blkV; rw [if_neg HK0.out]; rw [HE.out])
                    clear he
                    have R5 := Lib.hid ((HR.out.call (al_ _ _)).call hb5)
                    have B5 := Lib.hid ((HB.out.call (al_ _ _)).call hb5)
                    have P5 := Lib.hid ((HP.out.trans (Apart.of (al_ _ _))).trans (Apart.of hb5))
                    clear hb5 fm g0 g1 g2 g3 g4 g5 z0
                    go_wp2_with fail
                    go_loopw [41] (fun v wr => nd3 (succs bs over i) (foldI bs over lk i) g w [.slice A1 ps.length c1, .slice (some ⟨b, off, none⟩) bs.length c2, .slice A3 os.length c3] v wr) (fun v _ => (succs bs over i).length - (intOf v).toNat)
                    case atStart => exact ⟨0, Nat.zero_le _, rfl, R5.out, B5.out, P5.out⟩
                    case round =>
                      as_aux_lemma =>
                        clear R5 B5
                        obtain ⟨t, ht, rfl, hrow, hbox, hap⟩ := hrel
                        have HR6 := Lib.hid hrow
                        have HB6 := Lib.hid hbox
                        have HP6 := Lib.hid hap
                        have z1 := hrow.lt
                        have f0 := hrow.free
                        clear hrow hbox hap
                        by_cases hlt : t < (succs bs over i).length
                        · obtain ⟨ab, ao, z, rfl, hab, hab2, hz, hzc⟩ := (CellsAt.below2 HS.out HP.out HP6.out hmg hm).int_ hlt
                          have hzb := HOK.out i hil z (succs_preds (List.mem_of_getElem? hz))
                          obtain ⟨a, rfl⟩ := Int.eq_ofNat_of_zero_le hzb.1
                          have ha : a < bs.length := by have := hzb.2; omega
                          have HZ := Lib.hid hz
                          have fc : wr.cell? ⟨g, a, none⟩ = some (.bool (isM (setsT (succs bs over i) (foldI bs over lk i) t) a)) := by
                            rw [HR6.out.cell, bools_get (by rw [setsT_len, foldI_len, HLL.out]; exact ha)]
                          have hai : (a : Int) < (bs.length : Int) := by omega
                          clear hz hzb
                          go_wp2_with fail
                          exact ⟨⟨t + 1, by omega, by go_num, by rw [setsT_succ HZ.out, Int.toNat_natCast, bools_set]; exact HR6.out.set_ a (.bool true), HB6.out.other_ (by omega) a (.bool true), HP6.out.trans (Apart.set _)⟩, by simp [intOf]; omega⟩
                        · go_wp2_with fail
                          exact ⟨⟨i + 1, by omega, by go_num, by rw [foldI_succ, ← setsT_all HMK.out (t := t) (by omega)]; exact HR6.out, HB6.out, HP6.out⟩, by simp [intOf]; omega⟩
            · go_wp2_with fail
              have e : i = bs.length := by omega
              subst e
              exact ⟨⟨k + 1, by omega, by go_num, by rw [passes_succ, ← HLK.out]; exact HR.out, HB.out, HP.out⟩, by simp [intOf]; omega⟩
      · go_wp2_with fail
        have e : k = bs.length := by omega
        subst e
        go_ret
        exact ⟨rfl, HR.out, HP.out⟩
end Go.Proofs.YtaheedieingpiaaDoor
