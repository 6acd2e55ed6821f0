/- Ranges of a diagram: what is wrong with them. Conditions: lists not too long; the table of math/bits stands in block 0. The chosen scales. Conditions: lists not too long; the table of math/bits stands in block 0. -/
import Derived.Test.YtejnnljjmafjaaaDoorPvE
import Derived.Test.YtejnnljjmafjaaaDoorDgQ
import Derived.Test.YtejnnljjmafjaaaDoorDgV
import Derived.Test.YtejnnljjmafjaaaDoorOwn
namespace Go.Proofs.YtejnnljjmafjaaaDoor
set_option linter.unusedVariables false
set_option linter.unusedSimpArgs false
set_option linter.unusedSectionVars false
open Go.RowKit

/-- Intervals in a row. -/
structure IvsAt (w : World) (m : Nat) (A : Option Addr) (l : List Iv) : Prop where
  cells : CellsAt w m A (flat Iv.cells l)
  each : ∀ a ∈ l, IvAt w m a ∧ a.lo.ws.length ≤ 10000 ∧ a.hi.ws.length ≤ 10000
theorem IvsAt.below {w w' : World} {m B : Nat} {A : Option Addr} {l : List Iv} (h : IvsAt w m A l) (hb : Below B w w') (hm : m ≤ B) : IvsAt w' m A l :=
  ⟨h.cells.below hb hm, fun r hr => ⟨(h.each r hr).1.below hb hm, (h.each r hr).2⟩⟩
theorem IvsAt.more {w : World} {m m' : Nat} {A : Option Addr} {l : List Iv} (h : IvsAt w m A l) (hm : m ≤ m') : IvsAt w m' A l :=
  ⟨h.cells.more hm, fun r hr => ⟨(h.each r hr).1.more hm, (h.each r hr).2⟩⟩
/-- What is wrong with ranges. -/
def gvErr (n : Nat) (R : List Iv) : Int := if R.length = n then (if R.all ivB = true then 0 else 2) else 11
def gvE (d : Dg) (R : List Iv) : Int := if dgErr d.ps d.bs d.os = 0 then gvErr d.bs.length R else dgErr d.ps d.bs d.os
theorem gv_e0 {d : Dg} {R : List Iv} {E : Int} (h : dgErr d.ps d.bs d.os = E) (he : ¬ E = 0) : gvE d R = E := by unfold gvE; rw [h, if_neg he]
theorem gv_e1 {d : Dg} {R : List Iv} (h : dgErr d.ps d.bs d.os = 0) : gvE d R = gvErr d.bs.length R := by unfold gvE; rw [if_pos h]
theorem gv_1 {n : Nat} {R : List Iv} (h : ¬ R.length = n) : gvErr n R = 11 := if_neg h
theorem gv_2 {n k : Nat} {R : List Iv} {y : Iv} (h : R.length = n) (hy : R[k]? = some y) (hv : ivB y = false) : gvErr n R = 2 := by
  unfold gvErr
  rw [if_pos h, if_neg]
  intro ha
  have := List.all_eq_true.1 ha y (List.mem_of_getElem? hy)
  rw [hv] at this
  cases this
theorem gv_3 {n : Nat} {R : List Iv} (h : R.length = n) (hv : R.all ivB = true) : gvErr n R = 0 := by unfold gvErr; rw [if_pos h, if_pos hv]
theorem gv_ok {n : Nat} {R : List Iv} (h : gvErr n R = 0) : R.length = n ∧ R.all ivB = true := by
  unfold gvErr at h
  by_cases h1 : R.length = n
  · rw [if_pos h1] at h
    by_cases h2 : R.all ivB = true
    · exact ⟨h1, h2⟩
    · rw [if_neg h2] at h; cases h
  · rw [if_neg h1] at h; cases h
def ckRel (w : World) (R : List Iv) (i : Value) (wr : World) : Prop := ∃ k : Nat, k ≤ R.length ∧ i = .int .i64 (k : Int) ∧ (R.take k).all ivB = true ∧ Below w.heap.size w wr
set_option maxRecDepth 100000 in
set_option maxHeartbeats 4000000 in
theorem pgiven_any (d : Dg) (A : Option Addr) (R : List Iv) (c m : Nat) (w : World) (hm : m ≤ w.heap.size) (hd : DgAt w m d) (hR : IvsAt w m A R) (hn : R.length ≤ 1000000) (ht : TabAt w) :
    Calls Tryd.prog 33 #[d.val, .slice A R.length c] w fun e w' => e = .returned (errV (gvE d R)) ∧ Below w.heap.size w w' := by
  have hl2 := hd.l2
  have HD := Lib.hid hd
  have HR := Lib.hid hR
  have HT := Lib.hid ht
  clear hd hR ht
  obtain ⟨A1, ps, c1, A2, bs, c2, A3, os, c3⟩ := d
  dsimp only at hl2
  simp only [Dg.val]
  have R0 := Lib.hid (RowD.new_ w [.slice A1 ps.length c1, .slice A2 bs.length c2, .slice A3 os.length c3] 26)
  have B0 := Lib.hid (al_ w (.cells #[.slice A1 ps.length c1, .slice A2 bs.length c2, .slice A3 os.length c3] 26))
  obtain ⟨E, hE⟩ : ∃ E, dgErr ps bs os = E := ⟨_, rfl⟩
  have HE := Lib.hid hE
  clear hE
  go_enter Tryd.func33, Tryd.ntmps33
  go_wp2_with fail
  go_at_call 11
  refine (Check_any ⟨A1, ps, c1, A2, bs, c2, A3, os, c3⟩ m _ (by simp; omega) (HD.out.below B0.out hm) (HT.out.below B0.out HT.out.1)).mono ?_
  rintro e w1 ⟨rfl, hb1⟩
  dsimp only
  rw [HE.out]
  have R1 := Lib.hid (R0.out.call hb1)
  have B1 := Lib.hid (B0.out.trans (hb1.mono B0.out.size))
  have q1 : w1.cell? ⟨w.heap.size, 1, none⟩ = some (.slice A2 bs.length c2) := R1.out.cell 1
  clear hb1 R0 B0
  by_cases he : E = 0
  case neg =>
    have HV := Lib.hid (show gvE ⟨A1, ps, c1, A2, bs, c2, A3, os, c3⟩ R = E from gv_e0 HE.out he)
    have HEN := Lib.hid (errV_n he)
    clear he
    rw [HEN.out]
    go_wp2_with fail
    go_ret
    exact ⟨by rw [HV.out, HEN.out]; rfl, B1.out⟩
  have HVV := Lib.hid (show gvE ⟨A1, ps, c1, A2, bs, c2, A3, os, c3⟩ R = gvErr bs.length R from gv_e1 (HE.out.trans he))
  rw [he, errV_0]
  clear he
  by_cases hle : R.length = bs.length
  case neg =>
    have hlb : ((R.length : Int) != (bs.length : Int)) = true := by simp; omega
    have HLE := Lib.hid hle
    clear hle
    have HV := Lib.hid (show gvE ⟨A1, ps, c1, A2, bs, c2, A3, os, c3⟩ R = 11 from HVV.out.trans (gv_1 HLE.out))
    go_wp2_with fail
    go_ret
    exact ⟨by rw [HV.out]; rfl, B1.out⟩
  have hlb : ((R.length : Int) != (bs.length : Int)) = false := by simp; omega
  have HLE := Lib.hid hle
  have HMM := Lib.hid hm
  clear hle
  go_wp2_with fail
  clear q1
  go_loopw [22] (fun i wr => ckRel w R i wr) (fun i _ => R.length - (intOf i).toNat)
  case atStart => exact ⟨0, Nat.zero_le _, rfl, rfl, B1.out⟩
  case round =>
    clear R1 B1
    obtain ⟨k, hk, rfl, hall, hb⟩ := hrel
    have HA := Lib.hid hall
    clear hall
    by_cases hlt : k < R.length
    · have hsz := hb.size
      obtain ⟨b, off, y, hA, hbm, hbs, hy, hyc⟩ := (HR.out.cells.below hb hm).row (s := 6) (fun _ => rfl) (by omega) hlt
      subst hA
      have g0 : wr.cell? ⟨b, off + k * 6, none⟩ = some (.bool y.lo.nb) := hyc 0 _ rfl
      have g1 : wr.cell? ⟨b, off + k * 6 + 1, none⟩ = some (.slice y.lo.A y.lo.ws.length y.lo.cap) := hyc 1 _ rfl
      have g2 : wr.cell? ⟨b, off + k * 6 + 2, none⟩ = some (.int .i64 y.lo.den) := hyc 2 _ rfl
      have g3 : wr.cell? ⟨b, off + k * 6 + 3, none⟩ = some (.bool y.hi.nb) := hyc 3 _ rfl
      have g4 : wr.cell? ⟨b, off + k * 6 + 4, none⟩ = some (.slice y.hi.A y.hi.ws.length y.hi.cap) := hyc 4 _ rfl
      have g5 : wr.cell? ⟨b, off + k * 6 + 5, none⟩ = some (.int .i64 y.hi.den) := hyc 5 _ rfl
      have hye := HR.out.each y (List.mem_of_getElem? hy)
      have HYE := Lib.hid hye
      have HY := Lib.hid hy
      clear hyc hye hy
      have hki : (k : Int) < (R.length : Int) := by omega
      cases hv : ivB y with
      | true =>
        have HV := Lib.hid hv
        clear hv
        go_wp2_with fail
        go_at_call 55
        refine (pivalid_any y m _ (by simp; omega) ((HYE.out.1.below hb hm).below (al_ _ _) (by omega)) (by have := HYE.out.2.1; omega) (by have := HYE.out.2.2; omega)).mono ?_
        rintro e w5 ⟨rfl, hb5⟩
        rw [HV.out]
        have hb6 := (al_ wr (.cells #[.bool y.lo.nb, .slice y.lo.A y.lo.ws.length y.lo.cap, .int .i64 y.lo.den, .bool y.hi.nb, .slice y.hi.A y.hi.ws.length y.hi.cap, .int .i64 y.hi.den] 41)).trans (hb5.mono (by simp))
        clear hb5
        go_wp2_with fail
        exact ⟨⟨k + 1, by omega, by go_num, all_take HY.out HA.out HV.out, hb.trans (hb6.mono hsz)⟩, by simp [intOf]; omega⟩
      | false =>
        have HV1 := Lib.hid hv
        clear hv
        go_wp2_with fail
        go_at_call 55
        refine (pivalid_any y m _ (by simp; omega) ((HYE.out.1.below hb hm).below (al_ _ _) (by omega)) (by have := HYE.out.2.1; omega) (by have := HYE.out.2.2; omega)).mono ?_
        rintro e w5 ⟨rfl, hb5⟩
        rw [HV1.out]
        have hb6 := (al_ wr (.cells #[.bool y.lo.nb, .slice y.lo.A y.lo.ws.length y.lo.cap, .int .i64 y.lo.den, .bool y.hi.nb, .slice y.hi.A y.hi.ws.length y.hi.cap, .int .i64 y.hi.den] 41)).trans (hb5.mono (by simp))
        clear hb5
        have HV := Lib.hid (show gvE ⟨A1, ps, c1, A2, bs, c2, A3, os, c3⟩ R = 2 from HVV.out.trans (gv_2 HLE.out HY.out HV1.out))
        go_wp2_with fail
        go_ret
        exact ⟨by rw [HV.out]; rfl, hb.trans (hb6.mono hsz)⟩
    · have hall : R.all ivB = true := by have := HA.out; rwa [List.take_of_length_le (by omega)] at this
      have HAL := Lib.hid hall
      clear hall
      have HV := Lib.hid (show gvE ⟨A1, ps, c1, A2, bs, c2, A3, os, c3⟩ R = 0 from HVV.out.trans (gv_3 HLE.out HAL.out))
      go_wp2_with fail
      go_ret
      exact ⟨by rw [HV.out]; rfl, hb⟩
end Go.Proofs.YtejnnljjmafjaaaDoor
namespace Go.Proofs.YtejnnljjmafjaaaDoor
set_option linter.unusedVariables false
set_option linter.unusedSimpArgs false
set_option linter.unusedSectionVars false
open Go.RowKit

/-- The greatest number of bits below n with some room; -1 if there is none. -/
def pick (a : Iv) : Nat → Int
  | 0 => -1
  | n + 1 => if roomB a (n : Int) 1073741824 = true then (n : Int) else pick a n
def pkz (a : Iv) (z : Int) : Int := pick a (z + 1).toNat
def chS (a : Iv) : Int := pkz a 30
theorem pk_hit {a : Iv} {z : Int} (h : 0 ≤ z) (hr : roomB a z 1073741824 = true) : pkz a z = z := by
  obtain ⟨n, rfl⟩ := Int.eq_ofNat_of_zero_le h
  unfold pkz
  rw [show ((n : Int) + 1).toNat = n + 1 by omega]
  exact if_pos hr
theorem pk_miss {a : Iv} {z : Int} (h : 0 ≤ z) (hr : roomB a z 1073741824 = false) : pkz a z = pkz a (z - 1) := by
  obtain ⟨n, rfl⟩ := Int.eq_ofNat_of_zero_le h
  unfold pkz
  rw [show ((n : Int) + 1).toNat = n + 1 by omega, show ((n : Int) - 1 + 1).toNat = n by omega]
  exact if_neg (by rw [hr]; decide)
theorem pick_range (a : Iv) : ∀ n, -1 ≤ pick a n ∧ pick a n < (n : Int)
  | 0 => by unfold pick; omega
  | n + 1 => by
    have := pick_range a n
    unfold pick
    split <;> omega
theorem chS_range (a : Iv) : -1 ≤ chS a ∧ chS a ≤ 30 := by
  have := pick_range a 31
  unfold chS pkz
  rw [show ((30 : Int) + 1).toNat = 31 by rfl]
  omega
/-- The chosen scales, or the error; g: the error ahead. -/
def chErr (g : Int) (R : List Iv) : Int := if g = 0 then (if R.all (fun a => decide (0 ≤ chS a)) = true then 0 else 4) else g
def chO (g : Int) (R : List Iv) : List Int := if chErr g R = 0 then R.map chS else []
theorem ch_e0 {g : Int} {R : List Iv} (h : ¬ g = 0) : chErr g R = g := if_neg h
theorem ch_o0 {g : Int} {R : List Iv} (h : ¬ g = 0) : chO g R = [] := by unfold chO; rw [ch_e0 h, if_neg h]
theorem ch_4 {R : List Iv} {k : Nat} {y : Iv} (hy : R[k]? = some y) (h : ¬ 0 ≤ chS y) : chErr 0 R = 4 ∧ chO 0 R = [] := by
  have h1 : chErr 0 R = 4 := by
    unfold chErr
    rw [if_pos rfl, if_neg]
    intro ha
    exact h (of_decide_eq_true (List.all_eq_true.1 ha y (List.mem_of_getElem? hy)))
  exact ⟨h1, by unfold chO; rw [h1]; rfl⟩
theorem ch_0 {R : List Iv} (h : R.all (fun a => decide (0 ≤ chS a)) = true) : chErr 0 R = 0 ∧ chO 0 R = R.map chS := by
  have h1 : chErr 0 R = 0 := by unfold chErr; rw [if_pos rfl, if_pos h]
  exact ⟨h1, by unfold chO; rw [h1]; rfl⟩
theorem gv_dz {d : Dg} {R : List Iv} (h : gvE d R = 0) : dgErr d.ps d.bs d.os = 0 := by
  unfold gvE at h
  by_cases h1 : dgErr d.ps d.bs d.os = 0
  · exact h1
  · rw [if_neg h1] at h; exact h
def RetOI (xs : List Int) (er : Int) (w : World) (e : Ending) (w' : World) : Prop := ∃ v, e = .returned (.tuple #[v, .int .i64 er]) ∧ OwnI w' w.heap.size v xs ∧ Below w.heap.size w w'
def choRel (w : World) (R : List Iv) (v i : Value) (wr : World) : Prop :=
  ∃ k : Nat, k ≤ R.length ∧ i = .int .i64 (k : Int) ∧ OwnI wr (w.heap.size + 1) v ((R.take k).map chS) ∧ (R.take k).all (fun a => decide (0 ≤ chS a)) = true ∧ Below w.heap.size w wr
def inRel (y : Iv) (W : World) (f : Value) (wr : World) : Prop := ∃ z : Int, f = .int .i64 z ∧ -1 ≤ z ∧ z ≤ 30 ∧ chS y = pkz y z ∧ Below W.heap.size W wr
set_option maxRecDepth 100000 in
set_option maxHeartbeats 4000000 in
theorem pchoose_any (d : Dg) (A : Option Addr) (R : List Iv) (c m : Nat) (w : World) (hm : m ≤ w.heap.size) (hd : DgAt w m d) (hR : IvsAt w m A R) (hn : R.length ≤ 1000) (ht : TabAt w) :
    Calls Tryd.prog 12 #[d.val, .slice A R.length c] w (RetOE (chO (gvE d R) R) (chErr (gvE d R) R) w) := by
  have hl2 := hd.l2
  have HD := Lib.hid hd
  have HR := Lib.hid hR
  have HT := Lib.hid ht
  clear hd hR ht
  obtain ⟨A1, ps, c1, A2, bs, c2, A3, os, c3⟩ := d
  dsimp only at hl2
  simp only [Dg.val]
  have R0 := Lib.hid (RowD.new_ w [.slice A1 ps.length c1, .slice A2 bs.length c2, .slice A3 os.length c3] 26)
  have B0 := Lib.hid (al_ w (.cells #[.slice A1 ps.length c1, .slice A2 bs.length c2, .slice A3 os.length c3] 26))
  obtain ⟨E, hE⟩ : ∃ E, (gvE ⟨A1, ps, c1, A2, bs, c2, A3, os, c3⟩ R) = E := ⟨_, rfl⟩
  have HE := Lib.hid hE
  have HMM := Lib.hid hm
  rw [show (gvE ⟨A1, ps, c1, A2, bs, c2, A3, os, c3⟩ R) = E from hE]
  clear hE
  go_enter Tryd.func12, Tryd.ntmps12
  go_wp2_with fail
  go_at_call 33
  refine (pgiven_any ⟨A1, ps, c1, A2, bs, c2, A3, os, c3⟩ A R c m _ (by simp; omega) (HD.out.below B0.out hm) (HR.out.below B0.out hm) (by omega) (HT.out.below B0.out HT.out.1)).mono ?_
  rintro e w1 ⟨rfl, hb1⟩
  dsimp only
  rw [HE.out]
  have B1 := Lib.hid (B0.out.trans (hb1.mono B0.out.size))
  clear hb1 R0 B0
  by_cases he : E = 0
  case neg =>
    have HV := Lib.hid (show chErr E R = E ∧ chO E R = [] from ⟨ch_e0 he, ch_o0 he⟩)
    have HEN := Lib.hid (errV_n he)
    clear he
    rw [HEN.out]
    go_wp2_with fail
    refine bodyPost_ret (v := .tuple #[.slice none 0 0, .iface 44 (.int .i64 E)]) (by simp [results, Tryd.results12, go_sem]) rfl ⟨_, by rw [HV.out.1, HEN.out], by rw [HV.out.2]; exact OwnI.nil_ _ _, B1.out⟩
  have HG := Lib.hid (gv_ok ((gv_e1 (gv_dz (HE.out.trans he))).symm.trans (HE.out.trans he))).2
  obtain rfl : E = 0 := he
  rw [errV_0]
  go_wp2_with fail
  go_loopw [7, 19] (fun v i wr => choRel w R v i wr) (fun _ i _ => R.length - (intOf i).toNat)
  case atStart => exact ⟨0, Nat.zero_le _, rfl, OwnI.nil_ _ _, rfl, B1.out⟩
  case round =>
    clear B1
    obtain ⟨k, hk, rfl, hown, hall, hb⟩ := hrel
    have HO := Lib.hid hown
    have HA := Lib.hid hall
    have HBB := Lib.hid hb
    clear hown hall
    by_cases hlt : k < R.length
    · have hsz := hb.size
      obtain ⟨b, off, y, hA, hbm, hbs, hy, hyc⟩ := (HR.out.cells.below hb hm).row (s := 6) (fun _ => rfl) (by omega) hlt
      subst hA
      have g0 : wr.cell? ⟨b, off + k * 6, none⟩ = some (.bool y.lo.nb) := hyc 0 _ rfl
      have g1 : wr.cell? ⟨b, off + k * 6 + 1, none⟩ = some (.slice y.lo.A y.lo.ws.length y.lo.cap) := hyc 1 _ rfl
      have g2 : wr.cell? ⟨b, off + k * 6 + 2, none⟩ = some (.int .i64 y.lo.den) := hyc 2 _ rfl
      have g3 : wr.cell? ⟨b, off + k * 6 + 3, none⟩ = some (.bool y.hi.nb) := hyc 3 _ rfl
      have g4 : wr.cell? ⟨b, off + k * 6 + 4, none⟩ = some (.slice y.hi.A y.hi.ws.length y.hi.cap) := hyc 4 _ rfl
      have g5 : wr.cell? ⟨b, off + k * 6 + 5, none⟩ = some (.int .i64 y.hi.den) := hyc 5 _ rfl
      have hye := HR.out.each y (List.mem_of_getElem? hy)
      have HYE := Lib.hid hye
      have HY := Lib.hid hy
      clear hyc hye hy
      have hki : (k : Int) < (R.length : Int) := by omega
      have HV := Lib.hid (show ivB y = true from List.all_eq_true.1 HG.out y (List.mem_of_getElem? HY.out))
      go_wp2_with fail
      obtain ⟨W, hW⟩ : ∃ W, W = wr.alloc (.cells #[.bool y.lo.nb, .slice y.lo.A y.lo.ws.length y.lo.cap, .int .i64 y.lo.den, .bool y.hi.nb, .slice y.hi.A y.hi.ws.length y.hi.cap, .int .i64 y.hi.den] 41) := ⟨_, rfl⟩
      obtain ⟨q, hq⟩ : ∃ q, q = wr.heap.size := ⟨_, rfl⟩
      have rW : RowD W q [.bool y.lo.nb, .slice y.lo.A y.lo.ws.length y.lo.cap, .int .i64 y.lo.den, .bool y.hi.nb, .slice y.hi.A y.hi.ws.length y.hi.cap, .int .i64 y.hi.den] 41 := by rw [hW, hq]; exact RowD.new_ _ _ _
      have bW : Below wr.heap.size wr W := by rw [hW]; exact al_ _ _
      rw [← hW, ← hq]
      have HO2 := Lib.hid (HO.out.call bW)
      have HB2 := Lib.hid (hb.trans (bW.mono hsz))
      have HYA := Lib.hid ((HYE.out.1.below hb hm).below bW (by omega))
      have hwq : w.heap.size ≤ q := by omega
      have HRW := Lib.hid rW
      have HQ := Lib.hid hq
      clear hW hq rW bW g0 g1 g2 g3 g4 g5 HO HBB hb hsz
      go_loopw [10] (fun f w5 => inRel y W f w5) (fun f _ => (intOf f + 1).toNat)
      case atStart => exact ⟨30, rfl, by omega, by omega, rfl, Below.refl _ _⟩
      case round =>
        obtain ⟨z, rfl, hz0, hz1, hpk, hb⟩ := hrel
        rename World => w5
        have HP := Lib.hid hpk
        clear hpk
        have r5 := HRW.out.call hb
        by_cases hz : 0 ≤ z
        · have hl5 := hb.size
          have hqw := r5.lt
          have hcon := pwithin_any y z 1073741824 m w5 (by have := HB2.out.size; omega) (HYA.out.below hb (by have := HB2.out.size; omega)) HV.out HYE.out.2.1 HYE.out.2.2 hz (by omega) (by decide) (by decide) (HT.out.below (HB2.out.trans (hb.mono HB2.out.size)) HT.out.1)
          simp only [Iv.val] at hcon
          have HCON := Lib.hid hcon
          clear hcon
          have g0 : w5.cell? ⟨q, 0, none⟩ = some (.bool y.lo.nb) := r5.cell 0
          have g1 : w5.cell? ⟨q, 1, none⟩ = some (.slice y.lo.A y.lo.ws.length y.lo.cap) := r5.cell 1
          have g2 : w5.cell? ⟨q, 2, none⟩ = some (.int .i64 y.lo.den) := r5.cell 2
          have g3 : w5.cell? ⟨q, 3, none⟩ = some (.bool y.hi.nb) := r5.cell 3
          have g4 : w5.cell? ⟨q, 4, none⟩ = some (.slice y.hi.A y.hi.ws.length y.hi.cap) := r5.cell 4
          have g5 : w5.cell? ⟨q, 5, none⟩ = some (.int .i64 y.hi.den) := r5.cell 5
          clear r5
          cases hrm : roomB y z 1073741824 with
          | true =>
            have HRM := Lib.hid hrm
            clear hrm
            have hzb : decide (z < 0) = false := decide_eq_false (by omega)
            go_wp2_with fail
            go_at_call 34
            refine HCON.out.mono ?_
            rintro e w6 ⟨rfl, hb6⟩
            rw [HRM.out]
            have HC6 := Lib.hid (hb.trans (hb6.mono hl5))
            have HO6 := Lib.hid (HO2.out.call HC6.out)
            have HB6 := Lib.hid (HB2.out.trans (HC6.out.mono HB2.out.size))
            have hs6 := HB6.out.size
            have HCS := Lib.hid (show chS y = z from HP.out.trans (pk_hit hz HRM.out))
            clear hb6 HCON g0 g1 g2 g3 g4 g5
            go_wp2_with (at_builtin; refine push_int rfl _ _ rfl (w.heap.size + 1) _ ((R.take k).map chS) z w6.heap.size rfl (HO6.out.alloc _) rfl (by simp [go_sem]) (by simp; omega) (by simp; omega) ?_; intro v' w7 hown7 hg7 hb7)
            have hst : Below w.heap.size w6 w7 := ((Below.refl _ w6).alloc hs6 _).trans (hb7.mono (by omega))
            refine ⟨⟨k + 1, by omega, by go_num, ?_, all_take HY.out HA.out (decide_eq_true (by rw [HCS.out]; exact hz)), HB6.out.trans hst⟩, by simp [intOf]; omega⟩
            rw [List.take_add_one, HY.out]
            simpa [HCS.out] using hown7
          | false =>
            have HRM := Lib.hid hrm
            clear hrm
            go_wp2_with fail
            go_at_call 34
            refine HCON.out.mono ?_
            rintro e w6 ⟨rfl, hb6⟩
            rw [HRM.out]
            have HC6 := Lib.hid (hb.trans (hb6.mono hl5))
            clear hb6 HCON g0 g1 g2 g3 g4 g5
            go_wp2_with fail
            exact ⟨⟨z - 1, rfl, by omega, by omega, HP.out.trans (pk_miss hz HRM.out), HC6.out⟩, by simp [intOf]; omega⟩
        · have hzz : z = -1 := by omega
          subst hzz
          have HCS := Lib.hid (show chS y = -1 from HP.out.trans rfl)
          have HV2 := Lib.hid (show chErr 0 R = 4 ∧ chO 0 R = [] from ch_4 HY.out (by rw [HCS.out]; decide))
          have HB6 := Lib.hid (HB2.out.trans (hb.mono HB2.out.size))
          clear r5 hz
          go_wp2_with fail
          refine bodyPost_ret (v := .tuple #[.slice none 0 0, .iface 44 (.int .i64 4)]) (by simp [results, Tryd.results12, go_sem]) rfl ⟨_, by rw [HV2.out.1]; rfl, by rw [HV2.out.2]; exact OwnI.nil_ _ _, HB6.out⟩
    · have hall : R.all (fun a => decide (0 ≤ chS a)) = true := by have := HA.out; rwa [List.take_of_length_le (by omega)] at this
      have ht : R.take k = R := List.take_of_length_le (by omega)
      have HV2 := Lib.hid (show chErr 0 R = 0 ∧ chO 0 R = R.map chS from ch_0 hall)
      rw [ht] at HO
      clear hall ht
      obtain ⟨A', c', hv, _⟩ := HO.out.view
      subst hv
      go_wp2_with fail
      refine bodyPost_ret (v := .tuple #[.slice A' (R.map chS).length c', .nilIface]) (by simp [results, Tryd.results12, go_sem]) rfl ⟨_, by rw [HV2.out.1]; rfl, ?_, HBB.out⟩
      rw [HV2.out.2]
      exact HO.out.base_ (by omega)
end Go.Proofs.YtejnnljjmafjaaaDoor
