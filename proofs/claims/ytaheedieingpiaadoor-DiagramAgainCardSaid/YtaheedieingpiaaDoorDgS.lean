/- What a block uses within a tick. Condition: lists of at most a million; for the program the table of math/bits stands in block 0. -/
import Derived.Test.YtaheedieingpiaaDoorDgQ
import Derived.Test.YtaheedieingpiaaDoorDgH
import Derived.Test.YtaheedieingpiaaDoorDgI
namespace Go.Proofs.YtaheedieingpiaaDoor
set_option linter.unusedVariables false
set_option linter.unusedSimpArgs false
set_option linter.unusedSectionVars false
open Go.RowKit

def mark0 (bs : List Bk) (i : Nat) : List Bool := (List.replicate bs.length false).set i true
def usesL (bs : List Bk) (i : Nat) : List Int := natI (markL (passes bs false bs.length (mark0 bs i)))
def usesE (ps : List Prt) (bs : List Bk) (os : List Int) (i : Int) : Int := if ¬ dgErr ps bs os = 0 then dgErr ps bs os else if 0 ≤ i ∧ i < (bs.length : Int) then 0 else 10
def usesO (ps : List Prt) (bs : List Bk) (os : List Int) (i : Int) : List Int := if usesE ps bs os i = 0 then usesL bs i.toNat else []
def UsesP (ps : List Prt) (bs : List Bk) (os : List Int) (i : Int) (w : World) (e : Ending) (w' : World) : Prop :=
  ∃ v, e = .returned (.tuple #[v, errV (usesE ps bs os i)]) ∧ OwnI w' w.heap.size v (usesO ps bs os i) ∧ Below w.heap.size w w'
theorem pre_of {ps : List Prt} {bs : List Bk} {os : List Int} (h : dgErr ps bs os = 0) : sizeOk ps bs os ∧ preErr ps bs os = 0 ∧ ordErr bs = 0 := by
  unfold dgErr at h
  by_cases h1 : sizeOk ps bs os
  · rw [if_neg (not_not_intro h1)] at h
    by_cases h2 : preErr ps bs os = 0
    · rw [if_neg (not_not_intro h2)] at h
      exact ⟨h1, h2, h⟩
    · rw [if_pos h2] at h
      exact absurd h h2
  · rw [if_pos h1] at h; cases h
theorem pre_blk {ps : List Prt} {bs : List Bk} {os : List Int} (h : preErr ps bs os = 0) : firstErr (bs.map (blkErr ps.length bs.length)) = 0 := by
  unfold preErr at h
  rw [firstErr_append] at h
  by_cases h1 : firstErr (ps.map portE) = 0
  · rw [if_pos h1, firstErr_append] at h
    by_cases h2 : firstErr (bs.map (blkErr ps.length bs.length)) = 0
    · exact h2
    · rw [if_neg h2] at h; exact h
  · rw [if_neg h1] at h; exact absurd h h1
theorem dg_succ {ps : List Prt} {bs : List Bk} {os : List Int} (h : dgErr ps bs os = 0) : SuccOk bs := succ_ok (pre_blk (pre_of h).2.1)
theorem isM_rep (n j : Nat) : isM (List.replicate n false) j = false := by
  unfold isM
  rw [List.getElem?_replicate]
  split <;> rfl
theorem unM_le (m : List Bool) : unM m ≤ m.length := List.length_filter_le _ _
/-- The program's marks are the document's. -/
theorem mark_is {bs : List Bk} {i : Nat} {l' : List Bool} (hok : SuccOk bs) (hi : i < bs.length) (h : MarkPost bs false (List.replicate bs.length false) i l') : l' = passes bs false bs.length (mark0 bs i) := by
  have hl : (mark0 bs i).length = bs.length := by simp [mark0]
  refine marks_eq (by rw [h.len, passes_len, hl]; simp) fun j _ => ?_
  show isM l' j = true ↔ isM (passes bs false bs.length (mark0 bs i)) j = true
  rw [h.reach (isM_rep _), passes_reach hok hl]
  constructor
  · intro hr
    exact ⟨i, by unfold mark0; rw [isM_set (by simpa using hi)]; simp, hr⟩
  · rintro ⟨s, hs, hr⟩
    unfold mark0 at hs
    rw [isM_set (by simpa using hi), isM_rep] at hs
    have e : i = s := by simpa using hs
    subst e
    exact hr
theorem fl_markL (m : List Bool) : fl (isM m) m.length = markL m := rfl
set_option maxRecDepth 100000 in
set_option maxHeartbeats 4000000 in
theorem uses_any (d : Dg) (i : Int) (m : Nat) (w : World) (hm : m ≤ w.heap.size) (hd : DgAt w m d) (ht : TabAt w) :
    Calls Tryd.prog 14 #[d.val, .int .i64 i] w (UsesP d.ps d.bs d.os i w) := by
  have hl2 := hd.l2
  have HD := Lib.hid hd
  have HT := Lib.hid ht
  clear hd ht
  obtain ⟨A1, ps, c1, A2, bs, c2, A3, os, c3⟩ := d
  dsimp only at hl2
  simp only [Dg.val]
  have b0 := al_ w (.cells #[.slice A1 ps.length c1, .slice A2 bs.length c2, .slice A3 os.length c3] 26)
  have r0 := RowD.new_ w [.slice A1 ps.length c1, .slice A2 bs.length c2, .slice A3 os.length c3] 26
  have HB0 := Lib.hid b0
  have R0 := Lib.hid r0
  clear b0 r0
  obtain ⟨E, hE⟩ : ∃ E, dgErr ps bs os = E := ⟨_, rfl⟩
  have HE := Lib.hid hE
  clear hE
  obtain ⟨i0, hi, hz0, hz1, hz2⟩ := info_parts info_bool
  go_enter Tryd.func14, Tryd.ntmps14
  go_wp2_with fail
  go_at_call 18
  refine (Check_any ⟨A1, ps, c1, A2, bs, c2, A3, os, c3⟩ m _ (by simp; omega) (HD.out.below HB0.out hm) (HT.out.below HB0.out HT.out.1)).mono ?_
  rintro e w1 ⟨rfl, hb1⟩
  dsimp only
  rw [HE.out]
  have R1 := Lib.hid (R0.out.call hb1)
  have N1 := Lib.hid (HB0.out.trans (hb1.mono HB0.out.size))
  have z1 : w.heap.size < w1.heap.size := R1.out.lt
  have q1 : w1.cell? ⟨w.heap.size, 1, none⟩ = some (.slice A2 bs.length c2) := R1.out.cell 1
  clear hb1
  by_cases he : E = 0
  · have HE0 := Lib.hid (HE.out.trans he)
    rw [he, errV_0]
    clear he
    by_cases hr : 0 ≤ i ∧ i < (bs.length : Int)
    · have hv : usesE ps bs os i = 0 := by unfold usesE; rw [if_neg (not_not_intro HE0.out), if_pos hr]
      have ho : usesO ps bs os i = usesL bs i.toNat := by unfold usesO; rw [if_pos hv]
      have HV := Lib.hid hv
      have HO := Lib.hid ho
      obtain ⟨hr1, hr2⟩ := hr
      obtain ⟨k, rfl⟩ := Int.eq_ofNat_of_zero_le hr1
      have hk : k < bs.length := by omega
      have z1' : w.heap.size + 1 ≤ w1.heap.size := by omega
      clear hv ho hr1
      go_wp2_with (first
        | (at_make; (with_reducible refine wpList_make_full _ rfl (.tmp 25) (.tmp 25) 46 rfl (w.heap.size + 1) 4 i0 (.bool false) 1 under_bools hi hz0 hz1 .i64 .i64 bs.length bs.length bs.length rfl rfl rfl rfl (by rw [hz2]; omega) (by unfold maxLen; omega) (by first | assumption | (simp; done) | (simp; omega)) ?_; intro w2 hown hg); have hst : Below (w.heap.size + 1) w1 w2 := (Below.refl _ _).grown hg z1' (fun k h => by simp at h); have hrow := rowD_of hown; rw [made_bools] at hrow; have R2 := Lib.hid (R1.out.below hst (by omega)); have HROW := Lib.hid hrow; have hzg := hrow.lt; have q0 : w2.cell? ⟨w.heap.size, 0, none⟩ = some (.slice A1 ps.length c1) := R2.out.cell 0; have q1' : w2.cell? ⟨w.heap.size, 1, none⟩ = some (.slice A2 bs.length c2) := R2.out.cell 1; have q2 : w2.cell? ⟨w.heap.size, 2, none⟩ = some (.slice A3 os.length c3) := R2.out.cell 2; have z2 : w.heap.size < w2.heap.size := (by omega); have N2 := Lib.hid (N1.out.trans (hst.mono (by omega))); clear hown hrow hst hg q1)
        | (go_at_call 33; refine (mark_any ⟨A1, ps, c1, A2, bs, c2, A3, os, c3⟩ m w1.heap.size false (by omega) (dg_succ HE0.out) (bs.length + 1) (List.replicate bs.length false) k w2 (by have := unM_le (List.replicate bs.length false); simp at this; omega) (by simp) hk (HD.out.below N2.out hm) HROW.out).mono ?_; rintro e w3 ⟨rfl, l', hp, hrow3, hap⟩; have HL := Lib.hid (mark_is (dg_succ HE0.out) hk hp); have hl3 : l'.length = bs.length := (by rw [hp.len]; simp); have HROW3 := Lib.hid hrow3; have N3 := Lib.hid (N2.out.trans (hap.below (by omega) (by omega))); have HLL := Lib.hid hl3; clear hp hrow3 hap hl3 q0 q1' q2)
        | (go_at_call 34; rw [← HLL.out]; refine (list_any (some ⟨w1.heap.size, 0, none⟩) l' l'.length w3.heap.size w3 (Nat.le_refl _) (HROW3.out.cells_ HROW3.out.lt) (by have := HLL.out; omega)).mono ?_; rintro e w4 ⟨v4, rfl, D4, hb4⟩; obtain ⟨A4, c4, rfl, _, _⟩ := D4.view))
      refine bodyPost_ret (v := .tuple #[.slice A4 (natI (markL l')).length c4, .nilIface]) (by simp [results, Tryd.results14, go_sem]) rfl ⟨_, by rw [HV.out]; rfl, ?_, N3.out.trans (hb4.mono N3.out.size)⟩
      rw [HO.out, Int.toNat_natCast]
      unfold usesL
      rw [← HL.out]
      exact D4.base_ N3.out.size
    · have hv : usesE ps bs os i = 10 := by unfold usesE; rw [if_neg (not_not_intro HE0.out), if_neg hr]
      have ho : usesO ps bs os i = [] := by unfold usesO; rw [if_neg (by rw [hv]; decide)]
      have HV := Lib.hid hv
      have HO := Lib.hid ho
      have key : i < 0 ∨ (0 ≤ i ∧ (bs.length : Int) ≤ i) := by omega
      clear hv ho hr
      rcases key with k1 | ⟨k1, k2⟩
      all_goals
        go_wp2_with fail
        refine bodyPost_ret (v := .tuple #[.slice none 0 0, .iface 35 (.int .i64 10)]) (by simp [results, Tryd.results14, go_sem]) rfl ⟨_, by rw [HV.out]; rfl, by rw [HO.out]; exact OwnI.nil_ _ _, N1.out⟩
  · have hv : usesE ps bs os i = E := by unfold usesE; rw [if_pos (by rw [HE.out]; exact he), HE.out]
    have ho : usesO ps bs os i = [] := by unfold usesO; rw [if_neg (by rw [hv]; exact he)]
    have HV := Lib.hid hv
    have HO := Lib.hid ho
    have HEN := Lib.hid (errV_n he)
    clear hv ho he
    rw [HEN.out]
    go_wp2_with fail
    refine bodyPost_ret (v := .tuple #[.slice none 0 0, .iface 35 (.int .i64 E)]) (by simp [results, Tryd.results14, go_sem]) rfl ⟨_, by rw [HV.out, HEN.out], by rw [HO.out]; exact OwnI.nil_ _ _, N1.out⟩
set_option maxRecDepth 100000 in
set_option maxHeartbeats 4000000 in
theorem rUses_any (d : Dg) (k m : Nat) (w : World) (hm : m ≤ w.heap.size) (hd : DgAt w m d) (hok : SuccOk d.bs) (hk : k < d.bs.length) :
    Calls Tryd.prog 17 #[d.val, .int .i64 (k : Int)] w (RetO (usesL d.bs k) w) := by
  have hl2 := hd.l2
  have HD := Lib.hid hd
  have HOK := Lib.hid hok
  clear hd hok
  obtain ⟨A1, ps, c1, A2, bs, c2, A3, os, c3⟩ := d
  dsimp only at hl2 hk HOK
  simp only [Dg.val]
  have hki : (k : Int) < (bs.length : Int) := by omega
  have r0 := RowD.new_ w [.slice A1 ps.length c1, .slice A2 bs.length c2, .slice A3 os.length c3] 26
  have R0 := Lib.hid r0
  clear r0
  obtain ⟨i0, hi, hz0, hz1, hz2⟩ := info_parts info_bool
  go_enter Tryd.func17, Tryd.ntmps17
  go_wp2_with (first
    | (at_make; (with_reducible refine wpList_make_full _ rfl (.tmp 8) (.tmp 8) 46 rfl (w.heap.size + 1) 4 i0 (.bool false) 1 under_bools hi hz0 hz1 .i64 .i64 bs.length bs.length bs.length rfl rfl rfl rfl (by rw [hz2]; omega) (by unfold maxLen; omega) (by first | assumption | (simp; done) | (simp; omega)) ?_; intro w2 hown hg); have hst : Below (w.heap.size + 1) (w.alloc (.cells #[.slice A1 ps.length c1, .slice A2 bs.length c2, .slice A3 os.length c3] 26)) w2 := (Below.refl _ _).grown hg (by simp) (fun k h => by simp at h); have hrow := rowD_of hown; rw [made_bools] at hrow; simp only [size_al1] at hrow; have R2 := Lib.hid (R0.out.below hst (by omega)); have HROW := Lib.hid hrow; have hzg := hrow.lt; have f0 := hrow.free; have fk : w2.cell? ⟨w.heap.size + 1, k, none⟩ = some (.bool (isM (List.replicate bs.length false) k)) := (by rw [hrow.cell, bools_get (by simpa using hk)]); have q0 : w2.cell? ⟨w.heap.size, 0, none⟩ = some (.slice A1 ps.length c1) := R2.out.cell 0; have q1 : w2.cell? ⟨w.heap.size, 1, none⟩ = some (.slice A2 bs.length c2) := R2.out.cell 1; have q2 : w2.cell? ⟨w.heap.size, 2, none⟩ = some (.slice A3 os.length c3) := R2.out.cell 2; have z2 : w.heap.size < w2.heap.size := (by omega); have N2 := Lib.hid ((al_ w _).trans (hst.mono (by omega))); clear hown hrow hst hg)
    | (go_at_call 36; refine (needed_any ⟨A1, ps, c1, A2, bs, c2, A3, os, c3⟩ m (w.heap.size + 1) false (mark0 bs k) _ (by omega) HOK.out (by simp [mark0]) (by have := N2.out.size; simp; omega) (HD.out.below (ext_set N2.out (p := ⟨w.heap.size + 1, k, none⟩) (by simp) (.bool true)) hm) (by unfold mark0; rw [bools_set]; exact HROW.out.set_ k (.bool true))).mono ?_; rintro e w3 ⟨rfl, hrow3, hap⟩; have hl3 : (passes bs false bs.length (mark0 bs k)).length = bs.length := (by rw [passes_len]; simp [mark0]); have HROW3 := Lib.hid hrow3; have N3 := Lib.hid ((ext_set N2.out (p := ⟨w.heap.size + 1, k, none⟩) (by simp) (.bool true)).trans (hap.below (by omega) (by have := N2.out.size; simp; omega))); have HLL := Lib.hid hl3; clear hrow3 hap hl3 q0 q1 q2 fk f0)
    | (go_at_call 35; rw [← HLL.out]; refine (rList_any (some ⟨w.heap.size + 1, 0, none⟩) (passes bs false bs.length (mark0 bs k)) (passes bs false bs.length (mark0 bs k)).length w3.heap.size w3 (Nat.le_refl _) (HROW3.out.cells_ HROW3.out.lt) (by have := HLL.out; omega)).mono ?_; rintro e w4 ⟨v4, rfl, D4, hb4⟩; obtain ⟨A4, c4, rfl, _, _⟩ := D4.view))
  go_ret
  exact ⟨_, rfl, D4.base_ N3.out.size, N3.out.trans (hb4.mono N3.out.size)⟩
end Go.Proofs.YtaheedieingpiaaDoor
