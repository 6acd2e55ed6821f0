/- DiagramFollows: for every diagram the law returns true: in the order each block that is no delay occurs once, behind its arguments, and no lesser block could have stood in its place. No conditions. -/
import Derived.Test.YtaheedieingpiaaDoorDgZ
namespace Go.Proofs.YtaheedieingpiaaDoor
set_option linter.unusedVariables false
set_option linter.unusedSimpArgs false
set_option linter.unusedSectionVars false
open Go.ChangeShapes Go.WideShapes Go.ChangeAt Go.RowKit Go.Joins

set_option maxRecDepth 100000 in
set_option maxHeartbeats 4000000 in
theorem fol_heavy (A1 : Option Addr) (ps : List Prt) (c1 : Nat) (A2 : Option Addr) (bs : List Bk) (c2 : Nat) (A3 : Option Addr) (os : List Int) (c3 : Nat)  (w : World) (hi : DgIn w ⟨A1, ps, c1, A2, bs, c2, A3, os, c3⟩) (ht : TabAt w) (hl : lightG ⟨A1, ps, c1, A2, bs, c2, A3, os, c3⟩ = false) : Calls Tryd.prog 4 #[.agg #[.slice A1 ps.length c1, .slice A2 bs.length c2, .slice A3 os.length c3]] w fun e w' => e = .returned (.bool true) ∧ Below w.heap.size w w' := by
  have HI := Lib.hid hi
  have HT := Lib.hid ht
  clear hi ht
  have HL := Lib.hid hl
  clear hl
  have X0 := Lib.hid (Lx.start w ⟨A1, ps, c1, A2, bs, c2, A3, os, c3⟩ HT.out)
  go_enter Tryd.func4, Tryd.ntmps4
  go_wp2_with fail
  go_at_call 11
  refine (awake_any _ X0.out.tab).mono ?_
  rintro e w1 ⟨rfl, hb⟩
  have X1 := Lib.hid (X0.out.next hb)
  clear hb
  have f0 : w1.cell? ⟨w.heap.size, 0, none⟩ = some (.slice A1 ps.length c1) := X1.out.c0
  have f1 : w1.cell? ⟨w.heap.size, 1, none⟩ = some (.slice A2 bs.length c2) := X1.out.c1
  have f2 : w1.cell? ⟨w.heap.size, 2, none⟩ = some (.slice A3 os.length c3) := X1.out.c2
  have z1 : w.heap.size < w1.heap.size := X1.out.lt
  go_wp2_with fail
  go_at_call 12
  refine (light_any ⟨A1, ps, c1, A2, bs, c2, A3, os, c3⟩ _ w X1.out.bel HI.out).mono ?_
  rintro e w2 ⟨rfl, hb⟩
  have X2 := Lib.hid (X1.out.next hb)
  rw [HL.out]
  clear hb
  clear f0 f1 f2
  have f0 : w2.cell? ⟨w.heap.size, 0, none⟩ = some (.slice A1 ps.length c1) := X2.out.c0
  have f1 : w2.cell? ⟨w.heap.size, 1, none⟩ = some (.slice A2 bs.length c2) := X2.out.c1
  have f2 : w2.cell? ⟨w.heap.size, 2, none⟩ = some (.slice A3 os.length c3) := X2.out.c2
  have z2 : w.heap.size < w2.heap.size := X2.out.lt
  go_wp2_with fail
  go_at_call 11
  refine (awake_any _ X2.out.tab).mono ?_
  rintro e w3 ⟨rfl, hb⟩
  have X3 := Lib.hid (X2.out.next hb)
  clear hb
  clear f0 f1 f2
  have f0 : w3.cell? ⟨w.heap.size, 0, none⟩ = some (.slice A1 ps.length c1) := X3.out.c0
  have f1 : w3.cell? ⟨w.heap.size, 1, none⟩ = some (.slice A2 bs.length c2) := X3.out.c1
  have f2 : w3.cell? ⟨w.heap.size, 2, none⟩ = some (.slice A3 os.length c3) := X3.out.c2
  have z3 : w.heap.size < w3.heap.size := X3.out.lt
  go_wp2_with fail
  go_ret
  exact ⟨rfl, X3.out.bel⟩
set_option maxRecDepth 100000 in
set_option maxHeartbeats 4000000 in
theorem fol_bad (A1 : Option Addr) (ps : List Prt) (c1 : Nat) (A2 : Option Addr) (bs : List Bk) (c2 : Nat) (A3 : Option Addr) (os : List Int) (c3 : Nat)  (w : World) (hi : DgIn w ⟨A1, ps, c1, A2, bs, c2, A3, os, c3⟩) (ht : TabAt w) (hl : lightG ⟨A1, ps, c1, A2, bs, c2, A3, os, c3⟩ = true) (he : ¬ dgErr ps bs os = 0) : Calls Tryd.prog 4 #[.agg #[.slice A1 ps.length c1, .slice A2 bs.length c2, .slice A3 os.length c3]] w fun e w' => e = .returned (.bool true) ∧ Below w.heap.size w w' := by
  have HI := Lib.hid hi
  have HT := Lib.hid ht
  clear hi ht
  have HL := Lib.hid hl
  have HD := Lib.hid (HI.out.light hl)
  have h10 := hl
  unfold lightG at h10
  simp only [Bool.and_eq_true, decide_eq_true_eq, List.all_eq_true] at h10
  obtain ⟨⟨l1, l2, l3⟩, h4⟩ := h10
  have HA := Lib.hid h4
  clear hl h4
  try dsimp only at l1 l2 l3
  obtain ⟨E, hE⟩ : ∃ E, dgErr ps bs os = E := ⟨_, rfl⟩
  rw [hE] at he
  have HE := Lib.hid hE
  have HEN := Lib.hid (errV_n he)
  clear hE he
  have X0 := Lib.hid (Lx.start w ⟨A1, ps, c1, A2, bs, c2, A3, os, c3⟩ HT.out)
  go_enter Tryd.func4, Tryd.ntmps4
  go_wp2_with fail
  go_at_call 11
  refine (awake_any _ X0.out.tab).mono ?_
  rintro e w1 ⟨rfl, hb⟩
  have X1 := Lib.hid (X0.out.next hb)
  clear hb
  have f0 : w1.cell? ⟨w.heap.size, 0, none⟩ = some (.slice A1 ps.length c1) := X1.out.c0
  have f1 : w1.cell? ⟨w.heap.size, 1, none⟩ = some (.slice A2 bs.length c2) := X1.out.c1
  have f2 : w1.cell? ⟨w.heap.size, 2, none⟩ = some (.slice A3 os.length c3) := X1.out.c2
  have z1 : w.heap.size < w1.heap.size := X1.out.lt
  go_wp2_with fail
  go_at_call 12
  refine (light_any ⟨A1, ps, c1, A2, bs, c2, A3, os, c3⟩ _ w X1.out.bel HI.out).mono ?_
  rintro e w2 ⟨rfl, hb⟩
  have X2 := Lib.hid (X1.out.next hb)
  rw [HL.out]
  clear hb
  clear f0 f1 f2
  have f0 : w2.cell? ⟨w.heap.size, 0, none⟩ = some (.slice A1 ps.length c1) := X2.out.c0
  have f1 : w2.cell? ⟨w.heap.size, 1, none⟩ = some (.slice A2 bs.length c2) := X2.out.c1
  have f2 : w2.cell? ⟨w.heap.size, 2, none⟩ = some (.slice A3 os.length c3) := X2.out.c2
  have z2 : w.heap.size < w2.heap.size := X2.out.lt
  go_wp2_with fail
  go_at_call 18
  refine (Check_any ⟨A1, ps, c1, A2, bs, c2, A3, os, c3⟩ w.heap.size _ X2.out.le (X2.out.dg HD.out) X2.out.tab).mono ?_
  rintro e w3 ⟨rfl, hb⟩
  have X3 := Lib.hid (X2.out.next hb)
  try dsimp only
  rw [HE.out, HEN.out]
  clear hb
  clear f0 f1 f2
  have f0 : w3.cell? ⟨w.heap.size, 0, none⟩ = some (.slice A1 ps.length c1) := X3.out.c0
  have f1 : w3.cell? ⟨w.heap.size, 1, none⟩ = some (.slice A2 bs.length c2) := X3.out.c1
  have f2 : w3.cell? ⟨w.heap.size, 2, none⟩ = some (.slice A3 os.length c3) := X3.out.c2
  have z3 : w.heap.size < w3.heap.size := X3.out.lt
  go_wp2_with fail
  go_at_call 11
  refine (awake_any _ X3.out.tab).mono ?_
  rintro e w4 ⟨rfl, hb⟩
  have X4 := Lib.hid (X3.out.next hb)
  clear hb
  clear f0 f1 f2
  have f0 : w4.cell? ⟨w.heap.size, 0, none⟩ = some (.slice A1 ps.length c1) := X4.out.c0
  have f1 : w4.cell? ⟨w.heap.size, 1, none⟩ = some (.slice A2 bs.length c2) := X4.out.c1
  have f2 : w4.cell? ⟨w.heap.size, 2, none⟩ = some (.slice A3 os.length c3) := X4.out.c2
  have z4 : w.heap.size < w4.heap.size := X4.out.lt
  go_wp2_with fail
  go_ret
  exact ⟨rfl, X4.out.bel⟩
def flRel (w : World) (d : Dg) (M : Nat) (A : Option Addr) (L : List Int) (i : Value) (wr : World) : Prop :=
  ∃ k : Nat, k ≤ d.bs.length ∧ i = .int .i64 k ∧ Lx w wr d ∧ M ≤ wr.heap.size ∧ CellsAt wr M A (ints L)
def flA (w5 : World) (bs : List Bk) (L : List Nat) (xs : List Int) (v8 v66 : Value) (wr : World) : Prop :=
  ∃ t : Nat, t ≤ xs.length ∧ v66 = .int .i64 t ∧ v8 = .int .i64 (lastT bs L xs t) ∧ wr = w5
def flB (w5 : World) (n : Nat) (v : Value) (wr : World) : Prop := ∃ t : Nat, t ≤ n ∧ v = .int .i64 t ∧ wr = w5

set_option maxRecDepth 100000 in
set_option maxHeartbeats 4000000 in
theorem fol_good (A1 : Option Addr) (ps : List Prt) (c1 : Nat) (A2 : Option Addr) (bs : List Bk) (c2 : Nat) (A3 : Option Addr) (os : List Int) (c3 : Nat)  (w : World) (hi : DgIn w ⟨A1, ps, c1, A2, bs, c2, A3, os, c3⟩) (ht : TabAt w) (hl : lightG ⟨A1, ps, c1, A2, bs, c2, A3, os, c3⟩ = true) (he : dgErr ps bs os = 0) : Calls Tryd.prog 4 #[.agg #[.slice A1 ps.length c1, .slice A2 bs.length c2, .slice A3 os.length c3]] w fun e w' => e = .returned (.bool true) ∧ Below w.heap.size w w' := by
  have HI := Lib.hid hi
  have HT := Lib.hid ht
  clear hi ht
  have HL := Lib.hid hl
  have HD := Lib.hid (HI.out.light hl)
  have h10 := hl
  unfold lightG at h10
  simp only [Bool.and_eq_true, decide_eq_true_eq, List.all_eq_true] at h10
  obtain ⟨⟨l1, l2, l3⟩, h4⟩ := h10
  have HA := Lib.hid h4
  clear hl h4
  try dsimp only at l1 l2 l3
  have HE := Lib.hid he
  have hfull : (ordM bs).length = nonDel bs := by
    have h := (pre_of he).2.2
    unfold ordErr at h
    by_cases h2 : (ordM bs).length = nonDel bs
    · exact h2
    · rw [if_neg h2] at h; cases h
  have HF := Lib.hid hfull
  have HOK := Lib.hid (dg_succ he)
  have hnl : (natI (ordM bs)).length ≤ bs.length := by rw [natI_len, hfull]; exact nonDel_le bs
  clear he hfull
  have X0 := Lib.hid (Lx.start w ⟨A1, ps, c1, A2, bs, c2, A3, os, c3⟩ HT.out)
  go_enter Tryd.func4, Tryd.ntmps4
  go_wp2_with fail
  go_at_call 11
  refine (awake_any _ X0.out.tab).mono ?_
  rintro e w1 ⟨rfl, hb⟩
  have X1 := Lib.hid (X0.out.next hb)
  clear hb
  have f0 : w1.cell? ⟨w.heap.size, 0, none⟩ = some (.slice A1 ps.length c1) := X1.out.c0
  have f1 : w1.cell? ⟨w.heap.size, 1, none⟩ = some (.slice A2 bs.length c2) := X1.out.c1
  have f2 : w1.cell? ⟨w.heap.size, 2, none⟩ = some (.slice A3 os.length c3) := X1.out.c2
  have z1 : w.heap.size < w1.heap.size := X1.out.lt
  go_wp2_with fail
  go_at_call 12
  refine (light_any ⟨A1, ps, c1, A2, bs, c2, A3, os, c3⟩ _ w X1.out.bel HI.out).mono ?_
  rintro e w2 ⟨rfl, hb⟩
  have X2 := Lib.hid (X1.out.next hb)
  rw [HL.out]
  clear hb
  clear f0 f1 f2
  have f0 : w2.cell? ⟨w.heap.size, 0, none⟩ = some (.slice A1 ps.length c1) := X2.out.c0
  have f1 : w2.cell? ⟨w.heap.size, 1, none⟩ = some (.slice A2 bs.length c2) := X2.out.c1
  have f2 : w2.cell? ⟨w.heap.size, 2, none⟩ = some (.slice A3 os.length c3) := X2.out.c2
  have z2 : w.heap.size < w2.heap.size := X2.out.lt
  go_wp2_with fail
  go_at_call 18
  refine (Check_any ⟨A1, ps, c1, A2, bs, c2, A3, os, c3⟩ w.heap.size _ X2.out.le (X2.out.dg HD.out) X2.out.tab).mono ?_
  rintro e w3 ⟨rfl, hb⟩
  have X3 := Lib.hid (X2.out.next hb)
  try dsimp only
  rw [HE.out, errV_0]
  clear hb
  clear f0 f1 f2
  have f0 : w3.cell? ⟨w.heap.size, 0, none⟩ = some (.slice A1 ps.length c1) := X3.out.c0
  have f1 : w3.cell? ⟨w.heap.size, 1, none⟩ = some (.slice A2 bs.length c2) := X3.out.c1
  have f2 : w3.cell? ⟨w.heap.size, 2, none⟩ = some (.slice A3 os.length c3) := X3.out.c2
  have z3 : w.heap.size < w3.heap.size := X3.out.lt
  go_wp2_with fail
  go_at_call 19
  refine (Order_any ⟨A1, ps, c1, A2, bs, c2, A3, os, c3⟩ w.heap.size _ X3.out.le (X3.out.dg HD.out) X3.out.tab).mono ?_
  rintro e w4 ⟨v, rfl, hown, hb⟩
  have X4 := Lib.hid (X3.out.next hb)
  rw [show ordO ⟨A1, ps, c1, A2, bs, c2, A3, os, c3⟩ = natI (ordM bs) from if_pos HE.out] at hown
  rw [show dgE ⟨A1, ps, c1, A2, bs, c2, A3, os, c3⟩ = 0 from HE.out, errV_0]
  obtain ⟨A, c, rfl, _, _⟩ := hown.view
  have hcap := hown.cap.1
  have HC := Lib.hid hown.cells
  clear hown
  clear hb
  clear f0 f1 f2
  have f0 : w4.cell? ⟨w.heap.size, 0, none⟩ = some (.slice A1 ps.length c1) := X4.out.c0
  have f1 : w4.cell? ⟨w.heap.size, 1, none⟩ = some (.slice A2 bs.length c2) := X4.out.c1
  have f2 : w4.cell? ⟨w.heap.size, 2, none⟩ = some (.slice A3 os.length c3) := X4.out.c2
  have z4 : w.heap.size < w4.heap.size := X4.out.lt
  obtain ⟨L, hL⟩ : ∃ L, L = natI (ordM bs) := ⟨_, rfl⟩
  have HLD := Lib.hid hL
  rw [← hL] at HC hnl hcap ⊢
  clear hL
  go_wp2_with fail
  clear f0 f1 f2
  go_loopw [36] (fun i wr => flRel w ⟨A1, ps, c1, A2, bs, c2, A3, os, c3⟩ w4.heap.size A L i wr) (fun i _ => bs.length - (intOf i).toNat)
  case atStart => exact ⟨0, Nat.zero_le _, rfl, X4.out, Nat.le_refl _, HC.out⟩
  case round =>
    as_aux_lemma =>
      clear HC
      obtain ⟨k, hk, rfl, hx, hM, hc⟩ := hrel
      try dsimp only at hk
      have XR := Lib.hid hx
      have HC := Lib.hid hc
      have f1 : wr.cell? ⟨w.heap.size, 1, none⟩ = some (.slice A2 bs.length c2) := hx.c1
      have zr : w.heap.size < wr.heap.size := hx.lt
      clear hx hc
      by_cases hlt : k < bs.length
      · obtain ⟨b, off, kind, B, args, cap, vn, ve, un, ue, hA2, hbm, hbs, hx, g0, g1, g2, g3, g4, g5, ha, hl⟩ := (XR.out.dg HD.out).blk hlt
        dsimp only at hA2 hx
        subst hA2
        have hargs : args.length ≤ 10 := by
          have := HA.out _ (List.mem_of_getElem? hx)
          exact this
        have HX := Lib.hid hx
        have HB := Lib.hid (CellsAt.below ha (al_ wr (.cells #[.int .i64 kind, .slice B args.length cap, .int .i64 vn, .int .i64 ve, .int .i64 un, .int .i64 ue] 44)) XR.out.le)
        have HC5 := Lib.hid (HC.out.below (al_ wr (.cells #[.int .i64 kind, .slice B args.length cap, .int .i64 vn, .int .i64 ve, .int .i64 un, .int .i64 ue] 44)) hM)
        have X5 := Lib.hid (XR.out.al (.cells #[.int .i64 kind, .slice B args.length cap, .int .i64 vn, .int .i64 ve, .int .i64 un, .int .i64 ue] 44))
        clear hx ha hl HC
        by_cases hk2 : kind = 2
        · subst hk2
          have HP := Lib.hid (fol_del (kind_of HX.out))
          have HP := Lib.hid (show placeI L (k : Int) = -1 from (by rw [HLD.out]; exact HP.out))
          go_wp2_with fail
          go_at_call 20
          refine (place_any A L c w4.heap.size (k : Int) _ HC5.out (by omega)).mono ?_
          rintro e wq ⟨rfl, rfl⟩
          rw [HP.out]
          go_wp2_with fail
          exact ⟨⟨k + 1, Nat.succ_le_of_lt hlt, by go_num, X5.out, by simp; omega, HC5.out⟩, by simp [intOf]; omega⟩
        · obtain ⟨p, FP⟩ := fol_at HOK.out HF.out hlt (by rw [kind_of HX.out]; exact hk2)
          have hpl : p < L.length := by
            have := (List.getElem?_eq_some_iff.1 FP.at_).1
            rw [HLD.out, natI_len]
            exact this
          have HP := Lib.hid (show placeI L (k : Int) = (p : Int) from (by rw [HLD.out]; exact FP.place))
          have HO := Lib.hid (show placeI (L.drop (p + 1)) (k : Int) = -1 from (by rw [HLD.out, natI_drop]; exact FP.once))
          have hpr : preds bs k = if kind = 0 then [] else args := preds_of HX.out
          obtain ⟨B1, r1, D1, hD1, hs1, hcs1⟩ := sl_from HC5.out (p + 1) (by omega) hcap
          rw [show (((p + 1 : Nat)) : Int) = (p : Int) + 1 by omega] at hs1
          have hdl : D1.length ≤ 1000000 := by rw [hD1]; simp; omega
          rw [← hD1] at HO
          clear hD1
          have HCS := Lib.hid hcs1
          have n2 : (kind == 2) = false := by simpa using hk2
          have FPH := Lib.hid FP
          clear FP hcs1 hk2
          go_wp2_with fail
          go_at_call 20
          refine (place_any A L c w4.heap.size (k : Int) _ HC5.out (by omega)).mono ?_
          rintro e wq ⟨rfl, rfl⟩
          rw [HP.out]
          go_wp2_with fail
          go_at_call 20
          refine (place_any B1 D1 r1 w4.heap.size (k : Int) _ HCS.out hdl).mono ?_
          rintro e wq ⟨rfl, rfl⟩
          rw [HO.out]
          clear hs1 hdl
          obtain ⟨q, hq⟩ : ∃ q, q = lastT bs (ordM bs) (preds bs k) (preds bs k).length := ⟨_, rfl⟩
          have HQ := Lib.hid hq
          have hq1 : -1 ≤ q := by rw [hq]; exact lastT_ge _ _ _ _
          have hq2 : q < (p : Int) := by rw [hq]; exact FPH.out.last
          obtain ⟨s, hs⟩ := Int.eq_ofNat_of_zero_le (show 0 ≤ q + 1 by omega)
          obtain rfl : q = (s : Int) - 1 := by omega
          clear hs hq
          obtain ⟨B2, r2, D2, hD2, hs2, hcs2⟩ := sl_lh HC5.out s p (by omega) (by omega) hcap
          have hs2' : ∀ w', (Instr.slice 24 (.slice A L.length c) (some (.int .i64 ((s : Int) - 1 + 1))) (some (.int .i64 (p : Int))) none).run Tryd.prog w' = .ok (.slice B2 D2.length r2) w' := by
            intro w'
            rw [show (s : Int) - 1 + 1 = (s : Int) by omega]
            exact hs2 w'
          have hdl2 : D2.length ≤ 1000000 := by rw [hD2]; simp; omega
          have HD2 := Lib.hid hD2
          clear hD2
          have HS2 := Lib.hid hs2
          have HS2' := Lib.hid hs2'
          have HCS2 := Lib.hid hcs2
          clear hs2 hs2' hcs2
          by_cases hk0 : kind = 0
          · subst hk0
            rw [if_pos rfl] at hpr
            have hs0 : (s : Int) = 0 := by
              have := HQ.out
              rw [hpr] at this
              simp [lastT] at this
              omega
            obtain rfl : s = 0 := by omega
            clear hpr hs0
            have hs2 : ∀ w', (Instr.slice 24 (.slice A L.length c) (some (.int .i64 0)) (some (.int .i64 (p : Int))) none).run Tryd.prog w' = .ok (.slice B2 D2.length r2) w' := HS2.out
            go_wp2_with fail
            all_goals try (exfalso; omega)
            go_loopw [101] (fun v w9 => flB (wr.alloc (.cells #[.int .i64 0, .slice B args.length cap, .int .i64 vn, .int .i64 ve, .int .i64 un, .int .i64 ue] 44)) D2.length v w9) (fun v _ => D2.length - (intOf v).toNat)
            case atStart => exact ⟨0, Nat.zero_le _, rfl, rfl⟩
            case round =>
              obtain ⟨j, hj, rfl, rfl⟩ := hrel
              by_cases hjl : j < D2.length
              · obtain ⟨b2, o2, z, rfl, hb2, hs2, hz, gz⟩ := HCS2.out.int_ hjl
                have hzk : ¬ ((k : Int) < z) := by have := fol_le FPH.out HLD.out HQ.out HD2.out hz; omega
                clear hz
                go_wp2_with fail
                all_goals try (exfalso; omega)
                exact ⟨⟨j + 1, by omega, by go_num, rfl⟩, by simp [intOf]; omega⟩
              · go_wp2_with fail
                exact ⟨⟨k + 1, Nat.succ_le_of_lt hlt, by go_num, X5.out, by simp; omega, HC5.out⟩, by simp [intOf]; omega⟩
          · rw [if_neg hk0] at hpr
            have HPR := Lib.hid hpr
            have n0 : (kind != 0) = true := by simpa using hk0
            clear hpr hk0
            go_wp2_with fail
            all_goals try (exfalso; omega)
            go_loopw [8, 66] (fun v8 v66 w9 => flA (wr.alloc (.cells #[.int .i64 kind, .slice B args.length cap, .int .i64 vn, .int .i64 ve, .int .i64 un, .int .i64 ue] 44)) bs (ordM bs) args v8 v66 w9) (fun _ i _ => args.length - (intOf i).toNat)
            case atStart => exact ⟨0, Nat.zero_le _, rfl, rfl, rfl⟩
            case round =>
              obtain ⟨t, ht, rfl, rfl, rfl⟩ := hrel
              have f1' : (wr.alloc (.cells #[.int .i64 kind, .slice B args.length cap, .int .i64 vn, .int .i64 ve, .int .i64 un, .int .i64 ue] 44)).cell? ⟨w.heap.size, 1, none⟩ = some (.slice (some ⟨b, off, none⟩) bs.length c2) := X5.out.c1
              have zz := X5.out.lt
              by_cases htl : t < args.length
              · obtain ⟨ab, ao, z, rfl, hab, hab2, hz, gz⟩ := HB.out.int_ htl
                have hzb := HOK.out k hlt z (by rw [HPR.out]; exact List.mem_of_getElem? hz)
                obtain ⟨a, rfl⟩ := Int.eq_ofNat_of_zero_le hzb.1
                have haN : a < bs.length := by have := hzb.2; omega
                have haI : (a : Int) < (bs.length : Int) := hzb.2
                obtain ⟨b3, off3, kind3, B3, args3, cap3, vn3, ve3, un3, ue3, hA3, hbm3, hbs3, hx3, q0, _, _, _, _, _, _, _⟩ := (X5.out.dg HD.out).blk haN
                dsimp only at hA3 hx3
                cases hA3
                have HZ := Lib.hid hz
                have HK3 := Lib.hid (kind_of hx3)
                clear hz hzb hx3
                by_cases h32 : kind3 = 2
                · subst h32
                  have HE3 := Lib.hid (show lastT bs (ordM bs) args (t + 1) = lastT bs (ordM bs) args t from (lastT_succ HZ.out).trans (if_pos HK3.out))
                  go_wp2_with fail
                  all_goals try (exfalso; omega)
                  exact ⟨⟨t + 1, by omega, by go_num, by rw [HE3.out], rfl⟩, by simp [intOf]; omega⟩
                · have HE3 := Lib.hid (show lastT bs (ordM bs) args (t + 1) = max (lastT bs (ordM bs) args t) (placeI L (a : Int)) from (by rw [HLD.out]; exact (lastT_succ HZ.out).trans (if_neg (by rw [Int.toNat_natCast, HK3.out]; exact h32))))
                  have n32 : (kind3 != 2) = true := by simpa using h32
                  clear h32
                  go_wp2_with fail
                  all_goals try (exfalso; omega)
                  go_at_call 20
                  refine (place_any A L c w4.heap.size (a : Int) _ HC5.out (by omega)).mono ?_
                  rintro e wq ⟨rfl, rfl⟩
                  go_wp2_with fail
                  exact ⟨⟨t + 1, by omega, by go_num, by rw [HE3.out], rfl⟩, by simp [intOf]; omega⟩
              · have hex : lastT bs (ordM bs) args t = (s : Int) - 1 := by
                  rw [HQ.out, HPR.out]
                  exact lastT_all (by omega)
                rw [hex]
                clear hex
                have hs2' := HS2.out
                go_wp2_with fail
                all_goals try (exfalso; omega)
                go_loopw [101] (fun v w9 => flB (wr.alloc (.cells #[.int .i64 kind, .slice B args.length cap, .int .i64 vn, .int .i64 ve, .int .i64 un, .int .i64 ue] 44)) D2.length v w9) (fun v _ => D2.length - (intOf v).toNat)
                case atStart => exact ⟨0, Nat.zero_le _, rfl, rfl⟩
                case round =>
                  obtain ⟨j, hj, rfl, rfl⟩ := hrel
                  by_cases hjl : j < D2.length
                  · obtain ⟨b2, o2, z, rfl, hb2, hs2, hz, gz⟩ := HCS2.out.int_ hjl
                    have hzk : ¬ ((k : Int) < z) := by have := fol_le FPH.out HLD.out HQ.out HD2.out hz; omega
                    clear hz
                    go_wp2_with fail
                    all_goals try (exfalso; omega)
                    exact ⟨⟨j + 1, by omega, by go_num, rfl⟩, by simp [intOf]; omega⟩
                  · go_wp2_with fail
                    exact ⟨⟨k + 1, Nat.succ_le_of_lt hlt, by go_num, X5.out, by simp; omega, HC5.out⟩, by simp [intOf]; omega⟩
      · go_wp2_with fail
        go_ret
        exact ⟨rfl, XR.out.bel⟩
theorem diagramFollows_walk (A1 : Option Addr) (ps : List Prt) (c1 : Nat) (A2 : Option Addr) (bs : List Bk) (c2 : Nat) (A3 : Option Addr) (os : List Int) (c3 : Nat) (w : World) (hi : DgIn w ⟨A1, ps, c1, A2, bs, c2, A3, os, c3⟩) (ht : TabAt w) : Calls Tryd.prog 4 #[.agg #[.slice A1 ps.length c1, .slice A2 bs.length c2, .slice A3 os.length c3]] w fun e w' => e = .returned (.bool true) ∧ Below w.heap.size w w' := by
  cases hl : lightG ⟨A1, ps, c1, A2, bs, c2, A3, os, c3⟩ with
  | false => exact fol_heavy A1 ps c1 A2 bs c2 A3 os c3 w hi ht hl
  | true =>
    by_cases he : dgErr ps bs os = 0
    · exact fol_good A1 ps c1 A2 bs c2 A3 os c3 w hi ht hl he
    · exact fol_bad A1 ps c1 A2 bs c2 A3 os c3 w hi ht hl he

set_option maxRecDepth 100000 in
set_option maxHeartbeats 4000000 in
theorem diagramFollows_lifted (os : Os) (started : os.Started) (H : Type) (enc : TypeId × Value → H) :
    ReturnsInHanded {} Tryd.checked os 4 .any (fun w args => (Rows.diagramFollowsSpec.pre enc Tryd.prog Tryd.f4 [] false w args ∧ laidMetH Tryd.prog laidT w) ∧ sizedMet enc Tryd.prog Tryd.f4 (OpenSpec.ofChange Rows.diagramFollowsSpec) false w args)
      (Rows.diagramFollowsSpec.post enc Tryd.prog Tryd.f4 false true false false) := by
  refine law_lift_laid (C := Tryd.checked) (T := 4) own started (by kernel_rfl) Tryd.func4
    (ChangeSpec.witness_shaped (enc := enc) (C := Tryd.checked) (os := os) (X := fun w _ => laidMetH Tryd.prog laidT w) false (World.doorLaid Tryd.prog 400 os) #[.agg #[.slice none 0 0, .slice none 0 0, .slice none 0 0]] 8 rfl (door_shaped os _) (by kernel_rfl) (by kernel_rfl) (by kernel_rfl) (door_met os _))
    laidOut (by kernel_rfl) rfl Tryd.underlying4 (by kernel_rfl) ?_ ?_
  · intro ds h
    match ds, h with
    | [d1], _ => exact ⟨rfl, rfl, rfl⟩
  · intro W base args ds p hval0 hA0 _ hsz0 hL
    have ht := tab_of hL
    have hval : ∀ (j : Nat) t v, Tryd.f4.params[j]? = some t → args[j]? = some v → Value.okWide Tryd.prog W .any base t v := hval0
    have hA : DataW.TrodAll enc Tryd.prog W 0 (fun _ => true) true Tryd.f4.params.toList args.toList ds p := hA0
    clear hsz0 hL
    rw [Tryd.params4] at hA hval
    obtain ⟨v0, vs0, d0, ds0, p0, q0, hargs, rfl, rfl, h0, r0⟩ := trodAll_cons hA
    obtain ⟨rfl, rfl, rfl⟩ := trodAll_nil r0
    obtain rfl : args = #[v0] := by cases args; simp_all
    obtain ⟨⟨A1, ps, c1, A2, bs, c2, A3, os, c3⟩, rfl, hin⟩ := open_dg (hval 0 26 v0 rfl rfl) h0
    exact diagramFollows_walk A1 ps c1 A2 bs c2 A3 os c3 W hin ht
theorem diagramFollows_row : Rows.DiagramFollowsSaid :=
  OpenClaim.holds_of_wide 4 Tryd.f4 rfl rfl rfl rfl rfl rfl rfl ⟨rfl, rfl, rfl, rfl, rfl⟩ rfl rfl rfl rfl rfl (by kernel_rfl) Tryd.func4 (by kernel_rfl)
    (of_decide_eq_true (by kernel_rfl)) (by unfold Func.isWrapper; first | (rw [if_pos (by decide +kernel)]; kernel_rfl) | (rw [if_neg (by decide +kernel)]; exact ⟨rfl, rfl⟩))
    (fun os started H enc _ => diagramFollows_lifted os started H enc)
theorem diagramFollows_holds : Rows.DiagramFollowsCardSaid :=
  Claim7.holds_tied_plain_at .later [] [.data] true (true, "d4523cc579fb41ec178fce1dad4bb0eaaa70277df7fec9a2fbd66a268b8bd742") true
    diagramFollows_row (fun _ h => by cases h) (by kernel_rfl) (fun _ h => by cases h) diagramFollows_row_tie rfl ⟨rfl, rfl⟩ (by kernel_rfl) rfl
    (fun f fn hf hfn => by
      obtain rfl : f = 4 := Option.some.inj ((show Tryd.prog.funcNamed "commutator/commutatorlaw10.DiagramFollows" = some 4 by kernel_rfl).symm.trans hf) |>.symm
      obtain rfl : fn = Tryd.f4 := (Option.some.inj (Tryd.func4.symm.trans hfn)).symm
      exact ⟨by kernel_rfl, fun j t ht => by
        rw [Tryd.params4] at ht
        have hm : t ∈ [26] := by simpa using Array.mem_of_getElem? ht
        have hall : ([26].all fun u => !Tryd.prog.wantsStandIn u) = true := by kernel_rfl
        exact (show Tryd.prog.wantsStandIn t = false by simpa using List.all_eq_true.1 hall t hm)⟩)
    (by kernel_rfl)
#print axioms diagramFollows_holds

end Go.Proofs.YtaheedieingpiaaDoor
