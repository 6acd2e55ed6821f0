/- Order and Delays of the program; Light. Condition: lists of at most a million; the table of math/bits stands in block 0. -/
import Derived.Test.YtjlocofimlgaoaaDoorDgT
import Derived.Test.YtjlocofimlgaoaaDoorDgU
namespace Go.Proofs.YtjlocofimlgaoaaDoor
set_option linter.unusedVariables false
set_option linter.unusedSimpArgs false
set_option linter.unusedSectionVars false
open Go.RowKit

/-- What a call returns that gives a list of its own and an error. -/
def RetOE (xs : List Int) (er : Int) (w : World) (e : Ending) (w' : World) : Prop := ∃ v, e = .returned (.tuple #[v, errV er]) ∧ OwnI w' w.heap.size v xs ∧ Below w.heap.size w w'
def ordO (d : Dg) : List Int := if dgErr d.ps d.bs d.os = 0 then natI (ordM d.bs) else []
def delO (d : Dg) : List Int := if dgErr d.ps d.bs d.os = 0 then natI (delL d.bs) else []
def dgE (d : Dg) : Int := dgErr d.ps d.bs d.os
set_option maxRecDepth 100000 in
set_option maxHeartbeats 4000000 in
theorem Order_any (d : Dg) (m : Nat) (w : World) (hm : m ≤ w.heap.size) (hd : DgAt w m d) (ht : TabAt w) :
    Calls Tryd.prog 49 #[d.val] w (RetOE (ordO d) (dgE d) w) := by
  have hl2 := hd.l2
  have HD := Lib.hid hd
  have HT := Lib.hid ht
  clear hd ht
  obtain ⟨A1, ps, c1, A2, bs, c2, A3, os, c3⟩ := d
  dsimp only at hl2
  simp only [Dg.val]
  have b0 := al_ w (.cells #[.slice A1 ps.length c1, .slice A2 bs.length c2, .slice A3 os.length c3] 46)
  have r0 := RowD.new_ w [.slice A1 ps.length c1, .slice A2 bs.length c2, .slice A3 os.length c3] 46
  have HB0 := Lib.hid b0
  have R0 := Lib.hid r0
  clear b0 r0
  obtain ⟨E, hE⟩ : ∃ E, dgErr ps bs os = E := ⟨_, rfl⟩
  have HE := Lib.hid hE
  clear hE
  go_enter Tryd.func49, Tryd.ntmps49
  go_wp2_with fail
  go_at_call 34
  refine (Check_any ⟨A1, ps, c1, A2, bs, c2, A3, os, c3⟩ m _ (by simp; omega) (HD.out.below HB0.out hm) (HT.out.below HB0.out HT.out.1)).mono ?_
  rintro e w1 ⟨rfl, hb1⟩
  dsimp only
  rw [HE.out]
  have R1 := Lib.hid (R0.out.call hb1)
  have N1 := Lib.hid (HB0.out.trans (hb1.mono HB0.out.size))
  have z1 : w.heap.size < w1.heap.size := R1.out.lt
  have q0 : w1.cell? ⟨w.heap.size, 0, none⟩ = some (.slice A1 ps.length c1) := R1.out.cell 0
  have q1 : w1.cell? ⟨w.heap.size, 1, none⟩ = some (.slice A2 bs.length c2) := R1.out.cell 1
  have q2 : w1.cell? ⟨w.heap.size, 2, none⟩ = some (.slice A3 os.length c3) := R1.out.cell 2
  clear hb1
  by_cases he : E = 0
  · have HE0 := Lib.hid (HE.out.trans he)
    rw [he, errV_0]
    clear he
    have HO := Lib.hid (show ordO ⟨A1, ps, c1, A2, bs, c2, A3, os, c3⟩ = natI (ordM bs) from if_pos HE0.out)
    go_wp2_with fail
    go_at_call 67
    refine (order_any ⟨A1, ps, c1, A2, bs, c2, A3, os, c3⟩ m w1 (by omega) (HD.out.below N1.out hm) (dg_succ HE0.out)).mono ?_
    rintro e w2 ⟨v, rfl, hown, hb2⟩
    have h0 := (pre_of HE0.out).2.2
    have hx : ordL bs = natI (ordM bs) := by unfold ordL; rw [if_pos h0]
    dsimp only at hown
    rw [hx] at hown
    dsimp only
    rw [h0, errV_0]
    have HW := Lib.hid hown
    have N2 := Lib.hid (N1.out.trans (hb2.mono N1.out.size))
    clear hown hb2 hx h0 q0 q1 q2
    go_wp2_with fail
    refine bodyPost_ret (v := .tuple #[v, .nilIface]) (by simp [results, Tryd.results49, go_sem]) rfl ⟨v, by show _ = Ending.returned (.tuple #[v, errV (dgErr ps bs os)]); rw [HE0.out, errV_0], ?_, N2.out⟩
    rw [HO.out]
    exact HW.out.base_ (by omega)
  · have HO := Lib.hid (show ordO ⟨A1, ps, c1, A2, bs, c2, A3, os, c3⟩ = [] from if_neg (by rw [HE.out]; exact he))
    have HEN := Lib.hid (errV_n he)
    clear he
    rw [HEN.out]
    go_wp2_with fail
    refine bodyPost_ret (v := .tuple #[.slice none 0 0, .iface 34 (.int .i64 E)]) (by simp [results, Tryd.results49, go_sem]) rfl ⟨_, by show _ = Ending.returned (.tuple #[_, errV (dgErr ps bs os)]); rw [HE.out, HEN.out], by rw [HO.out]; exact OwnI.nil_ _ _, N1.out⟩
def pdRel (w : World) (vs : List Value) (bs : List Bk) (v i : Value) (wr : World) : Prop := ∃ k : Nat, k ≤ bs.length ∧ i = .int .i64 k ∧ OwnI wr (w.heap.size + 1) v (natI (fl (isDel bs) k)) ∧ RowD wr w.heap.size vs 46 ∧ Below w.heap.size w wr
set_option maxRecDepth 100000 in
set_option maxHeartbeats 4000000 in
theorem Delays_any (d : Dg) (m : Nat) (w : World) (hm : m ≤ w.heap.size) (hd : DgAt w m d) (ht : TabAt w) :
    Calls Tryd.prog 68 #[d.val] w (RetOE (delO d) (dgE d) w) := by
  have hl2 := hd.l2
  have HD := Lib.hid hd
  have HT := Lib.hid ht
  clear hd ht
  obtain ⟨A1, ps, c1, A2, bs, c2, A3, os, c3⟩ := d
  dsimp only at hl2
  simp only [Dg.val]
  have b0 := al_ w (.cells #[.slice A1 ps.length c1, .slice A2 bs.length c2, .slice A3 os.length c3] 46)
  have r0 := RowD.new_ w [.slice A1 ps.length c1, .slice A2 bs.length c2, .slice A3 os.length c3] 46
  have HB0 := Lib.hid b0
  have R0 := Lib.hid r0
  clear b0 r0
  obtain ⟨E, hE⟩ : ∃ E, dgErr ps bs os = E := ⟨_, rfl⟩
  have HE := Lib.hid hE
  clear hE
  go_enter Tryd.func68, Tryd.ntmps68
  go_wp2_with fail
  go_at_call 34
  refine (Check_any ⟨A1, ps, c1, A2, bs, c2, A3, os, c3⟩ m _ (by simp; omega) (HD.out.below HB0.out hm) (HT.out.below HB0.out HT.out.1)).mono ?_
  rintro e w1 ⟨rfl, hb1⟩
  dsimp only
  rw [HE.out]
  have R1 := Lib.hid (R0.out.call hb1)
  have N1 := Lib.hid (HB0.out.trans (hb1.mono HB0.out.size))
  have z1 : w.heap.size < w1.heap.size := R1.out.lt
  have q1 : w1.cell? ⟨w.heap.size, 1, none⟩ = some (.slice A2 bs.length c2) := R1.out.cell 1
  clear hb1
  by_cases he : E = 0
  · have HE0 := Lib.hid (HE.out.trans he)
    rw [he, errV_0]
    clear he
    have HO := Lib.hid (show delO ⟨A1, ps, c1, A2, bs, c2, A3, os, c3⟩ = natI (delL bs) from if_pos HE0.out)
    go_wp2_with fail
    clear q1 z1
    go_loopw [5, 16] (fun v i wr => pdRel w [.slice A1 ps.length c1, .slice A2 bs.length c2, .slice A3 os.length c3] bs v i wr) (fun _ i _ => bs.length - (intOf i).toNat)
    case atStart => exact ⟨0, Nat.zero_le _, rfl, OwnI.nil_ _ _, R1.out, N1.out⟩
    case round =>
      clear R1 N1
      obtain ⟨k, hk, rfl, hown, hbox, hb⟩ := hrel
      have HO2 := Lib.hid hown
      have HB2 := Lib.hid hbox
      have hbl := hbox.lt
      clear hown hbox
      by_cases hlt : k < bs.length
      · obtain ⟨b, off, kind, A, args, cap, vn, ve, un, ue, hA, hbm, hbs, hx, g0, g1, g2, g3, g4, g5, ha, hl⟩ := (HD.out.below hb hm).blk hlt
        dsimp only at hA hx
        subst hA
        clear ha hl
        have HX := Lib.hid (kind_of hx)
        dsimp only at HX
        clear hx
        have hbz := hb.size
        by_cases k2 : kind = 2
        · subst k2
          have HP : isDel bs k = true := by unfold isDel; rw [HX.out]; rfl
          have HP := Lib.hid HP
          go_wp2_with (at_builtin; refine push_int rfl _ _ rfl (w.heap.size + 1) _ (natI (fl (isDel bs) k)) (k : Int) (wr.heap.size + 1) rfl ((HO2.out.alloc _).alloc _) rfl (by simp [go_sem]) (by have := fl_le (isDel bs) k; simp [natI]; omega) (by simp; omega) ?_; intro v' w4 hown hg hb4)
          have hst : Below w.heap.size wr w4 := (((Below.refl _ wr).alloc hbz _).alloc (by simp; omega) _).trans (hb4.mono (by omega))
          have hr4 := ((HB2.out.al _).al _).below hb4 (by omega)
          exact ⟨⟨k + 1, by omega, by go_num, by rw [fl_hit HP.out]; simpa [natI] using hown, hr4, hb.trans hst⟩, by simp [intOf]; omega⟩
        · have HP : isDel bs k = false := by unfold isDel; rw [HX.out]; simpa using k2
          have HP := Lib.hid HP
          have n2 : (kind == 2) = false := by simpa using k2
          clear k2
          go_wp2_with fail
          exact ⟨⟨k + 1, by omega, by go_num, by rw [fl_no HP.out]; exact HO2.out.alloc _, HB2.out.al _, ext_alloc hb _⟩, by simp [intOf]; omega⟩
      · go_wp2_with fail
        have e : k = bs.length := by omega
        subst e
        obtain ⟨A', c', hv, _⟩ := HO2.out.view
        subst hv
        refine bodyPost_ret (v := .tuple #[.slice A' (natI (fl (isDel bs) bs.length)).length c', .nilIface]) (by simp [results, Tryd.results68, go_sem]) rfl ⟨_, by show _ = Ending.returned (.tuple #[_, errV (dgErr ps bs os)]); rw [HE0.out, errV_0], ?_, hb⟩
        rw [HO.out]
        exact HO2.out.base_ (by omega)
  · have HO := Lib.hid (show delO ⟨A1, ps, c1, A2, bs, c2, A3, os, c3⟩ = [] from if_neg (by rw [HE.out]; exact he))
    have HEN := Lib.hid (errV_n he)
    clear he
    rw [HEN.out]
    go_wp2_with fail
    refine bodyPost_ret (v := .tuple #[.slice none 0 0, .iface 34 (.int .i64 E)]) (by simp [results, Tryd.results68, go_sem]) rfl ⟨_, by show _ = Ending.returned (.tuple #[_, errV (dgErr ps bs os)]); rw [HE.out, HEN.out], by rw [HO.out]; exact OwnI.nil_ _ _, N1.out⟩
/- Light. -/
def lightG (d : Dg) : Bool := decide (d.ps.length ≤ 40 ∧ d.bs.length ≤ 80 ∧ d.os.length ≤ 40) && d.bs.all fun b => decide (b.args.length ≤ 10)
def lgRel (w : World) (bs : List Bk) (vs : List Value) (i : Value) (wr : World) : Prop := ∃ k : Nat, k ≤ bs.length ∧ i = .int .i64 k ∧ (bs.take k).all (fun b => decide (b.args.length ≤ 10)) = true ∧ RowD wr w.heap.size vs 46 ∧ Below w.heap.size w wr
theorem all_take {α : Type} {p : α → Bool} {l : List α} {k : Nat} {x : α} (hx : l[k]? = some x) (h : (l.take k).all p = true) (hp : p x = true) : (l.take (k + 1)).all p = true := by
  rw [List.take_add_one, hx, List.all_append, h]
  simp [hp]
theorem DgIn.blk {w : World} {d : Dg} (h : DgIn w d) {k : Nat} (hk : k < d.bs.length) :
    ∃ b off kind A args cap vn ve un ue, d.A2 = some ⟨b, off, none⟩ ∧ b < w.heap.size ∧ d.bs[k]? = some ⟨kind, A, args, cap, vn, ve, un, ue⟩ ∧
      w.cell? ⟨b, off + k * 6, none⟩ = some (.int .i64 kind) ∧ w.cell? ⟨b, off + k * 6 + 1, none⟩ = some (.slice A args.length cap) ∧ w.cell? ⟨b, off + k * 6 + 2, none⟩ = some (.int .i64 vn) ∧ w.cell? ⟨b, off + k * 6 + 3, none⟩ = some (.int .i64 ve) ∧
      w.cell? ⟨b, off + k * 6 + 4, none⟩ = some (.int .i64 un) ∧ w.cell? ⟨b, off + k * 6 + 5, none⟩ = some (.int .i64 ue) ∧ args.length ≤ maxLen := by
  obtain ⟨b, off, x, hA, hbm, hbs, hx, hc⟩ := h.bs.row (s := 6) (fun _ => rfl) (by omega) hk
  have ha := h.l4 x (List.mem_of_getElem? hx)
  obtain ⟨kind, A, args, cap, vn, ve, un, ue⟩ := x
  exact ⟨b, off, kind, A, args, cap, vn, ve, un, ue, hA, hbm, hx, hc 0 _ rfl, hc 1 _ rfl, hc 2 _ rfl, hc 3 _ rfl, hc 4 _ rfl, hc 5 _ rfl, ha⟩
theorem lightG_big {d : Dg} (h : ¬ (d.ps.length ≤ 40 ∧ d.bs.length ≤ 80 ∧ d.os.length ≤ 40)) : lightG d = false := by unfold lightG; rw [decide_eq_false h]; rfl
theorem lightG_in {d : Dg} (h : d.ps.length ≤ 40 ∧ d.bs.length ≤ 80 ∧ d.os.length ≤ 40) : lightG d = d.bs.all fun b => decide (b.args.length ≤ 10) := by unfold lightG; rw [decide_eq_true h]; rfl
set_option maxRecDepth 100000 in
set_option maxHeartbeats 4000000 in
theorem light_any (d : Dg) (w w0 : World) (hb0 : Below w0.heap.size w0 w) (hd : DgIn w0 d) :
    Calls Tryd.prog 17 #[d.val] w fun e w' => e = .returned (.bool (lightG d)) ∧ Below w.heap.size w w' := by
  have l1 := hd.l1
  have l2 := hd.l2
  have l3 := hd.l3
  unfold maxLen at l1 l2 l3
  have HD := Lib.hid hd
  have HB0 := Lib.hid hb0
  clear hd hb0
  obtain ⟨A1, ps, c1, A2, bs, c2, A3, os, c3⟩ := d
  dsimp only at l1 l2 l3
  simp only [Dg.val]
  by_cases hs : ps.length ≤ 40 ∧ bs.length ≤ 80 ∧ os.length ≤ 40
  · have HS := Lib.hid (lightG_in (d := ⟨A1, ps, c1, A2, bs, c2, A3, os, c3⟩) hs)
    obtain ⟨s1, s2, s3⟩ := hs
    go_enter Tryd.func17, Tryd.ntmps17
    go_wp2_with fail
    all_goals try (exfalso; omega)
    go_loopw [24] (fun i wr => lgRel w bs [.slice A1 ps.length c1, .slice A2 bs.length c2, .slice A3 os.length c3] i wr) (fun i _ => bs.length - (intOf i).toNat)
    case atStart => exact ⟨0, Nat.zero_le _, rfl, rfl, RowD.new_ _ _ _, al_ _ _⟩
    case round =>
      obtain ⟨k, hk, rfl, hall, hbox, hb⟩ := hrel
      have HA := Lib.hid hall
      have HB2 := Lib.hid hbox
      have hbl := hbox.lt
      clear hall hbox
      by_cases hlt : k < bs.length
      · obtain ⟨b, off, kind, A, args, cap, vn, ve, un, ue, hA, hbs, hx, g0, g1, g2, g3, g4, g5, hl⟩ := HD.out.blk hlt
        unfold maxLen at hl
        dsimp only at hA hx
        subst hA
        have hB := HB0.out.trans (hb.mono HB0.out.size)
        have hbw : b < wr.heap.size := Nat.lt_of_lt_of_le hbs hB.size
        rw [← hB.cell (p := ⟨b, _, none⟩) hbs] at g0 g1 g2 g3 g4 g5
        have HX := Lib.hid hx
        clear hx hB
        by_cases ha : args.length ≤ 10
        · go_wp2_with fail
          all_goals try (exfalso; omega)
          exact ⟨⟨k + 1, by omega, by go_num, all_take HX.out HA.out (decide_eq_true ha), HB2.out.al _, ext_alloc hb _⟩, by simp [intOf]; omega⟩
        · go_wp2_with fail
          all_goals try (exfalso; omega)
          go_ret
          refine ⟨ret_bool ?_, ext_alloc hb _⟩
          rw [HS.out]
          refine Eq.symm (List.all_eq_false.2 ⟨_, List.mem_of_getElem? HX.out, ?_⟩)
          simpa using ha
      · go_wp2_with fail
        go_ret
        refine ⟨ret_bool ?_, hb⟩
        rw [HS.out]
        have h := HA.out
        rw [List.take_of_length_le (by omega)] at h
        exact h.symm
  · have HS := Lib.hid (lightG_big (d := ⟨A1, ps, c1, A2, bs, c2, A3, os, c3⟩) hs)
    have key : (40 < ps.length) ∨ (ps.length ≤ 40 ∧ 80 < bs.length) ∨ (ps.length ≤ 40 ∧ bs.length ≤ 80 ∧ 40 < os.length) := by omega
    clear hs
    rcases key with h | ⟨h1, h⟩ | ⟨h1, h2, h⟩
    all_goals
      go_enter Tryd.func17, Tryd.ntmps17
      go_wp2_with fail
      all_goals try (exfalso; omega)
      go_ret
      exact ⟨ret_bool HS.out.symm, al_ _ _⟩
end Go.Proofs.YtjlocofimlgaoaaDoor
