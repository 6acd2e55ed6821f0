/- DiagramCircles: for every diagram the law returns true: where a diagram is refused because of a circle, blocks that are no delays are left of which each has an argument among them; with these as delays it is accepted. No conditions. -/
import Derived.Test.YtaheedieingpiaaDoorDhB
import Derived.Test.YtaheedieingpiaaDoorDhA
namespace Go.Proofs.YtaheedieingpiaaDoor
set_option linter.unusedVariables false
set_option linter.unusedSimpArgs false
set_option linter.unusedSectionVars false
open Go.ChangeShapes Go.WideShapes Go.ChangeAt Go.RowKit Go.Joins

set_option maxRecDepth 100000 in
set_option maxHeartbeats 4000000 in
theorem cir_heavy (A1 : Option Addr) (ps : List Prt) (c1 : Nat) (A2 : Option Addr) (bs : List Bk) (c2 : Nat) (A3 : Option Addr) (os : List Int) (c3 : Nat)  (w : World) (hi : DgIn w ⟨A1, ps, c1, A2, bs, c2, A3, os, c3⟩) (ht : TabAt w) (hl : lightG ⟨A1, ps, c1, A2, bs, c2, A3, os, c3⟩ = false) : Calls Tryd.prog 5 #[.agg #[.slice A1 ps.length c1, .slice A2 bs.length c2, .slice A3 os.length c3]] w fun e w' => e = .returned (.bool true) ∧ Below w.heap.size w w' := by
  have HI := Lib.hid hi
  have HT := Lib.hid ht
  clear hi ht
  have HL := Lib.hid hl
  clear hl
  have X0 := Lib.hid (Lx.start w ⟨A1, ps, c1, A2, bs, c2, A3, os, c3⟩ HT.out)
  go_enter Tryd.func5, Tryd.ntmps5
  go_wp2_with fail
  go_at_call 11
  refine (awake_any _ X0.out.tab).mono ?_
  rintro e w1 ⟨rfl, hb⟩
  have X1 := Lib.hid (X0.out.next hb)
  clear hb
  have f0 : w1.cell? ⟨w.heap.size, 0, none⟩ = some (.slice A1 ps.length c1) := X1.out.c0
  have f1 : w1.cell? ⟨w.heap.size, 1, none⟩ = some (.slice A2 bs.length c2) := X1.out.c1
  have f2 : w1.cell? ⟨w.heap.size, 2, none⟩ = some (.slice A3 os.length c3) := X1.out.c2
  have z1 : w.heap.size < w1.heap.size := X1.out.lt
  go_wp2_with fail
  go_at_call 12
  refine (light_any ⟨A1, ps, c1, A2, bs, c2, A3, os, c3⟩ _ w X1.out.bel HI.out).mono ?_
  rintro e w2 ⟨rfl, hb⟩
  have X2 := Lib.hid (X1.out.next hb)
  rw [HL.out]
  clear hb
  clear f0 f1 f2
  have f0 : w2.cell? ⟨w.heap.size, 0, none⟩ = some (.slice A1 ps.length c1) := X2.out.c0
  have f1 : w2.cell? ⟨w.heap.size, 1, none⟩ = some (.slice A2 bs.length c2) := X2.out.c1
  have f2 : w2.cell? ⟨w.heap.size, 2, none⟩ = some (.slice A3 os.length c3) := X2.out.c2
  have z2 : w.heap.size < w2.heap.size := X2.out.lt
  go_wp2_with fail
  go_at_call 11
  refine (awake_any _ X2.out.tab).mono ?_
  rintro e w3 ⟨rfl, hb⟩
  have X3 := Lib.hid (X2.out.next hb)
  clear hb
  clear f0 f1 f2
  have f0 : w3.cell? ⟨w.heap.size, 0, none⟩ = some (.slice A1 ps.length c1) := X3.out.c0
  have f1 : w3.cell? ⟨w.heap.size, 1, none⟩ = some (.slice A2 bs.length c2) := X3.out.c1
  have f2 : w3.cell? ⟨w.heap.size, 2, none⟩ = some (.slice A3 os.length c3) := X3.out.c2
  have z3 : w.heap.size < w3.heap.size := X3.out.lt
  go_wp2_with fail
  go_ret
  exact ⟨rfl, X3.out.bel⟩
set_option maxRecDepth 100000 in
set_option maxHeartbeats 4000000 in
theorem cir_not (A1 : Option Addr) (ps : List Prt) (c1 : Nat) (A2 : Option Addr) (bs : List Bk) (c2 : Nat) (A3 : Option Addr) (os : List Int) (c3 : Nat)  (w : World) (hi : DgIn w ⟨A1, ps, c1, A2, bs, c2, A3, os, c3⟩) (ht : TabAt w) (hl : lightG ⟨A1, ps, c1, A2, bs, c2, A3, os, c3⟩ = true) (he : ¬ dgErr ps bs os = 24) : Calls Tryd.prog 5 #[.agg #[.slice A1 ps.length c1, .slice A2 bs.length c2, .slice A3 os.length c3]] w fun e w' => e = .returned (.bool true) ∧ Below w.heap.size w w' := by
  have HI := Lib.hid hi
  have HT := Lib.hid ht
  clear hi ht
  have HL := Lib.hid hl
  have HD := Lib.hid (HI.out.light hl)
  have h10 := hl
  unfold lightG at h10
  simp only [Bool.and_eq_true, decide_eq_true_eq, List.all_eq_true] at h10
  obtain ⟨⟨l1, l2, l3⟩, h4⟩ := h10
  have HA := Lib.hid h4
  clear hl h4
  try dsimp only at l1 l2 l3
  have HE := Lib.hid (isB_ne he)
  clear he
  have X0 := Lib.hid (Lx.start w ⟨A1, ps, c1, A2, bs, c2, A3, os, c3⟩ HT.out)
  go_enter Tryd.func5, Tryd.ntmps5
  go_wp2_with fail
  go_at_call 11
  refine (awake_any _ X0.out.tab).mono ?_
  rintro e w1 ⟨rfl, hb⟩
  have X1 := Lib.hid (X0.out.next hb)
  clear hb
  have f0 : w1.cell? ⟨w.heap.size, 0, none⟩ = some (.slice A1 ps.length c1) := X1.out.c0
  have f1 : w1.cell? ⟨w.heap.size, 1, none⟩ = some (.slice A2 bs.length c2) := X1.out.c1
  have f2 : w1.cell? ⟨w.heap.size, 2, none⟩ = some (.slice A3 os.length c3) := X1.out.c2
  have z1 : w.heap.size < w1.heap.size := X1.out.lt
  go_wp2_with fail
  go_at_call 12
  refine (light_any ⟨A1, ps, c1, A2, bs, c2, A3, os, c3⟩ _ w X1.out.bel HI.out).mono ?_
  rintro e w2 ⟨rfl, hb⟩
  have X2 := Lib.hid (X1.out.next hb)
  rw [HL.out]
  clear hb
  clear f0 f1 f2
  have f0 : w2.cell? ⟨w.heap.size, 0, none⟩ = some (.slice A1 ps.length c1) := X2.out.c0
  have f1 : w2.cell? ⟨w.heap.size, 1, none⟩ = some (.slice A2 bs.length c2) := X2.out.c1
  have f2 : w2.cell? ⟨w.heap.size, 2, none⟩ = some (.slice A3 os.length c3) := X2.out.c2
  have z2 : w.heap.size < w2.heap.size := X2.out.lt
  go_wp2_with fail
  go_at_call 18
  refine (Check_any ⟨A1, ps, c1, A2, bs, c2, A3, os, c3⟩ w.heap.size _ X2.out.le (X2.out.dg HD.out) X2.out.tab).mono ?_
  rintro e w3 ⟨rfl, hb⟩
  have X3 := Lib.hid (X2.out.next hb)
  try dsimp only
  clear hb
  clear f0 f1 f2
  have f0 : w3.cell? ⟨w.heap.size, 0, none⟩ = some (.slice A1 ps.length c1) := X3.out.c0
  have f1 : w3.cell? ⟨w.heap.size, 1, none⟩ = some (.slice A2 bs.length c2) := X3.out.c1
  have f2 : w3.cell? ⟨w.heap.size, 2, none⟩ = some (.slice A3 os.length c3) := X3.out.c2
  have z3 : w.heap.size < w3.heap.size := X3.out.lt
  go_wp2_with fail
  go_at_call 15
  refine (is_any _ 24 _).mono ?_
  rintro e wq ⟨rfl, rfl⟩
  rw [HE.out]
  go_wp2_with fail
  go_at_call 11
  refine (awake_any _ X3.out.tab).mono ?_
  rintro e w4 ⟨rfl, hb⟩
  have X4 := Lib.hid (X3.out.next hb)
  clear hb
  clear f0 f1 f2
  have f0 : w4.cell? ⟨w.heap.size, 0, none⟩ = some (.slice A1 ps.length c1) := X4.out.c0
  have f1 : w4.cell? ⟨w.heap.size, 1, none⟩ = some (.slice A2 bs.length c2) := X4.out.c1
  have f2 : w4.cell? ⟨w.heap.size, 2, none⟩ = some (.slice A3 os.length c3) := X4.out.c2
  have z4 : w.heap.size < w4.heap.size := X4.out.lt
  go_wp2_with fail
  go_ret
  exact ⟨rfl, X4.out.bel⟩
theorem Lx.set {w0 w : World} {d : Dg} (h : Lx w0 w d) {g : Nat} (hg : w0.heap.size < g) (j : Nat) (u : Value) : Lx w0 (w.setCell ⟨g, j, none⟩ u) d :=
  ⟨h.bel.setCell (by show w0.heap.size ≤ g; omega) u, h.box.other_ (by omega) j u, h.tab.below ((Below.refl g w).setCell (Nat.le_refl _) u) (by omega)⟩
def cr1 (w : World) (d : Dg) (g : Nat) (f : Nat → List Bool) (v : Value) (wr : World) : Prop := ∃ k : Nat, k ≤ d.bs.length ∧ v = .int .i64 k ∧ Lx w wr d ∧ RowD wr g (bools (f k)) 4
def cr2 (w5 : World) (n : Nat) (v : Value) (wr : World) : Prop := ∃ t : Nat, t ≤ n ∧ v = .int .i64 t ∧ wr = w5
def cr3 (w5 : World) (m : List Bool) (xs : List Int) (v11 v : Value) (wr : World) : Prop := ∃ t : Nat, t ≤ xs.length ∧ v = .int .i64 t ∧ v11 = .bool (anyT m xs t) ∧ wr = w5
def cr4 (w : World) (d : Dg) (g OB : Nat) (m : List Bool) (v4 v : Value) (wr : World) : Prop :=
  ∃ (k : Nat) (V : Value) (l : List Bk), k ≤ d.bs.length ∧ v = .int .i64 k ∧ v4 = .bool (anyK m k) ∧ Lx w wr d ∧ RowD wr g (bools m) 4 ∧ RowD wr OB [.slice d.A1 d.ps.length d.c1, V, .slice d.A3 d.os.length d.c3] 26 ∧
    OwnB wr (OB + 1) V l ∧ l.length = k ∧ OpenAt d.bs m l ∧ ∀ x ∈ l, CellsAt wr w.heap.size x.A (ints x.args) ∧ x.args.length ≤ 10

theorem Lx.nextB {w0 w w' : World} {d : Dg} (h : Lx w0 w d) {B : Nat} (hb : Below B w w') (hB : w0.heap.size < B) : Lx w0 w' d :=
  ⟨h.bel.trans (hb.mono (by omega)), h.box.below hb hB, h.tab.below hb (by omega)⟩
theorem cr4_low {w wr w5 : World} {d : Dg} {g OB k : Nat} {m : List Bool} {V v' v4 : Value} {l : List Bk} {b x : Bk} (HX : Lx w wr d) (HR : RowD wr g (bools m) 4) (HO : RowD wr OB [.slice d.A1 d.ps.length d.c1, V, .slice d.A3 d.os.length d.c3] 26)
    (hl : l.length = k) (hop : OpenAt d.bs m l) (hal : ∀ x ∈ l, CellsAt wr w.heap.size x.A (ints x.args) ∧ x.args.length ≤ 10) (hb : Below (OB + 1) wr w5) (hgo : g < OB) (hwg : w.heap.size < g) (hown : OwnB w5 (OB + 1) v' (l ++ [x])) (hbk : d.bs[k]? = some b)
    (hx : if isM m k = true then x.kind = 2 ∧ x.args = b.args.take 1 ∧ x.vn = 0 ∧ x.ve = 0 ∧ x.un = 0 ∧ x.ue = 0 else x.kind = b.kind ∧ x.args = b.args ∧ x.vn = b.vn ∧ x.ve = b.ve ∧ x.un = b.un ∧ x.ue = b.ue)
    (hxa : CellsAt wr w.heap.size x.A (ints x.args)) (hxl : x.args.length ≤ 10) (e4 : v4 = .bool (anyK m (k + 1))) : cr4 w d g OB m v4 (.int .i64 ((k : Int) + 1)) (w5.setCell ⟨OB, 1, none⟩ v') := by
  have hlt : k < d.bs.length := (List.getElem?_eq_some_iff.1 hbk).1
  have hb2 : Below OB wr (w5.setCell ⟨OB, 1, none⟩ v') := (hb.mono (Nat.le_succ OB)).setCell (p := ⟨OB, 1, none⟩) (Nat.le_refl OB) v'
  refine ⟨k + 1, v', l ++ [x], by omega, by go_num, e4, HX.nextB hb2 (by omega), HR.below hb2 hgo, (HO.below hb (by omega)).set_ 1 v', hown.set_below v' (by omega), by simp [hl], ?_, ?_⟩
  · subst hl
    exact hop.push hbk hx
  · intro y hy
    rcases List.mem_append.1 hy with hy | hy
    · exact ⟨(hal y hy).1.below hb2 (by omega), (hal y hy).2⟩
    · simp at hy
      subst hy
      exact ⟨hxa.below hb2 (by omega), hxl⟩

set_option maxRecDepth 100000 in
set_option maxHeartbeats 4000000 in
theorem cir_good (A1 : Option Addr) (ps : List Prt) (c1 : Nat) (A2 : Option Addr) (bs : List Bk) (c2 : Nat) (A3 : Option Addr) (os : List Int) (c3 : Nat)  (w : World) (hi : DgIn w ⟨A1, ps, c1, A2, bs, c2, A3, os, c3⟩) (ht : TabAt w) (hl : lightG ⟨A1, ps, c1, A2, bs, c2, A3, os, c3⟩ = true) (he : dgErr ps bs os = 24) : Calls Tryd.prog 5 #[.agg #[.slice A1 ps.length c1, .slice A2 bs.length c2, .slice A3 os.length c3]] w fun e w' => e = .returned (.bool true) ∧ Below w.heap.size w w' := by
  have HI := Lib.hid hi
  have HT := Lib.hid ht
  clear hi ht
  have HL := Lib.hid hl
  have HD := Lib.hid (HI.out.light hl)
  have h10 := hl
  unfold lightG at h10
  simp only [Bool.and_eq_true, decide_eq_true_eq, List.all_eq_true] at h10
  obtain ⟨⟨l1, l2, l3⟩, h4⟩ := h10
  have HA := Lib.hid h4
  clear hl h4
  try dsimp only at l1 l2 l3
  obtain ⟨e1, e2, e3⟩ := cyc_of he
  have HOK := Lib.hid (succ_ok (pre_parts e2).2.1)
  have HSM := Lib.hid (circles_some (succ_ok (pre_parts e2).2.1) e3)
  have HC := Lib.hid (fun (l : List Bk) => circles_ok (l := l) e1 e2)
  have HE := Lib.hid he
  clear he e1 e2 e3
  obtain ⟨i0, hi0, hz0, hz1, hz2⟩ := info_parts info_bool
  have X0 := Lib.hid (Lx.start w ⟨A1, ps, c1, A2, bs, c2, A3, os, c3⟩ HT.out)
  go_enter Tryd.func5, Tryd.ntmps5
  go_wp2_with fail
  go_at_call 11
  refine (awake_any _ X0.out.tab).mono ?_
  rintro e w1 ⟨rfl, hb⟩
  have X1 := Lib.hid (X0.out.next hb)
  clear hb
  have f0 : w1.cell? ⟨w.heap.size, 0, none⟩ = some (.slice A1 ps.length c1) := X1.out.c0
  have f1 : w1.cell? ⟨w.heap.size, 1, none⟩ = some (.slice A2 bs.length c2) := X1.out.c1
  have f2 : w1.cell? ⟨w.heap.size, 2, none⟩ = some (.slice A3 os.length c3) := X1.out.c2
  have z1 : w.heap.size < w1.heap.size := X1.out.lt
  go_wp2_with fail
  go_at_call 12
  refine (light_any ⟨A1, ps, c1, A2, bs, c2, A3, os, c3⟩ _ w X1.out.bel HI.out).mono ?_
  rintro e w2 ⟨rfl, hb⟩
  have X2 := Lib.hid (X1.out.next hb)
  rw [HL.out]
  clear hb
  clear f0 f1 f2
  have f0 : w2.cell? ⟨w.heap.size, 0, none⟩ = some (.slice A1 ps.length c1) := X2.out.c0
  have f1 : w2.cell? ⟨w.heap.size, 1, none⟩ = some (.slice A2 bs.length c2) := X2.out.c1
  have f2 : w2.cell? ⟨w.heap.size, 2, none⟩ = some (.slice A3 os.length c3) := X2.out.c2
  have z2 : w.heap.size < w2.heap.size := X2.out.lt
  go_wp2_with fail
  go_at_call 18
  refine (Check_any ⟨A1, ps, c1, A2, bs, c2, A3, os, c3⟩ w.heap.size _ X2.out.le (X2.out.dg HD.out) X2.out.tab).mono ?_
  rintro e w3 ⟨rfl, hb⟩
  have X3 := Lib.hid (X2.out.next hb)
  try dsimp only
  rw [HE.out]
  clear hb
  clear f0 f1 f2
  have f0 : w3.cell? ⟨w.heap.size, 0, none⟩ = some (.slice A1 ps.length c1) := X3.out.c0
  have f1 : w3.cell? ⟨w.heap.size, 1, none⟩ = some (.slice A2 bs.length c2) := X3.out.c1
  have f2 : w3.cell? ⟨w.heap.size, 2, none⟩ = some (.slice A3 os.length c3) := X3.out.c2
  have z3 : w.heap.size < w3.heap.size := X3.out.lt
  go_wp2_with fail
  go_at_call 15
  refine (is_any 24 24 _).mono ?_
  rintro e wq ⟨rfl, rfl⟩
  rw [isB_self (by decide)]
  go_wp2_with ((with_reducible refine wpList_make_full _ rfl (.tmp 33) (.tmp 33) 46 rfl w3.heap.size 4 i0 (.bool false) 1 under_bools hi0 hz0 hz1 .i64 .i64 bs.length bs.length bs.length rfl rfl rfl rfl (by rw [hz2]; omega) (by unfold maxLen; omega) (by first | assumption | (simp; done) | (simp; omega)) ?_); intro wm hown hg; have hst : Below w3.heap.size w3 wm := (Below.refl _ _).grown hg (Nat.le_refl _) (fun k h => by simp at h); have hrow := rowD_of hown; rw [made_bools, ← leftK_zero] at hrow; have XM := Lib.hid (X3.out.next hst); have HROW := Lib.hid hrow; have hzg := hrow.lt; clear hown hrow hst hg f0 f1 f2; have f1 : wm.cell? ⟨w.heap.size, 1, none⟩ = some (.slice A2 bs.length c2) := XM.out.c1; have zm : w.heap.size < wm.heap.size := XM.out.lt)
  go_loopw [38] (fun v wr => cr1 w ⟨A1, ps, c1, A2, bs, c2, A3, os, c3⟩ w3.heap.size (leftK bs) v wr) (fun v _ => bs.length - (intOf v).toNat)
  case atStart => exact ⟨0, Nat.zero_le _, rfl, XM.out, HROW.out⟩
  case round =>
      clear XM HROW
      obtain ⟨k, hk, rfl, hx, hr⟩ := hrel
      try dsimp only at hk
      have XR := Lib.hid hx
      have HR := Lib.hid hr
      have f1 : wr.cell? ⟨w.heap.size, 1, none⟩ = some (.slice A2 bs.length c2) := hx.c1
      have zr : w.heap.size < wr.heap.size := hx.lt
      clear hx hr
      by_cases hlt : k < bs.length
      · obtain ⟨b, off, kind, B, args, cap, vn, ve, un, ue, hA2, hbm, hbs, hxb, g0, g1, g2, g3, g4, g5, ha, hl⟩ := (XR.out.dg HD.out).blk hlt
        dsimp only at hA2 hxb
        subst hA2
        have hargs : args.length ≤ 10 := HA.out _ (List.mem_of_getElem? hxb)
        have HX := Lib.hid hxb
        clear hxb hl
        by_cases hk2 : kind = 2
        · as_aux_lemma =>
            subst hk2
            have HB := Lib.hid ((CellsAt.below ha ((Below.refl w3.heap.size wr).setCell (p := ⟨w3.heap.size, k, none⟩) (Nat.le_refl _) (.bool false)) (by omega)).below (al_ _ (.cells #[.int .i64 2, .slice B args.length cap, .int .i64 vn, .int .i64 ve, .int .i64 un, .int .i64 ue] 44)) (by simp; omega))
            have X5 := Lib.hid ((XR.out.set (g := w3.heap.size) (by omega) k (.bool false)).al (.cells #[.int .i64 2, .slice B args.length cap, .int .i64 vn, .int .i64 ve, .int .i64 un, .int .i64 ue] 44))
            have R5 := Lib.hid ((HR.out.set_ k (.bool false)).al (.cells #[.int .i64 2, .slice B args.length cap, .int .i64 vn, .int .i64 ve, .int .i64 un, .int .i64 ue] 44))
            have hnd : notDel bs k = false := by unfold notDel; rw [kind_of HX.out]; rfl
            have HND := Lib.hid (leftK_set bs k)
            rw [hnd] at HND
            have hgl : w3.heap.size < wr.heap.size := HR.out.lt
            have hfr := HR.out.free
            have hck : wr.cell? ⟨w3.heap.size, k, none⟩ = some (.bool (isM (leftK bs k) k)) := by rw [HR.out.cell, bools_get (by rw [leftK_len]; exact hlt)]
            have hki : (k : Int) < (bs.length : Int) := by omega
            clear ha hnd
            go_wp2_with fail
            go_loopw [55] (fun v w9 => cr2 ((wr.setCell ⟨w3.heap.size, k, none⟩ (.bool false)).alloc (.cells #[.int .i64 2, .slice B args.length cap, .int .i64 vn, .int .i64 ve, .int .i64 un, .int .i64 ue] 44)) args.length v w9) (fun v _ => args.length - (intOf v).toNat)
            case atStart => exact ⟨0, Nat.zero_le _, rfl, rfl⟩
            case round =>
              obtain ⟨t, ht, rfl, rfl⟩ := hrel
              have f1' : ((wr.setCell ⟨w3.heap.size, k, none⟩ (.bool false)).alloc (.cells #[.int .i64 2, .slice B args.length cap, .int .i64 vn, .int .i64 ve, .int .i64 un, .int .i64 ue] 44)).cell? ⟨w.heap.size, 1, none⟩ = some (.slice (some ⟨b, off, none⟩) bs.length c2) := X5.out.c1
              have zz := X5.out.lt
              by_cases htl : t < args.length
              · obtain ⟨ab, ao, z, rfl, hab, hab2, hz, gz⟩ := HB.out.int_ htl
                have hzb := HOK.out k hlt z (by rw [preds_of HX.out]; first | exact List.mem_of_getElem? hz | (rw [if_neg (by decide)]; exact List.mem_of_getElem? hz) | (rw [if_neg hk0]; exact List.mem_of_getElem? hz))
                obtain ⟨hz1, hz2⟩ := hzb
                clear hz
                go_wp2_with fail
                all_goals try (exfalso; omega)
                exact ⟨⟨t + 1, by omega, by go_num, rfl⟩, by simp [intOf]; omega⟩
              · go_wp2_with fail
                exact ⟨⟨k + 1, Nat.succ_le_of_lt hlt, by go_num, X5.out, by rw [← HND.out, bools_set]; exact R5.out⟩, by simp [intOf]; omega⟩
        · by_cases hk0 : kind = 0
          · as_aux_lemma =>
              subst hk0
              clear hk2
              have HB := Lib.hid ((CellsAt.below ha ((Below.refl w3.heap.size wr).setCell (p := ⟨w3.heap.size, k, none⟩) (Nat.le_refl _) (.bool true)) (by omega)).below (al_ _ (.cells #[.int .i64 0, .slice B args.length cap, .int .i64 vn, .int .i64 ve, .int .i64 un, .int .i64 ue] 44)) (by simp; omega))
              have X5 := Lib.hid ((XR.out.set (g := w3.heap.size) (by omega) k (.bool true)).al (.cells #[.int .i64 0, .slice B args.length cap, .int .i64 vn, .int .i64 ve, .int .i64 un, .int .i64 ue] 44))
              have R5 := Lib.hid ((HR.out.set_ k (.bool true)).al (.cells #[.int .i64 0, .slice B args.length cap, .int .i64 vn, .int .i64 ve, .int .i64 un, .int .i64 ue] 44))
              have hnd : notDel bs k = true := by unfold notDel; rw [kind_of HX.out]; rfl
              have HND := Lib.hid (leftK_set bs k)
              rw [hnd] at HND
              have hgl : w3.heap.size < wr.heap.size := HR.out.lt
              have hfr := HR.out.free
              have hck : wr.cell? ⟨w3.heap.size, k, none⟩ = some (.bool (isM (leftK bs k) k)) := by rw [HR.out.cell, bools_get (by rw [leftK_len]; exact hlt)]
              have hki : (k : Int) < (bs.length : Int) := by omega
              clear ha hnd
              go_wp2_with fail
              exact ⟨⟨k + 1, Nat.succ_le_of_lt hlt, by go_num, X5.out, by rw [← HND.out, bools_set]; exact R5.out⟩, by simp [intOf]; omega⟩
          · as_aux_lemma =>
              have n2 : (kind != 2) = true := by simpa using hk2
              have n0 : (kind == 0) = false := by simpa using hk0
              have HK0 := Lib.hid hk0
              clear hk2 hk0
              have HB := Lib.hid ((CellsAt.below ha ((Below.refl w3.heap.size wr).setCell (p := ⟨w3.heap.size, k, none⟩) (Nat.le_refl _) (.bool true)) (by omega)).below (al_ _ (.cells #[.int .i64 kind, .slice B args.length cap, .int .i64 vn, .int .i64 ve, .int .i64 un, .int .i64 ue] 44)) (by simp; omega))
              have X5 := Lib.hid ((XR.out.set (g := w3.heap.size) (by omega) k (.bool true)).al (.cells #[.int .i64 kind, .slice B args.length cap, .int .i64 vn, .int .i64 ve, .int .i64 un, .int .i64 ue] 44))
              have R5 := Lib.hid ((HR.out.set_ k (.bool true)).al (.cells #[.int .i64 kind, .slice B args.length cap, .int .i64 vn, .int .i64 ve, .int .i64 un, .int .i64 ue] 44))
              have hnd : notDel bs k = true := by unfold notDel; rw [kind_of HX.out]; exact n2
              have HND := Lib.hid (leftK_set bs k)
              rw [hnd] at HND
              have hgl : w3.heap.size < wr.heap.size := HR.out.lt
              have hfr := HR.out.free
              have hck : wr.cell? ⟨w3.heap.size, k, none⟩ = some (.bool (isM (leftK bs k) k)) := by rw [HR.out.cell, bools_get (by rw [leftK_len]; exact hlt)]
              have hki : (k : Int) < (bs.length : Int) := by omega
              clear ha hnd
              go_wp2_with fail
              go_loopw [55] (fun v w9 => cr2 ((wr.setCell ⟨w3.heap.size, k, none⟩ (.bool true)).alloc (.cells #[.int .i64 kind, .slice B args.length cap, .int .i64 vn, .int .i64 ve, .int .i64 un, .int .i64 ue] 44)) args.length v w9) (fun v _ => args.length - (intOf v).toNat)
              case atStart => exact ⟨0, Nat.zero_le _, rfl, rfl⟩
              case round =>
                obtain ⟨t, ht, rfl, rfl⟩ := hrel
                have f1' : ((wr.setCell ⟨w3.heap.size, k, none⟩ (.bool true)).alloc (.cells #[.int .i64 kind, .slice B args.length cap, .int .i64 vn, .int .i64 ve, .int .i64 un, .int .i64 ue] 44)).cell? ⟨w.heap.size, 1, none⟩ = some (.slice (some ⟨b, off, none⟩) bs.length c2) := X5.out.c1
                have zz := X5.out.lt
                by_cases htl : t < args.length
                · obtain ⟨ab, ao, z, rfl, hab, hab2, hz, gz⟩ := HB.out.int_ htl
                  have hzb := HOK.out k hlt z (by rw [preds_of HX.out]; first | exact List.mem_of_getElem? hz | (rw [if_neg (by decide)]; exact List.mem_of_getElem? hz) | (rw [if_neg HK0.out]; exact List.mem_of_getElem? hz))
                  obtain ⟨hz1, hz2⟩ := hzb
                  clear hz
                  go_wp2_with fail
                  all_goals try (exfalso; omega)
                  exact ⟨⟨t + 1, by omega, by go_num, rfl⟩, by simp [intOf]; omega⟩
                · go_wp2_with fail
                  exact ⟨⟨k + 1, Nat.succ_le_of_lt hlt, by go_num, X5.out, by rw [← HND.out, bools_set]; exact R5.out⟩, by simp [intOf]; omega⟩
      · go_wp2_with fail
        have e : k = bs.length := by omega
        subst e
        have HM0 := Lib.hid (show (leftK bs bs.length).length = bs.length from leftK_len bs bs.length)
        go_loopw [73] (fun v wr => cr1 w ⟨A1, ps, c1, A2, bs, c2, A3, os, c3⟩ w3.heap.size (cPass bs (leftK bs bs.length)) v wr) (fun v _ => bs.length - (intOf v).toNat)
        case atStart => exact ⟨0, Nat.zero_le _, rfl, XR.out, HR.out⟩
        case round =>
            clear XR HR f1 zr
            obtain ⟨k, hk, rfl, hx, hr⟩ := hrel
            try dsimp only at hk
            have XR := Lib.hid hx
            have HR := Lib.hid hr
            have f1 : wr.cell? ⟨w.heap.size, 1, none⟩ = some (.slice A2 bs.length c2) := hx.c1
            have zr : w.heap.size < wr.heap.size := hx.lt
            clear hx hr
            by_cases hltk : k < bs.length
            · go_wp2_with fail
              obtain ⟨mk, hmk⟩ : ∃ mk, mk = cPass bs (leftK bs bs.length) k := ⟨_, rfl⟩
              have HMK := Lib.hid hmk
              have HML := Lib.hid (show mk.length = bs.length by rw [hmk, cPass_len, leftK_len])
              rw [← hmk] at HR
              clear hmk
              go_loopw [78] (fun v wr => cr1 w ⟨A1, ps, c1, A2, bs, c2, A3, os, c3⟩ w3.heap.size (cFold bs mk) v wr) (fun v _ => bs.length - (intOf v).toNat)
              case atStart => exact ⟨0, Nat.zero_le _, rfl, XR.out, HR.out⟩
              case round =>
                as_aux_lemma =>
                  clear XR HR f1 zr
                  obtain ⟨i, hi, rfl, hx, hr⟩ := hrel
                  try dsimp only at hi
                  obtain ⟨mi, hmi⟩ : ∃ mi, mi = cFold bs mk i := ⟨_, rfl⟩
                  rw [← hmi] at hr
                  have HMI := Lib.hid hmi
                  clear hmi
                  have XR := Lib.hid hx
                  have HR := Lib.hid hr
                  have f1 : wr.cell? ⟨w.heap.size, 1, none⟩ = some (.slice A2 bs.length c2) := hx.c1
                  have zr : w.heap.size < wr.heap.size := hx.lt
                  clear hx hr
                  by_cases hlt : i < bs.length
                  · obtain ⟨b, off, kind, B, args, cap, vn, ve, un, ue, hA2, hbm, hbs, hxb, g0, g1, g2, g3, g4, g5, ha, hl⟩ := (XR.out.dg HD.out).blk hlt
                    dsimp only at hA2 hxb
                    subst hA2
                    have hargs : args.length ≤ 10 := HA.out _ (List.mem_of_getElem? hxb)
                    have HX := Lib.hid hxb
                    clear hxb hl
                    by_cases hk0 : kind = 0
                    · as_aux_lemma =>
                        subst hk0
                        have HP0 := Lib.hid (show preds bs i = [] from (preds_of HX.out).trans (if_pos rfl))
                        have HB := Lib.hid (CellsAt.below ha (al_ wr (.cells #[.int .i64 0, .slice B args.length cap, .int .i64 vn, .int .i64 ve, .int .i64 un, .int .i64 ue] 44)) XR.out.le)
                        have X5 := Lib.hid (XR.out.al (.cells #[.int .i64 0, .slice B args.length cap, .int .i64 vn, .int .i64 ve, .int .i64 un, .int .i64 ue] 44))
                        have R5 := Lib.hid (HR.out.al (.cells #[.int .i64 0, .slice B args.length cap, .int .i64 vn, .int .i64 ve, .int .i64 un, .int .i64 ue] 44))
                        have hgl : w3.heap.size < wr.heap.size := HR.out.lt
                        have hgl2 : w3.heap.size < wr.heap.size + 1 := by omega
                        have hfr := HR.out.free
                        have hli : i < mi.length := by rw [HMI.out, cFold_len, HML.out]; exact hlt
                        have hck : wr.cell? ⟨w3.heap.size, i, none⟩ = some (.bool (isM mi i)) := by rw [HR.out.cell, bools_get hli]
                        have hki : (i : Int) < (bs.length : Int) := by omega
                        clear ha
                        cases hmi : isM mi i with
                        | false =>
                          rw [hmi] at hck
                          have HS := Lib.hid (show cStep bs mi i = mi.set i false from (by unfold cStep; rw [hmi]; rfl))
                          clear hmi
                          go_wp2_with fail
                          exact ⟨⟨i + 1, Nat.succ_le_of_lt hlt, by go_num, (XR.out.set (g := w3.heap.size) (by omega) i (.bool false)).al _, by rw [cFold_succ, ← HMI.out, HS.out, bools_set]; exact (HR.out.set_ i (.bool false)).al _⟩, by simp [intOf]; omega⟩
                        | true =>
                          rw [hmi] at hck
                          have HS := Lib.hid (show cStep bs mi i = mi.set i false from (by unfold cStep; rw [hmi, Bool.true_and, HP0.out, List.any_nil]))
                          clear hmi
                          go_wp2_with fail
                          exact ⟨⟨i + 1, Nat.succ_le_of_lt hlt, by go_num, (XR.out.set (g := w3.heap.size) (by omega) i (.bool false)).al _, by rw [cFold_succ, ← HMI.out, HS.out, bools_set]; exact (HR.out.set_ i (.bool false)).al _⟩, by simp [intOf]; omega⟩
                    · as_aux_lemma =>
                        have n0 : (kind != 0) = true := by simpa using hk0
                        have HK0 := Lib.hid hk0
                        clear hk0
                        have HB := Lib.hid (CellsAt.below ha (al_ wr (.cells #[.int .i64 kind, .slice B args.length cap, .int .i64 vn, .int .i64 ve, .int .i64 un, .int .i64 ue] 44)) XR.out.le)
                        have X5 := Lib.hid (XR.out.al (.cells #[.int .i64 kind, .slice B args.length cap, .int .i64 vn, .int .i64 ve, .int .i64 un, .int .i64 ue] 44))
                        have R5 := Lib.hid (HR.out.al (.cells #[.int .i64 kind, .slice B args.length cap, .int .i64 vn, .int .i64 ve, .int .i64 un, .int .i64 ue] 44))
                        have hgl : w3.heap.size < wr.heap.size := HR.out.lt
                        have hgl2 : w3.heap.size < wr.heap.size + 1 := by omega
                        have hfr := HR.out.free
                        have hli : i < mi.length := by rw [HMI.out, cFold_len, HML.out]; exact hlt
                        have hck : wr.cell? ⟨w3.heap.size, i, none⟩ = some (.bool (isM mi i)) := by rw [HR.out.cell, bools_get hli]
                        have hki : (i : Int) < (bs.length : Int) := by omega
                        clear ha
                        go_wp2_with fail
                        go_loopw [11, 89] (fun v11 v w9 => cr3 (wr.alloc (.cells #[.int .i64 kind, .slice B args.length cap, .int .i64 vn, .int .i64 ve, .int .i64 un, .int .i64 ue] 44)) mi args v11 v w9) (fun _ v _ => args.length - (intOf v).toNat)
                        case atStart => exact ⟨0, Nat.zero_le _, rfl, rfl, rfl⟩
                        case round =>
                          obtain ⟨t, ht, rfl, rfl, rfl⟩ := hrel
                          by_cases htl : t < args.length
                          · obtain ⟨ab, ao, z, rfl, hab, hab2, hz, gz⟩ := HB.out.int_ htl
                            have hzb := HOK.out i hlt z (by rw [preds_of HX.out, if_neg HK0.out]; exact List.mem_of_getElem? hz)
                            obtain ⟨a, rfl⟩ := Int.eq_ofNat_of_zero_le hzb.1
                            have haN : a < bs.length := by have := hzb.2; omega
                            have haI : (a : Int) < (bs.length : Int) := hzb.2
                            have hca : wr.cell? ⟨w3.heap.size, a, none⟩ = some (.bool (isM mi a)) := by rw [HR.out.cell, bools_get (by rw [HMI.out, cFold_len, HML.out]; exact haN)]
                            have HT := Lib.hid (anyT_succ (m := mi) hz)
                            clear hz hzb
                            cases hat : anyT mi args t with
                            | true =>
                              rw [hat, Int.toNat_natCast] at HT
                              clear hat
                              go_wp2_with fail
                              exact ⟨⟨t + 1, by omega, by go_num, by rw [HT.out]; rfl, rfl⟩, by simp [intOf]; omega⟩
                            | false =>
                              rw [hat, Int.toNat_natCast] at HT
                              clear hat
                              go_wp2_with fail
                              exact ⟨⟨t + 1, by omega, by go_num, by rw [HT.out]; rfl, rfl⟩, by simp [intOf]; omega⟩
                          · have hae := anyT_all (m := mi) (xs := args) (t := t) (by omega)
                            obtain ⟨IN, hIN⟩ : ∃ IN, IN = anyT mi args t := ⟨_, rfl⟩
                            have HIN := Lib.hid (show (preds bs i).any (fun a => isM mi a.toNat) = IN from (by rw [preds_of HX.out, if_neg HK0.out, hIN, hae]))
                            rw [← hIN]
                            clear hae hIN
                            cases hmi : isM mi i with
                            | false =>
                              rw [hmi] at hck
                              have HS := Lib.hid (show cStep bs mi i = mi.set i false from (by unfold cStep; rw [hmi]; rfl))
                              clear hmi
                              go_wp2_with fail
                              exact ⟨⟨i + 1, Nat.succ_le_of_lt hlt, by go_num, (XR.out.set (g := w3.heap.size) (by omega) i (.bool false)).al _, by rw [cFold_succ, ← HMI.out, HS.out, bools_set]; exact (HR.out.set_ i (.bool false)).al _⟩, by simp [intOf]; omega⟩
                            | true =>
                              rw [hmi] at hck
                              have HS := Lib.hid (show cStep bs mi i = mi.set i IN from (by unfold cStep; rw [hmi, Bool.true_and, HIN.out]))
                              clear hmi
                              go_wp2_with fail
                              exact ⟨⟨i + 1, Nat.succ_le_of_lt hlt, by go_num, (XR.out.set (g := w3.heap.size) (by omega) i (.bool IN)).al _, by rw [cFold_succ, ← HMI.out, HS.out, bools_set]; exact (HR.out.set_ i (.bool IN)).al _⟩, by simp [intOf]; omega⟩
                  · go_wp2_with fail
                    have e : i = bs.length := by omega
                    subst e
                    rw [HMI.out, HMK.out] at HR
                    exact ⟨⟨k + 1, Nat.succ_le_of_lt hltk, by go_num, XR.out, HR.out⟩, by simp [intOf]; omega⟩
            · have f0 : wr.cell? ⟨w.heap.size, 0, none⟩ = some (.slice A1 ps.length c1) := XR.out.c0
              have f2 : wr.cell? ⟨w.heap.size, 2, none⟩ = some (.slice A3 os.length c3) := XR.out.c2
              go_wp2_with fail
              have e : k = bs.length := by omega
              subst e
              clear f0 f2
              obtain ⟨mF, hmF⟩ : ∃ mF, mF = leftM bs := ⟨_, rfl⟩
              have HMF := Lib.hid hmF
              have HFL := Lib.hid (show mF.length = bs.length by rw [hmF]; unfold leftM; rw [cPass_len, leftK_len])
              have HR : Hid (RowD wr w3.heap.size (bools mF) 4) := by rw [hmF]; exact HR
              rw [← hmF] at HSM HC
              clear hmF
              have ROB := Lib.hid (RowD.new_ wr [.slice A1 ps.length c1, .slice none 0 0, .slice A3 os.length c3] 26)
              have XO := Lib.hid (XR.out.al (.cells #[.slice A1 ps.length c1, .slice none 0 0, .slice A3 os.length c3] 26))
              have HRO := Lib.hid (HR.out.al (.cells #[.slice A1 ps.length c1, .slice none 0 0, .slice A3 os.length c3] 26))
              obtain ⟨OB, hOB⟩ : ∃ OB, OB = wr.heap.size := ⟨_, rfl⟩
              have hgOB : w3.heap.size < OB := by rw [hOB]; exact HR.out.lt
              have hwg : w.heap.size < w3.heap.size := by omega
              obtain ⟨W4, hW4⟩ : ∃ W, W = wr.alloc (.cells #[.slice A1 ps.length c1, .slice none 0 0, .slice A3 os.length c3] 26) := ⟨_, rfl⟩
              rw [← hW4] at XO HRO
              rw [← hW4, ← hOB] at ROB
              rw [← hW4, ← hOB]
              clear hW4 hOB XR HR f1 zr
              go_loopw [4, 121] (fun v4 v w9 => cr4 w ⟨A1, ps, c1, A2, bs, c2, A3, os, c3⟩ w3.heap.size OB mF v4 v w9) (fun _ v _ => bs.length - (intOf v).toNat)
              case atStart => exact ⟨0, .slice none 0 0, [], Nat.zero_le _, rfl, rfl, XO.out, HRO.out, ROB.out, OwnB.nil_ _ _, rfl, OpenAt.nil _ _, by simp⟩
              case round =>
                  clear XO HRO ROB
                  obtain ⟨k, V, l, hk, rfl, rfl, hx, hr, ho, hv, hll, hop, hal⟩ := hrel
                  dsimp only at hk ho
                  have XR := Lib.hid hx
                  have HR := Lib.hid hr
                  have HO := Lib.hid ho
                  have HV := Lib.hid hv
                  have HLN := Lib.hid hll
                  have HOP := Lib.hid hop
                  have HAL := Lib.hid hal
                  have HLL : Hid (l.length < 1000000) := Lib.hid (by omega)
                  have f1 : wr.cell? ⟨w.heap.size, 1, none⟩ = some (.slice A2 bs.length c2) := hx.c1
                  have zr : w.heap.size < wr.heap.size := hx.lt
                  have zg : w3.heap.size < wr.heap.size := hr.lt
                  have zo : OB < wr.heap.size := ho.lt
                  clear hx hr hv hll hop hal
                  by_cases hlt : k < bs.length
                  · obtain ⟨b, off, kind, B, args, cap, vn, ve, un, ue, hA2, hbm, hbs, hxb, g0, g1, g2, g3, g4, g5, ha, hl⟩ := (XR.out.dg HD.out).blk hlt
                    dsimp only at hA2 hxb
                    subst hA2
                    have hargs : args.length ≤ 10 := HA.out _ (List.mem_of_getElem? hxb)
                    have HX := Lib.hid hxb
                    clear hxb hl
                    have o1 : wr.cell? ⟨OB, 1, none⟩ = some V := HO.out.cell 1
                    have of : ∀ j, wr.frozen? ⟨OB, j, none⟩ = false := fun j => HO.out.free j
                    have hcap : args.length ≤ cap := HI.out.k4 _ (List.mem_of_getElem? HX.out)
                    have hck : wr.cell? ⟨w3.heap.size, k, none⟩ = some (.bool (isM mF k)) := by rw [HR.out.cell, bools_get (by rw [HFL.out]; exact hlt)]
                    have hki : (k : Int) < (bs.length : Int) := by omega
                    have HE4 := Lib.hid (anyK_succ mF k)
                    clear ho
                    cases hany : anyK mF k with
                    | true =>
                      cases hmk : isM mF k with
                      | true =>
                          rw [hany] at HE4
                          rw [hmk] at hck
                          have HMK := Lib.hid hmk
                          clear hmk hany
                          have h1 : 1 ≤ args.length := by
                            have h := leftM_arg (bs := bs) (j := k) (by rw [← HMF.out]; exact HMK.out)
                            rw [preds_of HX.out] at h
                            rcases args with _ | ⟨a, rest⟩
                            · exact absurd (by split <;> rfl) h
                            · simp
                          obtain ⟨B', r', D', hD', hrun, hcD⟩ := sl_to ha h1 hcap
                          have HD' := Lib.hid hD'
                          have HCD := Lib.hid hcD
                          clear hD' hcD h1
                          have HHA := Lib.hid ha
                          clear ha hcap
                          go_wp2_with (at_builtin; refine push_bk rfl (.tmp 142) (.tmp 144) rfl (OB + 1) V l ⟨2, B', D', r', 0, 0, 0, 0⟩ (wr.heap.size + 1) rfl ((HV.out.alloc _).alloc _) rfl (by intro j u hu; rcases j with _ | _ | _ | _ | _ | _ | j <;> simp [Bk.cells] at hu <;> (subst hu; simp [go_sem])) (by have := HLL.out; omega) (by first | (simp; omega) | simp | omega) ?_; intro v' w5 hown5 hg5 hb5; obtain ⟨qc, qf, qs, qz⟩ := ext_at (m := OB + 1) hb5 (by first | (simp; omega) | simp | omega) (by first | (simp; omega) | simp | omega); obtain ⟨A5', c5', rfl, _, _⟩ := hown5.view)
                          all_goals
                            exact ⟨cr4_low XR.out HR.out HO.out HLN.out HOP.out HAL.out ((((Below.refl _ wr).alloc (by omega) _).alloc (by first | (simp; omega) | omega) _).trans hb5) hgOB hwg (by simpa using hown5) HX.out (by rw [HMK.out]; exact ⟨rfl, HD'.out, rfl, rfl, rfl, rfl⟩) HCD.out (by show D'.length ≤ 10; rw [HD'.out]; simp; omega) (by rw [HE4.out, HMK.out]; rfl), by simp [intOf]; omega⟩
                      | false =>
                          rw [hany] at HE4
                          rw [hmk] at hck
                          have HMK := Lib.hid hmk
                          clear hmk hany
                          have HHA := Lib.hid ha
                          clear ha hcap
                          go_wp2_with (at_builtin; refine push_bk rfl (.tmp 142) (.tmp 144) rfl (OB + 1) V l ⟨kind, B, args, cap, vn, ve, un, ue⟩ (wr.heap.size + 1) rfl ((HV.out.alloc _).alloc _) rfl (by intro j u hu; rcases j with _ | _ | _ | _ | _ | _ | j <;> simp [Bk.cells] at hu <;> (subst hu; simp [go_sem])) (by have := HLL.out; omega) (by first | (simp; omega) | simp | omega) ?_; intro v' w5 hown5 hg5 hb5; obtain ⟨qc, qf, qs, qz⟩ := ext_at (m := OB + 1) hb5 (by first | (simp; omega) | simp | omega) (by first | (simp; omega) | simp | omega); obtain ⟨A5', c5', rfl, _, _⟩ := hown5.view)
                          all_goals
                            exact ⟨cr4_low XR.out HR.out HO.out HLN.out HOP.out HAL.out ((((Below.refl _ wr).alloc (by omega) _).alloc (by first | (simp; omega) | omega) _).trans hb5) hgOB hwg (by simpa using hown5) HX.out (by rw [HMK.out]; exact ⟨rfl, rfl, rfl, rfl, rfl, rfl⟩) HHA.out hargs (by rw [HE4.out, HMK.out]; rfl), by simp [intOf]; omega⟩
                    | false =>
                      cases hmk : isM mF k with
                      | true =>
                          rw [hany] at HE4
                          rw [hmk] at hck
                          have HMK := Lib.hid hmk
                          clear hmk hany
                          have h1 : 1 ≤ args.length := by
                            have h := leftM_arg (bs := bs) (j := k) (by rw [← HMF.out]; exact HMK.out)
                            rw [preds_of HX.out] at h
                            rcases args with _ | ⟨a, rest⟩
                            · exact absurd (by split <;> rfl) h
                            · simp
                          obtain ⟨B', r', D', hD', hrun, hcD⟩ := sl_to ha h1 hcap
                          have HD' := Lib.hid hD'
                          have HCD := Lib.hid hcD
                          clear hD' hcD h1
                          have HHA := Lib.hid ha
                          clear ha hcap
                          go_wp2_with (at_builtin; refine push_bk rfl (.tmp 142) (.tmp 144) rfl (OB + 1) V l ⟨2, B', D', r', 0, 0, 0, 0⟩ (wr.heap.size + 1) rfl ((HV.out.alloc _).alloc _) rfl (by intro j u hu; rcases j with _ | _ | _ | _ | _ | _ | j <;> simp [Bk.cells] at hu <;> (subst hu; simp [go_sem])) (by have := HLL.out; omega) (by first | (simp; omega) | simp | omega) ?_; intro v' w5 hown5 hg5 hb5; obtain ⟨qc, qf, qs, qz⟩ := ext_at (m := OB + 1) hb5 (by first | (simp; omega) | simp | omega) (by first | (simp; omega) | simp | omega); obtain ⟨A5', c5', rfl, _, _⟩ := hown5.view)
                          all_goals
                            exact ⟨cr4_low XR.out HR.out HO.out HLN.out HOP.out HAL.out ((((Below.refl _ wr).alloc (by omega) _).alloc (by first | (simp; omega) | omega) _).trans hb5) hgOB hwg (by simpa using hown5) HX.out (by rw [HMK.out]; exact ⟨rfl, HD'.out, rfl, rfl, rfl, rfl⟩) HCD.out (by show D'.length ≤ 10; rw [HD'.out]; simp; omega) (by rw [HE4.out, HMK.out]; rfl), by simp [intOf]; omega⟩
                      | false =>
                          rw [hany] at HE4
                          rw [hmk] at hck
                          have HMK := Lib.hid hmk
                          clear hmk hany
                          have HHA := Lib.hid ha
                          clear ha hcap
                          go_wp2_with (at_builtin; refine push_bk rfl (.tmp 142) (.tmp 144) rfl (OB + 1) V l ⟨kind, B, args, cap, vn, ve, un, ue⟩ (wr.heap.size + 1) rfl ((HV.out.alloc _).alloc _) rfl (by intro j u hu; rcases j with _ | _ | _ | _ | _ | _ | j <;> simp [Bk.cells] at hu <;> (subst hu; simp [go_sem])) (by have := HLL.out; omega) (by first | (simp; omega) | simp | omega) ?_; intro v' w5 hown5 hg5 hb5; obtain ⟨qc, qf, qs, qz⟩ := ext_at (m := OB + 1) hb5 (by first | (simp; omega) | simp | omega) (by first | (simp; omega) | simp | omega); obtain ⟨A5', c5', rfl, _, _⟩ := hown5.view)
                          all_goals
                            exact ⟨cr4_low XR.out HR.out HO.out HLN.out HOP.out HAL.out ((((Below.refl _ wr).alloc (by omega) _).alloc (by first | (simp; omega) | omega) _).trans hb5) hgOB hwg (by simpa using hown5) HX.out (by rw [HMK.out]; exact ⟨rfl, rfl, rfl, rfl, rfl, rfl⟩) HHA.out hargs (by rw [HE4.out, HMK.out]; rfl), by simp [intOf]; omega⟩
                  · have e : k = bs.length := by omega
                    subst e
                    obtain ⟨i9, hi9, hm9⟩ := HSM.out
                    have HANY : anyK mF bs.length = true := anyK_true hi9 hm9
                    clear hi9 hm9
                    rw [HANY]
                    clear HANY
                    obtain ⟨A9, c9, hV9, _, hc9⟩ := HV.out.view
                    subst hV9
                    have o0 : wr.cell? ⟨OB, 0, none⟩ = some (.slice A1 ps.length c1) := ho.cell 0
                    have o1 : wr.cell? ⟨OB, 1, none⟩ = some (.slice A9 l.length c9) := ho.cell 1
                    have o2 : wr.cell? ⟨OB, 2, none⟩ = some (.slice A3 os.length c3) := ho.cell 2
                    clear ho
                    have DD := XR.out.dg HD.out
                    have D9 := Lib.hid (show DgAt wr wr.heap.size ⟨A1, ps, c1, A9, l, c9, A3, os, c3⟩ from ⟨DD.ps.more XR.out.le, hc9, DD.os.more XR.out.le, fun b hb => ⟨(HAL.out b hb).1.more XR.out.le, by have := (HAL.out b hb).2; omega⟩, DD.l1, by have := HLL.out; show l.length ≤ 1000000; omega, DD.l3⟩)
                    have HOK9 := Lib.hid (HC.out l HLN.out HOP.out)
                    clear DD hc9
                    go_wp2_with fail
                    go_at_call 18
                    refine (Check_any ⟨A1, ps, c1, A9, l, c9, A3, os, c3⟩ wr.heap.size _ (Nat.le_refl _) D9.out XR.out.tab).mono ?_
                    rintro e w9 ⟨rfl, hb9⟩
                    dsimp only
                    rw [HOK9.out, errV_0]
                    have X9 := Lib.hid (XR.out.next hb9)
                    clear hb9 o0 o1 o2 f1
                    go_wp2_with fail
                    go_ret
                    exact ⟨rfl, X9.out.bel⟩
theorem diagramCircles_walk (A1 : Option Addr) (ps : List Prt) (c1 : Nat) (A2 : Option Addr) (bs : List Bk) (c2 : Nat) (A3 : Option Addr) (os : List Int) (c3 : Nat) (w : World) (hi : DgIn w ⟨A1, ps, c1, A2, bs, c2, A3, os, c3⟩) (ht : TabAt w) : Calls Tryd.prog 5 #[.agg #[.slice A1 ps.length c1, .slice A2 bs.length c2, .slice A3 os.length c3]] w fun e w' => e = .returned (.bool true) ∧ Below w.heap.size w w' := by
  cases hl : lightG ⟨A1, ps, c1, A2, bs, c2, A3, os, c3⟩ with
  | false => exact cir_heavy A1 ps c1 A2 bs c2 A3 os c3 w hi ht hl
  | true =>
    by_cases he : dgErr ps bs os = 24
    · exact cir_good A1 ps c1 A2 bs c2 A3 os c3 w hi ht hl he
    · exact cir_not A1 ps c1 A2 bs c2 A3 os c3 w hi ht hl he

set_option maxRecDepth 100000 in
set_option maxHeartbeats 4000000 in
theorem diagramCircles_lifted (os : Os) (started : os.Started) (H : Type) (enc : TypeId × Value → H) :
    ReturnsInHanded {} Tryd.checked os 5 .any (fun w args => (Rows.diagramCirclesSpec.pre enc Tryd.prog Tryd.f5 [] false w args ∧ laidMetH Tryd.prog laidT w) ∧ sizedMet enc Tryd.prog Tryd.f5 (OpenSpec.ofChange Rows.diagramCirclesSpec) false w args)
      (Rows.diagramCirclesSpec.post enc Tryd.prog Tryd.f5 false true false false) := by
  refine law_lift_laid (C := Tryd.checked) (T := 4) own started (by kernel_rfl) Tryd.func5
    (ChangeSpec.witness_shaped (enc := enc) (C := Tryd.checked) (os := os) (X := fun w _ => laidMetH Tryd.prog laidT w) false (World.doorLaid Tryd.prog 400 os) #[.agg #[.slice none 0 0, .slice none 0 0, .slice none 0 0]] 8 rfl (door_shaped os _) (by kernel_rfl) (by kernel_rfl) (by kernel_rfl) (door_met os _))
    laidOut (by kernel_rfl) rfl Tryd.underlying4 (by kernel_rfl) ?_ ?_
  · intro ds h
    match ds, h with
    | [d1], _ => exact ⟨rfl, rfl, rfl⟩
  · intro W base args ds p hval0 hA0 _ hsz0 hL
    have ht := tab_of hL
    have hval : ∀ (j : Nat) t v, Tryd.f5.params[j]? = some t → args[j]? = some v → Value.okWide Tryd.prog W .any base t v := hval0
    have hA : DataW.TrodAll enc Tryd.prog W 0 (fun _ => true) true Tryd.f5.params.toList args.toList ds p := hA0
    clear hsz0 hL
    rw [Tryd.params5] at hA hval
    obtain ⟨v0, vs0, d0, ds0, p0, q0, hargs, rfl, rfl, h0, r0⟩ := trodAll_cons hA
    obtain ⟨rfl, rfl, rfl⟩ := trodAll_nil r0
    obtain rfl : args = #[v0] := by cases args; simp_all
    obtain ⟨⟨A1, ps, c1, A2, bs, c2, A3, os, c3⟩, rfl, hin⟩ := open_dg (hval 0 26 v0 rfl rfl) h0
    exact diagramCircles_walk A1 ps c1 A2 bs c2 A3 os c3 W hin ht
theorem diagramCircles_row : Rows.DiagramCirclesSaid :=
  OpenClaim.holds_of_wide 5 Tryd.f5 rfl rfl rfl rfl rfl rfl rfl ⟨rfl, rfl, rfl, rfl, rfl⟩ rfl rfl rfl rfl rfl (by kernel_rfl) Tryd.func5 (by kernel_rfl)
    (of_decide_eq_true (by kernel_rfl)) (by unfold Func.isWrapper; first | (rw [if_pos (by decide +kernel)]; kernel_rfl) | (rw [if_neg (by decide +kernel)]; exact ⟨rfl, rfl⟩))
    (fun os started H enc _ => diagramCircles_lifted os started H enc)
theorem diagramCircles_holds : Rows.DiagramCirclesCardSaid :=
  Claim7.holds_tied_plain_at .later [] [.data] true (true, "d4523cc579fb41ec178fce1dad4bb0eaaa70277df7fec9a2fbd66a268b8bd742") true
    diagramCircles_row (fun _ h => by cases h) (by kernel_rfl) (fun _ h => by cases h) diagramCircles_row_tie rfl ⟨rfl, rfl⟩ (by kernel_rfl) rfl
    (fun f fn hf hfn => by
      obtain rfl : f = 5 := Option.some.inj ((show Tryd.prog.funcNamed "commutator/commutatorlaw10.DiagramCircles" = some 5 by kernel_rfl).symm.trans hf) |>.symm
      obtain rfl : fn = Tryd.f5 := (Option.some.inj (Tryd.func5.symm.trans hfn)).symm
      exact ⟨by kernel_rfl, fun j t ht => by
        rw [Tryd.params5] at ht
        have hm : t ∈ [26] := by simpa using Array.mem_of_getElem? ht
        have hall : ([26].all fun u => !Tryd.prog.wantsStandIn u) = true := by kernel_rfl
        exact (show Tryd.prog.wantsStandIn t = false by simpa using List.all_eq_true.1 hall t hm)⟩)
    (by kernel_rfl)
#print axioms diagramCircles_holds

end Go.Proofs.YtaheedieingpiaaDoor
