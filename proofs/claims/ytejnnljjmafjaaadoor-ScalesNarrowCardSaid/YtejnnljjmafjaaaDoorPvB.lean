/- The program's intervals: same, arg, Point. Condition: the table of math/bits stands in block 0. The least interval that contains some numbers, as the program makes it. Condition: the table of math/bits stands in block 0. -/
import Derived.Test.YtejnnljjmafjaaaDoorIvC
import Derived.Deep.RegionHeld3
import Derived.Test.YtejnnljjmafjaaaDoorCut
namespace Go.Proofs.YtejnnljjmafjaaaDoor
set_option linter.unusedVariables false
set_option linter.unusedSimpArgs false
set_option linter.unusedSectionVars false
open Go.RowKit

theorem res_psame {tmps : Array Value} {w : World} {b : Nat} {v0 v1 v2 : Value} (h2 : tmps.getD 2 undef = .pointer (some ⟨b, 0, none⟩)) (hB : RowD w b [v0, v1, v2] 39) :
    (results Tryd.f84 tmps).run Tryd.prog w = .ok (.agg #[v0, v1, v2]) w := by
  have k0 := hB.cell 0
  have k1 := hB.cell 1
  have k2 := hB.cell 2
  simp at k0 k1 k2
  simp at h2
  simp [results, Tryd.results84, go_sem, h2, k0, k1, k2]
set_option maxRecDepth 100000 in
set_option maxHeartbeats 4000000 in
theorem psame_any {v : Value} {x : Int} {d lo m : Nat} {w : World} (D : DyR w lo m v x d) (hm : m ≤ w.heap.size) (hl : (canon x.natAbs).length ≤ 50000) (ht : TabAt w) :
    Calls Tryd.prog 84 #[v] w fun e w' => ∃ v', e = .returned v' ∧ DyR w' w.heap.size w'.heap.size v' x d ∧ Below w.heap.size w w' := by
  have hbd := D.bound
  have HB := Lib.hid hbd
  have hd6 := hbd.1
  obtain ⟨nb1, A1, L1, c1, rfl, HD⟩ := D.form
  have D' := Lib.hid D
  have HT := Lib.hid ht
  have b0 : Below w.heap.size w ((w.alloc (.cells #[.bool nb1, .slice A1 L1 c1, .int .i64 (d : Int)] 39)).alloc (.cells #[.bool false, .slice none 0 0, .int .i64 0] 39)) := ext_alloc (ext_alloc (Below.refl _ _) _) _
  have r0 := RowD.new_ (w.alloc (.cells #[.bool nb1, .slice A1 L1 c1, .int .i64 (d : Int)] 39)) [.bool false, .slice none 0 0, .int .i64 0] 39
  rw [show (w.alloc (.cells #[.bool nb1, .slice A1 L1 c1, .int .i64 (d : Int)] 39)).heap.size = w.heap.size + 1 by simp] at r0
  clear D ht hbd
  go_enter Tryd.func84, Tryd.ntmps84
  go_wp2_with fail
  go_at_call 13
  refine (pshift_any (D'.out.below b0 hm) (by simp; omega) hl (by omega) (HT.out.below b0 HT.out.1)).mono ?_
  rintro e w3 ⟨v', rfl, D3, hb3⟩
  rw [sh0 HB.out.2] at D3
  have u1 := r0.call hb3
  have bv := b0.trans (hb3.mono (by simp; omega))
  obtain ⟨nb3, A3, L3, c3, rfl, _⟩ := D3.form
  have D3' := Lib.hid (D3.low (show w.heap.size + 2 ≤ _ by simp))
  clear D3 hb3 r0 b0
  have q0 : w3.cell? ⟨w.heap.size + 1, 0, none⟩ = some (.bool false) := u1.cell 0
  have q1 : w3.cell? ⟨w.heap.size + 1, 1, none⟩ = some (.slice none 0 0) := u1.cell 1
  have q2 : w3.cell? ⟨w.heap.size + 1, 2, none⟩ = some (.int .i64 0) := u1.cell 2
  have qf := u1.free
  have hu1 := u1.lt
  go_wp2_with fail
  refine bodyPost_ret (res_psame rfl (u1.set3 _ _ _)) rfl ⟨_, rfl, ?_, (((bv.setCell (by first | (simp; done) | (simp; omega)) _).setCell (by first | (simp; done) | (simp; omega)) _).setCell (by first | (simp; done) | (simp; omega)) _)⟩
  exact ((((D3'.out.set_ (by omega) 0 _).set_ (by omega) 1 _).set_ (by omega) 2 _).low (by omega)).more (by simp)
theorem res_pPoint {tmps : Array Value} {w : World} {b : Nat} {v0 v1 v2 v3 v4 v5 : Value} (h2 : tmps.getD 2 undef = .pointer (some ⟨b, 0, none⟩)) (hB : RowD w b [v0, v1, v2, v3, v4, v5] 41) :
    (results Tryd.f85 tmps).run Tryd.prog w = .ok (.agg #[v0, v1, v2, v3, v4, v5]) w := by
  have k0 := hB.cell 0
  have k1 := hB.cell 1
  have k2 := hB.cell 2
  have k3 := hB.cell 3
  have k4 := hB.cell 4
  have k5 := hB.cell 5
  simp at k0 k1 k2 k3 k4 k5
  simp at h2
  simp [results, Tryd.results85, go_sem, h2, k0, k1, k2, k3, k4, k5]
set_option maxRecDepth 100000 in
set_option maxHeartbeats 4000000 in
theorem ppoint_any {v : Value} {x : Int} {d lo m : Nat} {w : World} (D : DyR w lo m v x d) (hm : m ≤ w.heap.size) (hl : (canon x.natAbs).length ≤ 50000) (ht : TabAt w) :
    Calls Tryd.prog 85 #[v] w fun e w' => ∃ v', e = .returned v' ∧ IvR w' w.heap.size w'.heap.size v' x d x d ∧ Below w.heap.size w w' := by
  have hbd := D.bound
  obtain ⟨nb1, A1, L1, c1, rfl, HD⟩ := D.form
  have HT := Lib.hid ht
  clear ht
  have b0 : Below w.heap.size w ((w.alloc (.cells #[.bool nb1, .slice A1 L1 c1, .int .i64 (d : Int)] 39)).alloc (.cells #[.bool false, .slice none 0 0, .int .i64 0, .bool false, .slice none 0 0, .int .i64 0] 41)) := ext_alloc (ext_alloc (Below.refl _ _) _) _
  have r0 := (RowD.new_ w [.bool nb1, .slice A1 L1 c1, .int .i64 (d : Int)] 39).call (al_ _ (.cells #[.bool false, .slice none 0 0, .int .i64 0, .bool false, .slice none 0 0, .int .i64 0] 41))
  have r1 := RowD.new_ (w.alloc (.cells #[.bool nb1, .slice A1 L1 c1, .int .i64 (d : Int)] 39)) [.bool false, .slice none 0 0, .int .i64 0, .bool false, .slice none 0 0, .int .i64 0] 41
  rw [show (w.alloc (.cells #[.bool nb1, .slice A1 L1 c1, .int .i64 (d : Int)] 39)).heap.size = w.heap.size + 1 by simp] at r1
  go_enter Tryd.func85, Tryd.ntmps85
  go_wp2_with fail
  obtain ⟨W, hW⟩ : ∃ W, W = ((w.alloc (.cells #[.bool nb1, .slice A1 L1 c1, .int .i64 (d : Int)] 39)).alloc (.cells #[.bool false, .slice none 0 0, .int .i64 0, .bool false, .slice none 0 0, .int .i64 0] 41)) := ⟨_, rfl⟩
  have hWs : W.heap.size = w.heap.size + 2 := by rw [hW]; simp
  have D1 := D.below b0 hm
  rw [← hW]
  rw [← hW] at b0 r0 r1 D1
  clear hW D
  have a0 : W.cell? ⟨w.heap.size, 0, none⟩ = some (.bool nb1) := r0.cell 0
  have a1 : W.cell? ⟨w.heap.size, 1, none⟩ = some (.slice A1 L1 c1) := r0.cell 1
  have a2 : W.cell? ⟨w.heap.size, 2, none⟩ = some (.int .i64 (d : Int)) := r0.cell 2
  have hk : SKn W (w.heap.size + 1) (w.heap.size + 1) 6 41 W := SKn.refl (by omega) r1 rfl
  have HTW := HT.out.below b0 HT.out.1
  have hle : m ≤ w.heap.size + 1 := by omega
  go_region_held3 (fun w' => (∀ b o, b < w.heap.size + 1 → w'.cell? ⟨b, o, none⟩ = W.cell? ⟨b, o, none⟩) ∧ SKn W (w.heap.size + 1) (w.heap.size + 1) 6 41 w')
    (first
      | (with_reducible (refine SKn.all ?_)
         first
           | (with_reducible assumption)
           | (with_reducible exact hk)
           | (with_reducible exact hk.drew)
           | (iterate 6 (with_reducible refine SKn.set ?_ (by omega) _ _)
              with_reducible assumption)))
    (first
      | (go_at_call 84; (refine (psame_any (D1.below hk5.is hle) (by omega) hl HT5).mono ?_); (rintro e w6 ⟨v6, rfl, D6, hb6⟩; have hk6 := hk5.call hb6; have D7 := (D5.below hb6 (Nat.le_refl _)).more hb6.size; have hz6 := hb6.size; obtain ⟨nb6, A6, L6, c6, rfl, _⟩ := D6.form; obtain ⟨z0, z1, z2, z3, z4, z5, rz, k0, k1, k2, k3, k4, k5, kf⟩ := hk6.c6))
      | (go_at_call 84; (refine (psame_any (D1.below (SKn.is hk.drew) hle) (by simp; omega) hl (HTW.below (Below.refl _ W).drew HTW.1)).mono ?_); (rintro e w5 ⟨v5, rfl, D5, hb5⟩; have hk5 := SKn.call hk.drew hb5; have hf5 := hk5.lt; have hz5 := hb5.size; have HT5 := (HTW.below (Below.refl _ W).drew HTW.1).call hb5; replace D5 := D5.low (show w.heap.size + 2 ≤ _ by simp; omega); obtain ⟨nb5, A5, L5, c5, rfl, _⟩ := D5.form)))
  go_wp2_with fail
  refine bodyPost_ret (res_pPoint rfl (rz.set6 _ _ _ _ _ _)) rfl ⟨_, rfl, ?_, (((((((b0.trans (hk6.is.mono (by omega))).setCell (by first | (simp; done) | (simp; omega)) _).setCell (by first | (simp; done) | (simp; omega)) _).setCell (by first | (simp; done) | (simp; omega)) _).setCell (by first | (simp; done) | (simp; omega)) _).setCell (by first | (simp; done) | (simp; omega)) _).setCell (by first | (simp; done) | (simp; omega)) _)⟩
  exact IvR.of ((((((((D7.set_ (by omega) 0 _).set_ (by omega) 1 _).set_ (by omega) 2 _).set_ (by omega) 3 _).set_ (by omega) 4 _).set_ (by omega) 5 _).low (by omega)).more (by simp)) ((((((((D6.set_ (by omega) 0 _).set_ (by omega) 1 _).set_ (by omega) 2 _).set_ (by omega) 3 _).set_ (by omega) 4 _).set_ (by omega) 5 _).low (by omega)).more (by simp))
end Go.Proofs.YtejnnljjmafjaaaDoor
namespace Go.Proofs.YtejnnljjmafjaaaDoor
set_option linter.unusedVariables false
set_option linter.unusedSimpArgs false
set_option linter.unusedSectionVars false
open Go.RowKit

/-- Numbers in a row. -/
structure RwsAt (w : World) (m : Nat) (A : Option Addr) (l : List Rw) : Prop where
  cells : CellsAt w m A (flat Rw.cells l)
  each : ∀ r ∈ l, RwAt w m r ∧ vdB r = true ∧ r.ws.length ≤ 50000
theorem RwsAt.below {w w' : World} {m B : Nat} {A : Option Addr} {l : List Rw} (h : RwsAt w m A l) (hb : Below B w w') (hm : m ≤ B) : RwsAt w' m A l :=
  ⟨h.cells.below hb hm, fun r hr => ⟨(h.each r hr).1.below hb hm, (h.each r hr).2⟩⟩
/-- The least one, the greatest one of some numbers. -/
def spLo (p : Int × Nat) (l : List Rw) : Int × Nat := l.foldl (fun p r => dyMin p.1 p.2 r.x r.d) p
def spHi (p : Int × Nat) (l : List Rw) : Int × Nat := l.foldl (fun p r => dyMax p.1 p.2 r.x r.d) p
theorem dyMin_or (x : Int) (dx : Nat) (y : Int) (dy : Nat) : dyMin x dx y dy = (x, dx) ∨ dyMin x dx y dy = (y, dy) := by unfold dyMin; split <;> simp
theorem dyMax_or (x : Int) (dx : Nat) (y : Int) (dy : Nat) : dyMax x dx y dy = (x, dx) ∨ dyMax x dx y dy = (y, dy) := by unfold dyMax; split <;> simp
theorem spLo_snoc (p : Int × Nat) (l : List Rw) (r : Rw) : spLo p (l ++ [r]) = dyMin (spLo p l).1 (spLo p l).2 r.x r.d := by simp [spLo]
theorem spHi_snoc (p : Int × Nat) (l : List Rw) (r : Rw) : spHi p (l ++ [r]) = dyMax (spHi p l).1 (spHi p l).2 r.x r.d := by simp [spHi]
theorem dyMin_len {x y : Int} {dx dy n : Nat} (h1 : (canon x.natAbs).length ≤ n) (h2 : (canon y.natAbs).length ≤ n) : (canon (dyMin x dx y dy).1.natAbs).length ≤ n := by
  rcases dyMin_or x dx y dy with h | h <;> rw [h] <;> assumption
theorem dyMax_len {x y : Int} {dx dy n : Nat} (h1 : (canon x.natAbs).length ≤ n) (h2 : (canon y.natAbs).length ≤ n) : (canon (dyMax x dx y dy).1.natAbs).length ≤ n := by
  rcases dyMax_or x dx y dy with h | h <;> rw [h] <;> assumption
/-- Where the loop over the other numbers stands: in block g the least and the greatest one so far. -/
def spRel (w0 : World) (lo g : Nat) (p : Int × Nat) (l : List Rw) (i : Value) (wr : World) : Prop :=
  ∃ k : Nat, k ≤ l.length ∧ i = .int .i64 (k : Int) ∧ Below w0.heap.size w0 wr ∧ ∃ nb1 A1 L1 c1 nb2 A2 L2 c2,
    RowD wr g [.bool nb1, .slice A1 L1 c1, .int .i64 ((spLo p (l.take k)).2 : Int), .bool nb2, .slice A2 L2 c2, .int .i64 ((spHi p (l.take k)).2 : Int)] 41 ∧
    DyR wr lo wr.heap.size (.agg #[.bool nb1, .slice A1 L1 c1, .int .i64 ((spLo p (l.take k)).2 : Int)]) (spLo p (l.take k)).1 (spLo p (l.take k)).2 ∧
    DyR wr lo wr.heap.size (.agg #[.bool nb2, .slice A2 L2 c2, .int .i64 ((spHi p (l.take k)).2 : Int)]) (spHi p (l.take k)).1 (spHi p (l.take k)).2 ∧
    (canon (spLo p (l.take k)).1.natAbs).length ≤ 50000 ∧ (canon (spHi p (l.take k)).1.natAbs).length ≤ 50000
theorem res_pspan {tmps : Array Value} {w : World} {b : Nat} {v0 v1 v2 v3 v4 v5 : Value} (h2 : tmps.getD 2 undef = .pointer (some ⟨b, 0, none⟩)) (hB : RowD w b [v0, v1, v2, v3, v4, v5] 41) :
    (results Tryd.f70 tmps).run Tryd.prog w = .ok (.agg #[v0, v1, v2, v3, v4, v5]) w := by
  have k0 := hB.cell 0
  have k1 := hB.cell 1
  have k2 := hB.cell 2
  have k3 := hB.cell 3
  have k4 := hB.cell 4
  have k5 := hB.cell 5
  simp at k0 k1 k2 k3 k4 k5
  simp at h2
  simp [results, Tryd.results70, go_sem, h2, k0, k1, k2, k3, k4, k5]
set_option maxRecDepth 100000 in
set_option maxHeartbeats 4000000 in
theorem pspan_any (A : Option Addr) (r0 : Rw) (l : List Rw) (c m : Nat) (w : World) (hm : m ≤ w.heap.size) (h : RwsAt w m A (r0 :: l)) (hc : l.length + 1 ≤ c) (hn : l.length ≤ 1000) (h1 : 0 < l.length) (ht : TabAt w) :
    Calls Tryd.prog 70 #[.slice A (l.length + 1) c] w fun e w' => ∃ v', e = .returned v' ∧ IvR w' (w.heap.size) w'.heap.size v' (spLo (r0.x, r0.d) l).1 (spLo (r0.x, r0.d) l).2 (spHi (r0.x, r0.d) l).1 (spHi (r0.x, r0.d) l).2 ∧ Below w.heap.size w w' := by
  have H := Lib.hid h
  clear h
  have HT := Lib.hid ht
  clear ht
  obtain ⟨b, off, x, hA, hbm, hbs, hx, hcell⟩ := H.out.cells.row (s := 3) (fun _ => rfl) (by omega) (k := 0) (by simp)
  have e0 : x = r0 := by simpa using hx.symm
  subst e0 hA
  have g0 : w.cell? ⟨b, off, none⟩ = some (.bool x.nb) := hcell 0 _ rfl
  have g1 : w.cell? ⟨b, off + 1, none⟩ = some (.slice x.A x.ws.length x.cap) := by simpa using hcell 1 _ rfl
  have g2 : w.cell? ⟨b, off + 2, none⟩ = some (.int .i64 x.den) := by simpa using hcell 2 _ rfl
  have hx0 := H.out.each x (by simp)
  have D0 := Lib.hid (hx0.1.dy hx0.2.1)
  have hl0 : (canon x.x.natAbs).length ≤ 50000 := by rw [rw_len hx0.1 hx0.2.1]; exact hx0.2.2
  have hc1 : (1 : Int) < (c : Int) := by omega
  have hc2 : ¬ (1 = c) := by omega
  clear hcell hx hx0
  go_enter Tryd.func70, Tryd.ntmps70
  go_wp2_with fail
  go_at_call 85
  have b0 : Below w.heap.size w (w.alloc (.cells #[.bool false, .slice none 0 0, .int .i64 0, .bool false, .slice none 0 0, .int .i64 0] 41)) := al_ _ _
  refine (ppoint_any (D0.out.below b0 hm) (by simp; omega) hl0 (HT.out.below b0 HT.out.1)).mono ?_
  rintro e w1 ⟨v1, rfl, I1, hb1⟩
  obtain ⟨nb1, A1, L1, c1, nb2, A2, L2, c2, rfl, D1, D2⟩ := I1.form
  have R2 := Lib.hid ((RowD.new_ w [.bool false, .slice none 0 0, .int .i64 0, .bool false, .slice none 0 0, .int .i64 0] 41).call hb1)
  have B1 := Lib.hid (b0.trans (hb1.mono (by simp)))
  have D1' := Lib.hid D1
  have D2' := Lib.hid D2
  clear b0 I1 D1 D2 g0 g1 g2
  go_wp2_with fail
  obtain ⟨W, hW⟩ : ∃ W, W = (w1.alloc (.cells #[.bool nb1, .slice A1 L1 c1, .int .i64 (x.d : Int), .bool nb2, .slice A2 L2 c2, .int .i64 (x.d : Int)] 41)) := ⟨_, rfl⟩
  obtain ⟨g, hg⟩ : ∃ g, g = w1.heap.size := ⟨_, rfl⟩
  have bW : Below w1.heap.size w1 W := by rw [hW]; exact al_ _ _
  have rW := RowD.new_ w1 [.bool nb1, .slice A1 L1 c1, .int .i64 (x.d : Int), .bool nb2, .slice A2 L2 c2, .int .i64 (x.d : Int)] 41
  have hgW : w.heap.size + 1 ≤ g := by rw [hg]; have := R2.out.lt; omega
  rw [← hW] at rW
  rw [← hW, ← hg]
  rw [← hg] at rW
  have HRW := Lib.hid rW
  have HBW := Lib.hid bW
  have HG := Lib.hid hg
  clear hW bW rW hg
  go_loopw [13] (fun i wr => spRel w (w.heap.size) g (x.x, x.d) l i wr ∧ RowD wr w.heap.size [.bool false, .slice none 0 0, .int .i64 0, .bool false, .slice none 0 0, .int .i64 0] 41) (fun i _ => l.length - (intOf i).toNat)
  case atStart =>
    refine ⟨⟨0, Nat.zero_le _, rfl, B1.out.trans (HBW.out.mono B1.out.size), nb1, A1, L1, c1, nb2, A2, L2, c2, HRW.out, ?_, ?_, hl0, hl0⟩, R2.out.call HBW.out⟩
    · exact ((D1'.out.below HBW.out (Nat.le_refl _)).more HBW.out.size).low (by first | (simp; done) | omega)
    · exact ((D2'.out.below HBW.out (Nat.le_refl _)).more HBW.out.size).low (by first | (simp; done) | omega)
  case round =>
    clear HRW HBW R2 D1' D2' B1
    obtain ⟨⟨k, hk, rfl, hb, nb1, A1, L1, c1, nb2, A2, L2, c2, hr, hd1, hd2, hl1, hl2⟩, hres⟩ := hrel
    by_cases hlt : k < l.length
    · obtain ⟨b', off', y, hA', hym, hys, hy, hyc⟩ := (H.out.below hb hm).cells.row (s := 3) (fun _ => rfl) (by omega) (k := k + 1) (by simp; omega)
      cases hA'
      rw [List.getElem?_cons_succ] at hy
      have g0 : wr.cell? ⟨b, off + 3 + k * 3, none⟩ = some (.bool y.nb) := by have := hyc 0 _ rfl; rwa [show off + (k + 1) * 3 + 0 = off + 3 + k * 3 by omega] at this
      have g1 : wr.cell? ⟨b, off + 3 + k * 3 + 1, none⟩ = some (.slice y.A y.ws.length y.cap) := by have := hyc 1 _ rfl; rwa [show off + (k + 1) * 3 + 1 = off + 3 + k * 3 + 1 by omega] at this
      have g2 : wr.cell? ⟨b, off + 3 + k * 3 + 2, none⟩ = some (.int .i64 y.den) := by have := hyc 2 _ rfl; rwa [show off + (k + 1) * 3 + 2 = off + 3 + k * 3 + 2 by omega] at this
      have hki : (k : Int) < (l.length : Int) := by omega
      have hyy := H.out.each y (by simp [List.mem_of_getElem? hy])
      have HYD := Lib.hid (hyy.1.dy hyy.2.1)
      have hly : (canon y.x.natAbs).length ≤ 50000 := by rw [rw_len hyy.1 hyy.2.1]; exact hyy.2.2
      clear hyy
      have HY := Lib.hid hy
      have HR := Lib.hid hr
      have HRES := Lib.hid hres
      clear hyc hr hy hres
      obtain ⟨p1, hp1⟩ : ∃ p, p = spLo (x.x, x.d) (l.take k) := ⟨_, rfl⟩
      obtain ⟨p2, hp2⟩ : ∃ p, p = spHi (x.x, x.d) (l.take k) := ⟨_, rfl⟩
      rw [← hp1] at HR hd1 hl1
      rw [← hp2] at HR hd2 hl2
      have HP1 := Lib.hid hp1
      have HP2 := Lib.hid hp2
      clear hp1 hp2
      obtain ⟨x1, d1⟩ := p1
      obtain ⟨x2, d2⟩ := p2
      dsimp only at HR hd1 hd2 hl1 hl2
      have q0 : wr.cell? ⟨g, 0, none⟩ = some (.bool nb1) := HR.out.cell 0
      have q1 : wr.cell? ⟨g, 1, none⟩ = some (.slice A1 L1 c1) := HR.out.cell 1
      have q2 : wr.cell? ⟨g, 2, none⟩ = some (.int .i64 (d1 : Int)) := HR.out.cell 2
      have q3 : wr.cell? ⟨g, 3, none⟩ = some (.bool nb2) := HR.out.cell 3
      have q4 : wr.cell? ⟨g, 4, none⟩ = some (.slice A2 L2 c2) := HR.out.cell 4
      have q5 : wr.cell? ⟨g, 5, none⟩ = some (.int .i64 (d2 : Int)) := HR.out.cell 5
      have hgr := HR.out.lt
      have HD1 := Lib.hid hd1
      have HD2 := Lib.hid hd2
      clear hd1 hd2
      go_wp2_with fail
      refine wp_region_part 9 (by kernel_rfl) (by kernel_rfl) ?_
      dsimp only [List.take, List.drop]
      obtain ⟨WB, hWB⟩ : ∃ WB, WB = wr.alloc (.cells #[.bool y.nb, .slice y.A y.ws.length y.cap, .int .i64 y.den] 39) := ⟨_, rfl⟩
      rw [← hWB]
      have bB : Below wr.heap.size wr WB := by rw [hWB]; exact al_ _ _
      have rgB : RowD WB g [.bool nb1, .slice A1 L1 c1, .int .i64 (d1 : Int), .bool nb2, .slice A2 L2 c2, .int .i64 (d2 : Int)] 41 := HR.out.call bB
      have rxB : RowD WB wr.heap.size [.bool y.nb, .slice y.A y.ws.length y.cap, .int .i64 y.den] 39 := by rw [hWB]; exact RowD.new_ _ _ _
      have f0 : WB.cell? ⟨g, 0, none⟩ = some (.bool nb1) := rgB.cell 0
      have f1 : WB.cell? ⟨g, 1, none⟩ = some (.slice A1 L1 c1) := rgB.cell 1
      have f2 : WB.cell? ⟨g, 2, none⟩ = some (.int .i64 (d1 : Int)) := rgB.cell 2
      have f3 : WB.cell? ⟨g, 3, none⟩ = some (.bool nb2) := rgB.cell 3
      have f4 : WB.cell? ⟨g, 4, none⟩ = some (.slice A2 L2 c2) := rgB.cell 4
      have f5 : WB.cell? ⟨g, 5, none⟩ = some (.int .i64 (d2 : Int)) := rgB.cell 5
      have y0 : WB.cell? ⟨wr.heap.size, 0, none⟩ = some (.bool y.nb) := rxB.cell 0
      have y1 : WB.cell? ⟨wr.heap.size, 1, none⟩ = some (.slice y.A y.ws.length y.cap) := rxB.cell 1
      have y2 : WB.cell? ⟨wr.heap.size, 2, none⟩ = some (.int .i64 y.den) := rxB.cell 2
      have hgB : g < WB.heap.size := rgB.lt
      have hxB : wr.heap.size < WB.heap.size := rxB.lt
      have hS : Below WB.heap.size WB WB.drew := (Below.refl _ _).drew
      have dB1 := Lib.hid (HD1.out.below bB (Nat.le_refl _))
      have dB2 := Lib.hid (HD2.out.below bB (Nat.le_refl _))
      have dY := Lib.hid ((HYD.out.below hb hm).below bB (by have := hb.size; omega))
      have HTB := Lib.hid ((HT.out.below hb HT.out.1).below bB (by have := hb.size; have := HT.out.1; omega))
      have HBB := Lib.hid (hb.trans (bB.mono hb.size))
      have hwm : m ≤ WB.heap.size := by have := hb.size; omega
      have hwW : w.heap.size + 1 ≤ WB.heap.size := by omega
      have HRB := Lib.hid rgB
      have HSZ := Lib.hid (HRES.out.call bB)
      clear hWB q0 q1 q2 q3 q4 q5 g0 g1 g2 bB rxB rgB
      refine wpAny_of_held (S := fun w' => Below WB.heap.size WB w') _ _ _ _ ?_
      refine takeL 0 ?v0 rfl (by kernel_rfl) (by intro _ _ _ h; exact h) (by rfl) hS ?h0 ?r0
      case h0 =>
        intro w2 hSw
        go_simp
        try rfl
      case' r0 => try simp only [Act.put, List.setIfInBounds_toArray, List.set_cons_zero, List.set_cons_succ]
      refine takeL 1 ?v1 rfl (by kernel_rfl) (by intro _ _ _ h; exact h) (by rfl) hS ?h1 ?r1
      case h1 =>
        intro w2 hSw
        have e0 : w2.cell? ⟨g, 0, none⟩ = some (.bool nb1) := (hSw.cell (p := ⟨g, 0, none⟩) hgB).trans f0
        have e1 : w2.cell? ⟨g, 1, none⟩ = some (.slice A1 L1 c1) := (hSw.cell (p := ⟨g, 1, none⟩) hgB).trans f1
        have e2 : w2.cell? ⟨g, 2, none⟩ = some (.int .i64 (d1 : Int)) := (hSw.cell (p := ⟨g, 2, none⟩) hgB).trans f2
        go_simp
        try rfl
      case' r1 => try simp only [Act.put, List.setIfInBounds_toArray, List.set_cons_zero, List.set_cons_succ]
      refine takeL 2 ?v2 rfl (by kernel_rfl) (by intro _ _ _ h; exact h) (by rfl) hS ?h2 ?r2
      case h2 =>
        intro w2 hSw
        have e0 : w2.cell? ⟨wr.heap.size, 0, none⟩ = some (.bool y.nb) := (hSw.cell (p := ⟨wr.heap.size, 0, none⟩) hxB).trans y0
        have e1 : w2.cell? ⟨wr.heap.size, 1, none⟩ = some (.slice y.A y.ws.length y.cap) := (hSw.cell (p := ⟨wr.heap.size, 1, none⟩) hxB).trans y1
        have e2 : w2.cell? ⟨wr.heap.size, 2, none⟩ = some (.int .i64 y.den) := (hSw.cell (p := ⟨wr.heap.size, 2, none⟩) hxB).trans y2
        go_simp
        try rfl
      case' r2 => try simp only [Act.put, List.setIfInBounds_toArray, List.set_cons_zero, List.set_cons_succ]
      refine takeL 4 ?v4 rfl (by kernel_rfl) (by intro _ _ _ h; exact h) (by rfl) hS ?h4 ?r4
      case h4 =>
        intro w2 hSw
        go_simp
        try rfl
      case' r4 => try simp only [Act.put, List.setIfInBounds_toArray, List.set_cons_zero, List.set_cons_succ]
      refine takeL 5 ?v5 rfl (by kernel_rfl) (by intro _ _ _ h; exact h) (by rfl) hS ?h5 ?r5
      case h5 =>
        intro w2 hSw
        have e3 : w2.cell? ⟨g, 3, none⟩ = some (.bool nb2) := (hSw.cell (p := ⟨g, 3, none⟩) hgB).trans f3
        have e4 : w2.cell? ⟨g, 4, none⟩ = some (.slice A2 L2 c2) := (hSw.cell (p := ⟨g, 4, none⟩) hgB).trans f4
        have e5 : w2.cell? ⟨g, 5, none⟩ = some (.int .i64 (d2 : Int)) := (hSw.cell (p := ⟨g, 5, none⟩) hgB).trans f5
        go_simp
        try rfl
      case' r5 => try simp only [Act.put, List.setIfInBounds_toArray, List.set_cons_zero, List.set_cons_succ]
      refine takeL 6 ?v6 rfl (by kernel_rfl) (by intro _ _ _ h; exact h) (by rfl) hS ?h6 ?r6
      case h6 =>
        intro w2 hSw
        have e0 : w2.cell? ⟨wr.heap.size, 0, none⟩ = some (.bool y.nb) := (hSw.cell (p := ⟨wr.heap.size, 0, none⟩) hxB).trans y0
        have e1 : w2.cell? ⟨wr.heap.size, 1, none⟩ = some (.slice y.A y.ws.length y.cap) := (hSw.cell (p := ⟨wr.heap.size, 1, none⟩) hxB).trans y1
        have e2 : w2.cell? ⟨wr.heap.size, 2, none⟩ = some (.int .i64 y.den) := (hSw.cell (p := ⟨wr.heap.size, 2, none⟩) hxB).trans y2
        go_simp
        try rfl
      case' r6 => try simp only [Act.put, List.setIfInBounds_toArray, List.set_cons_zero, List.set_cons_succ]
      refine stepL 3 rfl (by kernel_rfl) (by rfl) ?_
      intro K hK
      go_simp
      have hmB : WB.heap.size ≤ WB.drew.heap.size := by simp
      refine (pmin_any ((dB1.out.below hS (by omega)).more (by omega : wr.heap.size ≤ WB.heap.size)) ((dY.out.below hS hwm).more hwm) hmB hl1 hly (HTB.out.below hS HTB.out.1)).mono ?_
      rintro e w3 ⟨v3, rfl, M1, hb3⟩
      have hS3 : Below WB.heap.size WB w3 := hS.trans (hb3.mono (by simp))
      obtain ⟨nb3, A3, L3, c3, rfl, _⟩ := M1.form
      have HM1 := Lib.hid (M1.low (show (w.heap.size) ≤ _ by first | (simp; done) | (simp; omega)))
      refine hK.out _ _ hS3 ?_
      clear hK K hS M1 hb3
      have hS := hS3
      clear hS3
      try simp only [Act.put, List.setIfInBounds_toArray, List.set_cons_zero, List.set_cons_succ]
      refine takeL 8 ?v8 rfl (by kernel_rfl) (by intro _ _ _ h; exact h) (by rfl) hS ?h8 ?r8
      case h8 =>
        intro w2 hSw
        go_simp
        try rfl
      case' r8 => try simp only [Act.put, List.setIfInBounds_toArray, List.set_cons_zero, List.set_cons_succ]
      refine stepL 7 rfl (by kernel_rfl) (by rfl) ?_
      intro K hK
      go_simp
      have hm3 : WB.heap.size ≤ w3.heap.size := hS.size
      refine (pmax_any ((dB2.out.below hS (by omega)).more (by omega : wr.heap.size ≤ WB.heap.size)) ((dY.out.below hS hwm).more hwm) hm3 hl2 hly (HTB.out.below hS HTB.out.1)).mono ?_
      rintro e w4 ⟨v4, rfl, M2, hb4⟩
      have hS4 : Below WB.heap.size WB w4 := hS.trans (hb4.mono hm3)
      obtain ⟨nb4, A4, L4, c4, rfl, _⟩ := M2.form
      have HM2 := Lib.hid (M2.low (show (w.heap.size) ≤ _ by omega))
      have HM1' := Lib.hid ((HM1.out.below hb4 (Nat.le_refl _)).more hb4.size)
      refine hK.out _ _ hS4 ?_
      clear hK K hS M2 hb4 HM1
      try simp only [Act.put, List.setIfInBounds_toArray, List.set_cons_zero, List.set_cons_succ]
      have rg4 := HRB.out.call hS4
      have HRG := Lib.hid rg4
      have HSZ4 := Lib.hid (HSZ.out.call hS4)
      have HB4 := Lib.hid (HBB.out.trans (hS4.mono HBB.out.size))
      clear f0 f1 f2 f3 f4 f5 y0 y1 y2
      have f0 : w4.cell? ⟨g, 0, none⟩ = some (.bool nb1) := rg4.cell 0
      have f1 : w4.cell? ⟨g, 1, none⟩ = some (.slice A1 L1 c1) := rg4.cell 1
      have f2 : w4.cell? ⟨g, 2, none⟩ = some (.int .i64 (d1 : Int)) := rg4.cell 2
      have f3 : w4.cell? ⟨g, 3, none⟩ = some (.bool nb2) := rg4.cell 3
      have f4 : w4.cell? ⟨g, 4, none⟩ = some (.slice A2 L2 c2) := rg4.cell 4
      have f5 : w4.cell? ⟨g, 5, none⟩ = some (.int .i64 (d2 : Int)) := rg4.cell 5
      have ff := rg4.free
      have hg4 := rg4.lt
      clear rg4 hS4
      refine endL (by kernel_rfl) ?_
      dsimp only [PartQ]
      go_wp2_with fail
      have e1 : spLo (x.x, x.d) (l.take (k + 1)) = dyMin x1 d1 y.x y.d := by rw [List.take_add_one, HY.out]; show spLo _ (l.take k ++ [y]) = _; rw [spLo_snoc, ← HP1.out]
      have e2 : spHi (x.x, x.d) (l.take (k + 1)) = dyMax x2 d2 y.x y.d := by rw [List.take_add_one, HY.out]; show spHi _ (l.take k ++ [y]) = _; rw [spHi_snoc, ← HP2.out]
      refine ⟨⟨⟨k + 1, by omega, by go_num, below_set6 HB4.out (by omega) _ _ _ _ _ _, ?_⟩, HSZ4.out.other6 (by omega) _ _ _ _ _ _⟩, by simp [intOf]; omega⟩
      rw [e1, e2]
      refine ⟨nb3, A3, L3, c3, nb4, A4, L4, c4, HRG.out.set6 _ _ _ _ _ _, ?_, ?_, dyMin_len hl1 hly, dyMax_len hl2 hly⟩
      · rw [size6]; exact HM1'.out.set6G HRG.out noW_6 noW_6
      · rw [size6]; exact HM2.out.set6G HRG.out noW_6 noW_6
    · have hke : k = l.length := by omega
      have hr' := hr
      have hs' := hres
      have q0 : wr.cell? ⟨g, 0, none⟩ = some (.bool nb1) := hr.cell 0
      have q1 : wr.cell? ⟨g, 1, none⟩ = some (.slice A1 L1 c1) := hr.cell 1
      have q2 : wr.cell? ⟨g, 2, none⟩ = some (.int .i64 ((spLo (x.x, x.d) (l.take k)).2 : Int)) := hr.cell 2
      have q3 : wr.cell? ⟨g, 3, none⟩ = some (.bool nb2) := hr.cell 3
      have q4 : wr.cell? ⟨g, 4, none⟩ = some (.slice A2 L2 c2) := hr.cell 4
      have q5 : wr.cell? ⟨g, 5, none⟩ = some (.int .i64 ((spHi (x.x, x.d) (l.take k)).2 : Int)) := hr.cell 5
      have z0 : wr.cell? ⟨w.heap.size, 0, none⟩ = some (.bool false) := hres.cell 0
      have z1 : wr.cell? ⟨w.heap.size, 1, none⟩ = some (.slice none 0 0) := hres.cell 1
      have z2 : wr.cell? ⟨w.heap.size, 2, none⟩ = some (.int .i64 0) := hres.cell 2
      have z3 : wr.cell? ⟨w.heap.size, 3, none⟩ = some (.bool false) := hres.cell 3
      have z4 : wr.cell? ⟨w.heap.size, 4, none⟩ = some (.slice none 0 0) := hres.cell 4
      have z5 : wr.cell? ⟨w.heap.size, 5, none⟩ = some (.int .i64 0) := hres.cell 5
      have zf := hres.free
      have HD1 := Lib.hid hd1
      have HD2 := Lib.hid hd2
      have HSZ := Lib.hid hres
      have HKE := Lib.hid hke
      have hzr := hres.lt
      clear hr' hs' hr hres hd1 hd2 hke
      go_wp2_with fail
      refine bodyPost_ret (res_pspan rfl (HSZ.out.set6 _ _ _ _ _ _)) rfl ⟨_, rfl, ?_, below_set6 hb (Nat.le_refl _) _ _ _ _ _ _⟩
      rw [size6]
      have ht : l.take k = l := by rw [HKE.out]; exact List.take_length
      rw [ht] at HD1 HD2 ⊢
      exact IvR.of (HD1.out.set6G HSZ.out noW_6 noW_6) (HD2.out.set6G HSZ.out noW_6 noW_6)
end Go.Proofs.YtejnnljjmafjaaaDoor
