/- Ranges and scales that came in; whether they are short enough; the interval between two ints. No conditions. The fixed fact of the statements about scales. Condition: the table of math/bits stands in block 0. What stands while a law on a diagram and ranges goes on. No conditions. -/
import Derived.Test.YtejnnljjmafjaaaDoorScF
import Derived.Test.YtejnnljjmafjaaaDoorScH
import Derived.Test.YtejnnljjmafjaaaDoorScJ
import Derived.Test.YtejnnljjmafjaaaDoorDoor
import Derived.Test.YtejnnljjmafjaaaDoorDgR
import Derived.Test.YtejnnljjmafjaaaDoorDgT
namespace Go.Proofs.YtejnnljjmafjaaaDoor
set_option linter.unusedVariables false
set_option linter.unusedSimpArgs false
set_option linter.unusedSectionVars false
open Go.RowKit

structure Rg where
  AR : Option Addr
  R : List Iv
  cR : Nat
  AF : Option Addr
  F : List Int
  cF : Nat
def Rg.val (x : Rg) : Value := .agg #[.slice x.AR x.R.length x.cR, .slice x.AF x.F.length x.cF]
/-- What is known of ranges and scales that came in. -/
structure RgIn (w : World) (x : Rg) : Prop where
  cells : CellsAt w w.heap.size x.AR (flat Iv.cells x.R)
  each : ∀ a ∈ x.R, IvIn w a
  fs : CellsAt w w.heap.size x.AF (ints x.F)
  l1 : x.R.length ≤ maxLen
  l2 : x.F.length ≤ maxLen
def leanL (l : List Iv) : Bool := l.all leanI && decide (l.length ≤ 100)
theorem RgIn.ivs {w : World} {x : Rg} (h : RgIn w x) (hl : leanL x.R = true) : IvsAt w w.heap.size x.AR x.R := by
  unfold leanL at hl
  simp only [Bool.and_eq_true] at hl
  refine ⟨h.cells, fun a ha => ⟨(h.each a ha).1, ?_, ?_⟩⟩
  · have := of_decide_eq_true (List.all_eq_true.1 hl.1 a ha)
    omega
  · have := of_decide_eq_true (List.all_eq_true.1 hl.1 a ha)
    omega
section
open Go.ChangeShapes Go.WideShapes Go.ChangeAt Go.Joins Go.Deep
set_option maxRecDepth 100000
variable {H : Type} {enc : TypeId × Value → H} {w : World} {spare : Nat → Bool} {held : Bool}
theorem open_rg {r : Go.Reach} {b0 : Nat} {v : Value} {d : DataW H} {p : List MemPlace} (hv : Value.okWide Tryd.prog w r b0 29 v) (h : DataW.Trod enc Tryd.prog w 0 spare held 29 v d p) :
    ∃ x : Rg, v = x.val ∧ RgIn w x := by
  obtain ⟨v0, v1, y0, y1, m, rfl, rfl, rfl, g0, g1⟩ := open_agg2 Tryd.underlying29 (by kernel_rfl) (by kernel_rfl) hv h
  obtain ⟨A1, c1, R, rfl, l1, h1, b1⟩ := ivs_of_cell g0
  obtain ⟨A3, c3, F, rfl, n3, _, l3, h3, b3⟩ := ints_of_cell' Tryd.underlying24 Tryd.underlying3 (by kernel_rfl) g1
  exact ⟨⟨A1, R, c1, A3, F, c3⟩, rfl, h1, b1, h3, l1, l3⟩
end
def lnRel (w : World) (R : List Iv) (i : Value) (wr : World) : Prop := ∃ k : Nat, k ≤ R.length ∧ i = .int .i64 (k : Int) ∧ (R.take k).all leanI = true ∧ Below w.heap.size w wr
theorem lean_no {R : List Iv} {k : Nat} {y : Iv} (hy : R[k]? = some y) (h : ¬ (y.lo.ws.length ≤ 140 ∧ y.hi.ws.length ≤ 140 ∧ y.lo.den ≤ 9000 ∧ y.hi.den ≤ 9000)) : leanL R = false := by
  unfold leanL
  have : R.all leanI = false := List.all_eq_false.2 ⟨y, List.mem_of_getElem? hy, fun h2 => h (of_decide_eq_true h2)⟩
  rw [this]
  rfl
set_option maxRecDepth 100000 in
set_option maxHeartbeats 4000000 in
theorem lean_any (A : Option Addr) (R : List Iv) (c : Nat) (w w0 : World) (hb0 : Below w0.heap.size w0 w) (hc : CellsAt w0 w0.heap.size A (flat Iv.cells R)) (he : ∀ a ∈ R, IvIn w0 a) (hl : R.length ≤ maxLen) :
    Calls Tryd.prog 30 #[.slice A R.length c] w fun e w' => e = .returned (.bool (leanL R)) ∧ Below w.heap.size w w' := by
  unfold maxLen at hl
  have HC := Lib.hid hc
  have HE := Lib.hid he
  have HB0 := Lib.hid hb0
  clear hc he hb0
  go_enter Tryd.func30, Tryd.ntmps30
  go_wp2_with fail
  go_loopw [7] (fun i wr => lnRel w R i wr) (fun i _ => R.length - (intOf i).toNat)
  case atStart => exact ⟨0, Nat.zero_le _, rfl, rfl, Below.refl _ _⟩
  case round =>
    obtain ⟨k, hk, rfl, hall, hb⟩ := hrel
    have HA := Lib.hid hall
    clear hall
    by_cases hlt : k < R.length
    · have hsz := hb.size
      obtain ⟨b, off, y, hA, hbm, hbs, hy, hyc⟩ := HC.out.row (s := 6) (fun _ => rfl) (by omega) hlt
      subst hA
      have hB := HB0.out.trans (hb.mono HB0.out.size)
      have hbw : b < wr.heap.size := Nat.lt_of_lt_of_le hbs hB.size
      have g0 : wr.cell? ⟨b, off + k * 6, none⟩ = some (.bool y.lo.nb) := (hB.cell (p := ⟨b, off + k * 6, none⟩) hbs).trans (hyc 0 _ rfl)
      have g1 : wr.cell? ⟨b, off + k * 6 + 1, none⟩ = some (.slice y.lo.A y.lo.ws.length y.lo.cap) := (hB.cell (p := ⟨b, off + k * 6 + 1, none⟩) hbs).trans (hyc 1 _ rfl)
      have g2 : wr.cell? ⟨b, off + k * 6 + 2, none⟩ = some (.int .i64 y.lo.den) := (hB.cell (p := ⟨b, off + k * 6 + 2, none⟩) hbs).trans (hyc 2 _ rfl)
      have g3 : wr.cell? ⟨b, off + k * 6 + 3, none⟩ = some (.bool y.hi.nb) := (hB.cell (p := ⟨b, off + k * 6 + 3, none⟩) hbs).trans (hyc 3 _ rfl)
      have g4 : wr.cell? ⟨b, off + k * 6 + 4, none⟩ = some (.slice y.hi.A y.hi.ws.length y.hi.cap) := (hB.cell (p := ⟨b, off + k * 6 + 4, none⟩) hbs).trans (hyc 4 _ rfl)
      have g5 : wr.cell? ⟨b, off + k * 6 + 5, none⟩ = some (.int .i64 y.hi.den) := (hB.cell (p := ⟨b, off + k * 6 + 5, none⟩) hbs).trans (hyc 5 _ rfl)
      have hye := HE.out y (List.mem_of_getElem? hy)
      obtain ⟨_, m1, m2, m3, m4⟩ := hye
      unfold maxLen at m1 m2
      have HY := Lib.hid hy
      have hki : (k : Int) < (R.length : Int) := by omega
      clear hyc hy hB
      by_cases hln : y.lo.ws.length ≤ 140 ∧ y.hi.ws.length ≤ 140 ∧ y.lo.den ≤ 9000 ∧ y.hi.den ≤ 9000
      · have HL := Lib.hid (show leanI y = true from decide_eq_true hln)
        obtain ⟨n1, n2, n3, n4⟩ := hln
        go_wp2_with fail
        all_goals try (exfalso; omega)
        exact ⟨⟨k + 1, by omega, by go_num, all_take HY.out HA.out HL.out, ext_alloc hb _⟩, by simp [intOf]; omega⟩
      · have HV := Lib.hid (show leanL R = false from lean_no HY.out hln)
        have HN := Lib.hid hln
        clear hln
        go_wp2_with fail
        all_goals first
          | (go_ret
             exact ⟨by rw [HV.out]; rfl, ext_alloc hb _⟩)
          | (exfalso; exact HN.out ⟨by omega, by omega, by omega, by omega⟩)
    · have hall : R.all leanI = true := by have := HA.out; rwa [List.take_of_length_le (by omega)] at this
      have HV := Lib.hid (show leanL R = decide (R.length ≤ 100) from by unfold leanL; rw [hall]; rfl)
      clear hall
      by_cases h100 : R.length ≤ 100
      · have hd : decide ((R.length : Int) ≤ 100) = true := decide_eq_true (by omega)
        have hd2 : decide (R.length ≤ 100) = true := decide_eq_true h100
        go_wp2_with fail
        go_ret
        exact ⟨by rw [HV.out, hd2]; rfl, hb⟩
      · have hd : decide ((R.length : Int) ≤ 100) = false := decide_eq_false (by omega)
        have hd2 : decide (R.length ≤ 100) = false := decide_eq_false h100
        go_wp2_with fail
        go_ret
        exact ⟨by rw [HV.out, hd2]; rfl, hb⟩
def lightR (d : Dg) (x : Rg) : Bool := lightG d && leanL x.R && decide (x.F.length ≤ 100)
set_option maxRecDepth 100000 in
set_option maxHeartbeats 4000000 in
theorem light13_any (d : Dg) (x : Rg) (w w0 : World) (hb0 : Below w0.heap.size w0 w) (hd : DgIn w0 d) (hx : RgIn w0 x) :
    Calls Tryd.prog 10 #[d.val, x.val] w fun e w' => e = .returned (.bool (lightR d x)) ∧ Below w.heap.size w w' := by
  have HLD := Lib.hid (show ∀ u : World, Below w.heap.size w u → Calls Tryd.prog 15 #[d.val] u fun e w' => e = .returned (.bool (lightG d)) ∧ Below u.heap.size u w' from fun u hu => light_any d u w0 (hb0.trans (hu.mono hb0.size)) hd)
  have HLN := Lib.hid (show ∀ u : World, Below w.heap.size w u → Calls Tryd.prog 30 #[.slice x.AR x.R.length x.cR] u fun e w' => e = .returned (.bool (leanL x.R)) ∧ Below u.heap.size u w' from fun u hu => lean_any x.AR x.R x.cR u w0 (hb0.trans (hu.mono hb0.size)) hx.cells hx.each hx.l1)
  have HV := Lib.hid (show lightR d x = (lightG d && leanL x.R && decide (x.F.length ≤ 100)) from rfl)
  have hl2 := hx.l2
  unfold maxLen at hl2
  clear hb0 hd hx
  obtain ⟨lg, hlg⟩ : ∃ q, q = lightG d := ⟨_, rfl⟩
  obtain ⟨ln, hln⟩ : ∃ q, q = leanL x.R := ⟨_, rfl⟩
  rw [← hlg] at HLD HV
  rw [← hln] at HLN HV
  obtain ⟨lr, hlr⟩ : ∃ q, q = lightR d x := ⟨_, rfl⟩
  rw [← hlr] at HV
  rw [← hlr]
  clear hlg hln hlr
  obtain ⟨A1, ps, c1, A2, bs, c2, A3, os, c3⟩ := d
  obtain ⟨AR, R, cR, AF, F, cF⟩ := x
  dsimp only at hl2 HLN HV
  simp only [Dg.val, Rg.val] at HLD ⊢
  have b0 : Below w.heap.size w ((w.alloc (.cells #[.slice A1 ps.length c1, .slice A2 bs.length c2, .slice A3 os.length c3] 26)).alloc (.cells #[.slice AR R.length cR, .slice AF F.length cF] 29)) := ext_alloc (ext_alloc (Below.refl _ _) _) _
  have r1 := RowD.new_ (w.alloc (.cells #[.slice A1 ps.length c1, .slice A2 bs.length c2, .slice A3 os.length c3] 26)) [.slice AR R.length cR, .slice AF F.length cF] 29
  rw [show (w.alloc (.cells #[.slice A1 ps.length c1, .slice A2 bs.length c2, .slice A3 os.length c3] 26)).heap.size = w.heap.size + 1 by simp] at r1
  go_enter Tryd.func10, Tryd.ntmps10
  cases lg with
  | false =>
    go_wp2_with fail
    go_at_call 15
    refine (HLD.out _ b0).mono ?_
    rintro e w1 ⟨rfl, hb1⟩
    go_wp2_with fail
    go_ret
    exact ⟨by rw [HV.out]; rfl, b0.trans (hb1.mono (by simp; omega))⟩
  | true =>
    go_wp2_with fail
    go_at_call 15
    refine (HLD.out _ b0).mono ?_
    rintro e w1 ⟨rfl, hb1⟩
    have s1 := r1.call hb1
    have b1 := b0.trans (hb1.mono (by simp; omega))
    clear r1 b0 hb1
    have q0 : w1.cell? ⟨w.heap.size + 1, 0, none⟩ = some (.slice AR R.length cR) := s1.cell 0
    have q1 : w1.cell? ⟨w.heap.size + 1, 1, none⟩ = some (.slice AF F.length cF) := s1.cell 1
    cases ln with
    | false =>
      go_wp2_with fail
      go_at_call 30
      refine (HLN.out _ b1).mono ?_
      rintro e w2 ⟨rfl, hb2⟩
      go_wp2_with fail
      go_ret
      exact ⟨by rw [HV.out]; rfl, b1.trans (hb2.mono b1.size)⟩
    | true =>
      go_wp2_with fail
      go_at_call 30
      refine (HLN.out _ b1).mono ?_
      rintro e w2 ⟨rfl, hb2⟩
      have s2 := s1.call hb2
      have b2 := b1.trans (hb2.mono b1.size)
      clear s1 hb2 b1 q0 q1
      have q0 : w2.cell? ⟨w.heap.size + 1, 0, none⟩ = some (.slice AR R.length cR) := s2.cell 0
      have q1 : w2.cell? ⟨w.heap.size + 1, 1, none⟩ = some (.slice AF F.length cF) := s2.cell 1
      by_cases h100 : F.length ≤ 100
      · have hd : decide ((F.length : Int) ≤ 100) = true := decide_eq_true (by omega)
        have hd2 : decide (F.length ≤ 100) = true := decide_eq_true h100
        go_wp2_with fail
        go_ret
        exact ⟨by rw [HV.out, hd2]; rfl, b2⟩
      · have hd : decide ((F.length : Int) ≤ 100) = false := decide_eq_false (by omega)
        have hd2 : decide (F.length ≤ 100) = false := decide_eq_false h100
        go_wp2_with fail
        go_ret
        exact ⟨by rw [HV.out, hd2]; rfl, b2⟩
theorem res_rInts {tmps : Array Value} {w : World} {b : Nat} {v0 v1 v2 v3 v4 v5 : Value} (h2 : tmps.getD 4 undef = .pointer (some ⟨b, 0, none⟩)) (hB : RowD w b [v0, v1, v2, v3, v4, v5] 41) :
    (results Tryd.f29 tmps).run Tryd.prog w = .ok (.agg #[v0, v1, v2, v3, v4, v5]) w := by
  have k0 := hB.cell 0
  have k1 := hB.cell 1
  have k2 := hB.cell 2
  have k3 := hB.cell 3
  have k4 := hB.cell 4
  have k5 := hB.cell 5
  simp at k0 k1 k2 k3 k4 k5
  simp at h2
  simp [results, Tryd.results29, go_sem, h2, k0, k1, k2, k3, k4, k5]
set_option maxRecDepth 100000 in
set_option maxHeartbeats 4000000 in
theorem rints_any (lo hi : Int) (h1 : -1000000 ≤ lo) (h2 : lo ≤ 1000000) (h3 : -1000000 ≤ hi) (h4 : hi ≤ 1000000) (w : World) :
    Calls Tryd.prog 29 #[.int .i64 lo, .int .i64 hi] w fun e w' => ∃ v', e = .returned v' ∧ IvR w' 0 w'.heap.size v' (dyMin lo 0 hi 0).1 (dyMin lo 0 hi 0).2 (dyMax lo 0 hi 0).1 (dyMax lo 0 hi 0).2 ∧ Below w.heap.size w w' := by
  have hl1 : (canon lo.natAbs).length ≤ 50000 := Nat.le_trans (canon_len_le (k := 2) (by omega)) (by decide)
  have hl2 : (canon hi.natAbs).length ≤ 50000 := Nat.le_trans (canon_len_le (k := 2) (by omega)) (by decide)
  have b0 : Below w.heap.size w (w.alloc (.cells #[.bool false, .slice none 0 0, .int .i64 0, .bool false, .slice none 0 0, .int .i64 0] 41)) := al_ _ _
  have r0 := RowD.new_ w [.bool false, .slice none 0 0, .int .i64 0, .bool false, .slice none 0 0, .int .i64 0] 41
  go_enter Tryd.func29, Tryd.ntmps29
  go_wp2_with fail
  go_at_call 50
  refine (of_any lo (by omega) (by omega) _).mono ?_
  rintro e w1 ⟨v1, rfl, E5, hb1⟩
  obtain ⟨r5, rfl, q5, vd, hx, hd, hw, _⟩ := E5.rw_
  have vd5 := Lib.hid vd
  have hx5 := Lib.hid hx
  have hd5 := Lib.hid hd
  have hw5 := Lib.hid hw
  have R1 := Lib.hid (r0.call hb1)
  have B1 := Lib.hid (b0.trans (hb1.mono (by simp)))
  have Q5 := Lib.hid q5
  clear vd hx hd hw E5 r0 b0 hb1 q5
  simp only [Rw.val]
  go_wp2_with fail
  go_at_call 50
  refine (of_any hi (by omega) (by omega) _).mono ?_
  rintro e w2 ⟨v2, rfl, E6, hb2⟩
  obtain ⟨r6, rfl, q6, vd, hx, hd, hw, _⟩ := E6.rw_
  have vd6 := Lib.hid vd
  have hx6 := Lib.hid hx
  have hd6 := Lib.hid hd
  have hw6 := Lib.hid hw
  have R2 := Lib.hid (R1.out.call hb2)
  have B2 := Lib.hid (B1.out.trans (hb2.mono B1.out.size))
  have Q5b := Lib.hid ((Q5.out.below hb2 (Nat.le_refl _)).more hb2.size)
  have Q6 := Lib.hid q6
  clear vd hx hd hw E6 hb2 q6 R1 B1 Q5
  simp only [Rw.val]
  go_wp2_with fail
  go_at_call 49
  obtain ⟨W, hW⟩ : ∃ q, q = w2.alloc (.cells #[.bool r5.nb, .slice r5.A r5.ws.length r5.cap, .int .i64 r5.den, .bool r6.nb, .slice r6.A r6.ws.length r6.cap, .int .i64 r6.den] 39) := ⟨_, rfl⟩
  obtain ⟨s, hs⟩ : ∃ q, q = w2.heap.size := ⟨_, rfl⟩
  have rs : RowD W s [.bool r5.nb, .slice r5.A r5.ws.length r5.cap, .int .i64 r5.den, .bool r6.nb, .slice r6.A r6.ws.length r6.cap, .int .i64 r6.den] 39 := by rw [hW, hs]; exact RowD.new_ _ _ _
  have bW : Below w2.heap.size w2 W := by rw [hW]; exact al_ _ _
  rw [← hW, ← hs]
  clear hW hs
  have p5 := (Q5b.out.below bW (Nat.le_refl _)).more bW.size
  have p6 := (Q6.out.below bW (Nat.le_refl _)).more bW.size
  have hrw : RwsAt W W.heap.size (some ⟨s, 0, none⟩) [r5, r6] := ⟨rs.cells_ rs.lt, fun r hr => by rcases List.mem_cons.1 hr with rfl | hr; exact ⟨p5, vd5.out, by rw [hw5.out]; exact hl1⟩; rcases List.mem_cons.1 hr with rfl | hr; exact ⟨p6, vd6.out, by rw [hw6.out]; exact hl2⟩; cases hr⟩
  refine (rspan_any (some ⟨s, 0, none⟩) r5 [r6] 2 W.heap.size _ (Nat.le_refl _) hrw (by simp) (by simp) (by simp)).mono ?_
  rintro e w3 ⟨v3, rfl, I7, hb3⟩
  simp only [spLo, spHi, List.foldl_cons, List.foldl_nil] at I7
  rw [hx5.out, hx6.out, hd5.out, hd6.out] at I7
  obtain ⟨nb7, A7, L7, c7, nb8, A8, L8, c8, rfl, E7, E8⟩ := I7.form
  have u3 := (R2.out.call bW).call hb3
  have bv := B2.out.trans ((bW.trans (hb3.mono bW.size)).mono B2.out.size)
  have G7 := Lib.hid E7
  have G8 := Lib.hid E8
  clear rs p5 p6 hrw I7 E7 E8 hb3 bW R2 B2
  have q0 : w3.cell? ⟨w.heap.size, 0, none⟩ = some (.bool false) := u3.cell 0
  have q1 : w3.cell? ⟨w.heap.size, 1, none⟩ = some (.slice none 0 0) := u3.cell 1
  have q2 : w3.cell? ⟨w.heap.size, 2, none⟩ = some (.int .i64 0) := u3.cell 2
  have q3 : w3.cell? ⟨w.heap.size, 3, none⟩ = some (.bool false) := u3.cell 3
  have q4 : w3.cell? ⟨w.heap.size, 4, none⟩ = some (.slice none 0 0) := u3.cell 4
  have q5 : w3.cell? ⟨w.heap.size, 5, none⟩ = some (.int .i64 0) := u3.cell 5
  have qf := u3.free
  have hu := u3.lt
  go_wp2_with fail
  refine bodyPost_ret (res_rInts rfl (u3.set6 _ _ _ _ _ _)) rfl ⟨_, rfl, ?_, below_set6 bv (Nat.le_refl _) _ _ _ _ _ _⟩
  rw [size6]
  exact IvR.of (G7.out.set6G u3 noW_6 noW_6) (G8.out.set6G u3 noW_6 noW_6)
end Go.Proofs.YtejnnljjmafjaaaDoor
namespace Go.Proofs.YtejnnljjmafjaaaDoor
set_option linter.unusedVariables false
set_option linter.unusedSimpArgs false
set_option linter.unusedSectionVars false
open Go.RowKit

/-- The diagram of the fixed fact, its lists in the blocks from n. -/
def exB (n : Nat) : Dg := ⟨none, [], 0, some ⟨n + 1, 0, none⟩, [⟨1, none, [], 0, 0, 0, 0, 0⟩, ⟨5, some ⟨n, 0, none⟩, [0], 1, 0, 0, 0, 0⟩], 2, none, [], 0⟩
structure ExB (w : World) (n : Nat) : Prop where
  h1 : RowD w n (ints [0]) 3
  h2 : RowD w (n + 1) [.int .i64 1, .slice none 0 0, .int .i64 0, .int .i64 0, .int .i64 0, .int .i64 0, .int .i64 5, .slice (some ⟨n, 0, none⟩) 1 1, .int .i64 0, .int .i64 0, .int .i64 0, .int .i64 0] 50
  h3 : RowD w (n + 2) [.slice none 0 0, .slice (some ⟨n + 1, 0, none⟩) 2 2, .slice none 0 0] 26
theorem ExB.below {w w' : World} {n B : Nat} (h : ExB w n) (hb : Below B w w') (hB : n + 2 < B) : ExB w' n := ⟨h.h1.below hb (by omega), h.h2.below hb (by omega), h.h3.below hb hB⟩
theorem ExB.at_ {w : World} {n : Nat} (h : ExB w n) : DgAt w w.heap.size (exB n) := by
  obtain ⟨h1, h2, h3⟩ := h
  refine ⟨CellsAt.nil_, row_cells h2, CellsAt.nil_, fun b hb => ?_, (show (0 : Nat) ≤ 1000000 by decide), (show (2 : Nat) ≤ 1000000 by decide), (show (0 : Nat) ≤ 1000000 by decide)⟩
  simp only [exB, List.mem_cons, List.not_mem_nil, or_false] at hb
  rcases hb with rfl | rfl
  · exact ⟨CellsAt.nil_, (show (0 : Nat) ≤ 1000000 by decide)⟩
  · exact ⟨row_cells h1, (show (1 : Nat) ≤ 1000000 by decide)⟩
theorem exB_err (n : Nat) : dgErr (exB n).ps (exB n).bs (exB n).os = 0 := by kernel_rfl
theorem exB_sh (n : Nat) : shV 0 (exB n) [27, 30] = 1 := by kernel_rfl
/-- The magnitude alone decides. -/
def pickM (p : Int × Nat) : Nat → Int
  | 0 => -1
  | n + 1 => if pCmp (dyShift p.1 p.2 (n : Int)).1 (dyShift p.1 p.2 (n : Int)).2 1073741824 0 ≤ 0 then (n : Int) else pickM p n
theorem pick_m {a : Iv} {p : Int × Nat} (h : magI a = p) : ∀ n, pick a n = pickM p n
  | 0 => rfl
  | n + 1 => by
    have ih := pick_m h n
    unfold pick pickM
    rw [ih]
    unfold roomB
    rw [h]
    simp only [decide_eq_true_eq]
theorem chS_m {a : Iv} {p : Int × Nat} (h : magI a = p) : chS a = pickM p 31 := pick_m h 31
theorem magI_of {a : Iv} {x y : Int} {dx dy : Nat} (h : a.lo.x = x ∧ a.lo.d = dx ∧ a.hi.x = y ∧ a.hi.d = dy) : magI a = iabsHi x dx y dy := by unfold magI; rw [h.1, h.2.1, h.2.2.1, h.2.2.2]
theorem ivv_of {a : Iv} {x y : Int} {dx dy : Nat} (h : vdB a.lo = true ∧ vdB a.hi = true) (h2 : a.lo.x = x ∧ a.lo.d = dx ∧ a.hi.x = y ∧ a.hi.d = dy) (hc : decide (pCmp x dx y dy ≤ 0) = true) : ivB a = true :=
  decide_eq_true ⟨h.1, h.2, by rw [h2.1, h2.2.1, h2.2.2.1, h2.2.2.2]; exact of_decide_eq_true hc⟩
theorem sm_len {a : Iv} {w : World} {m : Nat} (h : IvAt w m a) (hv : vdB a.lo = true ∧ vdB a.hi = true) (h1 : a.lo.x.natAbs < 4294967296) (h2 : a.hi.x.natAbs < 4294967296) : a.lo.ws.length ≤ 10000 ∧ a.hi.ws.length ≤ 10000 := by
  rw [← rw_len h.lo hv.1, ← rw_len h.hi hv.2]
  exact ⟨Nat.le_trans (canon_len_le (k := 1) (by omega)) (by decide), Nat.le_trans (canon_len_le (k := 1) (by omega)) (by decide)⟩
theorem lit_ints (w : World) (l : List Int) (o : Obj) (h : o = .cells (ints l).toArray 3) : CellsAt (w.alloc o) (w.heap.size + 1) (some ⟨w.heap.size, 0, none⟩) (ints l) := by
  subst h
  exact (row_cells (RowD.new_ w (ints l) 3)).more (by simp)
set_option maxRecDepth 100000 in
set_option maxHeartbeats 4000000 in
theorem awake13_any (w : World) (ht : TabAt w) : Calls Tryd.prog 9 #[] w fun e w' => e = .returned (.bool true) ∧ Below w.heap.size w w' := by
  have HT := Lib.hid ht
  clear ht
  go_enter Tryd.func9, Tryd.ntmps9
  go_wp2_with fail
  obtain ⟨W, hW⟩ : ∃ q, q = (((w.alloc (.cells #[.int .i64 0] 3)).alloc (.cells #[.int .i64 1, .slice none 0 0, .int .i64 0, .int .i64 0, .int .i64 0, .int .i64 0, .int .i64 5, .slice (some ⟨w.heap.size, 0, none⟩) 1 1, .int .i64 0, .int .i64 0, .int .i64 0, .int .i64 0] 50)).alloc (.cells #[.slice none 0 0, .slice (some ⟨w.heap.size + 1, 0, none⟩) 2 2, .slice none 0 0] 26)) := ⟨_, rfl⟩
  have rX : ExB W w.heap.size := by
    rw [hW]
    refine ⟨?_, ?_, ?_⟩
    all_goals repeat (first | (refine RowD.newAt _ _ _ ⟨rfl, ?_⟩; simp; done) | refine RowD.al ?_ _)
  have bW : Below w.heap.size w W := by rw [hW]; exact ext_alloc (ext_alloc (ext_alloc (Below.refl _ _) _) _) _
  rw [← hW]
  clear hW
  have HX := Lib.hid rX
  have HBW := Lib.hid bW
  have hsz : w.heap.size + 3 ≤ W.heap.size := by have := rX.h3.lt; omega
  have a0 : W.cell? ⟨w.heap.size + 2, 0, none⟩ = some (.slice none 0 0) := rX.h3.cell 0
  have a1 : W.cell? ⟨w.heap.size + 2, 1, none⟩ = some (.slice (some ⟨w.heap.size + 1, 0, none⟩) 2 2) := rX.h3.cell 1
  have a2 : W.cell? ⟨w.heap.size + 2, 2, none⟩ = some (.slice none 0 0) := rX.h3.cell 2
  have hA := rX.h3.lt
  clear rX bW
  refine wp_region_part 9 (by kernel_rfl) (by kernel_rfl) ?_
  dsimp only [List.take, List.drop]
  refine wpAny_of_held (S := fun w' => Below W.heap.size W w') _ _ _ _ ?_
  obtain ⟨u0, hu0⟩ : ∃ q, q = W.drew := ⟨_, rfl⟩
  have hS : Below W.heap.size W u0 := by rw [hu0]; exact (Below.refl _ _).drew
  rw [← hu0]
  clear hu0
  refine takeL 0 ?v0 rfl (by kernel_rfl) (by intro _ _ _ h; exact h) (by rfl) hS ?h0 ?r0
  case h0 =>
    intro w2 hSw
    have e0 : w2.cell? ⟨w.heap.size + 2, 0, none⟩ = some (.slice none 0 0) := (hSw.cell (p := ⟨w.heap.size + 2, 0, none⟩) hA).trans a0
    have e1 : w2.cell? ⟨w.heap.size + 2, 1, none⟩ = some (.slice (some ⟨w.heap.size + 1, 0, none⟩) 2 2) := (hSw.cell (p := ⟨w.heap.size + 2, 1, none⟩) hA).trans a1
    have e2 : w2.cell? ⟨w.heap.size + 2, 2, none⟩ = some (.slice none 0 0) := (hSw.cell (p := ⟨w.heap.size + 2, 2, none⟩) hA).trans a2
    go_simp
    try rfl
  case' r0 => try simp only [Act.put, List.setIfInBounds_toArray, List.set_cons_zero, List.set_cons_succ]
  clear a0 a1 a2
  refine stepL 1 rfl (by kernel_rfl) (by rfl) ?_
  intro K hK
  go_simp
  refine (rints_any (-3) 5 (by decide) (by decide) (by decide) (by decide) _).mono ?_
  rintro e u1 ⟨v5, rfl, I5, hb⟩
  obtain ⟨y, rfl, t1, t2, t3, t4, t5, t6, t7⟩ := I5.raw
  have qy := Lib.hid t1
  have py := Lib.hid (show vdB y.lo = true ∧ vdB y.hi = true from ⟨t2, t3⟩)
  have xy := Lib.hid (show y.lo.x = (-3) ∧ y.lo.d = 0 ∧ y.hi.x = 5 ∧ y.hi.d = 0 from ⟨t4.trans (by kernel_rfl), t5.trans (by kernel_rfl), t6.trans (by kernel_rfl), t7.trans (by kernel_rfl)⟩)
  have hS2 : Below W.heap.size W u1 := hS.trans (hb.mono hS.size)
  refine hK.out _ _ hS2 ?_
  clear hK K hS I5 hb t1 t2 t3 t4 t5 t6 t7
  have hS := hS2
  clear hS2
  try simp only [Act.put, List.setIfInBounds_toArray, List.set_cons_zero, List.set_cons_succ]
  try dsimp only [Iv.val]
  refine stepL 2 rfl (by kernel_rfl) (by rfl) ?_
  intro K hK
  go_simp
  refine (rints_any (-1) 1 (by decide) (by decide) (by decide) (by decide) _).mono ?_
  rintro e u2 ⟨v5, rfl, I5, hb⟩
  obtain ⟨z, rfl, t1, t2, t3, t4, t5, t6, t7⟩ := I5.raw
  have qz := Lib.hid t1
  have pz := Lib.hid (show vdB z.lo = true ∧ vdB z.hi = true from ⟨t2, t3⟩)
  have xz := Lib.hid (show z.lo.x = (-1) ∧ z.lo.d = 0 ∧ z.hi.x = 1 ∧ z.hi.d = 0 from ⟨t4.trans (by kernel_rfl), t5.trans (by kernel_rfl), t6.trans (by kernel_rfl), t7.trans (by kernel_rfl)⟩)
  have hS2 : Below W.heap.size W u2 := hS.trans (hb.mono hS.size)
  have qy2 := Lib.hid ((qy.out.below hb (Nat.le_refl _)).more hb.size)
  clear qy
  have qy := qy2
  clear qy2
  refine hK.out _ _ hS2 ?_
  clear hK K hS I5 hb t1 t2 t3 t4 t5 t6 t7
  have hS := hS2
  clear hS2
  try simp only [Act.put, List.setIfInBounds_toArray, List.set_cons_zero, List.set_cons_succ]
  try dsimp only [Iv.val]
  refine stepL 3 rfl (by kernel_rfl) (by rfl) ?_
  intro K hK
  go_simp
  refine hK.out _ _ (hS.alloc hS.size _) ?_
  clear hK K
  try simp only [Act.put, List.setIfInBounds_toArray, List.set_cons_zero, List.set_cons_succ]
  obtain ⟨u3, hn⟩ : ∃ q, q = u2.alloc (.cells #[.bool y.lo.nb, .slice y.lo.A y.lo.ws.length y.lo.cap, .int .i64 y.lo.den, .bool y.hi.nb, .slice y.hi.A y.hi.ws.length y.hi.cap, .int .i64 y.hi.den, .bool z.lo.nb, .slice z.lo.A z.lo.ws.length z.lo.cap, .int .i64 z.lo.den, .bool z.hi.nb, .slice z.hi.A z.hi.ws.length z.hi.cap, .int .i64 z.hi.den] 41) := ⟨_, rfl⟩
  obtain ⟨g, hg⟩ : ∃ q, q = u2.heap.size := ⟨_, rfl⟩
  have rg : RowD u3 g [.bool y.lo.nb, .slice y.lo.A y.lo.ws.length y.lo.cap, .int .i64 y.lo.den, .bool y.hi.nb, .slice y.hi.A y.hi.ws.length y.hi.cap, .int .i64 y.hi.den, .bool z.lo.nb, .slice z.lo.A z.lo.ws.length z.lo.cap, .int .i64 z.lo.den, .bool z.hi.nb, .slice z.hi.A z.hi.ws.length z.hi.cap, .int .i64 z.hi.den] 41 := by rw [hn, hg]; exact RowD.new_ _ _ _
  have hb : Below u2.heap.size u2 u3 := by rw [hn]; exact al_ _ _
  have hS2 : Below W.heap.size W u3 := hS.trans (hb.mono hS.size)
  rw [← hn, ← hg]
  have qy2 := (qy.out.below hb (Nat.le_refl _)).more hb.size
  have qz2 := (qz.out.below hb (Nat.le_refl _)).more hb.size
  have hivs : IvsAt u3 u3.heap.size (some ⟨g, 0, none⟩) [y, z] := ⟨rg.cells_ rg.lt, fun a ha => by
    rcases List.mem_cons.1 ha with rfl | ha
    · exact ⟨qy2, sm_len qy2 py.out (by rw [xy.out.1]; decide) (by rw [xy.out.2.2.1]; decide)⟩
    · rcases List.mem_cons.1 ha with rfl | ha
      · exact ⟨qz2, sm_len qz2 pz.out (by rw [xz.out.1]; decide) (by rw [xz.out.2.2.1]; decide)⟩
      · cases ha⟩
  have HIV := Lib.hid hivs
  clear hn hg rg hb hS qy2 qz2 hivs qy qz
  have hS := hS2
  clear hS2
  refine stepL 4 rfl (by kernel_rfl) (by rfl) ?_
  intro K hK
  go_simp
  have hXu := HX.out.below hS (by omega)
  have hv1 := ivv_of py.out xy.out (by kernel_rfl)
  have hv2 := ivv_of pz.out xz.out (by kernel_rfl)
  have hg0 : gvE (exB w.heap.size) [y, z] = 0 := (if_pos (exB_err _)).trans (gv_3 rfl (by simp [hv1, hv2]))
  have hs1 : chS y = 27 := (chS_m (magI_of xy.out)).trans (by kernel_rfl)
  have hs2 : chS z = 30 := (chS_m (magI_of xz.out)).trans (by kernel_rfl)
  have hc0 := ch_0 (R := [y, z]) (by simp [hs1, hs2])
  refine (pchoose_any (exB w.heap.size) (some ⟨g, 0, none⟩) [y, z] 2 u3.heap.size u3 (Nat.le_refl _) hXu.at_ HIV.out (by simp) (HT.out.below (HBW.out.trans (hS.mono HBW.out.size)) HT.out.1)).mono ?_
  rintro e u4 ⟨v, rfl, hown, hb⟩
  rw [hg0, hc0.2] at hown
  rw [hg0, hc0.1, errV_0]
  simp only [List.map_cons, List.map_nil, hs1, hs2] at hown
  have HO := Lib.hid hown
  have hS2 : Below W.heap.size W u4 := hS.trans (hb.mono hS.size)
  obtain ⟨A4, c4, rfl, _, _⟩ := hown.view
  refine hK.out _ _ hS2 ?_
  clear hK K hS hXu hv1 hv2 hg0 hs1 hs2 hc0 hown hb HIV py pz xy xz
  have hS := hS2
  clear hS2
  try simp only [Act.put, List.setIfInBounds_toArray, List.set_cons_zero, List.set_cons_succ]
  refine takeL 5 ?v5 rfl (by kernel_rfl) (by intro _ _ _ h; exact h) (by rfl) hS ?h5 ?r5
  case h5 =>
    intro w2 hSw
    go_simp
    try rfl
  case' r5 => try simp only [Act.put, List.setIfInBounds_toArray, List.set_cons_zero, List.set_cons_succ]
  refine takeL 6 ?v6 rfl (by kernel_rfl) (by intro _ _ _ h; exact h) (by rfl) hS ?h6 ?r6
  case h6 =>
    intro w2 hSw
    go_simp
    try rfl
  case' r6 => try simp only [Act.put, List.setIfInBounds_toArray, List.set_cons_zero, List.set_cons_succ]
  refine takeL 7 ?v7 rfl (by kernel_rfl) (by intro _ _ _ h; exact h) (by rfl) hS ?h7 ?r7
  case h7 =>
    intro w2 hSw
    go_simp
    try rfl
  case' r7 => try simp only [Act.put, List.setIfInBounds_toArray, List.set_cons_zero, List.set_cons_succ]
  refine takeL 8 ?v8 rfl (by kernel_rfl) (by intro _ _ _ h; exact h) (by rfl) hS ?h8 ?r8
  case h8 =>
    intro w2 hSw
    go_simp
    try rfl
  case' r8 => try simp only [Act.put, List.setIfInBounds_toArray, List.set_cons_zero, List.set_cons_succ]
  refine endL (by kernel_rfl) ?_
  dsimp only [PartQ]
  have hX4 := HX.out.below hS (by omega)
  have HB4 := Lib.hid (HBW.out.trans (hS.mono HBW.out.size))
  have HX4 := Lib.hid hX4
  have hs4 := hS.size
  have a0 : u4.cell? ⟨w.heap.size + 2, 0, none⟩ = some (.slice none 0 0) := hX4.h3.cell 0
  have a1 : u4.cell? ⟨w.heap.size + 2, 1, none⟩ = some (.slice (some ⟨w.heap.size + 1, 0, none⟩) 2 2) := hX4.h3.cell 1
  have a2 : u4.cell? ⟨w.heap.size + 2, 2, none⟩ = some (.slice none 0 0) := hX4.h3.cell 2
  have hA4 := hX4.h3.lt
  clear hX4 hS
  go_wp2_with fail
  go_at_call 17
  obtain ⟨u5, hu5⟩ : ∃ q, q = u4.alloc (.cells #[.int .i64 27, .int .i64 30] 3) := ⟨_, rfl⟩
  have bu5 : Below u4.heap.size u4 u5 := by rw [hu5]; exact al_ _ _
  have hF5 : CellsAt u5 u5.heap.size (some ⟨u4.heap.size, 0, none⟩) (ints [27, 30]) := by rw [hu5]; exact (lit_ints u4 [27, 30] _ rfl).more (by simp)
  rw [← hu5]
  have hs5 := bu5.size
  clear hu5
  have hXu := HX4.out.below bu5 (by omega)
  refine (pshifts_any (exB w.heap.size) (some ⟨u4.heap.size, 0, none⟩) [27, 30] 2 u5.heap.size u5 (Nat.le_refl _) hXu.at_ hF5 (by simp) (HT.out.below (HB4.out.trans (bu5.mono HB4.out.size)) HT.out.1)).mono ?_
  rintro e u6 ⟨rfl, hb⟩
  rw [exB_err, exB_sh, show fiE 0 (exB w.heap.size).bs.length [27, 30] = 0 from by kernel_rfl, errV_0]
  have HO6 := Lib.hid ((HO.out.call bu5).call hb)
  have HB6 := Lib.hid (HB4.out.trans ((bu5.trans (hb.mono hs5)).mono HB4.out.size))
  clear hXu hF5 bu5 hs5 hb HO HB4 HX4 a0 a1 a2 hA4
  go_wp2_with fail
  go_at_call 22
  have hh := lit_ints u6 [27, 30] _ rfl
  refine (ints_any A4 (some ⟨u6.heap.size, 0, none⟩) [27, 30] [27, 30] c4 2 (u6.heap.size + 1) _ ((HO6.out.cells.below (al_ u6 _) (Nat.le_refl _)).more (by omega)) hh (by simp) (by simp)).mono ?_
  rintro e u7 ⟨rfl, hb⟩
  rw [show intsB [27, 30] [27, 30] = true from rfl]
  have hb7 := (al_ u6 (.cells #[.int .i64 27, .int .i64 30] 3)).trans (hb.mono (by simp))
  go_wp2_with fail
  go_ret
  exact ⟨rfl, HB6.out.trans (hb7.mono HB6.out.size)⟩
end Go.Proofs.YtejnnljjmafjaaaDoor
namespace Go.Proofs.YtejnnljjmafjaaaDoor
set_option linter.unusedVariables false
set_option linter.unusedSimpArgs false
set_option linter.unusedSectionVars false
open Go.RowKit

def Rg.vals (x : Rg) : List Value := [.slice x.AR x.R.length x.cR, .slice x.AF x.F.length x.cF]
/-- The diagram's and the ranges' boxes are the first new blocks; the old memory is as it was. -/
structure Ly (w0 w : World) (d : Dg) (x : Rg) : Prop where
  bel : Below w0.heap.size w0 w
  box : RowD w w0.heap.size d.vals 26
  bx : RowD w (w0.heap.size + 1) x.vals 29
  tab : TabAt w
theorem Ly.start (w0 : World) (d : Dg) (x : Rg) (ht : TabAt w0) : Ly w0 ((w0.alloc (.cells d.vals.toArray 26)).alloc (.cells x.vals.toArray 29)) d x := by
  have hb : Below w0.heap.size w0 ((w0.alloc (.cells d.vals.toArray 26)).alloc (.cells x.vals.toArray 29)) := ext_alloc (ext_alloc (Below.refl _ _) _) _
  refine ⟨hb, (RowD.new_ _ _ _).call (al_ _ _), ?_, ht.below hb ht.1⟩
  have := RowD.new_ (w0.alloc (.cells d.vals.toArray 26)) x.vals 29
  rwa [show (w0.alloc (.cells d.vals.toArray 26)).heap.size = w0.heap.size + 1 by simp] at this
section
variable {w0 w w' : World} {d : Dg} {x : Rg}
theorem Ly.next (h : Ly w0 w d x) (hb : Below w.heap.size w w') : Ly w0 w' d x := ⟨h.bel.trans (hb.mono h.bel.size), h.box.call hb, h.bx.call hb, h.tab.call hb⟩
theorem Ly.al (h : Ly w0 w d x) (o : Obj) : Ly w0 (w.alloc o) d x := h.next (al_ w o)
theorem Ly.c0 (h : Ly w0 w d x) : w.cell? ⟨w0.heap.size, 0, none⟩ = some (.slice d.A1 d.ps.length d.c1) := h.box.cell 0
theorem Ly.c1 (h : Ly w0 w d x) : w.cell? ⟨w0.heap.size, 1, none⟩ = some (.slice d.A2 d.bs.length d.c2) := h.box.cell 1
theorem Ly.c2 (h : Ly w0 w d x) : w.cell? ⟨w0.heap.size, 2, none⟩ = some (.slice d.A3 d.os.length d.c3) := h.box.cell 2
theorem Ly.e0 (h : Ly w0 w d x) : w.cell? ⟨w0.heap.size + 1, 0, none⟩ = some (.slice x.AR x.R.length x.cR) := h.bx.cell 0
theorem Ly.e1 (h : Ly w0 w d x) : w.cell? ⟨w0.heap.size + 1, 1, none⟩ = some (.slice x.AF x.F.length x.cF) := h.bx.cell 1
theorem Ly.lt (h : Ly w0 w d x) : w0.heap.size + 1 < w.heap.size := h.bx.lt
theorem Ly.le (h : Ly w0 w d x) : w0.heap.size ≤ w.heap.size := h.bel.size
theorem Ly.dg (h : Ly w0 w d x) (hd : DgAt w0 w0.heap.size d) : DgAt w w0.heap.size d := hd.below h.bel (Nat.le_refl _)
theorem Ly.iv (h : Ly w0 w d x) {A : Option Addr} {l : List Iv} (hd : IvsAt w0 w0.heap.size A l) : IvsAt w w0.heap.size A l := hd.below h.bel (Nat.le_refl _)
theorem Ly.fs (h : Ly w0 w d x) {A : Option Addr} {l : List Value} (hd : CellsAt w0 w0.heap.size A l) : CellsAt w w0.heap.size A l := hd.below h.bel (Nat.le_refl _)
end
/-- A diagram that is short enough. -/
theorem DgIn.light13 {w : World} {d : Dg} (h : DgIn w d) (hl : lightG d = true) : DgAt w w.heap.size d := by
  unfold lightG at hl
  simp only [Bool.and_eq_true, decide_eq_true_eq, List.all_eq_true] at hl
  obtain ⟨⟨h1, h2, h3⟩, h4⟩ := hl
  exact ⟨h.ps, h.bs, h.os, fun b hb => ⟨h.args b hb, by have := h4 b hb; omega⟩, by omega, by omega, by omega⟩
theorem lightR_parts {d : Dg} {x : Rg} (h : lightR d x = true) : lightG d = true ∧ leanL x.R = true ∧ x.F.length ≤ 100 ∧ x.R.length ≤ 100 ∧ d.bs.length ≤ 80 := by
  unfold lightR at h
  simp only [Bool.and_eq_true, decide_eq_true_eq] at h
  have h2 := h.1.2
  unfold leanL at h2
  simp only [Bool.and_eq_true, decide_eq_true_eq] at h2
  have h3 := h.1.1
  unfold lightG at h3
  simp only [Bool.and_eq_true, decide_eq_true_eq] at h3
  exact ⟨h.1.1, h.1.2, h.2, h2.2, h3.1.2.1⟩
end Go.Proofs.YtejnnljjmafjaaaDoor
