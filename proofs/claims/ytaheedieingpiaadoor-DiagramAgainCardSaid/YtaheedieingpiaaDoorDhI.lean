/- Two diagrams that say the same; the number of an error. Condition: lists of at most a million. -/
import Derived.Test.YtaheedieingpiaaDoorDhF
namespace Go.Proofs.YtaheedieingpiaaDoor
set_option linter.unusedVariables false
set_option linter.unusedSimpArgs false
set_option linter.unusedSectionVars false
open Go.RowKit

def sm1 (w : World) (vs1 vs2 : List Value) (n : Nat) (v : Value) (wr : World) : Prop := ∃ k : Nat, k ≤ n ∧ v = .int .i64 (k : Int) ∧ RowD wr w.heap.size vs1 26 ∧ RowD wr (w.heap.size + 1) vs2 26 ∧ Below w.heap.size w wr
def sm3 (w : World) (S : Nat) (vs1 vs2 b1 b2 : List Value) (n : Nat) (v : Value) (wr : World) : Prop := ∃ k : Nat, k ≤ n ∧ v = .int .i64 (k : Int) ∧ RowD wr w.heap.size vs1 26 ∧ RowD wr (w.heap.size + 1) vs2 26 ∧ RowD wr S b1 44 ∧ RowD wr (S + 1) b2 44 ∧ Below w.heap.size w wr
set_option maxRecDepth 100000 in
set_option maxHeartbeats 8000000 in
theorem same_true (d d2 : Dg) (m : Nat) (w : World) (hm : m ≤ w.heap.size) (hd : DgAt w m d) (hd2 : DgAt w m d2) (e1 : d2.ps = d.ps) (e2 : d2.bs.map core = d.bs.map core) (e3 : d2.os = d.os) :
    Calls Tryd.prog 23 #[d.val, d2.val] w fun e w' => e = .returned (.bool true) ∧ Below w.heap.size w w' := by
  have hl1 := hd.l1
  have hl2 := hd.l2
  have hl3 := hd.l3
  have HD := Lib.hid hd
  have HD2 := Lib.hid hd2
  have HC := Lib.hid e2
  have hbl := core_len e2
  clear hd hd2 e2
  obtain ⟨A1, ps, c1, A2, bs, c2, A3, os, c3⟩ := d
  obtain ⟨B1, ps2, e1', B2, bt, e2, B3, os2, e3'⟩ := d2
  dsimp only at e1 e3 hl1 hl2 hl3 HC hbl
  subst e1 e3
  obtain ⟨e1, rfl⟩ : ∃ e1, e1 = e1' := ⟨_, rfl⟩
  obtain ⟨e3, rfl⟩ : ∃ e3, e3 = e3' := ⟨_, rfl⟩
  obtain ⟨ps, rfl⟩ : ∃ p, p = ps2 := ⟨_, rfl⟩
  obtain ⟨os, rfl⟩ : ∃ p, p = os2 := ⟨_, rfl⟩
  simp only [Dg.val]
  rw [hbl]
  have r1 := (RowD.new_ w [.slice A1 ps.length c1, .slice A2 bs.length c2, .slice A3 os.length c3] 26).al (.cells #[.slice B1 ps.length e1, .slice B2 bs.length e2, .slice B3 os.length e3] 26)
  have r2 := RowD.new_ (w.alloc (.cells #[.slice A1 ps.length c1, .slice A2 bs.length c2, .slice A3 os.length c3] 26)) [.slice B1 ps.length e1, .slice B2 bs.length e2, .slice B3 os.length e3] 26
  rw [size_al1] at r2
  have b0 := ext_alloc (al_ w (.cells #[.slice A1 ps.length c1, .slice A2 bs.length c2, .slice A3 os.length c3] 26)) (.cells #[.slice B1 ps.length e1, .slice B2 bs.length e2, .slice B3 os.length e3] 26)
  have HB1 := Lib.hid r1
  have HB2 := Lib.hid r2
  have HB0 := Lib.hid b0
  have HBL := Lib.hid hbl
  clear r1 r2 b0
  go_enter Tryd.func23, Tryd.ntmps23
  go_wp2_with fail
  go_loopw [39] (fun v wr => sm1 w [.slice A1 ps.length c1, .slice A2 bs.length c2, .slice A3 os.length c3] [.slice B1 ps.length e1, .slice B2 bs.length e2, .slice B3 os.length e3] ps.length v wr) (fun v _ => ps.length - (intOf v).toNat)
  case atStart => exact ⟨0, Nat.zero_le _, rfl, HB1.out, HB2.out, HB0.out⟩
  case round =>
    clear HB1 HB2 HB0
    obtain ⟨k, hk, rfl, hb1, hb2, hb⟩ := hrel
    have HB1 := Lib.hid hb1
    have HB2 := Lib.hid hb2
    clear hb1 hb2
    have f0 : wr.cell? ⟨w.heap.size, 0, none⟩ = some (.slice A1 ps.length c1) := HB1.out.cell 0
    have f1 : wr.cell? ⟨w.heap.size, 1, none⟩ = some (.slice A2 bs.length c2) := HB1.out.cell 1
    have f2 : wr.cell? ⟨w.heap.size, 2, none⟩ = some (.slice A3 os.length c3) := HB1.out.cell 2
    have h0 : wr.cell? ⟨w.heap.size + 1, 0, none⟩ = some (.slice B1 ps.length e1) := HB2.out.cell 0
    have h1 : wr.cell? ⟨w.heap.size + 1, 1, none⟩ = some (.slice B2 bs.length e2) := HB2.out.cell 1
    have h2 : wr.cell? ⟨w.heap.size + 1, 2, none⟩ = some (.slice B3 os.length e3) := HB2.out.cell 2
    have z1 : w.heap.size + 1 < wr.heap.size := HB2.out.lt
    by_cases hlt : k < ps.length
    · have hki : (k : Int) < (ps.length : Int) := by omega
      obtain ⟨b, off, x, hA, hbm, hbs, hx, hc⟩ := (HD.out.below hb hm).ps.row (s := 3) (fun _ => rfl) (by omega) hlt
      obtain ⟨b', off', x', hA', hbm', hbs', hx', hc'⟩ := (HD2.out.below hb hm).ps.row (s := 3) (fun _ => rfl) (by omega) hlt
      dsimp only at hA hA' hx hx'
      rw [hx] at hx'
      cases hx'
      subst hA hA'
      obtain ⟨p, q, r⟩ := x
      have g0 : wr.cell? ⟨b, off + k * 3, none⟩ = some (.int .i64 p) := hc 0 _ rfl
      have g1 : wr.cell? ⟨b, off + k * 3 + 1, none⟩ = some (.int .i64 q) := hc 1 _ rfl
      have g2 : wr.cell? ⟨b, off + k * 3 + 2, none⟩ = some (.int .i64 r) := hc 2 _ rfl
      have g0' : wr.cell? ⟨b', off' + k * 3, none⟩ = some (.int .i64 p) := hc' 0 _ rfl
      have g1' : wr.cell? ⟨b', off' + k * 3 + 1, none⟩ = some (.int .i64 q) := hc' 1 _ rfl
      have g2' : wr.cell? ⟨b', off' + k * 3 + 2, none⟩ = some (.int .i64 r) := hc' 2 _ rfl
      clear hc hc' hx
      go_wp2_with fail
      go_quiet (fail)
      go_wp2_with fail
      exact ⟨⟨k + 1, by omega, by go_num, HB1.out, HB2.out, below_drewN hb _⟩, by simp [intOf]; omega⟩
    · have hle : ¬ (k : Int) < (ps.length : Int) := by omega
      go_wp2_with fail
      go_loopw [57] (fun v wr => sm1 w [.slice A1 ps.length c1, .slice A2 bs.length c2, .slice A3 os.length c3] [.slice B1 ps.length e1, .slice B2 bs.length e2, .slice B3 os.length e3] bs.length v wr) (fun v _ => bs.length - (intOf v).toNat)
      case atStart => exact ⟨0, Nat.zero_le _, rfl, HB1.out, HB2.out, hb⟩
      case round =>
        clear HB1 HB2 hb f0 f1 f2 h0 h1 h2 z1
        obtain ⟨k, hk, rfl, hb1, hb2, hb⟩ := hrel
        have HB1 := Lib.hid hb1
        have HB2 := Lib.hid hb2
        clear hb1 hb2
        have f0 : wr.cell? ⟨w.heap.size, 0, none⟩ = some (.slice A1 ps.length c1) := HB1.out.cell 0
        have f1 : wr.cell? ⟨w.heap.size, 1, none⟩ = some (.slice A2 bs.length c2) := HB1.out.cell 1
        have f2 : wr.cell? ⟨w.heap.size, 2, none⟩ = some (.slice A3 os.length c3) := HB1.out.cell 2
        have h0 : wr.cell? ⟨w.heap.size + 1, 0, none⟩ = some (.slice B1 ps.length e1) := HB2.out.cell 0
        have h1 : wr.cell? ⟨w.heap.size + 1, 1, none⟩ = some (.slice B2 bs.length e2) := HB2.out.cell 1
        have h2 : wr.cell? ⟨w.heap.size + 1, 2, none⟩ = some (.slice B3 os.length e3) := HB2.out.cell 2
        have z1 : w.heap.size + 1 < wr.heap.size := HB2.out.lt
        by_cases hlt : k < bs.length
        · as_aux_lemma =>
          have hki : (k : Int) < (bs.length : Int) := by omega
          obtain ⟨b, off, kind, KA, args, cap, vn, ve, un, ue, hA, hbm, hbs, hx, g0, g1, g2, g3, g4, g5, ha, hal⟩ := (HD.out.below hb hm).blk hlt
          obtain ⟨b', off', kind', KA', args', cap', vn', ve', un', ue', hA', hbm', hbs', hx', g0', g1', g2', g3', g4', g5', ha', hal'⟩ := (HD2.out.below hb hm).blk (k := k) (by show k < bt.length; rw [HBL.out]; exact hlt)
          dsimp only at hA hA' hx hx'
          have hcc := (core_get HC.out k).symm
          rw [hx, hx'] at hcc
          simp only [Option.map_some, Option.some.injEq, core, Prod.mk.injEq] at hcc
          obtain ⟨rfl, rfl, rfl, rfl, rfl, rfl⟩ := hcc
          subst hA hA'
          have HA := Lib.hid ha
          have HA' := Lib.hid ha'
          clear hx hx' ha ha' hal'
          obtain ⟨S, hS⟩ : ∃ S, S = wr.heap.size := ⟨_, rfl⟩
          have HS := Lib.hid hS
          have hS1 : w.heap.size + 1 < S := by omega
          have hmS : m ≤ S := by have := hb.size; omega
          clear hS
          go_wp2_with fail
          have X1 := Lib.hid ((RowD.new_ wr [.int .i64 kind, .slice KA args.length cap, .int .i64 vn, .int .i64 ve, .int .i64 un, .int .i64 ue] 44).al (.cells #[.int .i64 kind, .slice KA' args.length cap', .int .i64 vn, .int .i64 ve, .int .i64 un, .int .i64 ue] 44))
          have X2 := Lib.hid (RowD.new_ (wr.alloc (.cells #[.int .i64 kind, .slice KA args.length cap, .int .i64 vn, .int .i64 ve, .int .i64 un, .int .i64 ue] 44)) [.int .i64 kind, .slice KA' args.length cap', .int .i64 vn, .int .i64 ve, .int .i64 un, .int .i64 ue] 44)
          rw [size_al1] at X2
          have b2 := ext_alloc (al_ wr (.cells #[.int .i64 kind, .slice KA args.length cap, .int .i64 vn, .int .i64 ve, .int .i64 un, .int .i64 ue] 44)) (.cells #[.int .i64 kind, .slice KA' args.length cap', .int .i64 vn, .int .i64 ve, .int .i64 un, .int .i64 ue] 44)
          have Y1 := Lib.hid (HB1.out.call b2)
          have Y2 := Lib.hid (HB2.out.call b2)
          have Y3 := Lib.hid (hb.trans (b2.mono hb.size))
          rw [← HS.out] at X1 X2
          rw [← HS.out]
          clear b2 f0 f1 f2 h0 h1 h2 z1
          go_loopw [98] (fun v wr => sm3 w S [.slice A1 ps.length c1, .slice (some ⟨b, off, none⟩) bs.length c2, .slice A3 os.length c3] [.slice B1 ps.length e1, .slice (some ⟨b', off', none⟩) bs.length e2, .slice B3 os.length e3] [.int .i64 kind, .slice KA args.length cap, .int .i64 vn, .int .i64 ve, .int .i64 un, .int .i64 ue] [.int .i64 kind, .slice KA' args.length cap', .int .i64 vn, .int .i64 ve, .int .i64 un, .int .i64 ue] args.length v wr) (fun v _ => args.length - (intOf v).toNat)
          case atStart => exact ⟨0, Nat.zero_le _, rfl, Y1.out, Y2.out, X1.out, X2.out, Y3.out⟩
          case round =>
            obtain ⟨wo, rfl⟩ : ∃ wo : World, wo = wr := ⟨_, rfl⟩
            clear X1 X2 Y1 Y2 Y3
            obtain ⟨t, ht, rfl, hb1, hb2, hx1, hx2, hbw⟩ := hrel
            have HB3 := Lib.hid hb1
            have HB4 := Lib.hid hb2
            have HX1 := Lib.hid hx1
            have HX2 := Lib.hid hx2
            have s1 : wo.cell? ⟨S, 1, none⟩ = some (.slice KA args.length cap) := hx1.cell 1
            have s2 : wo.cell? ⟨S + 1, 1, none⟩ = some (.slice KA' args.length cap') := hx2.cell 1
            have zS : S + 1 < wo.heap.size := hx2.lt
            clear hb1 hb2 hx1 hx2
            by_cases hlt3 : t < args.length
            · have hti : (t : Int) < (args.length : Int) := by omega
              obtain ⟨ab, ao, z, hA, hab, hab2, hz, gz⟩ := (CellsAt.two HA.out hb hbw hm).int_ hlt3
              obtain ⟨ab', ao', z', hA', hab', hab2', hz', gz'⟩ := (CellsAt.two HA'.out hb hbw hm).int_ hlt3
              rw [hz] at hz'
              cases hz'
              subst hA hA'
              clear hz
              go_wp2_with fail
              go_quiet (fail)
              go_wp2_with fail
              exact ⟨⟨t + 1, by omega, by go_num, HB3.out, HB4.out, HX1.out, HX2.out, below_drewN hbw _⟩, by simp [intOf]; omega⟩
            · have hle : ¬ (t : Int) < (args.length : Int) := by omega
              go_wp2_with fail
              exact ⟨⟨k + 1, by omega, by go_num, HB3.out, HB4.out, hbw⟩, by simp [intOf]; omega⟩
        · have hle : ¬ (k : Int) < (bs.length : Int) := by omega
          go_wp2_with fail
          go_loopw [117] (fun v wr => sm1 w [.slice A1 ps.length c1, .slice A2 bs.length c2, .slice A3 os.length c3] [.slice B1 ps.length e1, .slice B2 bs.length e2, .slice B3 os.length e3] os.length v wr) (fun v _ => os.length - (intOf v).toNat)
          case atStart => exact ⟨0, Nat.zero_le _, rfl, HB1.out, HB2.out, hb⟩
          case round =>
            clear HB1 HB2 hb f0 f1 f2 h0 h1 h2 z1
            obtain ⟨k, hk, rfl, hb1, hb2, hb⟩ := hrel
            have HB1 := Lib.hid hb1
            have HB2 := Lib.hid hb2
            clear hb1 hb2
            have f0 : wr.cell? ⟨w.heap.size, 0, none⟩ = some (.slice A1 ps.length c1) := HB1.out.cell 0
            have f1 : wr.cell? ⟨w.heap.size, 1, none⟩ = some (.slice A2 bs.length c2) := HB1.out.cell 1
            have f2 : wr.cell? ⟨w.heap.size, 2, none⟩ = some (.slice A3 os.length c3) := HB1.out.cell 2
            have h0 : wr.cell? ⟨w.heap.size + 1, 0, none⟩ = some (.slice B1 ps.length e1) := HB2.out.cell 0
            have h1 : wr.cell? ⟨w.heap.size + 1, 1, none⟩ = some (.slice B2 bs.length e2) := HB2.out.cell 1
            have h2 : wr.cell? ⟨w.heap.size + 1, 2, none⟩ = some (.slice B3 os.length e3) := HB2.out.cell 2
            have z1 : w.heap.size + 1 < wr.heap.size := HB2.out.lt
            by_cases hlt : k < os.length
            · as_aux_lemma =>
              have hki : (k : Int) < (os.length : Int) := by omega
              obtain ⟨ab, ao, z, hA, hab, hab2, hz, gz⟩ := (HD.out.below hb hm).os.int_ hlt
              obtain ⟨ab', ao', z', hA', hab', hab2', hz', gz'⟩ := (HD2.out.below hb hm).os.int_ hlt
              dsimp only at hA hA' hz hz'
              rw [hz] at hz'
              cases hz'
              subst hA hA'
              clear hz
              go_wp2_with fail
              go_quiet (fail)
              go_wp2_with fail
              exact ⟨⟨k + 1, by omega, by go_num, HB1.out, HB2.out, below_drewN hb _⟩, by simp [intOf]; omega⟩
            · have hle : ¬ (k : Int) < (os.length : Int) := by omega
              go_wp2_with fail
              go_ret
              exact ⟨rfl, hb⟩
end Go.Proofs.YtaheedieingpiaaDoor
