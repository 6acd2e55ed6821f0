/- Order and Delays of the program; Light. Condition: lists of at most a million; the table of math/bits stands in block 0. -/
import Derived.Test.YtejnnljjmafjaaaDoorDgT
import Derived.Test.YtejnnljjmafjaaaDoorDgU
namespace Go.Proofs.YtejnnljjmafjaaaDoor
set_option linter.unusedVariables false
set_option linter.unusedSimpArgs false
set_option linter.unusedSectionVars false
open Go.RowKit

/-- What a call returns that gives a list of its own and an error. -/
def RetOE (xs : List Int) (er : Int) (w : World) (e : Ending) (w' : World) : Prop := ∃ v, e = .returned (.tuple #[v, errV er]) ∧ OwnI w' w.heap.size v xs ∧ Below w.heap.size w w'
def ordO (d : Dg) : List Int := if dgErr d.ps d.bs d.os = 0 then natI (ordM d.bs) else []
def delO (d : Dg) : List Int := if dgErr d.ps d.bs d.os = 0 then natI (delL d.bs) else []
def dgE (d : Dg) : Int := dgErr d.ps d.bs d.os
def pdRel (w : World) (vs : List Value) (bs : List Bk) (v i : Value) (wr : World) : Prop := ∃ k : Nat, k ≤ bs.length ∧ i = .int .i64 k ∧ OwnI wr (w.heap.size + 1) v (natI (fl (isDel bs) k)) ∧ RowD wr w.heap.size vs 26 ∧ Below w.heap.size w wr
def lightG (d : Dg) : Bool := decide (d.ps.length ≤ 40 ∧ d.bs.length ≤ 80 ∧ d.os.length ≤ 40) && d.bs.all fun b => decide (b.args.length ≤ 10)
def lgRel (w : World) (bs : List Bk) (vs : List Value) (i : Value) (wr : World) : Prop := ∃ k : Nat, k ≤ bs.length ∧ i = .int .i64 k ∧ (bs.take k).all (fun b => decide (b.args.length ≤ 10)) = true ∧ RowD wr w.heap.size vs 26 ∧ Below w.heap.size w wr
theorem all_take {α : Type} {p : α → Bool} {l : List α} {k : Nat} {x : α} (hx : l[k]? = some x) (h : (l.take k).all p = true) (hp : p x = true) : (l.take (k + 1)).all p = true := by
  rw [List.take_add_one, hx, List.all_append, h]
  simp [hp]
theorem DgIn.blk {w : World} {d : Dg} (h : DgIn w d) {k : Nat} (hk : k < d.bs.length) :
    ∃ b off kind A args cap vn ve un ue, d.A2 = some ⟨b, off, none⟩ ∧ b < w.heap.size ∧ d.bs[k]? = some ⟨kind, A, args, cap, vn, ve, un, ue⟩ ∧
      w.cell? ⟨b, off + k * 6, none⟩ = some (.int .i64 kind) ∧ w.cell? ⟨b, off + k * 6 + 1, none⟩ = some (.slice A args.length cap) ∧ w.cell? ⟨b, off + k * 6 + 2, none⟩ = some (.int .i64 vn) ∧ w.cell? ⟨b, off + k * 6 + 3, none⟩ = some (.int .i64 ve) ∧
      w.cell? ⟨b, off + k * 6 + 4, none⟩ = some (.int .i64 un) ∧ w.cell? ⟨b, off + k * 6 + 5, none⟩ = some (.int .i64 ue) ∧ args.length ≤ maxLen := by
  obtain ⟨b, off, x, hA, hbm, hbs, hx, hc⟩ := h.bs.row (s := 6) (fun _ => rfl) (by omega) hk
  have ha := h.l4 x (List.mem_of_getElem? hx)
  obtain ⟨kind, A, args, cap, vn, ve, un, ue⟩ := x
  exact ⟨b, off, kind, A, args, cap, vn, ve, un, ue, hA, hbm, hx, hc 0 _ rfl, hc 1 _ rfl, hc 2 _ rfl, hc 3 _ rfl, hc 4 _ rfl, hc 5 _ rfl, ha⟩
theorem lightG_big {d : Dg} (h : ¬ (d.ps.length ≤ 40 ∧ d.bs.length ≤ 80 ∧ d.os.length ≤ 40)) : lightG d = false := by unfold lightG; rw [decide_eq_false h]; rfl
theorem lightG_in {d : Dg} (h : d.ps.length ≤ 40 ∧ d.bs.length ≤ 80 ∧ d.os.length ≤ 40) : lightG d = d.bs.all fun b => decide (b.args.length ≤ 10) := by unfold lightG; rw [decide_eq_true h]; rfl
set_option maxRecDepth 100000 in
set_option maxHeartbeats 4000000 in
theorem light_any (d : Dg) (w w0 : World) (hb0 : Below w0.heap.size w0 w) (hd : DgIn w0 d) :
    Calls Tryd.prog 15 #[d.val] w fun e w' => e = .returned (.bool (lightG d)) ∧ Below w.heap.size w w' := by
  have l1 := hd.l1
  have l2 := hd.l2
  have l3 := hd.l3
  unfold maxLen at l1 l2 l3
  have HD := Lib.hid hd
  have HB0 := Lib.hid hb0
  clear hd hb0
  obtain ⟨A1, ps, c1, A2, bs, c2, A3, os, c3⟩ := d
  dsimp only at l1 l2 l3
  simp only [Dg.val]
  by_cases hs : ps.length ≤ 40 ∧ bs.length ≤ 80 ∧ os.length ≤ 40
  · have HS := Lib.hid (lightG_in (d := ⟨A1, ps, c1, A2, bs, c2, A3, os, c3⟩) hs)
    obtain ⟨s1, s2, s3⟩ := hs
    go_enter Tryd.func15, Tryd.ntmps15
    go_wp2_with fail
    all_goals try (exfalso; omega)
    go_loopw [24] (fun i wr => lgRel w bs [.slice A1 ps.length c1, .slice A2 bs.length c2, .slice A3 os.length c3] i wr) (fun i _ => bs.length - (intOf i).toNat)
    case atStart => exact ⟨0, Nat.zero_le _, rfl, rfl, RowD.new_ _ _ _, al_ _ _⟩
    case round =>
      obtain ⟨k, hk, rfl, hall, hbox, hb⟩ := hrel
      have HA := Lib.hid hall
      have HB2 := Lib.hid hbox
      have hbl := hbox.lt
      clear hall hbox
      by_cases hlt : k < bs.length
      · obtain ⟨b, off, kind, A, args, cap, vn, ve, un, ue, hA, hbs, hx, g0, g1, g2, g3, g4, g5, hl⟩ := HD.out.blk hlt
        unfold maxLen at hl
        dsimp only at hA hx
        subst hA
        have hB := HB0.out.trans (hb.mono HB0.out.size)
        have hbw : b < wr.heap.size := Nat.lt_of_lt_of_le hbs hB.size
        rw [← hB.cell (p := ⟨b, _, none⟩) hbs] at g0 g1 g2 g3 g4 g5
        have HX := Lib.hid hx
        clear hx hB
        by_cases ha : args.length ≤ 10
        · go_wp2_with fail
          all_goals try (exfalso; omega)
          exact ⟨⟨k + 1, by omega, by go_num, all_take HX.out HA.out (decide_eq_true ha), HB2.out.al _, ext_alloc hb _⟩, by simp [intOf]; omega⟩
        · go_wp2_with fail
          all_goals try (exfalso; omega)
          go_ret
          refine ⟨ret_bool ?_, ext_alloc hb _⟩
          rw [HS.out]
          refine Eq.symm (List.all_eq_false.2 ⟨_, List.mem_of_getElem? HX.out, ?_⟩)
          simpa using ha
      · go_wp2_with fail
        go_ret
        refine ⟨ret_bool ?_, hb⟩
        rw [HS.out]
        have h := HA.out
        rw [List.take_of_length_le (by omega)] at h
        exact h.symm
  · have HS := Lib.hid (lightG_big (d := ⟨A1, ps, c1, A2, bs, c2, A3, os, c3⟩) hs)
    have key : (40 < ps.length) ∨ (ps.length ≤ 40 ∧ 80 < bs.length) ∨ (ps.length ≤ 40 ∧ bs.length ≤ 80 ∧ 40 < os.length) := by omega
    clear hs
    rcases key with h | ⟨h1, h⟩ | ⟨h1, h2, h⟩
    all_goals
      go_enter Tryd.func15, Tryd.ntmps15
      go_wp2_with fail
      all_goals try (exfalso; omega)
      go_ret
      exact ⟨ret_bool HS.out.symm, al_ _ _⟩
end Go.Proofs.YtejnnljjmafjaaaDoor
