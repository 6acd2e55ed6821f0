/- A diagram that came in, told as plain data. No conditions. Order and Delays of the program; Light. Condition: lists of at most a million; the table of math/bits stands in block 0. -/
import Derived.Test.YtjlocofimlgaoaaDoorDgG
import Derived.Test.YtjlocofimlgaoaaDoorStr
import Derived.Test.YtjlocofimlgaoaaDoorDgT
namespace Go.Proofs.YtjlocofimlgaoaaDoor
set_option linter.unusedVariables false
set_option linter.unusedSimpArgs false
set_option linter.unusedSectionVars false
open Go.ChangeShapes Go.WideShapes Go.ChangeAt Go.RowKit Go.Joins Go.Deep
set_option maxRecDepth 100000

def i64B (z : Int) : Prop := -9223372036854775808 ≤ z ∧ z ≤ 9223372036854775807
def prtOf (zs : List Int) : Prt := ⟨zs.getD 0 0, zs.getD 1 0, zs.getD 2 0⟩
theorem prtOf_cells (zs : List Int) (h : zs.length = 3) : (prtOf zs).cells = ints zs := by
  match zs, h with
  | [_, _, _], _ => rfl
theorem fields_int {fs : Array Field} (h : fs.all (fun f => f.type == 3) = true) : ∀ (i : Nat) (f : Field), fs[i]? = some f → Tryd.prog.underlying f.type = some (.int .i64) := by
  intro i f hf
  have hi := (Array.getElem?_eq_some_iff.1 hf)
  have := Array.all_eq_true.1 h i hi.1
  rw [hi.2] at this
  have e : f.type = 3 := by simpa using this
  rw [e]
  exact Tryd.underlying3
section
variable {H : Type} {enc : TypeId × Value → H} {w : World} {spare : Nat → Bool} {held : Bool}
def bkB (x : Bk) : Prop := i64B x.kind ∧ i64B x.vn ∧ i64B x.ve ∧ i64B x.un ∧ i64B x.ue
theorem scal_cells {fuel : Nat} {cs : List Value} {x : DataW H × List MemPlace} (h : DataW.trod enc Tryd.prog w 0 spare held fuel 23 cs = some x) : ∃ n e : Int, cs = [.int .i64 n, .int .i64 e] ∧ i64B n ∧ i64B e := by
  obtain ⟨zs, rfl, hl, hz⟩ := row_ints Tryd.underlying23 (by kernel_rfl) (fields_int (by kernel_rfl)) (by kernel_rfl) h
  match zs, hl with
  | [n, e], _ => exact ⟨n, e, rfl, hz _ (by simp), hz _ (by simp)⟩
theorem row_blk {fuel : Nat} {cs : List Value} {x : DataW H × List MemPlace} (h : DataW.trod enc Tryd.prog w 0 spare held fuel 67 cs = some x) :
    ∃ b : Bk, cs = b.cells ∧ (b.A = none → b.cap = 0) ∧ b.args.length ≤ b.cap ∧ b.args.length ≤ maxLen ∧ CellsAt w w.heap.size b.A (ints b.args) ∧ (∀ z ∈ b.args, i64B z) ∧ bkB b := by
  obtain ⟨xs, n, _, _, hlen, hxl, hg⟩ := DataW.trod_struct Tryd.underlying67 h
  have hl6 : cs.length = 6 := hlen.trans (by kernel_rfl)
  match cs, hl6 with
  | [c0, c1, c2, c3, c4, c5], _ =>
    have k1 : Tryd.prog.cellsOf 3 = 1 := by kernel_rfl
    have k2 : Tryd.prog.cellsOf 44 = 1 := by kernel_rfl
    have k3 : Tryd.prog.cellsOf 23 = 2 := by kernel_rfl
    have hx4 : xs.length = 4 := hxl
    match xs, hx4 with
    | [x0, x1, x2, x3], _ =>
      have g0 : DataW.trod enc Tryd.prog w 0 spare held n 3 (([c0, c1, c2, c3, c4, c5].drop 0).take (Tryd.prog.cellsOf 3)) = some x0 := hg 0 _ rfl
      have g1 : DataW.trod enc Tryd.prog w 0 spare held n 44 (([c0, c1, c2, c3, c4, c5].drop 1).take (Tryd.prog.cellsOf 44)) = some x1 := hg 1 _ rfl
      have g2 : DataW.trod enc Tryd.prog w 0 spare held n 23 (([c0, c1, c2, c3, c4, c5].drop 2).take (Tryd.prog.cellsOf 23)) = some x2 := hg 2 _ rfl
      have g3 : DataW.trod enc Tryd.prog w 0 spare held n 23 (([c0, c1, c2, c3, c4, c5].drop 4).take (Tryd.prog.cellsOf 23)) = some x3 := hg 3 _ rfl
      rw [k1] at g0
      rw [k2] at g1
      rw [k3] at g2 g3
      obtain ⟨kind, hk, _, hkb⟩ := DataW.trod_int Tryd.underlying3 g0
      obtain ⟨A, cap, args, ha, hA0, hc1, hc2, hc3, hc4⟩ := ints_of_cell' Tryd.underlying44 Tryd.underlying3 (by kernel_rfl) g1
      obtain ⟨vn, ve, hv, b1, b2⟩ := scal_cells g2
      obtain ⟨un, ue, hu, b3, b4⟩ := scal_cells g3
      refine ⟨⟨kind, A, args, cap, vn, ve, un, ue⟩, ?_, hA0, hc1, hc2, hc3, hc4, bounds_i64 hkb, b1, b2, b3, b4⟩
      have e0 : [c0] = [Value.int .i64 kind] := hk
      have e2 : [c2, c3] = [Value.int .i64 vn, Value.int .i64 ve] := hv
      have e3 : [c4, c5] = [Value.int .i64 un, Value.int .i64 ue] := hu
      simp only [List.cons.injEq, and_true] at e0 e2 e3
      rw [e0, ha, e2.1, e2.2, e3.1, e3.2]
      rfl
/-- What is known of a diagram that came in, however long. -/
structure DgIn (w : World) (d : Dg) : Prop where
  ps : CellsAt w w.heap.size d.A1 (flat Prt.cells d.ps)
  bs : CellsAt w w.heap.size d.A2 (flat Bk.cells d.bs)
  os : CellsAt w w.heap.size d.A3 (ints d.os)
  args : ∀ b ∈ d.bs, CellsAt w w.heap.size b.A (ints b.args)
  l1 : d.ps.length ≤ maxLen
  l2 : d.bs.length ≤ maxLen
  l3 : d.os.length ≤ maxLen
  l4 : ∀ b ∈ d.bs, b.args.length ≤ maxLen
  k4 : ∀ b ∈ d.bs, b.args.length ≤ b.cap
  bb : ∀ b ∈ d.bs, bkB b
  ba : ∀ b ∈ d.bs, ∀ z ∈ b.args, i64B z
  bo : ∀ z ∈ d.os, i64B z
  n1 : d.A1 = none → d.c1 = 0
  n3 : d.A3 = none → d.c3 = 0
  n4 : ∀ b ∈ d.bs, b.A = none → b.cap = 0
instance : Inhabited Bk := ⟨bk0⟩
theorem blks_of_cell {fuel : Nat} {v : Value} {x : DataW H × List MemPlace} (h : DataW.trod enc Tryd.prog w 0 spare held fuel 43 [v] = some x) :
    ∃ (A : Option Addr) (cap : Nat) (l : List Bk), v = .slice A l.length cap ∧ l.length ≤ maxLen ∧ CellsAt w w.heap.size A (flat Bk.cells l) ∧
      ∀ b ∈ l, (b.A = none → b.cap = 0) ∧ b.args.length ≤ b.cap ∧ b.args.length ≤ maxLen ∧ CellsAt w w.heap.size b.A (ints b.args) ∧ (∀ z ∈ b.args, i64B z) ∧ bkB b := by
  rcases open_slice Tryd.underlying43 h with ⟨hcs, _⟩ | ⟨a, len, cap, m, n, D, Pl, hcs, _, hl, hm, hmm, _, hx⟩
  · exact ⟨none, 0, [], by simpa using hcs, Nat.zero_le _, CellsAt.nil_, by simp⟩
  · have hle : len ≤ m := by rw [hmm]; split <;> omega
    rw [show Tryd.prog.cellsOf 67 = 6 by kernel_rfl] at hx
    obtain ⟨R, hR⟩ := choose_lt (α := Bk) (n := len) (p := fun i b => ((b.A = none → b.cap = 0) ∧ b.args.length ≤ b.cap ∧ b.args.length ≤ maxLen ∧ CellsAt w w.heap.size b.A (ints b.args) ∧ (∀ z ∈ b.args, i64B z) ∧ bkB b) ∧ ∀ j, j < 6 → w.cell? (a.add (i * 6 + j)) = b.cells[j]?) (fun i hi => by
      obtain ⟨cs', h1, h2⟩ := hx i (by omega)
      obtain ⟨b, rfl, hb⟩ := row_blk h2
      obtain ⟨_, hlen, hcell⟩ := World.cells?_some h1
      exact ⟨b, hb, fun j hj => by rw [← add_add]; exact hcell j hj⟩)
    refine ⟨some a, cap, (List.range len).map R, by simpa using hcs, by simp; omega, fun hne => ?_, ?_⟩
    · have hpos : 0 < len := by
        rcases Nat.eq_zero_or_pos len with h0 | h0
        · subst h0; simp [flat] at hne
        · exact h0
      obtain ⟨b, off, spot⟩ := a
      have h00 := (hR 0 hpos).2 0 (by decide)
      have hz0 : (R 0).cells[0]? = some (.int .i64 (R 0).kind) := rfl
      rw [hz0] at h00
      have hspot : spot = none := by simpa [Addr.add] using World.cell?_spot h00
      subst hspot
      have hb : b < w.heap.size := by
        rcases Nat.lt_or_ge b w.heap.size with h | h
        · exact h
        · simp [World.cell?, Addr.add, Array.getElem?_eq_none h] at h00
      refine ⟨b, off, rfl, hb, hb, fun j u hu => ?_⟩
      have hjl : j < len * 6 := by
        have := (List.getElem?_eq_some_iff.1 hu).1
        rw [flat_len (s := 6) (fun _ => rfl)] at this
        simpa using this
      have hk : j / 6 < len := Nat.div_lt_of_lt_mul (by rw [Nat.mul_comm]; exact hjl)
      have hr : j % 6 < 6 := Nat.mod_lt _ (by decide)
      have hj : j / 6 * 6 + j % 6 = j := by rw [Nat.mul_comm]; exact Nat.div_add_mod j 6
      have hg : ((List.range len).map R)[j / 6]? = some (R (j / 6)) := by simp [hk]
      have h1 := flat_get (f := Bk.cells) (s := 6) (fun _ => rfl) hg hr
      rw [hj, hu] at h1
      have h2 := (hR _ hk).2 (j % 6) hr
      rw [hj, ← h1] at h2
      rw [← Go.WideShapes.add_plain]
      exact h2
    · intro y hy
      obtain ⟨i, hi, rfl⟩ := List.mem_map.1 hy
      exact (hR i (by simpa using hi)).1
end
end Go.Proofs.YtjlocofimlgaoaaDoor
namespace Go.Proofs.YtjlocofimlgaoaaDoor
set_option linter.unusedVariables false
set_option linter.unusedSimpArgs false
set_option linter.unusedSectionVars false
open Go.RowKit

/-- What a call returns that gives a list of its own and an error. -/
def RetOE (xs : List Int) (er : Int) (w : World) (e : Ending) (w' : World) : Prop := ∃ v, e = .returned (.tuple #[v, errV er]) ∧ OwnI w' w.heap.size v xs ∧ Below w.heap.size w w'
def ordO (d : Dg) : List Int := if dgErr d.ps d.bs d.os = 0 then natI (ordM d.bs) else []
def delO (d : Dg) : List Int := if dgErr d.ps d.bs d.os = 0 then natI (delL d.bs) else []
def dgE (d : Dg) : Int := dgErr d.ps d.bs d.os
set_option maxRecDepth 100000 in
set_option maxHeartbeats 4000000 in
theorem Order_any (d : Dg) (m : Nat) (w : World) (hm : m ≤ w.heap.size) (hd : DgAt w m d) (ht : TabAt w) :
    Calls Tryd.prog 49 #[d.val] w (RetOE (ordO d) (dgE d) w) := by
  have hl2 := hd.l2
  have HD := Lib.hid hd
  have HT := Lib.hid ht
  clear hd ht
  obtain ⟨A1, ps, c1, A2, bs, c2, A3, os, c3⟩ := d
  dsimp only at hl2
  simp only [Dg.val]
  have b0 := al_ w (.cells #[.slice A1 ps.length c1, .slice A2 bs.length c2, .slice A3 os.length c3] 46)
  have r0 := RowD.new_ w [.slice A1 ps.length c1, .slice A2 bs.length c2, .slice A3 os.length c3] 46
  have HB0 := Lib.hid b0
  have R0 := Lib.hid r0
  clear b0 r0
  obtain ⟨E, hE⟩ : ∃ E, dgErr ps bs os = E := ⟨_, rfl⟩
  have HE := Lib.hid hE
  clear hE
  go_enter Tryd.func49, Tryd.ntmps49
  go_wp2_with fail
  go_at_call 34
  refine (Check_any ⟨A1, ps, c1, A2, bs, c2, A3, os, c3⟩ m _ (by simp; omega) (HD.out.below HB0.out hm) (HT.out.below HB0.out HT.out.1)).mono ?_
  rintro e w1 ⟨rfl, hb1⟩
  dsimp only
  rw [HE.out]
  have R1 := Lib.hid (R0.out.call hb1)
  have N1 := Lib.hid (HB0.out.trans (hb1.mono HB0.out.size))
  have z1 : w.heap.size < w1.heap.size := R1.out.lt
  have q0 : w1.cell? ⟨w.heap.size, 0, none⟩ = some (.slice A1 ps.length c1) := R1.out.cell 0
  have q1 : w1.cell? ⟨w.heap.size, 1, none⟩ = some (.slice A2 bs.length c2) := R1.out.cell 1
  have q2 : w1.cell? ⟨w.heap.size, 2, none⟩ = some (.slice A3 os.length c3) := R1.out.cell 2
  clear hb1
  by_cases he : E = 0
  · have HE0 := Lib.hid (HE.out.trans he)
    rw [he, errV_0]
    clear he
    have HO := Lib.hid (show ordO ⟨A1, ps, c1, A2, bs, c2, A3, os, c3⟩ = natI (ordM bs) from if_pos HE0.out)
    go_wp2_with fail
    go_at_call 67
    refine (order_any ⟨A1, ps, c1, A2, bs, c2, A3, os, c3⟩ m w1 (by omega) (HD.out.below N1.out hm) (dg_succ HE0.out)).mono ?_
    rintro e w2 ⟨v, rfl, hown, hb2⟩
    have h0 := (pre_of HE0.out).2.2
    have hx : ordL bs = natI (ordM bs) := by unfold ordL; rw [if_pos h0]
    dsimp only at hown
    rw [hx] at hown
    dsimp only
    rw [h0, errV_0]
    have HW := Lib.hid hown
    have N2 := Lib.hid (N1.out.trans (hb2.mono N1.out.size))
    clear hown hb2 hx h0 q0 q1 q2
    go_wp2_with fail
    refine bodyPost_ret (v := .tuple #[v, .nilIface]) (by simp [results, Tryd.results49, go_sem]) rfl ⟨v, by show _ = Ending.returned (.tuple #[v, errV (dgErr ps bs os)]); rw [HE0.out, errV_0], ?_, N2.out⟩
    rw [HO.out]
    exact HW.out.base_ (by omega)
  · have HO := Lib.hid (show ordO ⟨A1, ps, c1, A2, bs, c2, A3, os, c3⟩ = [] from if_neg (by rw [HE.out]; exact he))
    have HEN := Lib.hid (errV_n he)
    clear he
    rw [HEN.out]
    go_wp2_with fail
    refine bodyPost_ret (v := .tuple #[.slice none 0 0, .iface 34 (.int .i64 E)]) (by simp [results, Tryd.results49, go_sem]) rfl ⟨_, by show _ = Ending.returned (.tuple #[_, errV (dgErr ps bs os)]); rw [HE.out, HEN.out], by rw [HO.out]; exact OwnI.nil_ _ _, N1.out⟩
def pdRel (w : World) (vs : List Value) (bs : List Bk) (v i : Value) (wr : World) : Prop := ∃ k : Nat, k ≤ bs.length ∧ i = .int .i64 k ∧ OwnI wr (w.heap.size + 1) v (natI (fl (isDel bs) k)) ∧ RowD wr w.heap.size vs 46 ∧ Below w.heap.size w wr
/- Light. -/
def lightG (d : Dg) : Bool := decide (d.ps.length ≤ 40 ∧ d.bs.length ≤ 80 ∧ d.os.length ≤ 40) && d.bs.all fun b => decide (b.args.length ≤ 10)
def lgRel (w : World) (bs : List Bk) (vs : List Value) (i : Value) (wr : World) : Prop := ∃ k : Nat, k ≤ bs.length ∧ i = .int .i64 k ∧ (bs.take k).all (fun b => decide (b.args.length ≤ 10)) = true ∧ RowD wr w.heap.size vs 46 ∧ Below w.heap.size w wr
theorem all_take {α : Type} {p : α → Bool} {l : List α} {k : Nat} {x : α} (hx : l[k]? = some x) (h : (l.take k).all p = true) (hp : p x = true) : (l.take (k + 1)).all p = true := by
  rw [List.take_add_one, hx, List.all_append, h]
  simp [hp]
theorem DgIn.blk {w : World} {d : Dg} (h : DgIn w d) {k : Nat} (hk : k < d.bs.length) :
    ∃ b off kind A args cap vn ve un ue, d.A2 = some ⟨b, off, none⟩ ∧ b < w.heap.size ∧ d.bs[k]? = some ⟨kind, A, args, cap, vn, ve, un, ue⟩ ∧
      w.cell? ⟨b, off + k * 6, none⟩ = some (.int .i64 kind) ∧ w.cell? ⟨b, off + k * 6 + 1, none⟩ = some (.slice A args.length cap) ∧ w.cell? ⟨b, off + k * 6 + 2, none⟩ = some (.int .i64 vn) ∧ w.cell? ⟨b, off + k * 6 + 3, none⟩ = some (.int .i64 ve) ∧
      w.cell? ⟨b, off + k * 6 + 4, none⟩ = some (.int .i64 un) ∧ w.cell? ⟨b, off + k * 6 + 5, none⟩ = some (.int .i64 ue) ∧ args.length ≤ maxLen := by
  obtain ⟨b, off, x, hA, hbm, hbs, hx, hc⟩ := h.bs.row (s := 6) (fun _ => rfl) (by omega) hk
  have ha := h.l4 x (List.mem_of_getElem? hx)
  obtain ⟨kind, A, args, cap, vn, ve, un, ue⟩ := x
  exact ⟨b, off, kind, A, args, cap, vn, ve, un, ue, hA, hbm, hx, hc 0 _ rfl, hc 1 _ rfl, hc 2 _ rfl, hc 3 _ rfl, hc 4 _ rfl, hc 5 _ rfl, ha⟩
end Go.Proofs.YtjlocofimlgaoaaDoor
