/- Diagrams in memory; the arguments of a block that are blocks; a list's members; marks as a list. Condition: lists of at most a million. Marks as a list, as the program and as the document make it; the delays. Condition: at most a million. -/
import Derived.Test.YtjlocofimlgaoaaDoorDgE
import Derived.Test.YtjlocofimlgaoaaDoorOwn
namespace Go.Proofs.YtjlocofimlgaoaaDoor
set_option linter.unusedVariables false
set_option linter.unusedSimpArgs false
set_option linter.unusedSectionVars false
open Go.RowKit

structure Dg where
  A1 : Option Addr
  ps : List Prt
  c1 : Nat
  A2 : Option Addr
  bs : List Bk
  c2 : Nat
  A3 : Option Addr
  os : List Int
  c3 : Nat
def Dg.vals (d : Dg) : List Value := [.slice d.A1 d.ps.length d.c1, .slice d.A2 d.bs.length d.c2, .slice d.A3 d.os.length d.c3]
def Dg.val (d : Dg) : Value := .agg #[.slice d.A1 d.ps.length d.c1, .slice d.A2 d.bs.length d.c2, .slice d.A3 d.os.length d.c3]
def Bk.val (b : Bk) : Value := .agg #[.int .i64 b.kind, .slice b.A b.args.length b.cap, .int .i64 b.vn, .int .i64 b.ve, .int .i64 b.un, .int .i64 b.ue]
/-- How a diagram's lists lie in memory. -/
structure DgAt (w : World) (m : Nat) (d : Dg) : Prop where
  ps : CellsAt w m d.A1 (flat Prt.cells d.ps)
  bs : CellsAt w m d.A2 (flat Bk.cells d.bs)
  os : CellsAt w m d.A3 (ints d.os)
  args : ∀ b ∈ d.bs, CellsAt w m b.A (ints b.args) ∧ b.args.length ≤ 1000000
  l1 : d.ps.length ≤ 1000000
  l2 : d.bs.length ≤ 1000000
  l3 : d.os.length ≤ 1000000
theorem DgAt.below {w w' : World} {m B : Nat} {d : Dg} (h : DgAt w m d) (hb : Below B w w') (hm : m ≤ B) : DgAt w' m d :=
  ⟨h.ps.below hb hm, h.bs.below hb hm, h.os.below hb hm, fun b hb' => ⟨(h.args b hb').1.below hb hm, (h.args b hb').2⟩, h.l1, h.l2, h.l3⟩
theorem DgAt.more {w : World} {m m' : Nat} {d : Dg} (h : DgAt w m d) (hm : m ≤ m') : DgAt w m' d :=
  ⟨h.ps.more hm, h.bs.more hm, h.os.more hm, fun b hb' => ⟨(h.args b hb').1.more hm, (h.args b hb').2⟩, h.l1, h.l2, h.l3⟩
/-- One block of a diagram: its cells. -/
theorem DgAt.blk {w : World} {m : Nat} {d : Dg} (h : DgAt w m d) {k : Nat} (hk : k < d.bs.length) :
    ∃ b off kind A args cap vn ve un ue, d.A2 = some ⟨b, off, none⟩ ∧ b < m ∧ b < w.heap.size ∧ d.bs[k]? = some ⟨kind, A, args, cap, vn, ve, un, ue⟩ ∧
      w.cell? ⟨b, off + k * 6, none⟩ = some (.int .i64 kind) ∧ w.cell? ⟨b, off + k * 6 + 1, none⟩ = some (.slice A args.length cap) ∧ w.cell? ⟨b, off + k * 6 + 2, none⟩ = some (.int .i64 vn) ∧ w.cell? ⟨b, off + k * 6 + 3, none⟩ = some (.int .i64 ve) ∧
      w.cell? ⟨b, off + k * 6 + 4, none⟩ = some (.int .i64 un) ∧ w.cell? ⟨b, off + k * 6 + 5, none⟩ = some (.int .i64 ue) ∧ CellsAt w m A (ints args) ∧ args.length ≤ 1000000 := by
  obtain ⟨b, off, x, hA, hbm, hbs, hx, hc⟩ := h.bs.row (s := 6) (fun _ => rfl) (by omega) hk
  have ha := h.args x (List.mem_of_getElem? hx)
  obtain ⟨kind, A, args, cap, vn, ve, un, ue⟩ := x
  exact ⟨b, off, kind, A, args, cap, vn, ve, un, ue, hA, hbm, hbs, hx, hc 0 _ rfl, hc 1 _ rfl, hc 2 _ rfl, hc 3 _ rfl, hc 4 _ rfl, hc 5 _ rfl, ha.1, ha.2⟩
theorem kind_of {bs : List Bk} {k : Nat} {x : Bk} (h : bs[k]? = some x) : kindAt bs k = x.kind := by simp [kindAt, h]
theorem args_of {bs : List Bk} {k : Nat} {x : Bk} (h : bs[k]? = some x) : argsAt bs k = x.args := by simp [argsAt, h]
theorem preds_of {bs : List Bk} {k : Nat} {x : Bk} (h : bs[k]? = some x) : preds bs k = if x.kind = 0 then [] else x.args := by simp [preds, kind_of h, args_of h]
theorem succs_of {bs : List Bk} {k : Nat} {x : Bk} {over : Bool} (h : bs[k]? = some x) : succs bs over k = if x.kind = 2 ∧ over = false then [] else if x.kind = 0 then [] else x.args := by simp [succs, kind_of h, preds_of h]
/-- A slice of numbers that is only read. -/
def IntsV (w : World) (m : Nat) (v : Value) (xs : List Int) : Prop := ∃ A c, v = .slice A xs.length c ∧ CellsAt w m A (ints xs)
theorem IntsV.below {w w' : World} {m B : Nat} {v : Value} {xs : List Int} (h : IntsV w m v xs) (hb : Below B w w') (hm : m ≤ B) : IntsV w' m v xs := by
  obtain ⟨A, c, rfl, hc⟩ := h
  exact ⟨A, c, rfl, hc.below hb hm⟩
/-- What a call returns that gives a slice to be read. -/
def RetI (m : Nat) (xs : List Int) (w : World) (e : Ending) (w' : World) : Prop := ∃ A c, e = .returned (.slice A xs.length c) ∧ CellsAt w' m A (ints xs) ∧ Below w.heap.size w w'
def blkV (b : Bk) : Value := if b.kind = 0 then .slice none 0 0 else .slice b.A b.args.length b.cap
set_option maxRecDepth 100000 in
set_option maxHeartbeats 2000000 in
theorem before_any (d : Dg) (i m : Nat) (w : World) (hm : m ≤ w.heap.size) (hd : DgAt w m d) (hi : i < d.bs.length) :
    Calls Tryd.prog 102 #[d.val, .int .i64 (i : Int)] w (RetI m (succs d.bs false i) w) := by
  obtain ⟨b, off, kind, A, args, cap, vn, ve, un, ue, hA, hbm, hbs, hx, g0, g1, g2, g3, g4, g5, ha, hl⟩ := hd.blk hi
  obtain ⟨A1, ps, c1, A2, bs, c2, A3, os, c3⟩ := d
  have h2 := hd.l2
  dsimp only at hA hx hi h2
  subst hA
  have HS := Lib.hid (succs_of (over := false) hx)
  have HA := Lib.hid ha
  have hi' : (i : Int) < (bs.length : Int) := by omega
  clear hd hx ha
  simp only [Dg.val]
  go_enter Tryd.func102, Tryd.ntmps102
  by_cases k0 : kind = 0
  · subst k0
    go_wp2_with fail
    go_ret
    have HK : succs bs false i = [] := HS.out
    exact ⟨none, 0, by rw [HK]; rfl, by rw [HK]; exact CellsAt.nil_, al_ _ _⟩
  · have n0 : (kind == 0) = false := by simpa using k0
    by_cases k2 : kind = 2
    · subst k2
      go_wp2_with fail
      go_ret
      have HK : succs bs false i = [] := HS.out
      exact ⟨none, 0, by rw [HK]; rfl, by rw [HK]; exact CellsAt.nil_, al_ _ _⟩
    · have n2 : (kind == 2) = false := by simpa using k2
      have HK : Hid (succs bs false i = args) := by
        have h := HS.out
        rw [h, if_neg (by simp [k2])]
        exact if_neg k0
      clear HS k0 k2
      go_wp2_with fail
      go_ret
      exact ⟨A, cap, by rw [HK.out]; rfl, by rw [HK.out]; exact HA.out.below (al_ _ _) hm, al_ _ _⟩
set_option maxRecDepth 100000 in
set_option maxHeartbeats 2000000 in
theorem blocks_any (b : Bk) (w : World) :
    Calls Tryd.prog 94 #[b.val] w fun e w' => e = .returned (blkV b) ∧ Below w.heap.size w w' := by
  obtain ⟨kind, A, args, cap, vn, ve, un, ue⟩ := b
  simp only [Bk.val]
  go_enter Tryd.func94, Tryd.ntmps94
  by_cases k0 : kind = 0
  · subst k0
    go_wp2_with fail
    go_ret
    exact ⟨rfl, al_ _ _⟩
  · have n0 : (kind == 0) = false := by simpa using k0
    have HK := Lib.hid k0
    clear k0
    go_wp2_with fail
    go_ret
    exact ⟨by unfold blkV; rw [if_neg HK.out]; rfl, al_ _ _⟩
def hasRel (w : World) (xs : List Int) (n : Int) (i : Value) (wr : World) : Prop := ∃ k : Nat, k ≤ xs.length ∧ i = .int .i64 k ∧ n ∉ xs.take k ∧ wr = w
set_option maxRecDepth 100000 in
set_option maxHeartbeats 2000000 in
theorem has_any (A : Option Addr) (xs : List Int) (c m : Nat) (n : Int) (w : World) (h : CellsAt w m A (ints xs)) (hl : xs.length ≤ 1000000) :
    Calls Tryd.prog 93 #[.slice A xs.length c, .int .i64 n] w fun e w' => e = .returned (.bool (xs.contains n)) ∧ w = w' := by
  have H := Lib.hid h
  clear h
  go_enter Tryd.func93, Tryd.ntmps93
  go_wp2_with fail
  go_loopw [9] (fun i wr => hasRel w xs n i wr) (fun i _ => xs.length - (intOf i).toNat)
  case atStart => exact ⟨0, Nat.zero_le _, rfl, by simp, rfl⟩
  case round =>
    obtain ⟨k, hk, rfl, ht, rfl⟩ := hrel
    have HT := Lib.hid ht
    clear ht
    by_cases hlt : k < xs.length
    · obtain ⟨b, off, x, rfl, hbm, hbs, hx, g⟩ := H.out.int_ hlt
      have HX := Lib.hid hx
      clear hx
      by_cases hxn : x = n
      · have e1 : (x == n) = true := by simpa using hxn
        have HN := Lib.hid hxn
        clear hxn
        go_wp2_with fail
        go_ret
        refine ⟨ret_bool (Eq.symm ?_), rfl⟩
        rw [List.contains_iff_mem]
        rw [← HN.out]
        exact List.mem_of_getElem? HX.out
      · have e1 : (x == n) = false := by simpa using hxn
        have HN := Lib.hid hxn
        clear hxn
        go_wp2_with fail
        refine ⟨⟨k + 1, by omega, by go_num, ?_, rfl⟩, by simp [intOf]; omega⟩
        rw [List.take_add_one, HX.out, List.mem_append]
        rintro (h | h)
        · exact HT.out h
        · simp at h; exact HN.out h.symm
    · go_wp2_with fail
      go_ret
      refine ⟨ret_bool (Eq.symm ?_), rfl⟩
      have h := HT.out
      rw [List.take_of_length_le (by omega)] at h
      rw [← Bool.not_eq_true, List.contains_iff_mem]
      exact h
end Go.Proofs.YtjlocofimlgaoaaDoor
namespace Go.Proofs.YtjlocofimlgaoaaDoor
set_option linter.unusedVariables false
set_option linter.unusedSimpArgs false
set_option linter.unusedSectionVars false
open Go.RowKit

def bools (l : List Bool) : List Value := l.map Value.bool
def natI (l : List Nat) : List Int := l.map fun n : Nat => (n : Int)
/-- The numbers below k for which p says true. -/
def fl (p : Nat → Bool) (k : Nat) : List Nat := (List.range k).filter p
theorem fl_hit {p : Nat → Bool} {k : Nat} (h : p k = true) : fl p (k + 1) = fl p k ++ [k] := by unfold fl; rw [List.range_succ, List.filter_append]; simp [h]
theorem fl_no {p : Nat → Bool} {k : Nat} (h : p k = false) : fl p (k + 1) = fl p k := by unfold fl; rw [List.range_succ, List.filter_append]; simp [h]
theorem fl_le (p : Nat → Bool) (k : Nat) : (fl p k).length ≤ k := by unfold fl; simpa using List.length_filter_le p (List.range k)
/-- What a call returns that gives a list of its own. -/
def RetO (xs : List Int) (w : World) (e : Ending) (w' : World) : Prop := ∃ v, e = .returned v ∧ OwnI w' w.heap.size v xs ∧ Below w.heap.size w w'
def liRel (w : World) (l : List Bool) (v i : Value) (wr : World) : Prop := ∃ k : Nat, k ≤ l.length ∧ i = .int .i64 k ∧ OwnI wr w.heap.size v (natI (fl (isM l) k)) ∧ Below w.heap.size w wr
def isDel (bs : List Bk) (i : Nat) : Bool := kindAt bs i == 2
def deRel (w : World) (vs : List Value) (bs : List Bk) (v i : Value) (wr : World) : Prop := ∃ k : Nat, k ≤ bs.length ∧ i = .int .i64 k ∧ OwnI wr (w.heap.size + 1) v (natI (fl (isDel bs) k)) ∧ Below w.heap.size w wr
set_option maxRecDepth 100000 in
set_option maxHeartbeats 2000000 in
theorem delays_any (d : Dg) (m : Nat) (w : World) (hm : m ≤ w.heap.size) (hd : DgAt w m d) :
    Calls Tryd.prog 30 #[d.val] w (RetO (natI (delL d.bs)) w) := by
  have HD := Lib.hid hd
  have h2 := hd.l2
  obtain ⟨A1, ps, c1, A2, bs, c2, A3, os, c3⟩ := d
  dsimp only at h2
  clear hd
  simp only [Dg.val]
  go_enter Tryd.func30, Tryd.ntmps30
  go_wp2_with fail
  go_loopw [3, 9] (fun v i wr => deRel w [] bs v i wr) (fun _ i _ => bs.length - (intOf i).toNat)
  case atStart => exact ⟨0, Nat.zero_le _, rfl, OwnI.nil_ _ _, al_ _ _⟩
  case round =>
    obtain ⟨k, hk, rfl, hown, hb⟩ := hrel
    have HO := Lib.hid hown
    clear hown
    by_cases hlt : k < bs.length
    · obtain ⟨b, off, kind, A, args, cap, vn, ve, un, ue, hA, hbm, hbs, hx, g0, g1, g2, g3, g4, g5, ha, hl⟩ := (HD.out.below hb hm).blk hlt
      dsimp only at hA hx
      subst hA
      clear ha hl
      have HX := Lib.hid (kind_of hx)
      dsimp only at HX
      clear hx
      have hbz := hb.size
      have hb1 := HO.out.1
      by_cases k2 : kind = 2
      · subst k2
        have HP : isDel bs k = true := by unfold isDel; rw [HX.out]; rfl
        have HP := Lib.hid HP
        go_wp2_with (at_builtin; refine push_int rfl _ _ rfl (w.heap.size + 1) _ (natI (fl (isDel bs) k)) (k : Int) (wr.heap.size + 1) rfl ((HO.out.alloc _).alloc _) rfl (by simp [go_sem]) (by have := fl_le (isDel bs) k; simp [natI]; omega) (by simp; omega) ?_; intro v' w4 hown hg hb4)
        have hst : Below w.heap.size wr w4 := (((Below.refl _ wr).alloc hbz _).alloc (by simp; omega) _).trans (hb4.mono (by omega))
        exact ⟨⟨k + 1, by omega, by go_num, by rw [fl_hit HP.out]; simpa [natI] using hown, hb.trans hst⟩, by simp [intOf]; omega⟩
      · have HP : isDel bs k = false := by unfold isDel; rw [HX.out]; simpa using k2
        have HP := Lib.hid HP
        have n2 : (kind == 2) = false := by simpa using k2
        clear k2
        go_wp2_with fail
        exact ⟨⟨k + 1, by omega, by go_num, by rw [fl_no HP.out]; exact HO.out.alloc _, ext_alloc hb _⟩, by simp [intOf]; omega⟩
    · go_wp2_with fail
      have e : k = bs.length := by omega
      subst e
      obtain ⟨A', c', hv, _⟩ := HO.out.view
      subst hv
      go_ret
      exact ⟨_, rfl, HO.out.base_ (by omega), hb⟩
end Go.Proofs.YtjlocofimlgaoaaDoor
