/- Marks as a list, as the program and as the document make it; the delays. Condition: at most a million. -/
import Derived.Test.YtaheedieingpiaaDoorDgF
namespace Go.Proofs.YtaheedieingpiaaDoor
set_option linter.unusedVariables false
set_option linter.unusedSimpArgs false
set_option linter.unusedSectionVars false
open Go.RowKit

def bools (l : List Bool) : List Value := l.map Value.bool
theorem CellsAt.bool_ {w : World} {m : Nat} {A : Option Addr} {zs : List Bool} (h : CellsAt w m A (bools zs)) {k : Nat} (hk : k < zs.length) :
    ∃ b off z, A = some ⟨b, off, none⟩ ∧ b < m ∧ b < w.heap.size ∧ zs[k]? = some z ∧ w.cell? ⟨b, off + k, none⟩ = some (.bool z) := by
  obtain ⟨b, off, hA, hbm, hbs, hc⟩ := h (by cases zs <;> simp [bools] at hk ⊢)
  exact ⟨b, off, zs[k], hA, hbm, hbs, List.getElem?_eq_getElem hk, hc k _ (by simp [bools, hk])⟩
def natI (l : List Nat) : List Int := l.map fun n : Nat => (n : Int)
/-- The numbers below k for which p says true. -/
def fl (p : Nat → Bool) (k : Nat) : List Nat := (List.range k).filter p
theorem fl_hit {p : Nat → Bool} {k : Nat} (h : p k = true) : fl p (k + 1) = fl p k ++ [k] := by unfold fl; rw [List.range_succ, List.filter_append]; simp [h]
theorem fl_no {p : Nat → Bool} {k : Nat} (h : p k = false) : fl p (k + 1) = fl p k := by unfold fl; rw [List.range_succ, List.filter_append]; simp [h]
theorem fl_le (p : Nat → Bool) (k : Nat) : (fl p k).length ≤ k := by unfold fl; simpa using List.length_filter_le p (List.range k)
theorem isM_get {l : List Bool} {k : Nat} {b : Bool} (h : l[k]? = some b) : isM l k = b := by simp [isM, h]
/-- What a call returns that gives a list of its own. -/
def RetO (xs : List Int) (w : World) (e : Ending) (w' : World) : Prop := ∃ v, e = .returned v ∧ OwnI w' w.heap.size v xs ∧ Below w.heap.size w w'
def liRel (w : World) (l : List Bool) (v i : Value) (wr : World) : Prop := ∃ k : Nat, k ≤ l.length ∧ i = .int .i64 k ∧ OwnI wr w.heap.size v (natI (fl (isM l) k)) ∧ Below w.heap.size w wr
set_option maxRecDepth 100000 in
set_option maxHeartbeats 2000000 in
theorem list_any (A : Option Addr) (l : List Bool) (c m : Nat) (w : World) (hm : m ≤ w.heap.size) (h : CellsAt w m A (bools l)) (hl : l.length ≤ 1000000) :
    Calls Tryd.prog 34 #[.slice A l.length c] w (RetO (natI (markL l)) w) := by
  have H := Lib.hid h
  clear h
  go_enter Tryd.func34, Tryd.ntmps34
  go_wp2_with fail
  go_loopw [3, 8] (fun v i wr => liRel w l v i wr) (fun _ i _ => l.length - (intOf i).toNat)
  case atStart => exact ⟨0, Nat.zero_le _, rfl, OwnI.nil_ _ _, Below.refl _ _⟩
  case round =>
    obtain ⟨k, hk, rfl, hown, hb⟩ := hrel
    have HO := Lib.hid hown
    clear hown
    by_cases hlt : k < l.length
    · obtain ⟨b, off, x, rfl, hbm, hbs, hx, hc⟩ := H.out.bool_ hlt
      have hc' := (hb.cell (p := ⟨b, off + k, none⟩) (Nat.lt_of_lt_of_le hbm hm)).trans hc
      clear hc
      cases x with
      | true =>
        have HX := Lib.hid hx
        clear hx
        have hbz := hb.size
        go_wp2_with (at_builtin; refine push_int rfl _ _ rfl w.heap.size _ (natI (fl (isM l) k)) (k : Int) wr.heap.size rfl (HO.out.alloc _) rfl (by simp [go_sem]) (by have := fl_le (isM l) k; simp [natI]; omega) (by simp; omega) ?_; intro v' w4 hown hg hb4)
        have hst : Below w.heap.size wr w4 := ((Below.refl _ wr).alloc hbz _).trans hb4
        exact ⟨⟨k + 1, by omega, by go_num, by rw [fl_hit (isM_get HX.out)]; simpa [natI] using hown, hb.trans hst⟩, by simp [intOf]; omega⟩
      | false =>
        have HX := Lib.hid hx
        clear hx
        go_wp2_with fail
        exact ⟨⟨k + 1, by omega, by go_num, by rw [fl_no (isM_get HX.out)]; exact HO.out, hb⟩, by simp [intOf]; omega⟩
    · go_wp2_with fail
      have e : k = l.length := by omega
      subst e
      obtain ⟨A', c', hv, _⟩ := HO.out.view
      subst hv
      go_ret
      exact ⟨_, rfl, HO.out, hb⟩
set_option maxRecDepth 100000 in
set_option maxHeartbeats 2000000 in
theorem rList_any (A : Option Addr) (l : List Bool) (c m : Nat) (w : World) (hm : m ≤ w.heap.size) (h : CellsAt w m A (bools l)) (hl : l.length ≤ 1000000) :
    Calls Tryd.prog 35 #[.slice A l.length c] w (RetO (natI (markL l)) w) := by
  have H := Lib.hid h
  clear h
  go_enter Tryd.func35, Tryd.ntmps35
  go_wp2_with fail
  go_loopw [3, 8] (fun v i wr => liRel w l v i wr) (fun _ i _ => l.length - (intOf i).toNat)
  case atStart => exact ⟨0, Nat.zero_le _, rfl, OwnI.nil_ _ _, Below.refl _ _⟩
  case round =>
    obtain ⟨k, hk, rfl, hown, hb⟩ := hrel
    have HO := Lib.hid hown
    clear hown
    by_cases hlt : k < l.length
    · obtain ⟨b, off, x, rfl, hbm, hbs, hx, hc⟩ := H.out.bool_ hlt
      have hc' := (hb.cell (p := ⟨b, off + k, none⟩) (Nat.lt_of_lt_of_le hbm hm)).trans hc
      clear hc
      cases x with
      | true =>
        have HX := Lib.hid hx
        clear hx
        have hbz := hb.size
        go_wp2_with (at_builtin; refine push_int rfl _ _ rfl w.heap.size _ (natI (fl (isM l) k)) (k : Int) wr.heap.size rfl (HO.out.alloc _) rfl (by simp [go_sem]) (by have := fl_le (isM l) k; simp [natI]; omega) (by simp; omega) ?_; intro v' w4 hown hg hb4)
        have hst : Below w.heap.size wr w4 := ((Below.refl _ wr).alloc hbz _).trans hb4
        exact ⟨⟨k + 1, by omega, by go_num, by rw [fl_hit (isM_get HX.out)]; simpa [natI] using hown, hb.trans hst⟩, by simp [intOf]; omega⟩
      | false =>
        have HX := Lib.hid hx
        clear hx
        go_wp2_with fail
        exact ⟨⟨k + 1, by omega, by go_num, by rw [fl_no (isM_get HX.out)]; exact HO.out, hb⟩, by simp [intOf]; omega⟩
    · go_wp2_with fail
      have e : k = l.length := by omega
      subst e
      obtain ⟨A', c', hv, _⟩ := HO.out.view
      subst hv
      go_ret
      exact ⟨_, rfl, HO.out, hb⟩
def isDel (bs : List Bk) (i : Nat) : Bool := kindAt bs i == 2
def deRel (w : World) (vs : List Value) (bs : List Bk) (v i : Value) (wr : World) : Prop := ∃ k : Nat, k ≤ bs.length ∧ i = .int .i64 k ∧ OwnI wr (w.heap.size + 1) v (natI (fl (isDel bs) k)) ∧ Below w.heap.size w wr
set_option maxRecDepth 100000 in
set_option maxHeartbeats 2000000 in
theorem delays_any (d : Dg) (m : Nat) (w : World) (hm : m ≤ w.heap.size) (hd : DgAt w m d) :
    Calls Tryd.prog 27 #[d.val] w (RetO (natI (delL d.bs)) w) := by
  have HD := Lib.hid hd
  have h2 := hd.l2
  obtain ⟨A1, ps, c1, A2, bs, c2, A3, os, c3⟩ := d
  dsimp only at h2
  clear hd
  simp only [Dg.val]
  go_enter Tryd.func27, Tryd.ntmps27
  go_wp2_with fail
  go_loopw [3, 9] (fun v i wr => deRel w [] bs v i wr) (fun _ i _ => bs.length - (intOf i).toNat)
  case atStart => exact ⟨0, Nat.zero_le _, rfl, OwnI.nil_ _ _, al_ _ _⟩
  case round =>
    obtain ⟨k, hk, rfl, hown, hb⟩ := hrel
    have HO := Lib.hid hown
    clear hown
    by_cases hlt : k < bs.length
    · obtain ⟨b, off, kind, A, args, cap, vn, ve, un, ue, hA, hbm, hbs, hx, g0, g1, g2, g3, g4, g5, ha, hl⟩ := (HD.out.below hb hm).blk hlt
      dsimp only at hA hx
      subst hA
      clear ha hl
      have HX := Lib.hid (kind_of hx)
      dsimp only at HX
      clear hx
      have hbz := hb.size
      have hb1 := HO.out.1
      by_cases k2 : kind = 2
      · subst k2
        have HP : isDel bs k = true := by unfold isDel; rw [HX.out]; rfl
        have HP := Lib.hid HP
        go_wp2_with (at_builtin; refine push_int rfl _ _ rfl (w.heap.size + 1) _ (natI (fl (isDel bs) k)) (k : Int) (wr.heap.size + 1) rfl ((HO.out.alloc _).alloc _) rfl (by simp [go_sem]) (by have := fl_le (isDel bs) k; simp [natI]; omega) (by simp; omega) ?_; intro v' w4 hown hg hb4)
        have hst : Below w.heap.size wr w4 := (((Below.refl _ wr).alloc hbz _).alloc (by simp; omega) _).trans (hb4.mono (by omega))
        exact ⟨⟨k + 1, by omega, by go_num, by rw [fl_hit HP.out]; simpa [natI] using hown, hb.trans hst⟩, by simp [intOf]; omega⟩
      · have HP : isDel bs k = false := by unfold isDel; rw [HX.out]; simpa using k2
        have HP := Lib.hid HP
        have n2 : (kind == 2) = false := by simpa using k2
        clear k2
        go_wp2_with fail
        exact ⟨⟨k + 1, by omega, by go_num, by rw [fl_no HP.out]; exact HO.out.alloc _, ext_alloc hb _⟩, by simp [intOf]; omega⟩
    · go_wp2_with fail
      have e : k = bs.length := by omega
      subst e
      obtain ⟨A', c', hv, _⟩ := HO.out.view
      subst hv
      go_ret
      exact ⟨_, rfl, HO.out.base_ (by omega), hb⟩
end Go.Proofs.YtaheedieingpiaaDoor
