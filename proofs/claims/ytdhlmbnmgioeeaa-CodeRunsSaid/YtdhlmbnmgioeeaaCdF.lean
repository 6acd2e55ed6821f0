/- The cells that a program writes: the document's list. No conditions. -/
import Derived.Test.YtdhlmbnmgioeeaaCdE
namespace Go.Proofs.Ytdhlmbnmgioeeaa
set_option linter.unusedVariables false
set_option linter.unusedSimpArgs false
set_option linter.unusedSectionVars false
open Go.RowKit

def wrB (xs : List Ins) (i : Int) : Bool := xs.any (fun x => x.dst == i)
def wrTo (xs : List Ins) (k : Nat) : List Int := ((List.range k).filter (fun i : Nat => wrB xs (i : Int))).map (fun i : Nat => (i : Int))
theorem wrTo_len (xs : List Ins) (k : Nat) : (wrTo xs k).length ≤ k := by
  have := List.length_filter_le (fun i : Nat => wrB xs (i : Int)) (List.range k)
  simp only [wrTo, List.length_map, List.length_range] at this ⊢
  exact this
theorem wrTo_succ (xs : List Ins) (k : Nat) : wrTo xs (k + 1) = wrTo xs k ++ if wrB xs k = true then [(k : Int)] else [] := by
  simp only [wrTo, List.range_succ, List.filter_append, List.map_append]
  congr 1
  by_cases h : wrB xs k = true
  · simp [h]
  · simp [h]
theorem wrTo_hit {xs : List Ins} {k : Nat} (h : wrB xs k = true) : wrTo xs k ++ [(k : Int)] = wrTo xs (k + 1) := by rw [wrTo_succ, if_pos h]
theorem wrTo_no {xs : List Ins} {k : Nat} (h : ¬ wrB xs k = true) : wrTo xs k = wrTo xs (k + 1) := by rw [wrTo_succ, if_neg h, List.append_nil]
theorem wrB_hit {xs : List Ins} {j : Nat} {x : Ins} {i : Int} (h : xs[j]? = some x) (hi : x.dst = i) : wrB xs i = true := List.any_eq_true.2 ⟨x, List.mem_of_getElem? h, by simpa using hi⟩
theorem wrB_no {xs : List Ins} {j : Nat} {i : Int} (hj : xs.length ≤ j) (h : ∀ x ∈ xs.take j, x.dst ≠ i) : ¬ wrB xs i = true := fun hb => by
  obtain ⟨x, hx, he⟩ := List.any_eq_true.1 hb
  rw [List.take_of_length_le hj] at h
  exact h x hx (by simpa using he)
theorem no_step {xs : List Ins} {j : Nat} {x : Ins} {i : Int} (h : ∀ x ∈ xs.take j, x.dst ≠ i) (hx : xs[j]? = some x) (hn : x.dst ≠ i) : ∀ x ∈ xs.take (j + 1), x.dst ≠ i := by
  intro y hy
  rw [List.take_add_one, hx] at hy
  rcases List.mem_append.1 hy with hy | hy
  · exact h y hy
  · have e : y = x := by simpa using hy
    rw [e]
    exact hn

def w1Rel (w : World) (vs : List Value) (xs : List Ins) (n : Nat) (v i : Value) (wr : World) : Prop :=
  ∃ k : Nat, k ≤ n ∧ i = .int .i64 k ∧ OwnI wr (w.heap.size + 1) v (wrTo xs k) ∧ BoxAt wr w.heap.size vs ∧ Below w.heap.size w wr
def w2Rel (w : World) (vs : List Value) (xs : List Ins) (k : Nat) (v0 v i : Value) (wr : World) : Prop :=
  ∃ j : Nat, j ≤ xs.length ∧ i = .int .i64 j ∧ v = v0 ∧ (∀ x ∈ xs.take j, x.dst ≠ (k : Int)) ∧ OwnI wr (w.heap.size + 1) v0 (wrTo xs k) ∧ BoxAt wr w.heap.size vs ∧ Below w.heap.size w wr

set_option maxRecDepth 100000 in
set_option maxHeartbeats 2000000 in
theorem rwrites_any (A1 A2 A3 A4 : Option Addr) (ps : List Prt) (is : List Int) (xs : List Ins) (os : List Int) (c1 c2 c3 c4 m : Nat) (w : World) (hm : m ≤ w.heap.size) (h3 : CellsAt w m A3 (flat Ins.cells xs))
    (l2 : is.length ≤ 192) (l3 : xs.length ≤ 256) :
    Calls Try.prog 24 #[.agg #[.slice A1 ps.length c1, .slice A2 is.length c2, .slice A3 xs.length c3, .slice A4 os.length c4]] w fun e w' =>
      ∃ A c, e = .returned (.slice A (wrTo xs is.length).length c) ∧ (A = none → c = 0) ∧ CellsAt w' w'.heap.size A (ints (wrTo xs is.length)) ∧ Below w.heap.size w w' := by
  have H3 := Lib.hid h3
  clear h3
  have l2' : (is.length : Int) ≤ 192 := by omega
  have l3' : (xs.length : Int) ≤ 256 := by omega
  go_enter Try.func24, Try.ntmps24
  go_wp2_with fail
  go_loopw [3, 10] (fun v i wr => w1Rel w [.slice A1 ps.length c1, .slice A2 is.length c2, .slice A3 xs.length c3, .slice A4 os.length c4] xs is.length v i wr) (fun _ i _ => is.length - (intOf i).toNat)
  case atStart => exact ⟨0, Nat.zero_le _, rfl, OwnI.nil_ _ _, BoxAt.new_ _ _ _, ext_alloc (Below.refl _ _) _⟩
  case round =>
    obtain ⟨k, hk, rfl, hown, hbox, hb⟩ := hrel
    have HO := Lib.hid hown
    have HB := Lib.hid hbox
    clear hown hbox
    have z0 : w.heap.size < wr.heap.size := HB.out.1
    have b2 := HB.out.c2
    by_cases hlt : k < is.length
    · go_wp2_with fail
      obtain ⟨w1, hw1⟩ : ∃ w1, w1 = wr := ⟨_, rfl⟩
      rw [← hw1] at HB hb HO
      rw [← hw1]
      clear hw1 z0 b2
      go_loopw [3, 16] (fun v i wr => w2Rel w [.slice A1 ps.length c1, .slice A2 is.length c2, .slice A3 xs.length c3, .slice A4 os.length c4] xs k u3 v i wr) (fun _ i _ => xs.length - (intOf i).toNat)
      case atStart => exact ⟨0, Nat.zero_le _, rfl, rfl, fun x hx => by simp at hx, HO.out, HB.out, hb⟩
      case round =>
        clear HB hb HO
        obtain ⟨j, hj, rfl, rfl, hno, hown, hbox, hb⟩ := hrel
        have HO := Lib.hid hown
        have HB := Lib.hid hbox
        have HN := Lib.hid hno
        clear hown hbox hno
        have z0 : w.heap.size < wr.heap.size := HB.out.1
        have b2 := HB.out.c2
        by_cases hlj : j < xs.length
        · obtain ⟨b, off, x, rfl, hbm, hbs, hx, hc⟩ := H3.out.row (s := 7) (fun _ => rfl) (by omega) hlj
          have hc' := fun t u (hu : (Ins.cells x)[t]? = some u) => (hb.cell (p := ⟨b, off + j * 7 + t, none⟩) (Nat.lt_of_lt_of_le hbm hm)).trans (hc t u hu)
          have g0 : wr.cell? ⟨b, off + j * 7, none⟩ = some (.int .i64 x.op) := hc' 0 _ rfl
          have g1 := hc' 1 _ rfl
          have g2 := hc' 2 _ rfl
          have g3 := hc' 3 _ rfl
          have g4 := hc' 4 _ rfl
          have g5 := hc' 5 _ rfl
          have g6 := hc' 6 _ rfl
          clear hc hc'
          have HX := Lib.hid hx
          clear hx
          by_cases hd : x.dst = (k : Int)
          · have e1 : (x.dst == (k : Int)) = true := by simpa using hd
            have HD := Lib.hid hd
            clear hd
            go_wp2_with (at_builtin; refine push_int rfl _ _ rfl (w.heap.size + 1) _ (wrTo xs k) (k : Int) (wr.heap.size + 1) rfl ((HO.out.alloc _).alloc _) rfl (by simp [go_sem]) (by have := wrTo_len xs k; omega) (by simp; omega) ?_; intro v' w2 hown hg hb2)
            have hst : Below (w.heap.size + 1) wr w2 := (((Below.refl _ wr).alloc (by omega) _).alloc (by simp; omega) _).trans hb2
            exact ⟨⟨k + 1, by omega, by go_num, by rw [← wrTo_hit (wrB_hit HX.out HD.out)]; exact hown, HB.out.below hst (by omega), hb.trans (hst.mono (by omega))⟩, by simp [intOf]; omega⟩
          · have e1 : (x.dst == (k : Int)) = false := by simpa using hd
            have HD := Lib.hid hd
            clear hd
            go_wp2_with fail
            exact ⟨⟨j + 1, by omega, by go_num, rfl, no_step HN.out HX.out HD.out, HO.out.alloc _, HB.out.below (ext_alloc (Below.refl _ _) _) HB.out.1, ext_alloc hb _⟩, by simp [intOf]; omega⟩
        · go_wp2_with fail
          exact ⟨⟨k + 1, by omega, by go_num, by rw [← wrTo_no (wrB_no (by omega) HN.out)]; exact HO.out, HB.out, hb⟩, by simp [intOf]; omega⟩
    · go_wp2_with fail
      obtain ⟨A, c, rfl, hAc, hcell⟩ := HO.out.view
      have e : k = is.length := by omega
      subst e
      go_ret
      exact ⟨A, c, rfl, hAc, hcell, hb⟩
end Go.Proofs.Ytdhlmbnmgioeeaa
