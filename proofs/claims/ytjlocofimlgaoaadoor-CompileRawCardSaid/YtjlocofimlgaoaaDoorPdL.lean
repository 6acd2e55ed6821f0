/- The program's numbers: add. No conditions. -/
import Derived.Test.YtjlocofimlgaoaaDoorPdF
namespace Go.Proofs.YtjlocofimlgaoaaDoor
set_option linter.unusedVariables false
set_option linter.unusedSimpArgs false
set_option linter.unusedSectionVars false
open Go.RowKit

set_option maxHeartbeats 2000000 in
theorem add32_any (x y c : Nat) (w : World) (hx : x < 4294967296) (hy : y < 4294967296) (hc : c ≤ 1) :
    Calls Tryd.prog 116 #[.int .u32 (x : Int), .int .u32 (y : Int), .int .u32 (c : Int)] w fun e w' => e = .returned (.tuple #[.int .u32 (((x + y + c) % 4294967296 : Nat) : Int), .int .u32 (((x + y + c) / 4294967296 : Nat) : Int)]) ∧ w = w' := by
  have h1 : (x : Int) % 18446744073709551616 = (x : Int) := by omega
  have h2 : (y : Int) % 18446744073709551616 = (y : Int) := by omega
  have h3 : (c : Int) % 18446744073709551616 = (c : Int) := by omega
  obtain ⟨s, hs⟩ : ∃ s : Nat, (x : Int) + (y : Int) + (c : Int) = (s : Int) := ⟨x + y + c, by omega⟩
  have hs2 : x + y + c = s := by omega
  have hsb : s < 8589934592 := by omega
  rw [hs2]
  go_enter Tryd.func116, Tryd.ntmps116
  go_wp2_with fail
  refine bodyPost_ret (v := .tuple #[.int .u32 ((s % 4294967296 : Nat) : Int), .int .u32 ((s / 4294967296 : Nat) : Int)]) ?_ rfl ⟨rfl, rfl⟩
  simp [results, Tryd.results116, go_sem]
def paRel (w : World) (a b : List Nat) (g L : Nat) (cv i : Value) (wr : World) : Prop :=
  ∃ (k : Nat) (os : List Nat) (cy : Nat), k ≤ L ∧ i = .int .i64 (k : Int) ∧ cv = .int .u32 (cy : Int) ∧ OwnW wr w.heap.size (.slice (some ⟨g, 0, none⟩) L L) (os ++ List.replicate (L - k) 0) ∧ os.length = k ∧ wordsOk os ∧ cy ≤ 1 ∧
    wval os + 4294967296 ^ k * cy = wval (a.take k) + wval (b.take k) ∧ Below w.heap.size w wr
theorem pa_end {a b os : List Nat} {L cy : Nat} (ha : wordsOk a) (hb : wordsOk b) (hL : L = max a.length b.length + 1) (hol : os.length = L) (hv : wval os + 4294967296 ^ L * cy = wval (a.take L) + wval (b.take L)) : wval os = wval a + wval b := by
  rw [List.take_of_length_le (by omega), List.take_of_length_le (by omega)] at hv
  have h1 := wval_lt ha
  have h2 := wval_lt hb
  have p1 : 4294967296 ^ a.length ≤ 4294967296 ^ (max a.length b.length) := Nat.pow_le_pow_right (by decide) (by omega)
  have p2 : 4294967296 ^ b.length ≤ 4294967296 ^ (max a.length b.length) := Nat.pow_le_pow_right (by decide) (by omega)
  have p3 : 4294967296 ^ L = 4294967296 * 4294967296 ^ (max a.length b.length) := by rw [hL, Nat.pow_succ, Nat.mul_comm]
  rcases Nat.eq_zero_or_pos cy with h | h
  · rw [h] at hv; omega
  · have : 4294967296 ^ L * 1 ≤ 4294967296 ^ L * cy := Nat.mul_le_mul_left _ h
    omega
set_option maxRecDepth 100000 in
set_option maxHeartbeats 8000000 in
theorem padd_any (A B : Option Addr) (a b : List Nat) (c1 c2 m : Nat) (w : World) (hm : m ≤ w.heap.size) (h1 : CellsAt w m A (w32 a)) (h2 : CellsAt w m B (w32 b)) (ha : wordsOk a) (hb : wordsOk b) (l1 : a.length ≤ 90000) (l2 : b.length ≤ 90000) :
    Calls Tryd.prog 81 #[.slice A a.length c1, .slice B b.length c2] w fun e w' =>
      ∃ G g, e = .returned (.slice G (canon (wval a + wval b)).length g) ∧ (G = none → g = 0) ∧ (canon (wval a + wval b)).length ≤ g ∧ CellsAt w' w'.heap.size G (w32 (canon (wval a + wval b))) ∧ Below w.heap.size w w' := by
  have H1 := Lib.hid h1
  have H2 := Lib.hid h2
  have HA := Lib.hid ha
  have HB := Lib.hid hb
  obtain ⟨L, hL⟩ : ∃ L, L = max a.length b.length + 1 := ⟨_, rfl⟩
  have hLi : max (a.length : Int) (b.length : Int) + 1 = (L : Int) := by omega
  have hL6 : L ≤ 100000 := by omega
  have HL := Lib.hid hL
  obtain ⟨i0, hi, hz0, hz1, hz2⟩ := info_parts info_w4
  clear h1 h2 ha hb hL
  go_enter Tryd.func81, Tryd.ntmps81
  go_wp2_with (with_reducible refine wpList_make_full _ rfl (.tmp 13) (.tmp 13) 119 rfl w.heap.size 130 i0 (.int .u32 0) 1 under_nat hi hz0 hz1 .i64 .i64 _ _ L rfl rfl rfl rfl (by rw [hz2]; omega) (by unfold maxLen; omega) (Nat.le_refl _) ?_; intro w2 hown hg)
  have hst := (Below.refl w.heap.size w).grown hg (Nat.le_refl _) (fun k h => by simp at h)
  have hown2 := made_w hown
  obtain ⟨g, hg1⟩ : ∃ g, g = w.heap.size := ⟨_, rfl⟩
  have hgw := Lib.hid hg1
  rw [← hg1]
  rw [show OwnW w2 w.heap.size (.slice (some ⟨w.heap.size, 0, none⟩) L L) (List.replicate L 0) = OwnW w2 w.heap.size (.slice (some ⟨g, 0, none⟩) L L) (List.replicate L 0) by rw [hg1]] at hown2
  clear hown hg hi hz0 hz1 hz2 hg1
  go_loopw [6, 17] (fun cv i wr => paRel w a b g L cv i wr) (fun _ i _ => L - (intOf i).toNat)
  case atStart => exact ⟨0, [], 0, Nat.zero_le _, rfl, rfl, by simpa using hown2, rfl, by simp [wordsOk], by omega, by simp [wval], hst⟩
  case round =>
    obtain ⟨k, os, cy, hk, rfl, rfl, hown, hol, hok, hcy, hv, hb⟩ := hrel
    have HO := Lib.hid hown
    have HOL := Lib.hid hol
    have HOK := Lib.hid hok
    have HV := Lib.hid hv
    have hsz := hb.size
    have hlen := Lib.hid (show L = (os ++ List.replicate (L - k) 0).length by simp; omega)
    clear hown hol hok hv hown2 hst
    by_cases hlt : k < L
    · obtain ⟨x, hx⟩ : ∃ x, x = a[k]?.getD 0 := ⟨_, rfl⟩
      obtain ⟨y, hy⟩ : ∃ y, y = b[k]?.getD 0 := ⟨_, rfl⟩
      have bx : x < 4294967296 := by
        rw [hx]
        by_cases h : k < a.length
        · rw [List.getElem?_eq_getElem h]; exact HA.out _ (List.getElem_mem h)
        · rw [List.getElem?_eq_none (by omega)]; decide
      have by' : y < 4294967296 := by
        rw [hy]
        by_cases h : k < b.length
        · rw [List.getElem?_eq_getElem h]; exact HB.out _ (List.getElem_mem h)
        · rw [List.getElem?_eq_none (by omega)]; decide
      have hat1 := at_any A a c1 k m wr (H1.out.below hb hm) (by omega) (by omega)
      have hat2 := at_any B b c2 k m wr (H2.out.below hb hm) (by omega) (by omega)
      rw [← hx] at hat1
      rw [← hy] at hat2
      have hadd := add32_any x y cy wr bx by' hcy
      obtain ⟨z, hz⟩ : ∃ z, z = (x + y + cy) % 4294967296 := ⟨_, rfl⟩
      obtain ⟨c', hc'⟩ : ∃ c', c' = (x + y + cy) / 4294967296 := ⟨_, rfl⟩
      rw [← hz, ← hc'] at hadd
      have HZ := Lib.hid (show z + 4294967296 * c' = cy + x + y by omega)
      have HZB := Lib.hid (show z < 4294967296 by omega)
      have HCB := Lib.hid (show c' ≤ 1 by omega)
      have HAT1 := Lib.hid hat1
      have HAT2 := Lib.hid hat2
      have HADD := Lib.hid hadd
      have HX := Lib.hid hx.symm
      have HY := Lib.hid hy.symm
      have hkl' : (k : Int) < (L : Int) := by omega
      have f1 : wr.cell? ⟨g, k, none⟩ = some (.int .u32 0) := by
        have := HO.out.cellA (j := k) (z := 0) (by rw [List.getElem?_append_right (by rw [HOL.out]; omega), HOL.out, Nat.sub_self]; rw [List.getElem?_replicate]; simp; omega)
        simpa using this
      have f2 : ∀ j, wr.frozen? ⟨g, j, none⟩ = false := fun j => HO.out.freeA hlen.out j
      clear hx hy hz hc' hat1 hat2 hadd
      go_wp2_with fail
      go_at_call 115
      refine HAT1.out.mono ?_
      rintro e wq ⟨rfl, rfl⟩
      go_wp2_with fail
      go_at_call 115
      refine HAT2.out.mono ?_
      rintro e wq ⟨rfl, rfl⟩
      go_wp2_with fail
      go_at_call 116
      refine HADD.out.mono ?_
      rintro e wq ⟨rfl, rfl⟩
      go_wp2_with fail
      refine ⟨⟨k + 1, os ++ [z], c', by omega, by go_num, rfl, ?_, by rw [List.length_append, HOL.out]; rfl, words_push HOK.out HZB.out, HCB.out, pl_step HOL.out HX.out HY.out HV.out HZ.out, hb.setCell (by have := hgw.out; simp; omega) _⟩, by simp [intOf]; omega⟩
      have h5 := HO.out.put hlen.out k z
      rw [set_rep HOL.out hlt] at h5
      exact h5
    · have hkL : k = L := by omega
      have hle : ¬ (k : Int) < (L : Int) := by omega
      have hO := HO.out
      rw [hkL, Nat.sub_self, List.replicate_zero, List.append_nil] at hO
      have hol := HOL.out.trans hkL
      have hL6' : os.length ≤ 1000000 := by omega
      have HWV := Lib.hid (pa_end HA.out HB.out HL.out hol (by have := HV.out; rw [hkL] at this; exact this))
      have HGC := Lib.hid hO.cap_.2.2.2
      have hcall := ptrim_any (some ⟨g, 0, none⟩) os os.length wr.heap.size wr HGC.out (Nat.le_refl _) hL6'
      rw [hol] at hcall
      have HCALL := Lib.hid hcall
      clear hkL hol hO hcall
      go_wp2_with (go_at_call 113; refine HCALL.out.mono ?_; rintro e w3 ⟨rfl, rfl⟩)
      go_ret
      have hcan := trim_canon HOK.out
      rw [HWV.out] at hcan
      refine ⟨some ⟨g, 0, none⟩, L, by rw [hcan]; rfl, by simp, ?_, ?_, hb⟩
      · rw [← hcan, trimL_len]
        have := trimN_le os os.length
        have := HOL.out
        omega
      · rw [← hcan]
        exact HGC.out.takeW _
end Go.Proofs.YtjlocofimlgaoaaDoor
