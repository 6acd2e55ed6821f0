/- The program's numbers: add. No conditions. The program's numbers: a number of at most two words as a machine's number. No conditions. The program's numbers: Int. No conditions. The program's numbers: Floor. Condition: the table of math/bits stands in block 0. -/
import Derived.Test.YtjlocofimlgaoaaDoorPdF
import Derived.Test.YtjlocofimlgaoaaDoorPdI
namespace Go.Proofs.YtjlocofimlgaoaaDoor
set_option linter.unusedVariables false
set_option linter.unusedSimpArgs false
set_option linter.unusedSectionVars false
open Go.RowKit

set_option maxHeartbeats 2000000 in
theorem add32_any (x y c : Nat) (w : World) (hx : x < 4294967296) (hy : y < 4294967296) (hc : c ≤ 1) :
    Calls Tryd.prog 116 #[.int .u32 (x : Int), .int .u32 (y : Int), .int .u32 (c : Int)] w fun e w' => e = .returned (.tuple #[.int .u32 (((x + y + c) % 4294967296 : Nat) : Int), .int .u32 (((x + y + c) / 4294967296 : Nat) : Int)]) ∧ w = w' := by
  have h1 : (x : Int) % 18446744073709551616 = (x : Int) := by omega
  have h2 : (y : Int) % 18446744073709551616 = (y : Int) := by omega
  have h3 : (c : Int) % 18446744073709551616 = (c : Int) := by omega
  obtain ⟨s, hs⟩ : ∃ s : Nat, (x : Int) + (y : Int) + (c : Int) = (s : Int) := ⟨x + y + c, by omega⟩
  have hs2 : x + y + c = s := by omega
  have hsb : s < 8589934592 := by omega
  rw [hs2]
  go_enter Tryd.func116, Tryd.ntmps116
  go_wp2_with fail
  refine bodyPost_ret (v := .tuple #[.int .u32 ((s % 4294967296 : Nat) : Int), .int .u32 ((s / 4294967296 : Nat) : Int)]) ?_ rfl ⟨rfl, rfl⟩
  simp [results, Tryd.results116, go_sem]
def paRel (w : World) (a b : List Nat) (g L : Nat) (cv i : Value) (wr : World) : Prop :=
  ∃ (k : Nat) (os : List Nat) (cy : Nat), k ≤ L ∧ i = .int .i64 (k : Int) ∧ cv = .int .u32 (cy : Int) ∧ OwnW wr w.heap.size (.slice (some ⟨g, 0, none⟩) L L) (os ++ List.replicate (L - k) 0) ∧ os.length = k ∧ wordsOk os ∧ cy ≤ 1 ∧
    wval os + 4294967296 ^ k * cy = wval (a.take k) + wval (b.take k) ∧ Below w.heap.size w wr
theorem pa_end {a b os : List Nat} {L cy : Nat} (ha : wordsOk a) (hb : wordsOk b) (hL : L = max a.length b.length + 1) (hol : os.length = L) (hv : wval os + 4294967296 ^ L * cy = wval (a.take L) + wval (b.take L)) : wval os = wval a + wval b := by
  rw [List.take_of_length_le (by omega), List.take_of_length_le (by omega)] at hv
  have h1 := wval_lt ha
  have h2 := wval_lt hb
  have p1 : 4294967296 ^ a.length ≤ 4294967296 ^ (max a.length b.length) := Nat.pow_le_pow_right (by decide) (by omega)
  have p2 : 4294967296 ^ b.length ≤ 4294967296 ^ (max a.length b.length) := Nat.pow_le_pow_right (by decide) (by omega)
  have p3 : 4294967296 ^ L = 4294967296 * 4294967296 ^ (max a.length b.length) := by rw [hL, Nat.pow_succ, Nat.mul_comm]
  rcases Nat.eq_zero_or_pos cy with h | h
  · rw [h] at hv; omega
  · have : 4294967296 ^ L * 1 ≤ 4294967296 ^ L * cy := Nat.mul_le_mul_left _ h
    omega
set_option maxRecDepth 100000 in
set_option maxHeartbeats 8000000 in
theorem padd_any (A B : Option Addr) (a b : List Nat) (c1 c2 m : Nat) (w : World) (hm : m ≤ w.heap.size) (h1 : CellsAt w m A (w32 a)) (h2 : CellsAt w m B (w32 b)) (ha : wordsOk a) (hb : wordsOk b) (l1 : a.length ≤ 90000) (l2 : b.length ≤ 90000) :
    Calls Tryd.prog 81 #[.slice A a.length c1, .slice B b.length c2] w fun e w' =>
      ∃ G g, e = .returned (.slice G (canon (wval a + wval b)).length g) ∧ (G = none → g = 0) ∧ (canon (wval a + wval b)).length ≤ g ∧ CellsAt w' w'.heap.size G (w32 (canon (wval a + wval b))) ∧ Below w.heap.size w w' := by
  have H1 := Lib.hid h1
  have H2 := Lib.hid h2
  have HA := Lib.hid ha
  have HB := Lib.hid hb
  obtain ⟨L, hL⟩ : ∃ L, L = max a.length b.length + 1 := ⟨_, rfl⟩
  have hLi : max (a.length : Int) (b.length : Int) + 1 = (L : Int) := by omega
  have hL6 : L ≤ 100000 := by omega
  have HL := Lib.hid hL
  obtain ⟨i0, hi, hz0, hz1, hz2⟩ := info_parts info_w4
  clear h1 h2 ha hb hL
  go_enter Tryd.func81, Tryd.ntmps81
  go_wp2_with (with_reducible refine wpList_make_full _ rfl (.tmp 13) (.tmp 13) 119 rfl w.heap.size 130 i0 (.int .u32 0) 1 under_nat hi hz0 hz1 .i64 .i64 _ _ L rfl rfl rfl rfl (by rw [hz2]; omega) (by unfold maxLen; omega) (Nat.le_refl _) ?_; intro w2 hown hg)
  have hst := (Below.refl w.heap.size w).grown hg (Nat.le_refl _) (fun k h => by simp at h)
  have hown2 := made_w hown
  obtain ⟨g, hg1⟩ : ∃ g, g = w.heap.size := ⟨_, rfl⟩
  have hgw := Lib.hid hg1
  rw [← hg1]
  rw [show OwnW w2 w.heap.size (.slice (some ⟨w.heap.size, 0, none⟩) L L) (List.replicate L 0) = OwnW w2 w.heap.size (.slice (some ⟨g, 0, none⟩) L L) (List.replicate L 0) by rw [hg1]] at hown2
  clear hown hg hi hz0 hz1 hz2 hg1
  go_loopw [6, 17] (fun cv i wr => paRel w a b g L cv i wr) (fun _ i _ => L - (intOf i).toNat)
  case atStart => exact ⟨0, [], 0, Nat.zero_le _, rfl, rfl, by simpa using hown2, rfl, by simp [wordsOk], by omega, by simp [wval], hst⟩
  case round =>
    obtain ⟨k, os, cy, hk, rfl, rfl, hown, hol, hok, hcy, hv, hb⟩ := hrel
    have HO := Lib.hid hown
    have HOL := Lib.hid hol
    have HOK := Lib.hid hok
    have HV := Lib.hid hv
    have hsz := hb.size
    have hlen := Lib.hid (show L = (os ++ List.replicate (L - k) 0).length by simp; omega)
    clear hown hol hok hv hown2 hst
    by_cases hlt : k < L
    · obtain ⟨x, hx⟩ : ∃ x, x = a[k]?.getD 0 := ⟨_, rfl⟩
      obtain ⟨y, hy⟩ : ∃ y, y = b[k]?.getD 0 := ⟨_, rfl⟩
      have bx : x < 4294967296 := by
        rw [hx]
        by_cases h : k < a.length
        · rw [List.getElem?_eq_getElem h]; exact HA.out _ (List.getElem_mem h)
        · rw [List.getElem?_eq_none (by omega)]; decide
      have by' : y < 4294967296 := by
        rw [hy]
        by_cases h : k < b.length
        · rw [List.getElem?_eq_getElem h]; exact HB.out _ (List.getElem_mem h)
        · rw [List.getElem?_eq_none (by omega)]; decide
      have hat1 := at_any A a c1 k m wr (H1.out.below hb hm) (by omega) (by omega)
      have hat2 := at_any B b c2 k m wr (H2.out.below hb hm) (by omega) (by omega)
      rw [← hx] at hat1
      rw [← hy] at hat2
      have hadd := add32_any x y cy wr bx by' hcy
      obtain ⟨z, hz⟩ : ∃ z, z = (x + y + cy) % 4294967296 := ⟨_, rfl⟩
      obtain ⟨c', hc'⟩ : ∃ c', c' = (x + y + cy) / 4294967296 := ⟨_, rfl⟩
      rw [← hz, ← hc'] at hadd
      have HZ := Lib.hid (show z + 4294967296 * c' = cy + x + y by omega)
      have HZB := Lib.hid (show z < 4294967296 by omega)
      have HCB := Lib.hid (show c' ≤ 1 by omega)
      have HAT1 := Lib.hid hat1
      have HAT2 := Lib.hid hat2
      have HADD := Lib.hid hadd
      have HX := Lib.hid hx.symm
      have HY := Lib.hid hy.symm
      have hkl' : (k : Int) < (L : Int) := by omega
      have f1 : wr.cell? ⟨g, k, none⟩ = some (.int .u32 0) := by
        have := HO.out.cellA (j := k) (z := 0) (by rw [List.getElem?_append_right (by rw [HOL.out]; omega), HOL.out, Nat.sub_self]; rw [List.getElem?_replicate]; simp; omega)
        simpa using this
      have f2 : ∀ j, wr.frozen? ⟨g, j, none⟩ = false := fun j => HO.out.freeA hlen.out j
      clear hx hy hz hc' hat1 hat2 hadd
      go_wp2_with fail
      go_at_call 115
      refine HAT1.out.mono ?_
      rintro e wq ⟨rfl, rfl⟩
      go_wp2_with fail
      go_at_call 115
      refine HAT2.out.mono ?_
      rintro e wq ⟨rfl, rfl⟩
      go_wp2_with fail
      go_at_call 116
      refine HADD.out.mono ?_
      rintro e wq ⟨rfl, rfl⟩
      go_wp2_with fail
      refine ⟨⟨k + 1, os ++ [z], c', by omega, by go_num, rfl, ?_, by rw [List.length_append, HOL.out]; rfl, words_push HOK.out HZB.out, HCB.out, pl_step HOL.out HX.out HY.out HV.out HZ.out, hb.setCell (by have := hgw.out; simp; omega) _⟩, by simp [intOf]; omega⟩
      have h5 := HO.out.put hlen.out k z
      rw [set_rep HOL.out hlt] at h5
      exact h5
    · have hkL : k = L := by omega
      have hle : ¬ (k : Int) < (L : Int) := by omega
      have hO := HO.out
      rw [hkL, Nat.sub_self, List.replicate_zero, List.append_nil] at hO
      have hol := HOL.out.trans hkL
      have hL6' : os.length ≤ 1000000 := by omega
      have HWV := Lib.hid (pa_end HA.out HB.out HL.out hol (by have := HV.out; rw [hkL] at this; exact this))
      have HGC := Lib.hid hO.cap_.2.2.2
      have hcall := ptrim_any (some ⟨g, 0, none⟩) os os.length wr.heap.size wr HGC.out (Nat.le_refl _) hL6'
      rw [hol] at hcall
      have HCALL := Lib.hid hcall
      clear hkL hol hO hcall
      go_wp2_with (go_at_call 113; refine HCALL.out.mono ?_; rintro e w3 ⟨rfl, rfl⟩)
      go_ret
      have hcan := trim_canon HOK.out
      rw [HWV.out] at hcan
      refine ⟨some ⟨g, 0, none⟩, L, by rw [hcan]; rfl, by simp, ?_, ?_, hb⟩
      · rw [← hcan, trimL_len]
        have := trimN_le os os.length
        have := HOL.out
        omega
      · rw [← hcan]
        exact HGC.out.takeW _
end Go.Proofs.YtjlocofimlgaoaaDoor
namespace Go.Proofs.YtjlocofimlgaoaaDoor
set_option linter.unusedVariables false
set_option linter.unusedSimpArgs false
set_option linter.unusedSectionVars false
open Go.RowKit

def puRel (w : World) (a : List Nat) (u i : Value) (wr : World) : Prop := ∃ k : Nat, k ≤ a.length ∧ i = .int .i64 ((k : Int) - 1) ∧ u = .int .u64 (wval (a.drop k) : Int) ∧ w = wr
set_option maxRecDepth 100000 in
set_option maxHeartbeats 4000000 in
theorem puint_any (A : Option Addr) (a : List Nat) (c m : Nat) (w : World) (h : CellsAt w m A (w32 a)) (ha : wordsOk a) (hl : a.length ≤ 2) :
    Calls Tryd.prog 83 #[.slice A a.length c] w fun e w' => e = .returned (.int .u64 (wval a : Int)) ∧ w = w' := by
  have H := Lib.hid h
  have HA := Lib.hid ha
  clear h ha
  go_enter Tryd.func83, Tryd.ntmps83
  go_wp2_with fail
  go_loopw [3, 4] (fun u i wr => puRel w a u i wr) (fun _ i _ => (intOf i + 1).toNat)
  case atStart => exact ⟨a.length, Nat.le_refl _, by go_num, by simp [wval], rfl⟩
  case round =>
    obtain ⟨k, hk, rfl, rfl, rfl⟩ := hrel
    by_cases hk0 : k = 0
    · subst hk0
      have e : ((0 : Nat) : Int) - 1 = -1 := rfl
      rw [e, List.drop_zero]
      go_wp2_with fail
      go_ret
      exact ⟨rfl, rfl⟩
    · obtain ⟨j, rfl⟩ : ∃ j, k = j + 1 := ⟨k - 1, by omega⟩
      have e : ((j + 1 : Nat) : Int) - 1 = (j : Int) := by omega
      rw [e]
      have hj : j < a.length := by omega
      obtain ⟨b1, o1, x, rfl, q1, _, hx, g1⟩ := H.out.w32_ hj
      have bx := HA.out x (List.mem_of_getElem? hx)
      obtain ⟨mm, hm⟩ : ∃ mm, mm = wval (a.drop (j + 1)) := ⟨_, rfl⟩
      have bm : mm < 4294967296 := by
        have h1 := wval_lt (ws := a.drop (j + 1)) (fun z hz => HA.out z (List.mem_of_mem_drop hz))
        have h2 : (a.drop (j + 1)).length ≤ 1 := by simp; omega
        have h3 : 4294967296 ^ (a.drop (j + 1)).length ≤ 4294967296 ^ 1 := Nat.pow_le_pow_right (by decide) h2
        omega
      have hd : wval (a.drop j) = x + 4294967296 * mm := by
        rw [hm, List.drop_eq_getElem_cons hj]
        have : a[j] = x := by rw [List.getElem?_eq_getElem hj] at hx; simpa using hx
        rw [this]
        rfl
      rw [← hm]
      have HD := Lib.hid hd
      have w3 : IntKind.u64.wrap ((mm : Int) * 4294967296) = (mm : Int) * 4294967296 := by rw [IntKind.wrap_u64]; omega
      obtain ⟨s, hs⟩ : ∃ s, s = x + 4294967296 * mm := ⟨_, rfl⟩
      have hor : bits .or .u64 ((mm : Int) * 4294967296) (x : Int) = (s : Int) := by rw [hs]; exact it_or bm bx
      have HS := Lib.hid hs
      have hji : (j : Int) < (a.length : Int) := by omega
      clear hx hm hd hs hk0 e
      go_wp2_with fail
      exact ⟨⟨j, by omega, by go_num, by rw [HD.out, ← HS.out], rfl⟩, by simp [intOf]⟩
end Go.Proofs.YtjlocofimlgaoaaDoor
namespace Go.Proofs.YtjlocofimlgaoaaDoor
set_option linter.unusedVariables false
set_option linter.unusedSimpArgs false
set_option linter.unusedSectionVars false
open Go.RowKit

/-- A whole number that is one of the machine's. -/
def i64In (x : Int) : Bool := decide (-9223372036854775808 ≤ x ∧ x < 9223372036854775808)
def i64V (x : Int) : Int := if i64In x = true then x else 0
theorem i64_no {x : Int} (h : ¬ (-9223372036854775808 ≤ x ∧ x < 9223372036854775808)) : i64In x = false ∧ i64V x = 0 := by
  have h1 : i64In x = false := decide_eq_false h
  exact ⟨h1, by unfold i64V; rw [h1]; rfl⟩
theorem i64_yes {x : Int} (h : -9223372036854775808 ≤ x ∧ x < 9223372036854775808) : i64In x = true ∧ i64V x = x := by
  have h1 : i64In x = true := decide_eq_true h
  exact ⟨h1, by unfold i64V; rw [h1]; rfl⟩
set_option maxRecDepth 100000 in
set_option maxHeartbeats 4000000 in
theorem pint_any {v : Value} {x : Int} {d lo m : Nat} {w : World} (D : DyR w lo m v x d) (hd0 : d = 0) (hm : m ≤ w.heap.size) (hl : (canon x.natAbs).length ≤ 50000) :
    Calls Tryd.prog 42 #[v] w fun e w' => e = .returned (.tuple #[.int .i64 (i64V x), .bool (i64In x)]) ∧ Below w.heap.size w w' := by
  obtain ⟨nb, A, L, c, rfl, HD⟩ := D.form
  have D' := Lib.hid D
  have b0 : Below w.heap.size w (w.alloc (.cells #[.bool nb, .slice A L c, .int .i64 (d : Int)] 37)) := ext_alloc (Below.refl _ _) _
  have hL : L = (canon x.natAbs).length := HD.out.2.1
  have HNB := Lib.hid HD.out.1
  have HL := Lib.hid hL
  have hdi : decide ((0 : Int) < (d : Int)) = false := decide_eq_false (by omega)
  have hdz : ¬ (0 : Int) < (d : Int) := by omega
  clear D hd0 hL
  go_enter Tryd.func42, Tryd.ntmps42
  go_wp2_with fail
  go_at_call 79
  refine (parts_w (D'.out.below b0 hm) (by simp; omega) (by omega)).mono ?_
  rintro e w1 ⟨nb', A', L', c', he, rfl, hb1⟩
  cases he
  have hL := HL.out
  have b1 := b0.trans (hb1.mono (by simp))
  have X := HD.out.2.2.2.2.1.below b1 hm
  obtain ⟨n, hn⟩ : ∃ n, n = x.natAbs := ⟨_, rfl⟩
  rw [← hn] at hL HL hl X
  have HX := Lib.hid X
  have HN := Lib.hid hn
  have HB := Lib.hid b1
  clear X hn HD D' b0 hb1 b1
  by_cases hbig : 2 < L
  · have hx : ¬ (-9223372036854775808 ≤ x ∧ x < 9223372036854775808) := by
      intro h
      have : (canon n).length ≤ 2 := canon_len_le (by have := HN.out; omega)
      omega
    have HV := Lib.hid (i64_no hx)
    have hbi : (2 : Int) < (L : Int) := by omega
    clear hx hL
    go_wp2_with fail
    exact bodyPost_ret (v := .tuple #[.int .i64 0, .bool false]) (by simp [results, Tryd.results42, go_sem]) rfl ⟨by rw [HV.out.1, HV.out.2], HB.out⟩
  · have hbi : decide ((2 : Int) < (L : Int)) = false := decide_eq_false (by omega)
    have hpu := puint_any A (canon n) c m w1 HX.out (canon_ok n) (by omega)
    rw [← hL, wval_canon] at hpu
    have hn64 : n < 18446744073709551616 := by
      have h1 := wval_lt (canon_ok n)
      rw [wval_canon] at h1
      have h3 : 4294967296 ^ (canon n).length ≤ 4294967296 ^ 2 := Nat.pow_le_pow_right (by decide) (by omega)
      omega
    have HPU := Lib.hid hpu
    have hbn : ¬ (2 : Int) < (L : Int) := by omega
    have hbl : (L : Int) ≤ 2 := by omega
    clear hpu hL hbig
    go_wp2_with fail
    go_at_call 83
    refine HPU.out.mono ?_
    rintro e wq ⟨rfl, rfl⟩
    cases nb with
    | true =>
      have hx : x < 0 := by simpa using HNB.out.symm
      by_cases h63 : n ≤ 9223372036854775808
      · have HV := Lib.hid (i64_yes (x := x) (by have := HN.out; omega))
        have hd : decide ((n : Int) ≤ 9223372036854775808) = true := decide_eq_true (by omega)
        have hxe : x = -(n : Int) := by have := HN.out; omega
        have hmp : (1 : Int) ≤ (n : Int) := by omega
        have HXE := Lib.hid hxe
        clear hx hxe
        go_wp2_with fail
        exact bodyPost_ret (v := .tuple #[.int .i64 x, .bool true]) (by simp [results, Tryd.results42, go_sem]; rw [HXE.out]; first | (rw [IntKind.wrap_u64]; unfold wrap64; omega) | (show IntKind.i64.wrap _ = _; rw [IntKind.wrap_u64, IntKind.wrap_i64]; omega)) rfl ⟨by rw [HV.out.1, HV.out.2], HB.out⟩
      · have HV := Lib.hid (i64_no (x := x) (by have := HN.out; omega))
        have hd : decide ((n : Int) ≤ 9223372036854775808) = false := decide_eq_false (by omega)
        clear hx
        go_wp2_with fail
        exact bodyPost_ret (v := .tuple #[.int .i64 0, .bool false]) (by simp [results, Tryd.results42, go_sem]) rfl ⟨by rw [HV.out.1, HV.out.2], HB.out⟩
    | false =>
      have hx : 0 ≤ x := by simpa using HNB.out.symm
      by_cases h63 : n < 9223372036854775808
      · have HV := Lib.hid (i64_yes (x := x) (by have := HN.out; omega))
        have hd : decide ((n : Int) < 9223372036854775808) = true := decide_eq_true (by omega)
        have hxe : x = (n : Int) := by have := HN.out; omega
        have HXE := Lib.hid hxe
        clear hx hxe
        go_wp2_with fail
        exact bodyPost_ret (v := .tuple #[.int .i64 x, .bool true]) (by simp [results, Tryd.results42, go_sem]; rw [HXE.out]) rfl ⟨by rw [HV.out.1, HV.out.2], HB.out⟩
      · have HV := Lib.hid (i64_no (x := x) (by have := HN.out; omega))
        have hd : decide ((n : Int) < 9223372036854775808) = false := decide_eq_false (by omega)
        clear hx
        go_wp2_with fail
        exact bodyPost_ret (v := .tuple #[.int .i64 0, .bool false]) (by simp [results, Tryd.results42, go_sem]) rfl ⟨by rw [HV.out.1, HV.out.2], HB.out⟩
end Go.Proofs.YtjlocofimlgaoaaDoor
namespace Go.Proofs.YtjlocofimlgaoaaDoor
set_option linter.unusedVariables false
set_option linter.unusedSimpArgs false
set_option linter.unusedSectionVars false
open Go.RowKit

theorem padd_w {v v2 : Value} {a b m : Nat} {w : World} (h : WdR w m v a) (h2 : WdR w m v2 b) (hm : m ≤ w.heap.size) (l1 : (canon a).length ≤ 90000) (l2 : (canon b).length ≤ 90000) :
    Calls Tryd.prog 81 #[v, v2] w fun e w' => ∃ v', e = .returned v' ∧ WdR w' w'.heap.size v' (a + b) ∧ Below w.heap.size w w' := by
  obtain ⟨A, c, rfl, _, _, h3⟩ := h
  obtain ⟨B, c', rfl, _, _, h4⟩ := h2
  have hc := padd_any A B (canon a) (canon b) c c' m w hm h3 h4 (canon_ok a) (canon_ok b) l1 l2
  rw [wval_canon, wval_canon] at hc
  refine hc.mono ?_
  rintro e w' ⟨G, g, rfl, hG, hg, hC, hb⟩
  exact ⟨_, rfl, ⟨G, g, rfl, hG, hg, hC⟩, hb⟩
theorem fl_odd {x : Int} {k : Nat} (hx : x % 2 = 1) (hk : 0 < k) : cutB x.natAbs k = true := by
  unfold cutB
  refine decide_eq_true ?_
  intro h0
  obtain ⟨j, rfl⟩ : ∃ j, k = j + 1 := ⟨k - 1, by omega⟩
  have h1 : 2 ∣ x.natAbs := Nat.dvd_trans ⟨2 ^ j, by rw [Nat.pow_succ, Nat.mul_comm]⟩ (Nat.dvd_of_mod_eq_zero h0)
  omega
theorem canon_one1 : canon 1 = [1] := by rw [canon_pos (by decide), show 1 / 4294967296 = 0 by decide, canon_zero]
theorem canon_one_len : (canon 1).length = 1 := by rw [canon_one1]; rfl
theorem one_words (w : World) : WdR (w.alloc (.cells #[.int .u32 1] 130)) (w.heap.size + 1) (.slice (some ⟨w.heap.size, 0, none⟩) 1 1) 1 :=
  ⟨some ⟨w.heap.size, 0, none⟩, 1, by rw [canon_one1]; rfl, by simp, by rw [canon_one1]; decide, by
    rw [canon_one1]
    exact (RowD.new_ w [.int .u32 1] 130).cells_ (Nat.lt_succ_self _)⟩
theorem res_pFloor {tmps : Array Value} {w : World} {b : Nat} {v0 v1 v2 v5 : Value} (h2 : tmps.getD 4 undef = .pointer (some ⟨b, 0, none⟩)) (h5 : tmps.getD 5 undef = v5) (hB : RowD w b [v0, v1, v2] 37) :
    (results Tryd.f40 tmps).run Tryd.prog w = .ok (.tuple #[.agg #[v0, v1, v2], v5]) w := by
  have k0 := hB.cell 0
  have k1 := hB.cell 1
  have k2 := hB.cell 2
  simp at k0 k1 k2
  simp at h2 h5
  simp [results, Tryd.results40, go_sem, h2, h5, k0, k1, k2]
set_option maxRecDepth 100000 in
set_option maxHeartbeats 4000000 in
theorem pfloor_any {v : Value} {x : Int} {d lo m den : Nat} {w : World} (D : DyR w lo m v x d) (hm : m ≤ w.heap.size) (hl : (canon x.natAbs).length ≤ 50000) (hden : den ≤ 65536) (ht : TabAt w) :
    Calls Tryd.prog 40 #[v, .int .i64 (den : Int)] w fun e w' => ∃ v', e = .returned (.tuple #[v', .nilIface]) ∧ DyR w' w.heap.size w'.heap.size v' (dyFloor x d den).1 (dyFloor x d den).2 ∧ Below w.heap.size w w' := by
  have n1 : decide ((den : Int) < 0) = false := decide_eq_false (by omega)
  have n2 : decide ((65536 : Int) < (den : Int)) = false := decide_eq_false (by omega)
  have n3 : ¬ (den : Int) < 0 := by omega
  have n4 : ¬ (65536 : Int) < (den : Int) := by omega
  have hdr := D.bound
  have hd6 := hdr.1
  have HDR := Lib.hid hdr.2
  clear hdr
  by_cases hle : d ≤ den
  · as_aux_lemma =>
    have HV := Lib.hid (show dyFloor x d den = (x, d) from if_pos hle)
    have n5 : (d : Int) ≤ (den : Int) := by omega
    obtain ⟨nb, A, L, c, rfl, HD⟩ := D.form
    have D' := Lib.hid D
    have HT := Lib.hid ht
    clear D ht
    have b0 : Below w.heap.size w ((w.alloc (.cells #[.bool nb, .slice A L c, .int .i64 (d : Int)] 37)).alloc (.cells #[.bool false, .slice none 0 0, .int .i64 0] 37)) := ext_alloc (ext_alloc (Below.refl _ _) _) _
    have r0 := RowD.new_ (w.alloc (.cells #[.bool nb, .slice A L c, .int .i64 (d : Int)] 37)) [.bool false, .slice none 0 0, .int .i64 0] 37
    rw [show (w.alloc (.cells #[.bool nb, .slice A L c, .int .i64 (d : Int)] 37)).heap.size = w.heap.size + 1 by simp] at r0
    go_enter Tryd.func40, Tryd.ntmps40
    go_wp2_with fail
    go_at_call 79
    refine (parts_w (D'.out.below b0 hm) (by simp; omega) (by omega)).mono ?_
    rintro e w1 ⟨nb', A', L', c', he, rfl, hb1⟩
    cases he
    have r1 := r0.call hb1
    have b1 := b0.trans (hb1.mono (by simp; omega))
    have hw1 := r1.lt
    have HT1 := HT.out.below b1 HT.out.1
    have X1 := (D'.out.below b1 hm).words
    clear hb1 r0 b0
    go_wp2_with fail
    go_at_call 77
    refine (presult_v (d := d) X1 (by omega) (by omega) hd6 HT1).mono ?_
    rintro e w3 ⟨v', rfl, D3, hb3⟩
    rw [HD.out.1, sg_back, nf_done HDR.out, ← HV.out] at D3
    have u1 := r1.call hb3
    have bv := b1.trans (hb3.mono (by have := b1.size; omega))
    obtain ⟨nb3, A3, L3, c3, rfl, _⟩ := D3.form
    have D3' := Lib.hid D3
    clear D3 hb3 r1 b1
    have q0 : w3.cell? ⟨w.heap.size + 1, 0, none⟩ = some (.bool false) := u1.cell 0
    have q1 : w3.cell? ⟨w.heap.size + 1, 1, none⟩ = some (.slice none 0 0) := u1.cell 1
    have q2 : w3.cell? ⟨w.heap.size + 1, 2, none⟩ = some (.int .i64 0) := u1.cell 2
    have qf := u1.free
    have hu1 := u1.lt
    go_wp2_with fail
    refine bodyPost_ret (res_pFloor rfl rfl (((u1.set_ 0 _).set_ 1 _).set_ 2 _)) rfl ⟨_, rfl, ?_, ((bv.setCell (by simp) _).setCell (by simp) _).setCell (by simp) _⟩
    exact ((((D3'.out.set_ (by omega) 0 _).set_ (by omega) 1 _).set_ (by omega) 2 _).low (by omega)).more (by simp)
  · as_aux_lemma =>
    have n5 : ¬ (d : Int) ≤ (den : Int) := by omega
    obtain ⟨k, hk⟩ : ∃ k : Nat, k = d - den := ⟨_, rfl⟩
    have HV := Lib.hid (show dyFloor x d den = nf (x / 2 ^ k) den by rw [hk]; exact if_neg hle)
    have n6 : (d : Int) - (den : Int) = (k : Int) := by omega
    have hk6 : k ≤ 1000000 := by omega
    have HC := Lib.hid (fl_odd (x := x) (k := k) (HDR.out (by omega)) (by omega))
    have hln : (canon (x.natAbs / 2 ^ k)).length ≤ 50000 := Nat.le_trans (canon_len_mono (Nat.div_le_self _ _)) hl
    have hln1 : (canon (x.natAbs / 2 ^ k + 1)).length ≤ 100000 := by
      have h1 := canon_len_add (x.natAbs / 2 ^ k) 1
      have h2 := canon_one_len
      omega
    clear hk
    obtain ⟨nb, A, L, c, rfl, HD⟩ := D.form
    have D' := Lib.hid D
    have HT := Lib.hid ht
    clear D ht
    have b0 : Below w.heap.size w ((w.alloc (.cells #[.bool nb, .slice A L c, .int .i64 (d : Int)] 37)).alloc (.cells #[.bool false, .slice none 0 0, .int .i64 0] 37)) := ext_alloc (ext_alloc (Below.refl _ _) _) _
    have r0 := RowD.new_ (w.alloc (.cells #[.bool nb, .slice A L c, .int .i64 (d : Int)] 37)) [.bool false, .slice none 0 0, .int .i64 0] 37
    rw [show (w.alloc (.cells #[.bool nb, .slice A L c, .int .i64 (d : Int)] 37)).heap.size = w.heap.size + 1 by simp] at r0
    go_enter Tryd.func40, Tryd.ntmps40
    go_wp2_with fail
    go_at_call 79
    refine (parts_w (D'.out.below b0 hm) (by simp; omega) (by omega)).mono ?_
    rintro e w1 ⟨nb', A', L', c', he, rfl, hb1⟩
    cases he
    have r1 := r0.call hb1
    have b1 := b0.trans (hb1.mono (by simp; omega))
    have hw1 := r1.lt
    have HT1 := HT.out.below b1 HT.out.1
    have X1 := (D'.out.below b1 hm).words
    clear hb1 r0 b0
    go_wp2_with fail
    go_at_call 80
    refine (pright_w X1 (by omega) (by omega) hk6).mono ?_
    rintro e w2 ⟨v2, rfl, Y, hb2⟩
    have r2 := r1.call hb2
    have b2 := b1.trans (hb2.mono (by have := b1.size; omega))
    have HT2 := HT1.call hb2
    obtain ⟨A2, L2, c2, rfl⟩ := Y.form
    have hw2 := r2.lt
    clear hb2 r1 b1 HT1
    have hnb := HD.out.1
    cases nb with
    | false =>
      as_aux_lemma =>
      have hx : 0 ≤ x := by simpa using hnb.symm
      have HX := Lib.hid hx
      clear hnb hx
      go_wp2_with fail
      go_at_call 77
      refine (presult_v (d := den) Y (Nat.le_refl _) (by omega) hden HT2).mono ?_
      rintro e w3 ⟨v', rfl, D3, hb3⟩
      rw [fl_pos HX.out, ← HV.out] at D3
      have u1 := r2.call hb3
      have bv := b2.trans (hb3.mono (by have := b2.size; omega))
      obtain ⟨nb3, A3, L3, c3, rfl, _⟩ := D3.form
      have D3' := Lib.hid D3
      clear D3 hb3 r2 b2
      have q0 : w3.cell? ⟨w.heap.size + 1, 0, none⟩ = some (.bool false) := u1.cell 0
      have q1 : w3.cell? ⟨w.heap.size + 1, 1, none⟩ = some (.slice none 0 0) := u1.cell 1
      have q2 : w3.cell? ⟨w.heap.size + 1, 2, none⟩ = some (.int .i64 0) := u1.cell 2
      have qf := u1.free
      have hu1 := u1.lt
      go_wp2_with fail
      refine bodyPost_ret (res_pFloor rfl rfl (((u1.set_ 0 _).set_ 1 _).set_ 2 _)) rfl ⟨_, rfl, ?_, ((bv.setCell (by simp) _).setCell (by simp) _).setCell (by simp) _⟩
      exact ((((D3'.out.set_ (by omega) 0 _).set_ (by omega) 1 _).set_ (by omega) 2 _).low (by omega)).more (by simp)
    | true =>
      as_aux_lemma =>
      have hx : x < 0 := by simpa using hnb.symm
      have HX := Lib.hid hx
      clear hnb hx
      have BA := al_ w2 (.cells #[.int .u32 1] 130)
      have r4 := r2.call BA
      have b4 := b2.trans (BA.mono (by have := b2.size; omega))
      have HT4 := HT2.call BA
      have Y4 := (Y.below BA (Nat.le_refl _)).more (show w2.heap.size ≤ w2.heap.size + 1 by omega)
      have O4 := one_words w2
      clear BA Y r2 b2 HT2
      go_wp2_with fail
      go_at_call 81
      refine (padd_w Y4 O4 (by simp) (by omega) (by rw [canon_one_len]; decide)).mono ?_
      rintro e w5 ⟨v5, rfl, Z, hb5⟩
      have r5 := r4.call hb5
      have b5 := b4.trans (hb5.mono (by have := b4.size; omega))
      have HT5 := HT4.call hb5
      obtain ⟨A5, L5, c5, rfl⟩ := Z.form
      have hw5 := r5.lt
      clear hb5 r4 b4 HT4
      go_wp2_with fail
      go_at_call 77
      refine (presult_v (d := den) Z (Nat.le_refl _) (by omega) hden HT5).mono ?_
      rintro e w3 ⟨v', rfl, D3, hb3⟩
      rw [fl_neg_cut HX.out HC.out, ← HV.out] at D3
      have u1 := r5.call hb3
      have bv := b5.trans (hb3.mono (by have := b5.size; omega))
      obtain ⟨nb3, A3, L3, c3, rfl, _⟩ := D3.form
      have D3' := Lib.hid D3
      clear D3 hb3 r5 b5
      have q0 : w3.cell? ⟨w.heap.size + 1, 0, none⟩ = some (.bool false) := u1.cell 0
      have q1 : w3.cell? ⟨w.heap.size + 1, 1, none⟩ = some (.slice none 0 0) := u1.cell 1
      have q2 : w3.cell? ⟨w.heap.size + 1, 2, none⟩ = some (.int .i64 0) := u1.cell 2
      have qf := u1.free
      have hu1 := u1.lt
      go_wp2_with fail
      refine bodyPost_ret (res_pFloor rfl rfl (((u1.set_ 0 _).set_ 1 _).set_ 2 _)) rfl ⟨_, rfl, ?_, ((bv.setCell (by simp) _).setCell (by simp) _).setCell (by simp) _⟩
      exact ((((D3'.out.set_ (by omega) 0 _).set_ (by omega) 1 _).set_ (by omega) 2 _).low (by omega)).more (by simp)
end Go.Proofs.YtjlocofimlgaoaaDoor
