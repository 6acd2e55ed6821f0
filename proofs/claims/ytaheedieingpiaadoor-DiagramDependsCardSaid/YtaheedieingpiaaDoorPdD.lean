/- The program's numbers: a word, right. No conditions. -/
import Derived.Test.YtaheedieingpiaaDoorPdC
namespace Go.Proofs.YtaheedieingpiaaDoor
set_option linter.unusedVariables false
set_option linter.unusedSimpArgs false
set_option linter.unusedSectionVars false
open Go.RowKit

set_option maxHeartbeats 2000000 in
theorem at_any (A : Option Addr) (a : List Nat) (c i m : Nat) (w : World) (h : CellsAt w m A (w32 a)) (hi : i ≤ 1000000) (hl : a.length ≤ 1000000) :
    Calls Tryd.prog 64 #[.slice A a.length c, .int .i64 (i : Int)] w fun e w' => e = .returned (.int .u32 ((a[i]?.getD 0 : Nat) : Int)) ∧ w = w' := by
  by_cases hlt : i < a.length
  · obtain ⟨b1, o1, x, rfl, q1, q2, hx, g1⟩ := h.w32_ hlt
    have hil : (i : Int) < (a.length : Int) := by omega
    have HX := Lib.hid (show a[i]?.getD 0 = x by rw [hx]; rfl)
    clear hx h
    go_enter Tryd.func64, Tryd.ntmps64
    go_wp2_with fail
    go_ret
    exact ⟨by rw [HX.out]; rfl, rfl⟩
  · have hil : ¬ (i : Int) < (a.length : Int) := by omega
    have HX := Lib.hid (show a[i]?.getD 0 = 0 by rw [List.getElem?_eq_none (by omega)]; rfl)
    clear h
    go_enter Tryd.func64, Tryd.ntmps64
    go_wp2_with fail
    go_ret
    exact ⟨by first | rfl | (rw [HX.out]; rfl), rfl⟩
theorem under_nat : Tryd.prog.underlying 79 = some (.slice 88) := by kernel_rfl
theorem OwnW.put {w : World} {base g n c : Nat} {xs : List Nat} (h : OwnW w base (.slice (some ⟨g, 0, none⟩) n c) xs) (hn : n = xs.length) (j z : Nat) : OwnW (w.setCell ⟨g, j, none⟩ (.int .u32 (z : Int))) base (.slice (some ⟨g, 0, none⟩) n c) (xs.set j z) := by
  subst hn
  have e : w32 (xs.set j z) = (w32 xs).set j (.int .u32 (z : Int)) := by simp [w32, List.map_set]
  have h2 : w.ownsRow base 88 1 (.slice (some ⟨g, 0, none⟩) xs.length c) xs.length (w32 xs) := h
  have h3 := (World.ownsRow.stored h2 j (.int .u32 (z : Int))).1
  unfold OwnW
  rw [e, List.length_set]
  exact h3
theorem OwnW.cellA {w : World} {base g n c j z : Nat} {xs : List Nat} (h : OwnW w base (.slice (some ⟨g, 0, none⟩) n c) xs) (hz : xs[j]? = some z) : w.cell? ⟨g, j, none⟩ = some (.int .u32 (z : Int)) := by
  obtain ⟨A', c', he, _, hc⟩ := h.view
  cases he
  have hj : j < xs.length := (List.getElem?_eq_some_iff.1 hz).1
  obtain ⟨b, off, z', hA, _, _, hx, hcc⟩ := hc.w32_ hj
  cases hA
  rw [hz] at hx
  cases hx
  simpa using hcc
theorem OwnW.freeA {w : World} {base g n c : Nat} {xs : List Nat} (h : OwnW w base (.slice (some ⟨g, 0, none⟩) n c) xs) (hn : n = xs.length) (j : Nat) : w.frozen? ⟨g, j, none⟩ = false := by
  subst hn
  have h2 : w.ownsRow base 88 1 (.slice (some ⟨g, 0, none⟩) xs.length c) xs.length (w32 xs) := h
  exact World.ownsRow.frozenAt h2 j
theorem made_w {w2 : World} {base g L : Nat} (h : w2.ownsRow base 88 1 (.slice (some ⟨g, 0, none⟩) L L) L (madeCells (Value.int .u32 0).cells (L * 1)).toList) : OwnW w2 base (.slice (some ⟨g, 0, none⟩) L L) (List.replicate L 0) := by
  have e1 : w32 (List.replicate L 0) = (madeCells (Value.int .u32 0).cells (L * 1)).toList := by
    rw [Nat.mul_one]
    have := toList_madeCells_one (Value.int .u32 0) L
    simp only [w32, List.map_replicate]
    exact this.symm
  unfold OwnW
  rw [e1, List.length_replicate]
  exact h
theorem set_rep {os : List Nat} {k L z : Nat} (hl : os.length = k) (hk : k < L) : (os ++ List.replicate (L - k) 0).set k z = (os ++ [z]) ++ List.replicate (L - (k + 1)) 0 := by
  rw [List.set_append_right _ _ (by omega), hl, Nat.sub_self, show L - k = (L - (k + 1)) + 1 by omega, List.replicate_succ, List.set_cons_zero]
  simp
def prRel (w : World) (a : List Nat) (n q g L : Nat) (i : Value) (wr : World) : Prop :=
  ∃ (k : Nat) (os : List Nat), k ≤ L ∧ i = .int .i64 (k : Int) ∧ OwnW wr w.heap.size (.slice (some ⟨g, 0, none⟩) L L) (os ++ List.replicate (L - k) 0) ∧ os.length = k ∧ wordsOk os ∧ wval os = wval a / 2 ^ n % 4294967296 ^ k ∧ Below w.heap.size w wr
set_option maxRecDepth 100000 in
set_option maxHeartbeats 8000000 in
theorem pright_any (A : Option Addr) (a : List Nat) (c n m : Nat) (w : World) (hm : m ≤ w.heap.size) (h1 : CellsAt w m A (w32 a)) (ha : wordsOk a) (l1 : a.length ≤ 100000) (hn : n ≤ 1000000) :
    Calls Tryd.prog 62 #[.slice A a.length c, .int .i64 (n : Int)] w fun e w' =>
      ∃ G g, e = .returned (.slice G (canon (wval a / 2 ^ n)).length g) ∧ (G = none → g = 0) ∧ (canon (wval a / 2 ^ n)).length ≤ g ∧ CellsAt w' w'.heap.size G (w32 (canon (wval a / 2 ^ n))) ∧ Below w.heap.size w w' := by
  have H1 := Lib.hid h1
  have HA := Lib.hid ha
  obtain ⟨q, hq⟩ : ∃ q, q = n / 32 := ⟨_, rfl⟩
  have hqi : (n : Int) / 32 = (q : Int) := by omega
  have HQ := Lib.hid hq
  clear h1 ha
  by_cases hbig : a.length ≤ q
  · have hz : canon (wval a / 2 ^ n) = [] := by
      have hl := wval_lt HA.out
      rw [← pow32_] at hl
      rw [Nat.div_eq_of_lt (Nat.lt_of_lt_of_le hl (Nat.pow_le_pow_right (by decide) (by omega))), canon_zero]
    have HZ := Lib.hid hz
    have hbi : (a.length : Int) ≤ (q : Int) := by omega
    clear hz hq
    go_enter Tryd.func62, Tryd.ntmps62
    go_wp2_with fail
    go_ret
    exact ⟨none, 0, by rw [HZ.out]; rfl, fun _ => rfl, by rw [HZ.out]; exact Nat.le_refl _, by rw [HZ.out]; exact CellsAt.nil_, Below.refl _ _⟩
  · obtain ⟨L, hL⟩ : ∃ L, L = a.length - q := ⟨_, rfl⟩
    have hLi : (a.length : Int) - (q : Int) = (L : Int) := by omega
    have hbi : ¬ (a.length : Int) ≤ (q : Int) := by omega
    have hL6 : L ≤ 100000 := by omega
    have HL := Lib.hid hL
    obtain ⟨i0, hi, hz0, hz1, hz2⟩ := info_parts info_w4
    clear hbig hq hL
    go_enter Tryd.func62, Tryd.ntmps62
    go_wp2_with (with_reducible refine wpList_make_full _ rfl (.tmp 22) (.tmp 22) 79 rfl w.heap.size 88 i0 (.int .u32 0) 1 under_nat hi hz0 hz1 .i64 .i64 _ _ L rfl rfl rfl rfl (by rw [hz2]; omega) (by unfold maxLen; omega) (Nat.le_refl _) ?_; intro w2 hown hg)
    have hst := (Below.refl w.heap.size w).grown hg (Nat.le_refl _) (fun k h => by simp at h)
    have hown2 := made_w hown
    obtain ⟨g, hg1⟩ : ∃ g, g = w.heap.size := ⟨_, rfl⟩
    have hgw := Lib.hid hg1
    rw [← hg1]
    rw [show OwnW w2 w.heap.size (.slice (some ⟨w.heap.size, 0, none⟩) L L) (List.replicate L 0) = OwnW w2 w.heap.size (.slice (some ⟨g, 0, none⟩) L L) (List.replicate L 0) by rw [hg1]] at hown2
    clear hown hg hi hz0 hz1 hz2 hg1
    go_loopw [26] (fun i wr => prRel w a n q g L i wr) (fun i _ => L - (intOf i).toNat)
    case atStart => exact ⟨0, [], Nat.zero_le _, rfl, by simpa using hown2, rfl, by simp [wordsOk], by simp [wval, Nat.mod_one], hst⟩
    case round =>
      as_aux_lemma =>
      obtain ⟨k, os, hk, rfl, hown, hol, hok, hv, hb⟩ := hrel
      have HO := Lib.hid hown
      have HOL := Lib.hid hol
      have HOK := Lib.hid hok
      have HV := Lib.hid hv
      have hsz := hb.size
      have hlen := Lib.hid (show L = (os ++ List.replicate (L - k) 0).length by simp; omega)
      clear hown hol hok hv hown2 hst
      by_cases hlt : k < L
      · as_aux_lemma =>
        obtain ⟨u, hu⟩ : ∃ u, u = q + k := ⟨_, rfl⟩
        have hul : u < a.length := by have := HL.out; omega
        obtain ⟨b1, o1, x, rfl, q1, _, hx, g1'⟩ := H1.out.w32_ hul
        have g1 := (hb.cell (p := ⟨b1, o1 + u, none⟩) (Nat.lt_of_lt_of_le q1 hm)).trans g1'
        have bx := HA.out x (List.mem_of_getElem? hx)
        have HX := Lib.hid (show a[n / 32 + k]?.getD 0 = x by rw [← HQ.out, ← hu, hx]; rfl)
        obtain ⟨y, hy⟩ : ∃ y, y = a[u + 1]?.getD 0 := ⟨_, rfl⟩
        have HYU := Lib.hid hy
        have HY := Lib.hid (show a[n / 32 + k + 1]?.getD 0 = y by rw [← HQ.out, ← hu, hy])
        have by' : y < 4294967296 := by
          rw [hy]
          by_cases hyl : u + 1 < a.length
          · rw [List.getElem?_eq_getElem hyl]; exact HA.out _ (List.getElem_mem hyl)
          · rw [List.getElem?_eq_none (by omega)]; decide
        have w1 : IntKind.i64.wrap ((k : Int) + (q : Int)) = (u : Int) := by rw [IntKind.wrap_i64]; omega
        have w2' : IntKind.i64.wrap ((u : Int) + 1) = ((u + 1 : Nat) : Int) := by rw [IntKind.wrap_i64]; omega
        have w3 : IntKind.u64.wrap ((y : Int) * 4294967296) = (y : Int) * 4294967296 := by rw [IntKind.wrap_u64]; omega
        obtain ⟨s, hs⟩ : ∃ s, s = x + 4294967296 * y := ⟨_, rfl⟩
        have hor : bits .or .u64 ((y : Int) * 4294967296) (x : Int) = (s : Int) := by rw [hs]; exact it_or by' bx
        obtain ⟨z, hzn⟩ : ∃ z : Nat, z = (x + y * 4294967296) / 2 ^ (n % 32) % 4294967296 := ⟨_, rfl⟩
        have hz : ((s : Int) / 2 ^ (n % 32) % 4294967296) = (z : Int) := by rw [hzn, hs, Nat.mul_comm 4294967296 y]; simp
        have HZ := Lib.hid (show z = (a[n / 32 + k]?.getD 0 + a[n / 32 + k + 1]?.getD 0 * 4294967296) / 2 ^ (n % 32) % 4294967296 by rw [HX.out, HY.out]; exact hzn)
        have HZB := Lib.hid (show z < 4294967296 by rw [hzn]; exact Nat.mod_lt _ (by decide))
        have hul' : (u : Int) < (a.length : Int) := by omega
        have hkl' : (k : Int) < (L : Int) := by omega
        have hat := fun nq => at_any (some ⟨b1, o1, none⟩) a c (u + 1) m (wr.drewN nq) (H1.out.below (below_drewN hb nq) hm) (by omega) (by omega)
        rw [← hy] at hat
        have HAT := Lib.hid hat
        have f1 : wr.cell? ⟨g, k, none⟩ = some (.int .u32 0) := by
          have := HO.out.cellA (j := k) (z := 0) (by rw [List.getElem?_append_right (by rw [HOL.out]; omega), HOL.out, Nat.sub_self]; rw [List.getElem?_replicate]; simp; omega)
          simpa using this
        have f2 : ∀ j, wr.frozen? ⟨g, j, none⟩ = false := fun j => HO.out.freeA hlen.out j
        clear hy hx hs hzn hu g1' hat
        go_wp2_with fail
        go_quiet ((go_at_call 64; exact quiet_left (HAT.out _)))
        go_wp2_with fail
        refine ⟨⟨k + 1, os ++ [z], by omega, by go_num, ?_, by rw [List.length_append, HOL.out]; rfl, words_push HOK.out HZB.out, rg_step HA.out HOL.out HV.out HZ.out, ?_⟩, by simp [intOf]; omega⟩
        · have h5 := ((HO.out.drewN nq).put hlen.out k z)
          rw [set_rep HOL.out hlt] at h5
          exact h5
        · exact (below_drewN hb nq).setCell (by have := hgw.out; simp; omega) _
      · as_aux_lemma =>
        have hkL : k = L := by omega
        have hle : ¬ (k : Int) < (L : Int) := by omega
        have hO := HO.out
        rw [hkL, Nat.sub_self, List.replicate_zero, List.append_nil] at hO
        have hol := HOL.out.trans hkL
        have hL6' : os.length ≤ 1000000 := by omega
        have HWV := Lib.hid (rg_end (k := k) HA.out (by have := HQ.out; have := HL.out; omega) HV.out)
        have HGC := Lib.hid hO.cap_.2.2.2
        have hcall := ptrim_any (some ⟨g, 0, none⟩) os os.length wr.heap.size wr HGC.out (Nat.le_refl _) hL6'
        rw [hol] at hcall
        have HCALL := Lib.hid hcall
        clear hkL hol hO hcall
        go_wp2_with (go_at_call 60; refine HCALL.out.mono ?_; rintro e w3 ⟨rfl, rfl⟩)
        go_ret
        have hcan := trim_canon HOK.out
        rw [HWV.out] at hcan
        refine ⟨some ⟨g, 0, none⟩, L, by rw [hcan]; rfl, by simp, ?_, ?_, hb⟩
        · rw [← hcan, trimL_len]
          have := trimN_le os os.length
          have := HOL.out
          omega
        · rw [← hcan]
          exact HGC.out.takeW _
end Go.Proofs.YtaheedieingpiaaDoor
