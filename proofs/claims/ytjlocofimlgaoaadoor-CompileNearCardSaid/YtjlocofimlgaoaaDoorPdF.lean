/- The program's numbers: a word, right. No conditions. The program's numbers: left. No conditions. The program's numbers: append onto a fresh slice; compare. No conditions. -/
import Derived.Test.YtjlocofimlgaoaaDoorPdC
namespace Go.Proofs.YtjlocofimlgaoaaDoor
set_option linter.unusedVariables false
set_option linter.unusedSimpArgs false
set_option linter.unusedSectionVars false
open Go.RowKit

set_option maxHeartbeats 2000000 in
theorem at_any (A : Option Addr) (a : List Nat) (c i m : Nat) (w : World) (h : CellsAt w m A (w32 a)) (hi : i ≤ 1000000) (hl : a.length ≤ 1000000) :
    Calls Tryd.prog 115 #[.slice A a.length c, .int .i64 (i : Int)] w fun e w' => e = .returned (.int .u32 ((a[i]?.getD 0 : Nat) : Int)) ∧ w = w' := by
  by_cases hlt : i < a.length
  · obtain ⟨b1, o1, x, rfl, q1, q2, hx, g1⟩ := h.w32_ hlt
    have hil : (i : Int) < (a.length : Int) := by omega
    have HX := Lib.hid (show a[i]?.getD 0 = x by rw [hx]; rfl)
    clear hx h
    go_enter Tryd.func115, Tryd.ntmps115
    go_wp2_with fail
    go_ret
    exact ⟨by rw [HX.out]; rfl, rfl⟩
  · have hil : ¬ (i : Int) < (a.length : Int) := by omega
    have HX := Lib.hid (show a[i]?.getD 0 = 0 by rw [List.getElem?_eq_none (by omega)]; rfl)
    clear h
    go_enter Tryd.func115, Tryd.ntmps115
    go_wp2_with fail
    go_ret
    exact ⟨by first | rfl | (rw [HX.out]; rfl), rfl⟩
theorem under_nat : Tryd.prog.underlying 119 = some (.slice 130) := by kernel_rfl
theorem OwnW.put {w : World} {base g n c : Nat} {xs : List Nat} (h : OwnW w base (.slice (some ⟨g, 0, none⟩) n c) xs) (hn : n = xs.length) (j z : Nat) : OwnW (w.setCell ⟨g, j, none⟩ (.int .u32 (z : Int))) base (.slice (some ⟨g, 0, none⟩) n c) (xs.set j z) := by
  subst hn
  have e : w32 (xs.set j z) = (w32 xs).set j (.int .u32 (z : Int)) := by simp [w32, List.map_set]
  have h2 : w.ownsRow base 130 1 (.slice (some ⟨g, 0, none⟩) xs.length c) xs.length (w32 xs) := h
  have h3 := (World.ownsRow.stored h2 j (.int .u32 (z : Int))).1
  unfold OwnW
  rw [e, List.length_set]
  exact h3
theorem OwnW.cellA {w : World} {base g n c j z : Nat} {xs : List Nat} (h : OwnW w base (.slice (some ⟨g, 0, none⟩) n c) xs) (hz : xs[j]? = some z) : w.cell? ⟨g, j, none⟩ = some (.int .u32 (z : Int)) := by
  obtain ⟨A', c', he, _, hc⟩ := h.view
  cases he
  have hj : j < xs.length := (List.getElem?_eq_some_iff.1 hz).1
  obtain ⟨b, off, z', hA, _, _, hx, hcc⟩ := hc.w32_ hj
  cases hA
  rw [hz] at hx
  cases hx
  simpa using hcc
theorem OwnW.freeA {w : World} {base g n c : Nat} {xs : List Nat} (h : OwnW w base (.slice (some ⟨g, 0, none⟩) n c) xs) (hn : n = xs.length) (j : Nat) : w.frozen? ⟨g, j, none⟩ = false := by
  subst hn
  have h2 : w.ownsRow base 130 1 (.slice (some ⟨g, 0, none⟩) xs.length c) xs.length (w32 xs) := h
  exact World.ownsRow.frozenAt h2 j
theorem made_w {w2 : World} {base g L : Nat} (h : w2.ownsRow base 130 1 (.slice (some ⟨g, 0, none⟩) L L) L (madeCells (Value.int .u32 0).cells (L * 1)).toList) : OwnW w2 base (.slice (some ⟨g, 0, none⟩) L L) (List.replicate L 0) := by
  have e1 : w32 (List.replicate L 0) = (madeCells (Value.int .u32 0).cells (L * 1)).toList := by
    rw [Nat.mul_one]
    have := toList_madeCells_one (Value.int .u32 0) L
    simp only [w32, List.map_replicate]
    exact this.symm
  unfold OwnW
  rw [e1, List.length_replicate]
  exact h
theorem set_rep {os : List Nat} {k L z : Nat} (hl : os.length = k) (hk : k < L) : (os ++ List.replicate (L - k) 0).set k z = (os ++ [z]) ++ List.replicate (L - (k + 1)) 0 := by
  rw [List.set_append_right _ _ (by omega), hl, Nat.sub_self, show L - k = (L - (k + 1)) + 1 by omega, List.replicate_succ, List.set_cons_zero]
  simp
def prRel (w : World) (a : List Nat) (n q g L : Nat) (i : Value) (wr : World) : Prop :=
  ∃ (k : Nat) (os : List Nat), k ≤ L ∧ i = .int .i64 (k : Int) ∧ OwnW wr w.heap.size (.slice (some ⟨g, 0, none⟩) L L) (os ++ List.replicate (L - k) 0) ∧ os.length = k ∧ wordsOk os ∧ wval os = wval a / 2 ^ n % 4294967296 ^ k ∧ Below w.heap.size w wr
set_option maxRecDepth 100000 in
set_option maxHeartbeats 8000000 in
theorem pright_any (A : Option Addr) (a : List Nat) (c n m : Nat) (w : World) (hm : m ≤ w.heap.size) (h1 : CellsAt w m A (w32 a)) (ha : wordsOk a) (l1 : a.length ≤ 100000) (hn : n ≤ 1000000) :
    Calls Tryd.prog 80 #[.slice A a.length c, .int .i64 (n : Int)] w fun e w' =>
      ∃ G g, e = .returned (.slice G (canon (wval a / 2 ^ n)).length g) ∧ (G = none → g = 0) ∧ (canon (wval a / 2 ^ n)).length ≤ g ∧ CellsAt w' w'.heap.size G (w32 (canon (wval a / 2 ^ n))) ∧ Below w.heap.size w w' := by
  have H1 := Lib.hid h1
  have HA := Lib.hid ha
  obtain ⟨q, hq⟩ : ∃ q, q = n / 32 := ⟨_, rfl⟩
  have hqi : (n : Int) / 32 = (q : Int) := by omega
  have HQ := Lib.hid hq
  clear h1 ha
  by_cases hbig : a.length ≤ q
  · have hz : canon (wval a / 2 ^ n) = [] := by
      have hl := wval_lt HA.out
      rw [← pow32_] at hl
      rw [Nat.div_eq_of_lt (Nat.lt_of_lt_of_le hl (Nat.pow_le_pow_right (by decide) (by omega))), canon_zero]
    have HZ := Lib.hid hz
    have hbi : (a.length : Int) ≤ (q : Int) := by omega
    clear hz hq
    go_enter Tryd.func80, Tryd.ntmps80
    go_wp2_with fail
    go_ret
    exact ⟨none, 0, by rw [HZ.out]; rfl, fun _ => rfl, by rw [HZ.out]; exact Nat.le_refl _, by rw [HZ.out]; exact CellsAt.nil_, Below.refl _ _⟩
  · obtain ⟨L, hL⟩ : ∃ L, L = a.length - q := ⟨_, rfl⟩
    have hLi : (a.length : Int) - (q : Int) = (L : Int) := by omega
    have hbi : ¬ (a.length : Int) ≤ (q : Int) := by omega
    have hL6 : L ≤ 100000 := by omega
    have HL := Lib.hid hL
    obtain ⟨i0, hi, hz0, hz1, hz2⟩ := info_parts info_w4
    clear hbig hq hL
    go_enter Tryd.func80, Tryd.ntmps80
    go_wp2_with (with_reducible refine wpList_make_full _ rfl (.tmp 22) (.tmp 22) 119 rfl w.heap.size 130 i0 (.int .u32 0) 1 under_nat hi hz0 hz1 .i64 .i64 _ _ L rfl rfl rfl rfl (by rw [hz2]; omega) (by unfold maxLen; omega) (Nat.le_refl _) ?_; intro w2 hown hg)
    have hst := (Below.refl w.heap.size w).grown hg (Nat.le_refl _) (fun k h => by simp at h)
    have hown2 := made_w hown
    obtain ⟨g, hg1⟩ : ∃ g, g = w.heap.size := ⟨_, rfl⟩
    have hgw := Lib.hid hg1
    rw [← hg1]
    rw [show OwnW w2 w.heap.size (.slice (some ⟨w.heap.size, 0, none⟩) L L) (List.replicate L 0) = OwnW w2 w.heap.size (.slice (some ⟨g, 0, none⟩) L L) (List.replicate L 0) by rw [hg1]] at hown2
    clear hown hg hi hz0 hz1 hz2 hg1
    go_loopw [26] (fun i wr => prRel w a n q g L i wr) (fun i _ => L - (intOf i).toNat)
    case atStart => exact ⟨0, [], Nat.zero_le _, rfl, by simpa using hown2, rfl, by simp [wordsOk], by simp [wval, Nat.mod_one], hst⟩
    case round =>
      as_aux_lemma =>
      obtain ⟨k, os, hk, rfl, hown, hol, hok, hv, hb⟩ := hrel
      have HO := Lib.hid hown
      have HOL := Lib.hid hol
      have HOK := Lib.hid hok
      have HV := Lib.hid hv
      have hsz := hb.size
      have hlen := Lib.hid (show L = (os ++ List.replicate (L - k) 0).length by simp; omega)
      clear hown hol hok hv hown2 hst
      by_cases hlt : k < L
      · as_aux_lemma =>
        obtain ⟨u, hu⟩ : ∃ u, u = q + k := ⟨_, rfl⟩
        have hul : u < a.length := by have := HL.out; omega
        obtain ⟨b1, o1, x, rfl, q1, _, hx, g1'⟩ := H1.out.w32_ hul
        have g1 := (hb.cell (p := ⟨b1, o1 + u, none⟩) (Nat.lt_of_lt_of_le q1 hm)).trans g1'
        have bx := HA.out x (List.mem_of_getElem? hx)
        have HX := Lib.hid (show a[n / 32 + k]?.getD 0 = x by rw [← HQ.out, ← hu, hx]; rfl)
        obtain ⟨y, hy⟩ : ∃ y, y = a[u + 1]?.getD 0 := ⟨_, rfl⟩
        have HYU := Lib.hid hy
        have HY := Lib.hid (show a[n / 32 + k + 1]?.getD 0 = y by rw [← HQ.out, ← hu, hy])
        have by' : y < 4294967296 := by
          rw [hy]
          by_cases hyl : u + 1 < a.length
          · rw [List.getElem?_eq_getElem hyl]; exact HA.out _ (List.getElem_mem hyl)
          · rw [List.getElem?_eq_none (by omega)]; decide
        have w1 : IntKind.i64.wrap ((k : Int) + (q : Int)) = (u : Int) := by rw [IntKind.wrap_i64]; omega
        have w2' : IntKind.i64.wrap ((u : Int) + 1) = ((u + 1 : Nat) : Int) := by rw [IntKind.wrap_i64]; omega
        have w3 : IntKind.u64.wrap ((y : Int) * 4294967296) = (y : Int) * 4294967296 := by rw [IntKind.wrap_u64]; omega
        obtain ⟨s, hs⟩ : ∃ s, s = x + 4294967296 * y := ⟨_, rfl⟩
        have hor : bits .or .u64 ((y : Int) * 4294967296) (x : Int) = (s : Int) := by rw [hs]; exact it_or by' bx
        obtain ⟨z, hzn⟩ : ∃ z : Nat, z = (x + y * 4294967296) / 2 ^ (n % 32) % 4294967296 := ⟨_, rfl⟩
        have hz : ((s : Int) / 2 ^ (n % 32) % 4294967296) = (z : Int) := by rw [hzn, hs, Nat.mul_comm 4294967296 y]; simp
        have HZ := Lib.hid (show z = (a[n / 32 + k]?.getD 0 + a[n / 32 + k + 1]?.getD 0 * 4294967296) / 2 ^ (n % 32) % 4294967296 by rw [HX.out, HY.out]; exact hzn)
        have HZB := Lib.hid (show z < 4294967296 by rw [hzn]; exact Nat.mod_lt _ (by decide))
        have hul' : (u : Int) < (a.length : Int) := by omega
        have hkl' : (k : Int) < (L : Int) := by omega
        have hat := fun nq => at_any (some ⟨b1, o1, none⟩) a c (u + 1) m (wr.drewN nq) (H1.out.below (below_drewN hb nq) hm) (by omega) (by omega)
        rw [← hy] at hat
        have HAT := Lib.hid hat
        have f1 : wr.cell? ⟨g, k, none⟩ = some (.int .u32 0) := by
          have := HO.out.cellA (j := k) (z := 0) (by rw [List.getElem?_append_right (by rw [HOL.out]; omega), HOL.out, Nat.sub_self]; rw [List.getElem?_replicate]; simp; omega)
          simpa using this
        have f2 : ∀ j, wr.frozen? ⟨g, j, none⟩ = false := fun j => HO.out.freeA hlen.out j
        clear hy hx hs hzn hu g1' hat
        go_wp2_with fail
        go_quiet ((go_at_call 115; exact quiet_left (HAT.out _)))
        go_wp2_with fail
        refine ⟨⟨k + 1, os ++ [z], by omega, by go_num, ?_, by rw [List.length_append, HOL.out]; rfl, words_push HOK.out HZB.out, rg_step HA.out HOL.out HV.out HZ.out, ?_⟩, by simp [intOf]; omega⟩
        · have h5 := ((HO.out.drewN nq).put hlen.out k z)
          rw [set_rep HOL.out hlt] at h5
          exact h5
        · exact (below_drewN hb nq).setCell (by have := hgw.out; simp; omega) _
      · as_aux_lemma =>
        have hkL : k = L := by omega
        have hle : ¬ (k : Int) < (L : Int) := by omega
        have hO := HO.out
        rw [hkL, Nat.sub_self, List.replicate_zero, List.append_nil] at hO
        have hol := HOL.out.trans hkL
        have hL6' : os.length ≤ 1000000 := by omega
        have HWV := Lib.hid (rg_end (k := k) HA.out (by have := HQ.out; have := HL.out; omega) HV.out)
        have HGC := Lib.hid hO.cap_.2.2.2
        have hcall := ptrim_any (some ⟨g, 0, none⟩) os os.length wr.heap.size wr HGC.out (Nat.le_refl _) hL6'
        rw [hol] at hcall
        have HCALL := Lib.hid hcall
        clear hkL hol hO hcall
        go_wp2_with (go_at_call 113; refine HCALL.out.mono ?_; rintro e w3 ⟨rfl, rfl⟩)
        go_ret
        have hcan := trim_canon HOK.out
        rw [HWV.out] at hcan
        refine ⟨some ⟨g, 0, none⟩, L, by rw [hcan]; rfl, by simp, ?_, ?_, hb⟩
        · rw [← hcan, trimL_len]
          have := trimN_le os os.length
          have := HOL.out
          omega
        · rw [← hcan]
          exact HGC.out.takeW _
end Go.Proofs.YtjlocofimlgaoaaDoor
namespace Go.Proofs.YtjlocofimlgaoaaDoor
set_option linter.unusedVariables false
set_option linter.unusedSimpArgs false
set_option linter.unusedSectionVars false
open Go.RowKit

theorem or_low32 {c l r : Nat} (hc : c < 2 ^ r) (hl : l < 4294967296) (hr : r ≤ 32) (hd : l % 2 ^ r = 0) : bits .or .u32 (c : Int) (l : Int) = ((c + l : Nat) : Int) ∧ c + l < 4294967296 := by
  have hp := Nat.two_pow_pos r
  have e0 := Nat.div_add_mod l (2 ^ r)
  rw [hd, Nat.add_zero] at e0
  have h32 : 2 ^ r * 2 ^ (32 - r) = 4294967296 := by rw [← Nat.pow_add, show r + (32 - r) = 32 by omega]
  have hq : l / 2 ^ r < 2 ^ (32 - r) := (Nat.div_lt_iff_lt_mul hp).2 (by rw [Nat.mul_comm]; omega)
  have hs : c + l < 4294967296 := by
    have h1 : 2 ^ r * (l / 2 ^ r + 1) ≤ 2 ^ r * 2 ^ (32 - r) := Nat.mul_le_mul_left _ hq
    rw [h32, Nat.mul_add, e0] at h1
    omega
  refine ⟨?_, hs⟩
  have hc32 : c < 4294967296 := by omega
  rw [(bits_nat .u32 32 (by decide) (fun n h0 h1 => by rw [IntKind.wrap_u32]; omega) c l (by omega) (by omega)).2]
  have h := Nat.two_pow_add_eq_or_of_lt hc (l / 2 ^ r)
  rw [e0] at h
  rw [Nat.or_comm, ← h, Nat.add_comm]
theorem pl_low {x r : Nat} (hr : r ≤ 32) : (x * 2 ^ r) % 4294967296 % 2 ^ r = 0 := by
  have h32 : (4294967296 : Nat) = 2 ^ r * 2 ^ (32 - r) := by rw [← Nat.pow_add, show r + (32 - r) = 32 by omega]
  rw [h32, Nat.mod_mul_right_mod, Nat.mul_mod_left]
theorem two_sets {pre : List Nat} {u m z c' cy : Nat} (hu : pre.length = u) (hm : 0 < m) : ((pre ++ cy :: List.replicate m 0).set u z).set (u + 1) c' = (pre ++ [z]) ++ c' :: List.replicate (m - 1) 0 := by
  subst hu
  obtain ⟨j, rfl⟩ : ∃ j, m = j + 1 := ⟨m - 1, by omega⟩
  simp [List.set_append, List.replicate_succ]
def plfRel (w : World) (a : List Nat) (q p g L : Nat) (i : Value) (wr : World) : Prop :=
  ∃ (k : Nat) (os : List Nat) (cy : Nat), k ≤ a.length ∧ i = .int .i64 (k : Int) ∧ OwnW wr w.heap.size (.slice (some ⟨g, 0, none⟩) L L) (os ++ cy :: List.replicate (a.length - k) 0) ∧ os.length = q + k ∧ wordsOk os ∧ cy < p ∧
    wval os + 4294967296 ^ (q + k) * cy = wval (a.take k) * (4294967296 ^ q * p) ∧ Below w.heap.size w wr
set_option maxRecDepth 100000 in
set_option maxHeartbeats 8000000 in
theorem pleft_any (A : Option Addr) (n0 : Nat) (c n m : Nat) (w : World) (hm : m ≤ w.heap.size) (h1 : CellsAt w m A (w32 (canon n0))) (hcc : A = none → c = 0) (hcap : (canon n0).length ≤ c) (l1 : (canon n0).length ≤ 100000) (hn : n ≤ 1000000) :
    Calls Tryd.prog 82 #[.slice A (canon n0).length c, .int .i64 (n : Int)] w fun e w' =>
      ∃ G g, e = .returned (.slice G (canon (n0 * 2 ^ n)).length g) ∧ (G = none → g = 0) ∧ (canon (n0 * 2 ^ n)).length ≤ g ∧ CellsAt w' w'.heap.size G (w32 (canon (n0 * 2 ^ n))) ∧ Below w.heap.size w w' := by
  by_cases hz : n = 0 ∨ (canon n0).length = 0
  · have he : canon (n0 * 2 ^ n) = canon n0 := by
      rcases hz with h | h
      · rw [h]; simp
      · have : n0 = 0 := by
          rcases Nat.eq_zero_or_pos n0 with h2 | h2
          · exact h2
          · have := canon_ne (n := n0) (by omega); omega
        rw [this]; simp
    have HE := Lib.hid he
    have H1 := Lib.hid h1
    clear he h1
    by_cases hn0 : n = 0
    · subst hn0
      clear hz
      go_enter Tryd.func82, Tryd.ntmps82
      go_wp2_with fail
      go_ret
      exact ⟨A, c, by rw [HE.out]; rfl, hcc, by rw [HE.out]; exact hcap, by rw [HE.out]; exact H1.out.more hm, Below.refl _ _⟩
    · have hlz : (((canon n0).length : Nat) : Int) = 0 := by rcases hz with h | h <;> omega
      have hlb : ((((canon n0).length : Nat) : Int) == 0) = true := by rw [hlz]; rfl
      have hnb : ((n : Int) == 0) = false := by rw [beq_eq_false_iff_ne]; omega
      have HLZ := Lib.hid hlz
      clear hz hlz
      go_enter Tryd.func82, Tryd.ntmps82
      go_wp2_with fail
      go_ret
      exact ⟨A, c, by rw [HE.out]; rfl, hcc, by rw [HE.out]; exact hcap, by rw [HE.out]; exact H1.out.more hm, Below.refl _ _⟩
  · obtain ⟨a, ha'⟩ : ∃ a, a = canon n0 := ⟨_, rfl⟩
    have ha : wordsOk a := by rw [ha']; exact canon_ok n0
    have hv0 : wval a = n0 := by rw [ha', wval_canon]
    rw [← ha'] at h1 hcap l1 hz ⊢
    rw [← hv0]
    have hlb : (((a.length : Nat) : Int) == 0) = false := by rw [beq_eq_false_iff_ne]; omega
    have hnb : ((n : Int) == 0) = false := by rw [beq_eq_false_iff_ne]; omega
    clear hv0 ha' hz
    rw [pow_split n]
    obtain ⟨q, hq⟩ : ∃ q, q = n / 32 := ⟨_, rfl⟩
    obtain ⟨p, hp⟩ : ∃ p, p = 2 ^ (n % 32) := ⟨_, rfl⟩
    have hp0 : 0 < p := by rw [hp]; exact Nat.two_pow_pos _
    have hp32 : p ≤ 2147483648 := by
      rw [hp]
      exact Nat.pow_le_pow_right (n := 2) (by decide) (show n % 32 ≤ 31 by omega)
    rw [← hq, ← hp]
    have HP := Lib.hid hp
    have H1 := Lib.hid h1
    have HA := Lib.hid ha
    have hqi : (n : Int) / 32 = (q : Int) := by omega
    have hq6 : q ≤ 31250 := by omega
    obtain ⟨L, hL⟩ : ∃ L, L = a.length + q + 1 := ⟨_, rfl⟩
    have hLi : (a.length : Int) + (q : Int) + 1 = (L : Int) := by omega
    have hL6 : L ≤ 200000 := by omega
    have HL := Lib.hid hL
    obtain ⟨i0, hi, hz0, hz1, hz2⟩ := info_parts info_w4
    clear h1 ha hp hq hL
    go_enter Tryd.func82, Tryd.ntmps82
    go_wp2_with (with_reducible refine wpList_make_full _ rfl (.tmp 28) (.tmp 28) 119 rfl w.heap.size 130 i0 (.int .u32 0) 1 under_nat hi hz0 hz1 .i64 .i64 _ _ L rfl rfl rfl rfl (by rw [hz2]; omega) (by unfold maxLen; omega) (Nat.le_refl _) ?_; intro w2 hown hg)
    have hst := (Below.refl w.heap.size w).grown hg (Nat.le_refl _) (fun k h => by simp at h)
    have hown2 := made_w hown
    obtain ⟨g, hg1⟩ : ∃ g, g = w.heap.size := ⟨_, rfl⟩
    have hgw := Lib.hid hg1
    rw [← hg1]
    rw [show OwnW w2 w.heap.size (.slice (some ⟨w.heap.size, 0, none⟩) L L) (List.replicate L 0) = OwnW w2 w.heap.size (.slice (some ⟨g, 0, none⟩) L L) (List.replicate L 0) by rw [hg1]] at hown2
    have hinit : List.replicate L 0 = List.replicate q 0 ++ 0 :: List.replicate a.length 0 := by
      rw [HL.out, show a.length + q + 1 = q + (a.length + 1) by omega, ← List.replicate_append_replicate, List.replicate_succ]
    rw [hinit] at hown2
    clear hown hg hi hz0 hz1 hz2 hg1 hinit hLi
    go_loopw [32] (fun i wr => plfRel w a q p g L i wr) (fun i _ => a.length - (intOf i).toNat)
    case atStart => exact ⟨0, List.replicate q 0, 0, Nat.zero_le _, rfl, hown2, by simp, words_zeros q, hp0, by simp [wval_zeros, wval], hst⟩
    case round =>
      as_aux_lemma =>
      obtain ⟨k, os, cy, hk, rfl, hown, hol, hok, hcy, hv, hb⟩ := hrel
      have HO := Lib.hid hown
      have HOL := Lib.hid hol
      have HOK := Lib.hid hok
      have HV := Lib.hid hv
      have HCY := Lib.hid hcy
      have hsz := hb.size
      have hlen := Lib.hid (show L = (os ++ cy :: List.replicate (a.length - k) 0).length by have := HL.out; simp; omega)
      clear hown hol hok hv hown2 hst hcy
      by_cases hlt : k < a.length
      · as_aux_lemma =>
        obtain ⟨u, hu⟩ : ∃ u, u = k + q := ⟨_, rfl⟩
        have huu : (k : Int) + (q : Int) = (u : Int) := by omega
        have HU := Lib.hid hu
        have huL : (u : Int) + 1 < (L : Int) := by have := HL.out; omega
        obtain ⟨b1, o1, x, rfl, q1, _, hx, g1'⟩ := H1.out.w32_ hlt
        have g1 := (hb.cell (p := ⟨b1, o1 + k, none⟩) (Nat.lt_of_lt_of_le q1 hm)).trans g1'
        have bx := HA.out x (List.mem_of_getElem? hx)
        have HX := Lib.hid (show a[k]?.getD 0 = x by rw [hx]; rfl)
        have hr31 : n % 32 ≤ 31 := by omega
        obtain ⟨t, ht⟩ : ∃ t, t = x * p := ⟨_, rfl⟩
        have htb : t < 9223372036854775808 := by
          rw [ht]
          have : x * p ≤ 4294967295 * 2147483648 := Nat.mul_le_mul (by omega) hp32
          omega
        have hT : IntKind.u64.wrap ((x : Int) * 2 ^ (n % 32)) = (t : Int) := by
          have e1 : (x : Int) * 2 ^ (n % 32) = ((x * 2 ^ (n % 32) : Nat) : Int) := by simp
          rw [e1, ← HP.out, ← ht, IntKind.wrap_u64]
          omega
        obtain ⟨lw, hlw⟩ : ∃ lw, lw = t % 4294967296 := ⟨_, rfl⟩
        have hlwi : (t : Int) % 4294967296 = (lw : Int) := by omega
        obtain ⟨c', hc'⟩ : ∃ c', c' = t / 4294967296 := ⟨_, rfl⟩
        have hci : (t : Int) / 4294967296 = (c' : Int) := by omega
        have hcb : c' < 4294967296 := by omega
        have hcp := lf_word HCY.out bx
        have hor := or_low32 (c := cy) (l := lw) (r := n % 32) (by rw [← HP.out]; exact HCY.out) (by omega) (by omega) (by rw [hlw, ht, HP.out]; exact pl_low (by omega))
        have hor1 := hor.1
        obtain ⟨z, hzn⟩ : ∃ z, z = cy + lw := ⟨_, rfl⟩
        rw [← hzn] at hor1
        have HZB := Lib.hid (show z < 4294967296 by rw [hzn]; exact hor.2)
        have HZ := Lib.hid (show z + 4294967296 * c' = cy + x * p by rw [hzn, hlw, hc', ← ht]; omega)
        have HCP := Lib.hid (show c' < p by
          have h5 := HZ.out
          have h6 := HZB.out
          have h7 : (cy + x * p) / 4294967296 = c' := by omega
          rw [← h7]
          exact hcp)
        have f1 : wr.cell? ⟨g, u, none⟩ = some (.int .u32 (cy : Int)) := HO.out.cellA (by rw [List.getElem?_append_right (by rw [HOL.out, hu]; omega), HOL.out, hu, show k + q - (q + k) = 0 by omega]; rfl)
        have f2 : ∀ j, wr.frozen? ⟨g, j, none⟩ = false := fun j => HO.out.freeA hlen.out j
        have f3 : wr.cell? ⟨g, u + 1, none⟩ = some (.int .u32 0) := by
          have := HO.out.cellA (j := u + 1) (z := 0) (by
            rw [List.getElem?_append_right (by rw [HOL.out, hu]; omega), HOL.out, hu, show k + q + 1 - (q + k) = 0 + 1 by omega, List.getElem?_cons_succ, List.getElem?_replicate, if_pos (by omega)])
          simpa using this
        have hgne : g < wr.heap.size := (World.ownsRow.lt HO.out g rfl).2
        have hbg : b1 ≠ g := by have := hgw.out; omega
        clear hx g1' ht hlw hc' hcp hor hzn hu
        go_wp2_with fail
        refine ⟨⟨k + 1, os ++ [z], c', by omega, by go_num, ?_, by rw [List.length_append, HOL.out]; rfl, words_push HOK.out HZB.out, HCP.out, lf_step HOL.out HX.out HV.out HZ.out, ?_⟩, by simp [intOf]; omega⟩
        · have h5 := ((HO.out.put hlen.out u z).put (by rw [List.length_set]; exact hlen.out) (u + 1) c')
          rw [two_sets (by rw [HOL.out, HU.out]; omega) (by omega), show a.length - k - 1 = a.length - (k + 1) by omega] at h5
          exact h5
        · exact (hb.setCell (by have := hgw.out; simp; omega) _).setCell (by have := hgw.out; simp; omega) _
      · as_aux_lemma =>
        have hkL : k = a.length := by omega
        have hle : ¬ (k : Int) < (a.length : Int) := by omega
        have hO := HO.out
        rw [hkL, Nat.sub_self, List.replicate_zero] at hO
        obtain ⟨ws, hws⟩ : ∃ ws, ws = os ++ [cy] := ⟨_, rfl⟩
        rw [← hws] at hO
        have hwl : ws.length = L := by rw [hws, List.length_append, HOL.out, HL.out, hkL]; simp; omega
        have hwok : wordsOk ws := by rw [hws]; exact words_push HOK.out (by have := HCY.out; omega)
        have hwv : wval ws = wval a * (4294967296 ^ q * p) := by
          have hv := HV.out
          rw [List.take_of_length_le (by omega)] at hv
          rw [hws, wval_append, HOL.out, ← hv]
          simp only [wval, Nat.mul_zero, Nat.add_zero]
        have hcall := ptrim_any (some ⟨g, 0, none⟩) ws ws.length wr.heap.size wr hO.cap_.2.2.2 (Nat.le_refl _) (by omega)
        have HGC := Lib.hid hO.cap_.2.2.2
        rw [hwl] at hcall
        have HCALL := Lib.hid hcall
        have HWO := Lib.hid hwok
        have HWV := Lib.hid hwv
        have HWL := Lib.hid hwl
        clear hkL hO hws hwl hwok hwv hcall
        go_wp2_with (go_at_call 113; refine HCALL.out.mono ?_; rintro e w3 ⟨rfl, rfl⟩)
        go_ret
        have hcan := trim_canon HWO.out
        rw [HWV.out] at hcan
        refine ⟨some ⟨g, 0, none⟩, L, by rw [hcan]; rfl, by simp, ?_, ?_, hb⟩
        · rw [← hcan, trimL_len]
          have := trimN_le ws ws.length
          have := HWL.out
          omega
        · rw [← hcan]
          exact HGC.out.takeW _
end Go.Proofs.YtjlocofimlgaoaaDoor
namespace Go.Proofs.YtjlocofimlgaoaaDoor
set_option linter.unusedVariables false
set_option linter.unusedSimpArgs false
set_option linter.unusedSectionVars false
open Go.RowKit

theorem append_types {P : Program} {t t2 e e2 : TypeId} (ht : P.underlying t = some (.slice e)) (ht2 : P.underlying t2 = some (.slice e2)) (ty : TypeId) (s x : Value) (w : World) :
    (Builtin.append_ #[t, t2] ty #[s, x]).run P w = (Builtin.append_ #[t, t] ty #[s, x]).run P w := by
  cases s with
  | slice base sl sc => simp [Builtin.append_, run_underlying ht, run_underlying ht2]
  | _ => simp [Builtin.append_, run_underlying ht]
/-- append of a nat's words to a slice of words that the call owns. -/
theorem app_nat {w : World} {ops : Array Oper} {rest : List Oper} {o : Oper} {a : Act} {Q : Exit → Act → World → Prop} (hgd : o.guard = none) (s x : Operand)
    (ho : o.op = .call { callee := .builtin .append, args := #[s, x], argTypes := #[35, 119] })
    (base : Nat) (v : Value) (xs ys : List Nat) (A : Option Addr) (c m : Nat) (hs : a.eval s = v) (hown : OwnW w base v xs) (hx : a.eval x = .slice A ys.length c) (hn : A = none → c = 0) (hc : CellsAt w m A (w32 ys))
    (hlen : xs.length + ys.length ≤ 1000000) (hbase : base ≤ w.heap.size)
    (h : ∀ v' w', OwnW w' base v' (xs ++ ys) → Below base w w' → wpList Tryd.prog ops Q rest (a.put o.dst v') w') : wpList Tryd.prog ops Q (o :: rest) a w := by
  obtain ⟨i0, hi, hz0, hz1, hz2⟩ := info_parts info_w
  rcases A with _ | ⟨b, off, l⟩
  · have hy : ys = [] := by
      rcases ys with _ | ⟨y, ys⟩
      · rfl
      · obtain ⟨b, off, hA, _⟩ := hc (by simp [w32])
        cases hA
    subst hy
    have hc0 := hn rfl
    subst hc0
    refine wpList_plain hgd fun K hK => ?_
    have hrun := run_append_owned_none (P := Tryd.prog) (w := w) base 35 o.type 130 i0 1 under_w hi v xs.length (w32 xs) hown
    rw [← append_types under_w under_nat] at hrun
    have hx' : a.eval x = .slice none 0 0 := hx
    unfold Oper.wp
    simp only [execOp, ho, resolve, invoke, builtin, Sem.run_bind, Sem.run_pure, Result.andThen_ok, List.map_toArray, List.map_cons, List.map_nil, hs, hx', hrun]
    exact hK _ _ (h v w (by rw [List.append_nil]; exact hown) (Below.refl _ _))
  · have hcell : ∀ j u, (w32 ys)[j]? = some u → w.cell? ((⟨b, off, l⟩ : Addr).add j) = some u := by
      intro j u hu
      obtain ⟨b', off', hA, _, _, hcc⟩ := hc (fun h0 => by rw [h0] at hu; simp at hu)
      cases hA
      have hu' := hcc j u hu
      rcases j with _ | j
      · simpa [Addr.add] using hu'
      · simpa [Addr.add] using hu'
    have hone : ∀ u ∈ w32 ys, u.oneCell' = true := by
      intro u hu
      obtain ⟨z, _, rfl⟩ := List.mem_map.1 hu
      rfl
    obtain ⟨v', w', hr, h2, h3, h4⟩ := run_append_own (P := Tryd.prog) w base 35 o.type 130 i0 (.int .u32 0) 1 4 under_w hi hz0 hz1 hz2 rfl (by decide) v xs.length (w32 xs) hown ⟨b, off, l⟩ ys.length c (w32 ys) (by simp [w32]) hcell hone (by unfold maxLen; omega) (by omega) hbase
    rw [← append_types under_w under_nat] at hr
    refine wpList_plain hgd fun K hK => ?_
    unfold Oper.wp
    simp only [execOp, ho, resolve, invoke, builtin, Sem.run_bind, Sem.run_pure, Result.andThen_ok, List.map_toArray, List.map_cons, List.map_nil, hs, hx, hr]
    refine hK _ _ (h v' w' ?_ ((Below.refl base w).grown h3 hbase (fun g hg => (World.ownsRow.lt hown g hg).1)))
    have e : w32 (xs ++ ys) = w32 xs ++ w32 ys := by simp [w32]
    unfold OwnW
    rw [e, List.length_append]
    exact h2

set_option maxRecDepth 100000 in
set_option maxHeartbeats 4000000 in
theorem compare_any (A B : Option Addr) (a b : Nat) (c1 c2 m : Nat) (w : World) (h1 : CellsAt w m A (w32 (canon a))) (h2 : CellsAt w m B (w32 (canon b))) (l1 : (canon a).length ≤ 100000) (l2 : (canon b).length ≤ 100000) :
    Calls Tryd.prog 76 #[.slice A (canon a).length c1, .slice B (canon b).length c2] w fun e w' => e = .returned (.int .i64 (sgI ((a : Int) - (b : Int)))) ∧ Below w.heap.size w w' := by
  have H1 := Lib.hid h1
  have H2 := Lib.hid h2
  clear h1 h2
  by_cases hl : (canon a).length = (canon b).length
  · have HL := Lib.hid hl
    have e1 : (((canon a).length : Int) != ((canon b).length : Int)) = false := by simp; omega
    clear hl
    go_enter Tryd.func76, Tryd.ntmps76
    go_wp2_with fail
    go_loopw [5] (fun i wr => lsRel w (canon a) (canon b) i wr) (fun i _ => (intOf i + 1).toNat)
    case atStart => exact ⟨(canon a).length, 0, Nat.le_refl _, rfl, by rw [List.drop_length, HL.out, List.drop_length], rfl⟩
    case round =>
      as_aux_lemma =>
      obtain ⟨k, nq, hk, rfl, hd, rfl⟩ := hrel
      have HD := Lib.hid hd
      clear hd
      by_cases h0 : k = 0
      · subst h0
        go_wp2_with fail
        go_ret
        refine ⟨?_, below_drewN (Below.refl _ _) _⟩
        have := HD.out
        simp at this
        have hab : a = b := by rw [← wval_canon a, ← wval_canon b, this]
        subst hab
        have : sgI ((a : Int) - (a : Int)) = 0 := by rw [Int.sub_self]; rfl
        rw [this]
        rfl
      · obtain ⟨j, rfl⟩ := Nat.exists_eq_succ_of_ne_zero h0
        obtain ⟨b1, o1, x, rfl, _, _, hx, g1⟩ := H1.out.w32_ (k := j) (by omega)
        obtain ⟨b2, o2, y, rfl, _, _, hy, g2⟩ := H2.out.w32_ (k := j) (by have := HL.out; omega)
        have HX := Lib.hid hx
        have HY := Lib.hid hy
        have hj : ((j.succ : Nat) : Int) - 1 = (j : Int) := by omega
        have hja : (j : Int) < ((canon a).length : Int) := by omega
        have hjb : (j : Int) < ((canon b).length : Int) := by have := HL.out; omega
        rw [hj]
        clear hx hy h0
        by_cases hxy : x = y
        · subst hxy
          have e2 : ((x : Int) != (x : Int)) = false := by simp
          go_wp2_with fail
          go_quiet (fail)
          go_wp2_with fail
          exact ⟨⟨j, _, by omega, by go_num, drop_step HX.out HY.out HD.out, rfl⟩, by simp [intOf]; try omega⟩
        · have e2 : ((x : Int) != (y : Int)) = true := by simp; omega
          have hla := less_at (canon_ok a) (canon_ok b) HX.out HY.out HD.out hxy
          rw [wval_canon, wval_canon] at hla
          by_cases hlt : x < y
          · have e3 : decide ((x : Int) < (y : Int)) = true := decide_eq_true (by omega)
            have hab : a < b := by rw [decide_eq_true hlt] at hla; simpa using hla
            have HV := Lib.hid (show sgI ((a : Int) - (b : Int)) = -1 by unfold sgI; rw [if_neg (by omega), if_pos (by omega)])
            clear hla hab hxy
            go_wp2_with fail
            go_quiet (fail)
            go_wp2_with fail
            go_quiet (fail)
            go_wp2_with fail
            go_ret
            exact ⟨by rw [HV.out]; rfl, by repeat (first | exact Below.refl _ _ | refine ext_drewN ?_ _)⟩
          · have e3 : decide ((x : Int) < (y : Int)) = false := decide_eq_false (by omega)
            have hab : ¬ a < b := by rw [decide_eq_false hlt] at hla; simpa using hla
            have hba : b < a := by
              rcases Nat.lt_or_ge b a with h | h
              · exact h
              · exfalso
                have : a = b := by omega
                subst this
                have := HX.out.symm.trans HY.out
                simp at this
                exact hxy this
            have HV := Lib.hid (show sgI ((a : Int) - (b : Int)) = 1 by unfold sgI; rw [if_neg (by omega), if_neg (by omega)])
            clear hla hab hba hxy
            go_wp2_with fail
            go_quiet (fail)
            go_wp2_with fail
            go_quiet (fail)
            go_wp2_with fail
            go_ret
            exact ⟨by rw [HV.out]; rfl, by repeat (first | exact Below.refl _ _ | refine ext_drewN ?_ _)⟩
  · have e1 : (((canon a).length : Int) != ((canon b).length : Int)) = true := by simp; omega
    by_cases hlt : (canon a).length < (canon b).length
    · have hli : ((canon a).length : Int) < ((canon b).length : Int) := by omega
      have hab : a < b := by
        rcases Nat.lt_or_ge a b with h | h
        · exact h
        · have := canon_len_mono h; omega
      have HV := Lib.hid (show sgI ((a : Int) - (b : Int)) = -1 by unfold sgI; rw [if_neg (by omega), if_pos (by omega)])
      clear hab hl hlt
      go_enter Tryd.func76, Tryd.ntmps76
      go_wp2_with fail
      go_ret
      exact ⟨by rw [HV.out]; rfl, Below.refl _ _⟩
    · have hli : ¬ ((canon a).length : Int) < ((canon b).length : Int) := by omega
      have hab : b < a := by
        rcases Nat.lt_or_ge b a with h | h
        · exact h
        · have := canon_len_mono h; omega
      have HV := Lib.hid (show sgI ((a : Int) - (b : Int)) = 1 by unfold sgI; rw [if_neg (by omega), if_neg (by omega)])
      clear hab hl hlt
      go_enter Tryd.func76, Tryd.ntmps76
      go_wp2_with fail
      go_ret
      exact ⟨by rw [HV.out]; rfl, Below.refl _ _⟩
end Go.Proofs.YtjlocofimlgaoaaDoor
