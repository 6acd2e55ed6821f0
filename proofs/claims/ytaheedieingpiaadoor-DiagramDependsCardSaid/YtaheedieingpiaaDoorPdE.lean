/- The program's numbers: left. No conditions. -/
import Derived.Test.YtaheedieingpiaaDoorPdD
namespace Go.Proofs.YtaheedieingpiaaDoor
set_option linter.unusedVariables false
set_option linter.unusedSimpArgs false
set_option linter.unusedSectionVars false
open Go.RowKit

theorem or_low32 {c l r : Nat} (hc : c < 2 ^ r) (hl : l < 4294967296) (hr : r ≤ 32) (hd : l % 2 ^ r = 0) : bits .or .u32 (c : Int) (l : Int) = ((c + l : Nat) : Int) ∧ c + l < 4294967296 := by
  have hp := Nat.two_pow_pos r
  have e0 := Nat.div_add_mod l (2 ^ r)
  rw [hd, Nat.add_zero] at e0
  have h32 : 2 ^ r * 2 ^ (32 - r) = 4294967296 := by rw [← Nat.pow_add, show r + (32 - r) = 32 by omega]
  have hq : l / 2 ^ r < 2 ^ (32 - r) := (Nat.div_lt_iff_lt_mul hp).2 (by rw [Nat.mul_comm]; omega)
  have hs : c + l < 4294967296 := by
    have h1 : 2 ^ r * (l / 2 ^ r + 1) ≤ 2 ^ r * 2 ^ (32 - r) := Nat.mul_le_mul_left _ hq
    rw [h32, Nat.mul_add, e0] at h1
    omega
  refine ⟨?_, hs⟩
  have hc32 : c < 4294967296 := by omega
  rw [(bits_nat .u32 32 (by decide) (fun n h0 h1 => by rw [IntKind.wrap_u32]; omega) c l (by omega) (by omega)).2]
  have h := Nat.two_pow_add_eq_or_of_lt hc (l / 2 ^ r)
  rw [e0] at h
  rw [Nat.or_comm, ← h, Nat.add_comm]
theorem pl_low {x r : Nat} (hr : r ≤ 32) : (x * 2 ^ r) % 4294967296 % 2 ^ r = 0 := by
  have h32 : (4294967296 : Nat) = 2 ^ r * 2 ^ (32 - r) := by rw [← Nat.pow_add, show r + (32 - r) = 32 by omega]
  rw [h32, Nat.mod_mul_right_mod, Nat.mul_mod_left]
theorem two_sets {pre : List Nat} {u m z c' cy : Nat} (hu : pre.length = u) (hm : 0 < m) : ((pre ++ cy :: List.replicate m 0).set u z).set (u + 1) c' = (pre ++ [z]) ++ c' :: List.replicate (m - 1) 0 := by
  subst hu
  obtain ⟨j, rfl⟩ : ∃ j, m = j + 1 := ⟨m - 1, by omega⟩
  simp [List.set_append, List.replicate_succ]
def plfRel (w : World) (a : List Nat) (q p g L : Nat) (i : Value) (wr : World) : Prop :=
  ∃ (k : Nat) (os : List Nat) (cy : Nat), k ≤ a.length ∧ i = .int .i64 (k : Int) ∧ OwnW wr w.heap.size (.slice (some ⟨g, 0, none⟩) L L) (os ++ cy :: List.replicate (a.length - k) 0) ∧ os.length = q + k ∧ wordsOk os ∧ cy < p ∧
    wval os + 4294967296 ^ (q + k) * cy = wval (a.take k) * (4294967296 ^ q * p) ∧ Below w.heap.size w wr
set_option maxRecDepth 100000 in
set_option maxHeartbeats 8000000 in
theorem pleft_any (A : Option Addr) (n0 : Nat) (c n m : Nat) (w : World) (hm : m ≤ w.heap.size) (h1 : CellsAt w m A (w32 (canon n0))) (hcc : A = none → c = 0) (hcap : (canon n0).length ≤ c) (l1 : (canon n0).length ≤ 100000) (hn : n ≤ 1000000) :
    Calls Tryd.prog 56 #[.slice A (canon n0).length c, .int .i64 (n : Int)] w fun e w' =>
      ∃ G g, e = .returned (.slice G (canon (n0 * 2 ^ n)).length g) ∧ (G = none → g = 0) ∧ (canon (n0 * 2 ^ n)).length ≤ g ∧ CellsAt w' w'.heap.size G (w32 (canon (n0 * 2 ^ n))) ∧ Below w.heap.size w w' := by
  by_cases hz : n = 0 ∨ (canon n0).length = 0
  · have he : canon (n0 * 2 ^ n) = canon n0 := by
      rcases hz with h | h
      · rw [h]; simp
      · have : n0 = 0 := by
          rcases Nat.eq_zero_or_pos n0 with h2 | h2
          · exact h2
          · have := canon_ne (n := n0) (by omega); omega
        rw [this]; simp
    have HE := Lib.hid he
    have H1 := Lib.hid h1
    clear he h1
    by_cases hn0 : n = 0
    · subst hn0
      clear hz
      go_enter Tryd.func56, Tryd.ntmps56
      go_wp2_with fail
      go_ret
      exact ⟨A, c, by rw [HE.out]; rfl, hcc, by rw [HE.out]; exact hcap, by rw [HE.out]; exact H1.out.more hm, Below.refl _ _⟩
    · have hlz : (((canon n0).length : Nat) : Int) = 0 := by rcases hz with h | h <;> omega
      have hlb : ((((canon n0).length : Nat) : Int) == 0) = true := by rw [hlz]; rfl
      have hnb : ((n : Int) == 0) = false := by rw [beq_eq_false_iff_ne]; omega
      have HLZ := Lib.hid hlz
      clear hz hlz
      go_enter Tryd.func56, Tryd.ntmps56
      go_wp2_with fail
      go_ret
      exact ⟨A, c, by rw [HE.out]; rfl, hcc, by rw [HE.out]; exact hcap, by rw [HE.out]; exact H1.out.more hm, Below.refl _ _⟩
  · obtain ⟨a, ha'⟩ : ∃ a, a = canon n0 := ⟨_, rfl⟩
    have ha : wordsOk a := by rw [ha']; exact canon_ok n0
    have hv0 : wval a = n0 := by rw [ha', wval_canon]
    rw [← ha'] at h1 hcap l1 hz ⊢
    rw [← hv0]
    have hlb : (((a.length : Nat) : Int) == 0) = false := by rw [beq_eq_false_iff_ne]; omega
    have hnb : ((n : Int) == 0) = false := by rw [beq_eq_false_iff_ne]; omega
    clear hv0 ha' hz
    rw [pow_split n]
    obtain ⟨q, hq⟩ : ∃ q, q = n / 32 := ⟨_, rfl⟩
    obtain ⟨p, hp⟩ : ∃ p, p = 2 ^ (n % 32) := ⟨_, rfl⟩
    have hp0 : 0 < p := by rw [hp]; exact Nat.two_pow_pos _
    have hp32 : p ≤ 2147483648 := by
      rw [hp]
      exact Nat.pow_le_pow_right (n := 2) (by decide) (show n % 32 ≤ 31 by omega)
    rw [← hq, ← hp]
    have HP := Lib.hid hp
    have H1 := Lib.hid h1
    have HA := Lib.hid ha
    have hqi : (n : Int) / 32 = (q : Int) := by omega
    have hq6 : q ≤ 31250 := by omega
    obtain ⟨L, hL⟩ : ∃ L, L = a.length + q + 1 := ⟨_, rfl⟩
    have hLi : (a.length : Int) + (q : Int) + 1 = (L : Int) := by omega
    have hL6 : L ≤ 200000 := by omega
    have HL := Lib.hid hL
    obtain ⟨i0, hi, hz0, hz1, hz2⟩ := info_parts info_w4
    clear h1 ha hp hq hL
    go_enter Tryd.func56, Tryd.ntmps56
    go_wp2_with (with_reducible refine wpList_make_full _ rfl (.tmp 28) (.tmp 28) 79 rfl w.heap.size 88 i0 (.int .u32 0) 1 under_nat hi hz0 hz1 .i64 .i64 _ _ L rfl rfl rfl rfl (by rw [hz2]; omega) (by unfold maxLen; omega) (Nat.le_refl _) ?_; intro w2 hown hg)
    have hst := (Below.refl w.heap.size w).grown hg (Nat.le_refl _) (fun k h => by simp at h)
    have hown2 := made_w hown
    obtain ⟨g, hg1⟩ : ∃ g, g = w.heap.size := ⟨_, rfl⟩
    have hgw := Lib.hid hg1
    rw [← hg1]
    rw [show OwnW w2 w.heap.size (.slice (some ⟨w.heap.size, 0, none⟩) L L) (List.replicate L 0) = OwnW w2 w.heap.size (.slice (some ⟨g, 0, none⟩) L L) (List.replicate L 0) by rw [hg1]] at hown2
    have hinit : List.replicate L 0 = List.replicate q 0 ++ 0 :: List.replicate a.length 0 := by
      rw [HL.out, show a.length + q + 1 = q + (a.length + 1) by omega, ← List.replicate_append_replicate, List.replicate_succ]
    rw [hinit] at hown2
    clear hown hg hi hz0 hz1 hz2 hg1 hinit hLi
    go_loopw [32] (fun i wr => plfRel w a q p g L i wr) (fun i _ => a.length - (intOf i).toNat)
    case atStart => exact ⟨0, List.replicate q 0, 0, Nat.zero_le _, rfl, hown2, by simp, words_zeros q, hp0, by simp [wval_zeros, wval], hst⟩
    case round =>
      as_aux_lemma =>
      obtain ⟨k, os, cy, hk, rfl, hown, hol, hok, hcy, hv, hb⟩ := hrel
      have HO := Lib.hid hown
      have HOL := Lib.hid hol
      have HOK := Lib.hid hok
      have HV := Lib.hid hv
      have HCY := Lib.hid hcy
      have hsz := hb.size
      have hlen := Lib.hid (show L = (os ++ cy :: List.replicate (a.length - k) 0).length by have := HL.out; simp; omega)
      clear hown hol hok hv hown2 hst hcy
      by_cases hlt : k < a.length
      · as_aux_lemma =>
        obtain ⟨u, hu⟩ : ∃ u, u = k + q := ⟨_, rfl⟩
        have huu : (k : Int) + (q : Int) = (u : Int) := by omega
        have HU := Lib.hid hu
        have huL : (u : Int) + 1 < (L : Int) := by have := HL.out; omega
        obtain ⟨b1, o1, x, rfl, q1, _, hx, g1'⟩ := H1.out.w32_ hlt
        have g1 := (hb.cell (p := ⟨b1, o1 + k, none⟩) (Nat.lt_of_lt_of_le q1 hm)).trans g1'
        have bx := HA.out x (List.mem_of_getElem? hx)
        have HX := Lib.hid (show a[k]?.getD 0 = x by rw [hx]; rfl)
        have hr31 : n % 32 ≤ 31 := by omega
        obtain ⟨t, ht⟩ : ∃ t, t = x * p := ⟨_, rfl⟩
        have htb : t < 9223372036854775808 := by
          rw [ht]
          have : x * p ≤ 4294967295 * 2147483648 := Nat.mul_le_mul (by omega) hp32
          omega
        have hT : IntKind.u64.wrap ((x : Int) * 2 ^ (n % 32)) = (t : Int) := by
          have e1 : (x : Int) * 2 ^ (n % 32) = ((x * 2 ^ (n % 32) : Nat) : Int) := by simp
          rw [e1, ← HP.out, ← ht, IntKind.wrap_u64]
          omega
        obtain ⟨lw, hlw⟩ : ∃ lw, lw = t % 4294967296 := ⟨_, rfl⟩
        have hlwi : (t : Int) % 4294967296 = (lw : Int) := by omega
        obtain ⟨c', hc'⟩ : ∃ c', c' = t / 4294967296 := ⟨_, rfl⟩
        have hci : (t : Int) / 4294967296 = (c' : Int) := by omega
        have hcb : c' < 4294967296 := by omega
        have hcp := lf_word HCY.out bx
        have hor := or_low32 (c := cy) (l := lw) (r := n % 32) (by rw [← HP.out]; exact HCY.out) (by omega) (by omega) (by rw [hlw, ht, HP.out]; exact pl_low (by omega))
        have hor1 := hor.1
        obtain ⟨z, hzn⟩ : ∃ z, z = cy + lw := ⟨_, rfl⟩
        rw [← hzn] at hor1
        have HZB := Lib.hid (show z < 4294967296 by rw [hzn]; exact hor.2)
        have HZ := Lib.hid (show z + 4294967296 * c' = cy + x * p by rw [hzn, hlw, hc', ← ht]; omega)
        have HCP := Lib.hid (show c' < p by
          have h5 := HZ.out
          have h6 := HZB.out
          have h7 : (cy + x * p) / 4294967296 = c' := by omega
          rw [← h7]
          exact hcp)
        have f1 : wr.cell? ⟨g, u, none⟩ = some (.int .u32 (cy : Int)) := HO.out.cellA (by rw [List.getElem?_append_right (by rw [HOL.out, hu]; omega), HOL.out, hu, show k + q - (q + k) = 0 by omega]; rfl)
        have f2 : ∀ j, wr.frozen? ⟨g, j, none⟩ = false := fun j => HO.out.freeA hlen.out j
        have f3 : wr.cell? ⟨g, u + 1, none⟩ = some (.int .u32 0) := by
          have := HO.out.cellA (j := u + 1) (z := 0) (by
            rw [List.getElem?_append_right (by rw [HOL.out, hu]; omega), HOL.out, hu, show k + q + 1 - (q + k) = 0 + 1 by omega, List.getElem?_cons_succ, List.getElem?_replicate, if_pos (by omega)])
          simpa using this
        have hgne : g < wr.heap.size := (World.ownsRow.lt HO.out g rfl).2
        have hbg : b1 ≠ g := by have := hgw.out; omega
        clear hx g1' ht hlw hc' hcp hor hzn hu
        go_wp2_with fail
        refine ⟨⟨k + 1, os ++ [z], c', by omega, by go_num, ?_, by rw [List.length_append, HOL.out]; rfl, words_push HOK.out HZB.out, HCP.out, lf_step HOL.out HX.out HV.out HZ.out, ?_⟩, by simp [intOf]; omega⟩
        · have h5 := ((HO.out.put hlen.out u z).put (by rw [List.length_set]; exact hlen.out) (u + 1) c')
          rw [two_sets (by rw [HOL.out, HU.out]; omega) (by omega), show a.length - k - 1 = a.length - (k + 1) by omega] at h5
          exact h5
        · exact (hb.setCell (by have := hgw.out; simp; omega) _).setCell (by have := hgw.out; simp; omega) _
      · as_aux_lemma =>
        have hkL : k = a.length := by omega
        have hle : ¬ (k : Int) < (a.length : Int) := by omega
        have hO := HO.out
        rw [hkL, Nat.sub_self, List.replicate_zero] at hO
        obtain ⟨ws, hws⟩ : ∃ ws, ws = os ++ [cy] := ⟨_, rfl⟩
        rw [← hws] at hO
        have hwl : ws.length = L := by rw [hws, List.length_append, HOL.out, HL.out, hkL]; simp; omega
        have hwok : wordsOk ws := by rw [hws]; exact words_push HOK.out (by have := HCY.out; omega)
        have hwv : wval ws = wval a * (4294967296 ^ q * p) := by
          have hv := HV.out
          rw [List.take_of_length_le (by omega)] at hv
          rw [hws, wval_append, HOL.out, ← hv]
          simp only [wval, Nat.mul_zero, Nat.add_zero]
        have hcall := ptrim_any (some ⟨g, 0, none⟩) ws ws.length wr.heap.size wr hO.cap_.2.2.2 (Nat.le_refl _) (by omega)
        have HGC := Lib.hid hO.cap_.2.2.2
        rw [hwl] at hcall
        have HCALL := Lib.hid hcall
        have HWO := Lib.hid hwok
        have HWV := Lib.hid hwv
        have HWL := Lib.hid hwl
        clear hkL hO hws hwl hwok hwv hcall
        go_wp2_with (go_at_call 60; refine HCALL.out.mono ?_; rintro e w3 ⟨rfl, rfl⟩)
        go_ret
        have hcan := trim_canon HWO.out
        rw [HWV.out] at hcan
        refine ⟨some ⟨g, 0, none⟩, L, by rw [hcan]; rfl, by simp, ?_, ?_, hb⟩
        · rw [← hcan, trimL_len]
          have := trimN_le ws ws.length
          have := HWL.out
          omega
        · rw [← hcan]
          exact HGC.out.takeW _
end Go.Proofs.YtaheedieingpiaaDoor
