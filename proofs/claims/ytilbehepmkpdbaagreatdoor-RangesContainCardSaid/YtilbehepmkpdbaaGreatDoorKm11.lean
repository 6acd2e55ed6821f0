/- What the proofs of this claim share, part 11. No conditions. -/
import Derived.Test.YtilbehepmkpdbaaGreatDoorKm9
import Derived.Test.YtilbehepmkpdbaaGreatDoorKm5
import Derived.Test.YtilbehepmkpdbaaGreatDoorKm10
set_option maxHeartbeats 8000000
set_option maxRecDepth 100000
set_option linter.unusedVariables false
set_option linter.unusedSimpArgs false
set_option linter.unusedSectionVars false
namespace Go.Proofs.YtilbehepmkpdbaaGreatDoor
open Go.RowKit
theorem trim_any (A : Option Addr) (ws : List Nat) (c m : Nat) (w : World) (h : CellsAt w m A (w32 ws)) (hc : ws.length ≤ c) (hl : ws.length ≤ 1000000) :
    Calls Tryz.prog 133 #[.slice A ws.length c] w fun e w' => e = .returned (.slice A (trimL ws).length c) ∧ w = w' := by
  have H := Lib.hid h
  clear h
  go_enter Tryz.func133, Tryz.ntmps133
  go_wp2_with fail
  go_loopw [3] (fun i wr => trRel w ws i wr) (fun i _ => (intOf i).toNat)
  case atStart => exact ⟨ws.length, Nat.le_refl _, rfl, rfl, rfl⟩
  case round =>
    obtain ⟨k, hk, rfl, ht, rfl⟩ := hrel
    have HT := Lib.hid ht
    clear ht
    by_cases h0 : k = 0
    · subst h0
      go_wp2_with fail
      go_ret
      refine ⟨?_, rfl⟩
      rw [trimL_len, ← HT.out]
      rfl
    · obtain ⟨j, rfl⟩ := Nat.exists_eq_succ_of_ne_zero h0
      obtain ⟨b, off, z, rfl, hbm, hbs, hx, hcc⟩ := H.out.w32_ (k := j) (by omega)
      have HX := Lib.hid hx
      clear hx
      by_cases hz : z = 0
      · subst hz
        go_wp2_with fail
        have e1 : trimN ws j = trimN ws ws.length := by
          rw [← HT.out]
          show trimN ws j = if ws[j]?.getD 0 = 0 then trimN ws j else j + 1
          rw [if_pos (by rw [HX.out]; rfl)]
        exact ⟨⟨j, by omega, by go_num, e1, rfl⟩, by simp [intOf]; try omega⟩
      · have hz' : ((z : Int) == 0) = false := by simp; omega
        go_wp2_with fail
        go_ret
        refine ⟨?_, rfl⟩
        have e1 : j + 1 = trimN ws ws.length := by
          rw [← HT.out]
          show j + 1 = if ws[j]?.getD 0 = 0 then trimN ws j else j + 1
          rw [if_neg (by rw [HX.out]; exact hz)]
        rw [trimL_len, ← e1]
        rfl
theorem plus_any (A B : Option Addr) (a b : List Nat) (c1 c2 m : Nat) (w : World) (hm : m ≤ w.heap.size) (h1 : CellsAt w m A (w32 a)) (h2 : CellsAt w m B (w32 b)) (ha : wordsOk a) (hb : wordsOk b) (l1 : a.length ≤ 100000) (l2 : b.length ≤ 100000) :
    Calls Tryz.prog 85 #[.slice A a.length c1, .slice B b.length c2] w fun e w' =>
      ∃ G g, e = .returned (.slice G (canon (wval a + wval b)).length g) ∧ (G = none → g = 0) ∧ (canon (wval a + wval b)).length ≤ g ∧ CellsAt w' w'.heap.size G (w32 (canon (wval a + wval b))) ∧ Below w.heap.size w w' := by
  have H1 := Lib.hid h1
  have H2 := Lib.hid h2
  have HA := Lib.hid ha
  have HB := Lib.hid hb
  clear h1 h2 ha hb
  go_enter Tryz.func85, Tryz.ntmps85
  go_wp2_with fail
  go_loopw [5, 6, 7] (fun v cv i wr => plRel w a b v cv i wr) (fun _ _ i _ => max a.length b.length - (intOf i).toNat)
  case atStart => exact ⟨0, [], 0, Nat.zero_le _, rfl, rfl, OwnW.nil_ _ _, rfl, by simp [wordsOk], by omega, by simp [wval], Below.refl _ _⟩
  case round =>
    as_aux_lemma =>
    obtain ⟨k, os, cy, hk, rfl, rfl, hown, hol, hok, hcy, hv, hb⟩ := hrel
    have HO := Lib.hid hown
    have HOL := Lib.hid hol
    have HOK := Lib.hid hok
    have HV := Lib.hid hv
    clear hown hol hok hv
    have hmax : max (a.length : Int) (b.length : Int) = ((max a.length b.length : Nat) : Int) := by omega
    have hsz := hb.size
    by_cases hlt : k < max a.length b.length
    · by_cases ka : k < a.length
      · by_cases kb : k < b.length
        · as_aux_lemma =>
          obtain ⟨b1, o1, x, rfl, q1, _, hx, g1'⟩ := H1.out.w32_ ka
          have g1 := (hb.cell (p := ⟨b1, o1 + k, none⟩) (Nat.lt_of_lt_of_le q1 hm)).trans g1'
          have bx := HA.out x (List.mem_of_getElem? hx)
          have HX := Lib.hid (show a[k]?.getD 0 = x by rw [hx]; rfl)
          have ka' : (k : Int) < (a.length : Int) := by omega
          clear hx g1'
          obtain ⟨b2, o2, y, rfl, q2, _, hy, g2'⟩ := H2.out.w32_ kb
          have g2 := (hb.cell (p := ⟨b2, o2 + k, none⟩) (Nat.lt_of_lt_of_le q2 hm)).trans g2'
          have by' := HB.out y (List.mem_of_getElem? hy)
          have HY := Lib.hid (show b[k]?.getD 0 = y by rw [hy]; rfl)
          have kb' : (k : Int) < (b.length : Int) := by omega
          clear hy g2'
          obtain ⟨z, hz⟩ : ∃ z : Nat, ((cy : Int) + (x : Int) + (y : Int)) % 4294967296 = (z : Int) := ⟨((cy + x + y) % 4294967296 : Nat), by omega⟩
          obtain ⟨c', hc'⟩ : ∃ c' : Nat, ((cy : Int) + (x : Int) + (y : Int)) / 4294967296 = (c' : Int) := ⟨((cy + x + y) / 4294967296 : Nat), by omega⟩
          have HZ := Lib.hid (show z + 4294967296 * c' = cy + x + y by omega)
          have hzb : z < 4294967296 := by omega
          have hcb := Lib.hid (show c' ≤ 1 by omega)
          clear ka kb
          go_wp2_with (at_builtin; refine push_w rfl _ _ rfl w.heap.size _ os z wr.heap.size rfl (HO.out.alloc _) rfl (by simp [go_sem]) (by have := HOL.out; omega) (by simp; omega) ?_; intro v' w2 hown2 hg2 hb2)
          exact ⟨⟨k + 1, os ++ [z], c', by omega, by go_num, rfl, hown2, by rw [List.length_append, HOL.out]; rfl, words_push HOK.out hzb, hcb.out, (pl_step HOL.out HX.out HY.out HV.out HZ.out), hb.trans ((((Below.refl _ wr).alloc (Nat.le_refl _) _).mono hb.size).trans hb2)⟩, by simp [intOf]; omega⟩
        · as_aux_lemma =>
          obtain ⟨b1, o1, x, rfl, q1, _, hx, g1'⟩ := H1.out.w32_ ka
          have g1 := (hb.cell (p := ⟨b1, o1 + k, none⟩) (Nat.lt_of_lt_of_le q1 hm)).trans g1'
          have bx := HA.out x (List.mem_of_getElem? hx)
          have HX := Lib.hid (show a[k]?.getD 0 = x by rw [hx]; rfl)
          have ka' : (k : Int) < (a.length : Int) := by omega
          clear hx g1'
          have HY := Lib.hid (show b[k]?.getD 0 = 0 by rw [List.getElem?_eq_none (by omega)]; rfl)
          have kb' : ¬ (k : Int) < (b.length : Int) := by omega
          have kb2 : decide ((k : Int) < (b.length : Int)) = false := decide_eq_false kb'
          obtain ⟨z, hz⟩ : ∃ z : Nat, ((cy : Int) + (x : Int)) % 4294967296 = (z : Int) := ⟨((cy + x) % 4294967296 : Nat), by omega⟩
          obtain ⟨c', hc'⟩ : ∃ c' : Nat, ((cy : Int) + (x : Int)) / 4294967296 = (c' : Int) := ⟨((cy + x) / 4294967296 : Nat), by omega⟩
          have HZ := Lib.hid (show z + 4294967296 * c' = cy + x by omega)
          have hzb : z < 4294967296 := by omega
          have hcb := Lib.hid (show c' ≤ 1 by omega)
          clear ka kb
          go_wp2_with (at_builtin; refine push_w rfl _ _ rfl w.heap.size _ os z wr.heap.size rfl (HO.out.alloc _) rfl (by simp [go_sem]) (by have := HOL.out; omega) (by simp; omega) ?_; intro v' w2 hown2 hg2 hb2)
          exact ⟨⟨k + 1, os ++ [z], c', by omega, by go_num, rfl, hown2, by rw [List.length_append, HOL.out]; rfl, words_push HOK.out hzb, hcb.out, (pl_step HOL.out HX.out HY.out HV.out (by have := HZ.out; omega)), hb.trans ((((Below.refl _ wr).alloc (Nat.le_refl _) _).mono hb.size).trans hb2)⟩, by simp [intOf]; omega⟩
      · have kb : k < b.length := by omega
        have HX := Lib.hid (show a[k]?.getD 0 = 0 by rw [List.getElem?_eq_none (by omega)]; rfl)
        have ka' : ¬ (k : Int) < (a.length : Int) := by omega
        have ka2 : decide ((k : Int) < (a.length : Int)) = false := decide_eq_false ka'
        obtain ⟨b2, o2, y, rfl, q2, _, hy, g2'⟩ := H2.out.w32_ kb
        have g2 := (hb.cell (p := ⟨b2, o2 + k, none⟩) (Nat.lt_of_lt_of_le q2 hm)).trans g2'
        have by' := HB.out y (List.mem_of_getElem? hy)
        have HY := Lib.hid (show b[k]?.getD 0 = y by rw [hy]; rfl)
        have kb' : (k : Int) < (b.length : Int) := by omega
        clear hy g2'
        obtain ⟨z, hz⟩ : ∃ z : Nat, ((cy : Int) + (y : Int)) % 4294967296 = (z : Int) := ⟨((cy + y) % 4294967296 : Nat), by omega⟩
        obtain ⟨c', hc'⟩ : ∃ c' : Nat, ((cy : Int) + (y : Int)) / 4294967296 = (c' : Int) := ⟨((cy + y) / 4294967296 : Nat), by omega⟩
        have HZ := Lib.hid (show z + 4294967296 * c' = cy + y by omega)
        have hzb : z < 4294967296 := by omega
        have hcb := Lib.hid (show c' ≤ 1 by omega)
        clear ka kb
        go_wp2_with (at_builtin; refine push_w rfl _ _ rfl w.heap.size _ os z wr.heap.size rfl (HO.out.alloc _) rfl (by simp [go_sem]) (by have := HOL.out; omega) (by simp; omega) ?_; intro v' w2 hown2 hg2 hb2)
        exact ⟨⟨k + 1, os ++ [z], c', by omega, by go_num, rfl, hown2, by rw [List.length_append, HOL.out]; rfl, words_push HOK.out hzb, hcb.out, (pl_step HOL.out HX.out HY.out HV.out (by have := HZ.out; omega)), hb.trans ((((Below.refl _ wr).alloc (Nat.le_refl _) _).mono hb.size).trans hb2)⟩, by simp [intOf]; omega⟩
    · as_aux_lemma =>
      have hle : ¬ (k : Int) < ((max a.length b.length : Nat) : Int) := by omega
      have hke : k = max a.length b.length := by omega
      have hka : a.length ≤ k := by omega
      have hkb : b.length ≤ k := by omega
      have hcy32 : cy < 4294967296 := by omega
      obtain ⟨ws, hws⟩ : ∃ ws, ws = os ++ [cy] := ⟨_, rfl⟩
      have hwok : wordsOk ws := by rw [hws]; exact words_push HOK.out hcy32
      have hwl : ws.length = k + 1 := by rw [hws, List.length_append, HOL.out]; rfl
      have hwv : wval ws = wval a + wval b := by
        have hv := HV.out
        rw [List.take_of_length_le hka, List.take_of_length_le hkb] at hv
        rw [hws, wval_append, HOL.out, ← hv]
        simp only [wval, Nat.mul_zero, Nat.add_zero]
      have hl6 : ws.length ≤ 1000000 := by omega
      have HWS := Lib.hid hws
      have HWO := Lib.hid hwok
      have HWV := Lib.hid hwv
      clear hws hwok hwv hmax hke hka hkb hwl hlt
      have hmax : max (a.length : Int) (b.length : Int) = ((max a.length b.length : Nat) : Int) := by omega
      go_wp2_with (first
        | (go_at_call 133; refine (trim_any G ws g w2.heap.size w2 hGc hgc hl6).mono ?_; rintro e w3 ⟨rfl, rfl⟩)
        | (at_builtin; refine push_w rfl _ _ rfl w.heap.size _ os cy wr.heap.size rfl (HO.out.alloc _) rfl (by simp [go_sem]) (by have := HOL.out; omega) (by simp; omega) ?_; intro v' w2 hown2 hg2 hb2; rw [← HWS.out] at hown2; obtain ⟨G, g, rfl, hGn, hGc⟩ := hown2.view; obtain ⟨_, hgc, _, _⟩ := hown2.cap_))
      go_ret
      have hcan := trim_canon HWO.out
      rw [HWV.out] at hcan
      refine ⟨G, g, by rw [hcan]; rfl, hGn, ?_, ?_, hb.trans ((((Below.refl _ wr).alloc (Nat.le_refl _) _).mono hb.size).trans hb2)⟩
      · rw [← hcan, trimL_len]
        have := trimN_le ws ws.length
        omega
      · rw [← hcan]
        exact hGc.takeW _
theorem less_any (A B : Option Addr) (a b : List Nat) (c1 c2 m : Nat) (w : World) (h1 : CellsAt w m A (w32 a)) (h2 : CellsAt w m B (w32 b)) (ha : wordsOk a) (hb : wordsOk b) (l1 : a.length ≤ 100000) (l2 : b.length ≤ 100000) :
    Calls Tryz.prog 86 #[.slice A a.length c1, .slice B b.length c2] w fun e w' => e = .returned (.bool (lessB a b)) ∧ Below w.heap.size w w' := by
  have H1 := Lib.hid h1
  have H2 := Lib.hid h2
  have HA := Lib.hid ha
  have HB := Lib.hid hb
  clear h1 h2 ha hb
  by_cases hl : a.length = b.length
  · have HL := Lib.hid hl
    have e1 : ((a.length : Int) != (b.length : Int)) = false := by simp; omega
    have hlb : lessB a b = decide (wval a < wval b) := if_pos hl
    rw [hlb]
    clear hl hlb
    go_enter Tryz.func86, Tryz.ntmps86
    go_wp2_with fail
    go_loopw [5] (fun i wr => lsRel w a b i wr) (fun i _ => (intOf i + 1).toNat)
    case atStart => exact ⟨a.length, 0, Nat.le_refl _, rfl, by rw [List.drop_length, HL.out, List.drop_length], rfl⟩
    case round =>
      as_aux_lemma =>
      obtain ⟨k, nq, hk, rfl, hd, rfl⟩ := hrel
      have HD := Lib.hid hd
      clear hd
      by_cases h0 : k = 0
      · subst h0
        go_wp2_with fail
        go_ret
        refine ⟨?_, below_drewN (Below.refl _ _) _⟩
        have := HD.out
        simp at this
        subst this
        simp
      · obtain ⟨j, rfl⟩ := Nat.exists_eq_succ_of_ne_zero h0
        obtain ⟨b1, o1, x, rfl, _, _, hx, g1⟩ := H1.out.w32_ (k := j) (by omega)
        obtain ⟨b2, o2, y, rfl, _, _, hy, g2⟩ := H2.out.w32_ (k := j) (by have := HL.out; omega)
        have HX := Lib.hid hx
        have HY := Lib.hid hy
        have hj : ((j.succ : Nat) : Int) - 1 = (j : Int) := by omega
        have hja : (j : Int) < (a.length : Int) := by omega
        have hjb : (j : Int) < (b.length : Int) := by have := HL.out; omega
        rw [hj]
        clear hx hy h0
        by_cases hxy : x = y
        · subst hxy
          have e2 : ((x : Int) != (x : Int)) = false := by simp
          go_wp2_with fail
          go_quiet (fail)
          go_wp2_with fail
          exact ⟨⟨j, _, by omega, by go_num, drop_step HX.out HY.out HD.out, rfl⟩, by simp [intOf]; try omega⟩
        · have e2 : ((x : Int) != (y : Int)) = true := by simp; omega
          have HN := Lib.hid hxy
          clear hxy
          go_wp2_with fail
          go_quiet (fail)
          go_wp2_with fail
          go_quiet (fail)
          go_wp2_with fail
          go_ret
          refine ⟨?_, by repeat (first | exact Below.refl _ _ | refine ext_drewN ?_ _)⟩
          rw [less_at HA.out HB.out HX.out HY.out HD.out HN.out]
          simp
  · have e1 : ((a.length : Int) != (b.length : Int)) = true := by simp; omega
    have hlb : lessB a b = decide (a.length < b.length) := if_neg hl
    rw [hlb]
    clear hl hlb
    go_enter Tryz.func86, Tryz.ntmps86
    go_wp2_with fail
    go_ret
    exact ⟨by simp, Below.refl _ _⟩
theorem minus_any (A B : Option Addr) (a b : List Nat) (c1 c2 m : Nat) (w : World) (hm : m ≤ w.heap.size) (h1 : CellsAt w m A (w32 a)) (h2 : CellsAt w m B (w32 b)) (ha : wordsOk a) (hb : wordsOk b) (l1 : a.length ≤ 100000) (l2 : b.length ≤ a.length) (hle : wval b ≤ wval a) :
    Calls Tryz.prog 87 #[.slice A a.length c1, .slice B b.length c2] w fun e w' =>
      ∃ G g, e = .returned (.slice G (canon (wval a - wval b)).length g) ∧ (G = none → g = 0) ∧ (canon (wval a - wval b)).length ≤ g ∧ CellsAt w' w'.heap.size G (w32 (canon (wval a - wval b))) ∧ Below w.heap.size w w' := by
  have H1 := Lib.hid h1
  have H2 := Lib.hid h2
  have HA := Lib.hid ha
  have HB := Lib.hid hb
  have HLE := Lib.hid hle
  clear h1 h2 ha hb hle
  go_enter Tryz.func87, Tryz.ntmps87
  go_wp2_with fail
  go_loopw [5, 6, 11] (fun v cv i wr => miRel w a b v cv i wr) (fun _ _ i _ => a.length - (intOf i).toNat)
  case atStart => exact ⟨0, [], 0, Nat.zero_le _, rfl, rfl, OwnW.nil_ _ _, rfl, by simp [wordsOk], by omega, by simp [wval], Below.refl _ _⟩
  case round =>
    as_aux_lemma =>
    obtain ⟨k, os, br, hk, rfl, rfl, hown, hol, hok, hcy, hv, hb⟩ := hrel
    have HO := Lib.hid hown
    have HOL := Lib.hid hol
    have HOK := Lib.hid hok
    have HV := Lib.hid hv
    clear hown hol hok hv
    have hsz := hb.size
    by_cases hlt : k < a.length
    · by_cases kb : k < b.length
      · skip
        obtain ⟨b1, o1, x, rfl, q1, _, hx, g1'⟩ := H1.out.w32_ hlt
        have g1 := (hb.cell (p := ⟨b1, o1 + k, none⟩) (Nat.lt_of_lt_of_le q1 hm)).trans g1'
        have bx := HA.out x (List.mem_of_getElem? hx)
        have HX := Lib.hid (show a[k]?.getD 0 = x by rw [hx]; rfl)
        have ka' : (k : Int) < (a.length : Int) := by omega
        clear hx g1'
        obtain ⟨b2, o2, y, rfl, q2, _, hy, g2'⟩ := H2.out.w32_ kb
        have g2 := (hb.cell (p := ⟨b2, o2 + k, none⟩) (Nat.lt_of_lt_of_le q2 hm)).trans g2'
        have by' := HB.out y (List.mem_of_getElem? hy)
        have HY := Lib.hid (show b[k]?.getD 0 = y by rw [hy]; rfl)
        have kb' : (k : Int) < (b.length : Int) := by omega
        clear hy g2'
        by_cases hneg : (x : Int) - (br : Int) - (y : Int) < 0
        · as_aux_lemma =>
          obtain ⟨z, hz⟩ : ∃ z : Nat, (x : Int) - (br : Int) - (y : Int) + 4294967296 = (z : Int) := ⟨((x : Int) - (br : Int) - (y : Int) + 4294967296).toNat, by omega⟩
          have HZ := Lib.hid (show z + br + y = x + 4294967296 * 1 by omega)
          have hzb : z < 4294967296 := by omega
          have hzm : (z : Int) % 4294967296 = (z : Int) := by omega
          clear hlt kb
          go_wp2_with (at_builtin; refine push_w rfl _ _ rfl w.heap.size _ os z wr.heap.size rfl (HO.out.alloc _) rfl (by simp [go_sem]) (by have := HOL.out; omega) (by simp; omega) ?_; intro v' w2 hown2 hg2 hb2)
          exact ⟨⟨k + 1, os ++ [z], 1, by omega, by go_num, rfl, hown2, by rw [List.length_append, HOL.out]; rfl, words_push HOK.out hzb, by omega, mi_step HOL.out HX.out HY.out HV.out HZ.out, hb.trans ((((Below.refl _ wr).alloc (Nat.le_refl _) _).mono hb.size).trans hb2)⟩, by simp [intOf]; omega⟩
        · as_aux_lemma =>
          obtain ⟨z, hz⟩ : ∃ z : Nat, (x : Int) - (br : Int) - (y : Int) = (z : Int) := ⟨((x : Int) - (br : Int) - (y : Int)).toNat, by omega⟩
          have HZ := Lib.hid (show z + br + y = x + 4294967296 * 0 by omega)
          have hzb : z < 4294967296 := by omega
          have hzm : (z : Int) % 4294967296 = (z : Int) := by omega
          clear hlt kb
          go_wp2_with (at_builtin; refine push_w rfl _ _ rfl w.heap.size _ os z wr.heap.size rfl (HO.out.alloc _) rfl (by simp [go_sem]) (by have := HOL.out; omega) (by simp; omega) ?_; intro v' w2 hown2 hg2 hb2)
          exact ⟨⟨k + 1, os ++ [z], 0, by omega, by go_num, rfl, hown2, by rw [List.length_append, HOL.out]; rfl, words_push HOK.out hzb, by omega, mi_step HOL.out HX.out HY.out HV.out HZ.out, hb.trans ((((Below.refl _ wr).alloc (Nat.le_refl _) _).mono hb.size).trans hb2)⟩, by simp [intOf]; omega⟩
      · skip
        obtain ⟨b1, o1, x, rfl, q1, _, hx, g1'⟩ := H1.out.w32_ hlt
        have g1 := (hb.cell (p := ⟨b1, o1 + k, none⟩) (Nat.lt_of_lt_of_le q1 hm)).trans g1'
        have bx := HA.out x (List.mem_of_getElem? hx)
        have HX := Lib.hid (show a[k]?.getD 0 = x by rw [hx]; rfl)
        have ka' : (k : Int) < (a.length : Int) := by omega
        clear hx g1'
        have HY := Lib.hid (show b[k]?.getD 0 = 0 by rw [List.getElem?_eq_none (by omega)]; rfl)
        have kb' : ¬ (k : Int) < (b.length : Int) := by omega
        by_cases hneg : (x : Int) - (br : Int) < 0
        · as_aux_lemma =>
          obtain ⟨z, hz⟩ : ∃ z : Nat, (x : Int) - (br : Int) + 4294967296 = (z : Int) := ⟨((x : Int) - (br : Int) + 4294967296).toNat, by omega⟩
          have HZ := Lib.hid (show z + br + 0 = x + 4294967296 * 1 by omega)
          have hzb : z < 4294967296 := by omega
          have hzm : (z : Int) % 4294967296 = (z : Int) := by omega
          clear hlt kb
          go_wp2_with (at_builtin; refine push_w rfl _ _ rfl w.heap.size _ os z wr.heap.size rfl (HO.out.alloc _) rfl (by simp [go_sem]) (by have := HOL.out; omega) (by simp; omega) ?_; intro v' w2 hown2 hg2 hb2)
          exact ⟨⟨k + 1, os ++ [z], 1, by omega, by go_num, rfl, hown2, by rw [List.length_append, HOL.out]; rfl, words_push HOK.out hzb, by omega, mi_step HOL.out HX.out HY.out HV.out HZ.out, hb.trans ((((Below.refl _ wr).alloc (Nat.le_refl _) _).mono hb.size).trans hb2)⟩, by simp [intOf]; omega⟩
        · as_aux_lemma =>
          obtain ⟨z, hz⟩ : ∃ z : Nat, (x : Int) - (br : Int) = (z : Int) := ⟨((x : Int) - (br : Int)).toNat, by omega⟩
          have HZ := Lib.hid (show z + br + 0 = x + 4294967296 * 0 by omega)
          have hzb : z < 4294967296 := by omega
          have hzm : (z : Int) % 4294967296 = (z : Int) := by omega
          clear hlt kb
          go_wp2_with (at_builtin; refine push_w rfl _ _ rfl w.heap.size _ os z wr.heap.size rfl (HO.out.alloc _) rfl (by simp [go_sem]) (by have := HOL.out; omega) (by simp; omega) ?_; intro v' w2 hown2 hg2 hb2)
          exact ⟨⟨k + 1, os ++ [z], 0, by omega, by go_num, rfl, hown2, by rw [List.length_append, HOL.out]; rfl, words_push HOK.out hzb, by omega, mi_step HOL.out HX.out HY.out HV.out HZ.out, hb.trans ((((Below.refl _ wr).alloc (Nat.le_refl _) _).mono hb.size).trans hb2)⟩, by simp [intOf]; omega⟩
    · as_aux_lemma =>
      have hka : a.length ≤ k := by omega
      have hkb : b.length ≤ k := by omega
      have hke : k = a.length := by omega
      have hwv : wval os = wval a - wval b := by
        have hv := HV.out
        rw [List.take_of_length_le hka, List.take_of_length_le hkb, hke] at hv
        exact mi_end (HOL.out.trans hke) HOK.out hcy HLE.out hv
      have hl6 : os.length ≤ 1000000 := by have := HOL.out; omega
      have HWV := Lib.hid hwv
      obtain ⟨G, g, rfl, hGn, hGc⟩ := HO.out.view
      obtain ⟨_, hgc, _, _⟩ := HO.out.cap_
      have HGC := Lib.hid hGc
      clear hwv hka hkb hke hGc
      go_wp2_with (go_at_call 133; refine (trim_any G os g wr.heap.size wr HGC.out hgc hl6).mono ?_; rintro e w3 ⟨rfl, rfl⟩)
      go_ret
      have hcan := trim_canon HOK.out
      rw [HWV.out] at hcan
      refine ⟨G, g, by rw [hcan]; rfl, hGn, ?_, ?_, hb⟩
      · rw [← hcan, trimL_len]
        have := trimN_le os os.length
        omega
      · rw [← hcan]
        exact HGC.out.takeW _
theorem valid_any (neg : Bool) (A : Option Addr) (n den c m : Nat) (w : World) (hm : m ≤ w.heap.size) (h : CellsAt w m A (w32 (canon n))) (hl : (canon n).length ≤ 100000) (ok : DyOk neg n den) :
    Calls Tryz.prog 115 #[.agg #[.bool neg, .slice A (canon n).length c, .int .i64 (den : Int)]] w fun e w' => e = .returned (.bool true) ∧ Below w.heap.size w w' := by
  by_cases h0 : n = 0
  · obtain ⟨rfl, rfl⟩ := ok.zero h0
    subst h0
    rw [canon_zero]
    clear h hl ok
    go_enter Tryz.func115, Tryz.ntmps115
    go_wp2_with fail
    go_ret
    exact ⟨rfl, (Below.refl _ w).alloc (Nat.le_refl _) _⟩
  · have hp := canon_ne h0
    have ht := canon_top h0
    obtain ⟨b, off, z, rfl, q1, q2, hz, g1⟩ := h.w32_ (k := (canon n).length - 1) (by omega)
    have hz0 : ((z : Int) != 0) = true := by
      rw [hz] at ht
      simp at ht
      simp
      omega
    have g0 : w.cell? ⟨b, off, none⟩ = some (.int .u32 ((n % 4294967296 : Nat) : Int)) := by
      obtain ⟨b', off', z', hA, _, _, hz', g'⟩ := h.w32_ (k := 0) hp
      cases hA
      rw [canon_head h0] at hz'
      cases hz'
      exact g'
    obtain ⟨L, hL⟩ : ∃ L, L = (canon n).length - 1 := ⟨_, rfl⟩
    obtain ⟨x, hx⟩ : ∃ x : Nat, x = n % 4294967296 := ⟨_, rfl⟩
    have hlen : (canon n).length = L + 1 := by omega
    have hd := ok.fine
    have ho := ok.odd
    rw [← hx] at g0
    rw [← hL] at g1
    rw [hlen]
    have hl' : L ≤ 100000 := by omega
    have e0 : ((L : Int) + 1 == 0) = false := by simp; omega
    have hodd : den ≠ 0 → (x : Int) % 2 = 1 := fun hne => by have := ho hne; omega
    clear h hl ok ho ht hz hL hx hlen hp h0
    by_cases hden : den = 0
    · subst hden
      clear hodd hd
      go_enter Tryz.func115, Tryz.ntmps115
      go_wp2_with fail
      go_ret
      exact ⟨rfl, (Below.refl _ w).alloc (Nat.le_refl _) _⟩
    · have ho := hodd hden
      have d0 : ((den : Int) == 0) = false := by simp; omega
      have d1 : decide ((den : Int) ≤ 65536) = true := decide_eq_true (by omega)
      clear hodd hden
      go_enter Tryz.func115, Tryz.ntmps115
      go_wp2_with fail
      go_ret
      exact ⟨rfl, (Below.refl _ w).alloc (Nat.le_refl _) _⟩
theorem res_norm {tmps : Array Value} {w : World} {b : Nat} {v0 v1 v2 : Value} (h2 : tmps.getD 2 undef = .pointer (some ⟨b, 0, none⟩)) (hB : RowD w b [v0, v1, v2] 53) :
    (results Tryz.f67 tmps).run Tryz.prog w = .ok (.agg #[v0, v1, v2]) w := by
  have k0 := hB.cell 0
  have k1 := hB.cell 1
  have k2 := hB.cell 2
  simp at k0 k1 k2
  simp at h2
  simp [results, Tryz.results67, go_sem, h2, k0, k1, k2]
theorem norm_any (neg : Bool) (A : Option Addr) (n den c m : Nat) (w : World) (hm : m ≤ w.heap.size) (h : CellsAt w m A (w32 (canon n))) (hl : (canon n).length ≤ 100000) (ok : DyOk neg n den) :
    Calls Tryz.prog 67 #[.agg #[.bool neg, .slice A (canon n).length c, .int .i64 (den : Int)]] w fun e w' => e = .returned (.agg #[.bool neg, .slice A (canon n).length c, .int .i64 (den : Int)]) ∧ Below w.heap.size w w' := by
  have H := Lib.hid h
  have OK := Lib.hid ok
  have HL := Lib.hid hl
  clear h ok hl
  have b0 : Below w.heap.size w ((w.alloc (.cells #[.bool neg, .slice A (canon n).length c, .int .i64 (den : Int)] 53)).alloc (.cells #[.bool false, .slice none 0 0, .int .i64 0] 53)) := ext_alloc (ext_alloc (Below.refl _ _) _) _
  have r0 := RowD.new_ (w.alloc (.cells #[.bool neg, .slice A (canon n).length c, .int .i64 (den : Int)] 53)) [.bool false, .slice none 0 0, .int .i64 0] 53
  go_enter Tryz.func67, Tryz.ntmps67
  go_wp2_with fail
  go_at_call 115
  refine (valid_any neg A n den c m _ (by simp; omega) (H.out.below b0 hm) HL.out OK.out).mono ?_
  rintro e w1 ⟨rfl, hb⟩
  obtain ⟨qc, qf, qs, qz⟩ := ext_at (m := w.heap.size + 2) hb (by simp) (by simp)
  have r1 := r0.below hb (by simp)
  have b1 := b0.trans (hb.mono (by simp; omega))
  have e1 : (w.alloc (.cells #[.bool neg, .slice A (canon n).length c, .int .i64 (den : Int)] 53)).heap.size = w.heap.size + 1 := by simp
  rw [e1] at r1
  clear hb r0 b0 e1
  go_wp2_with fail
  refine bodyPost_ret (res_norm rfl (((r1.set_ 0 _).set_ 1 _).set_ 2 _)) rfl ⟨rfl, ((b1.setCell (by simp) _).setCell (by simp) _).setCell (by simp) _⟩
theorem sign_any (neg : Bool) (A : Option Addr) (n den c m : Nat) (w : World) (hm : m ≤ w.heap.size) (h : CellsAt w m A (w32 (canon n))) (hl : (canon n).length ≤ 100000) (ok : DyOk neg n den) :
    Calls Tryz.prog 63 #[.agg #[.bool neg, .slice A (canon n).length c, .int .i64 (den : Int)]] w fun e w' => e = .returned (.int .i64 (sgn neg n)) ∧ Below w.heap.size w w' := by
  have H := Lib.hid h
  have OK := Lib.hid ok
  have HL := Lib.hid hl
  clear h ok hl
  have b0 : Below w.heap.size w (w.alloc (.cells #[.bool neg, .slice A (canon n).length c, .int .i64 (den : Int)] 53)) := ext_alloc (Below.refl _ _) _
  have r0 := RowD.new_ w [.bool neg, .slice A (canon n).length c, .int .i64 (den : Int)] 53
  by_cases h0 : n = 0
  · have SV : sgn neg n = 0 := by simp [sgn, h0]
    have ez : (((canon n).length : Int) == 0) = true := by rw [h0, canon_zero]; rfl
    clear h0
    go_enter Tryz.func63, Tryz.ntmps63
    go_wp2_with fail
    go_at_call 67
    refine (norm_any neg A n den c m _ (by simp; omega) (H.out.below b0 hm) HL.out OK.out).mono ?_
    rintro e w1 ⟨rfl, hb⟩
    obtain ⟨qc, qf, qs, qz⟩ := ext_at (m := w.heap.size + 1) hb (by simp) (by simp)
    have b1 := b0.trans (hb.mono (by simp))
    clear hb r0 b0
    go_wp2_with fail
    go_ret
    exact ⟨by rw [SV]; rfl, ((b1.setCell (by simp) _).setCell (by simp) _).setCell (by simp) _⟩
  · have hp := canon_ne h0
    have ez : (((canon n).length : Int) == 0) = false := by rw [beq_eq_false_iff_ne]; omega
    cases neg with
    | true =>
      have SV : sgn true n = -1 := by simp [sgn, h0]
      clear hp h0
      go_enter Tryz.func63, Tryz.ntmps63
      go_wp2_with fail
      go_at_call 67
      refine (norm_any true A n den c m _ (by simp; omega) (H.out.below b0 hm) HL.out OK.out).mono ?_
      rintro e w1 ⟨rfl, hb⟩
      obtain ⟨qc, qf, qs, qz⟩ := ext_at (m := w.heap.size + 1) hb (by simp) (by simp)
      have b1 := b0.trans (hb.mono (by simp))
      clear hb r0 b0
      go_wp2_with fail
      go_ret
      exact ⟨by rw [SV]; rfl, ((b1.setCell (by simp) _).setCell (by simp) _).setCell (by simp) _⟩
    | false =>
      have SV : sgn false n = 1 := by simp [sgn, h0]
      clear hp h0
      go_enter Tryz.func63, Tryz.ntmps63
      go_wp2_with fail
      go_at_call 67
      refine (norm_any false A n den c m _ (by simp; omega) (H.out.below b0 hm) HL.out OK.out).mono ?_
      rintro e w1 ⟨rfl, hb⟩
      obtain ⟨qc, qf, qs, qz⟩ := ext_at (m := w.heap.size + 1) hb (by simp) (by simp)
      have b1 := b0.trans (hb.mono (by simp))
      clear hb r0 b0
      go_wp2_with fail
      go_ret
      exact ⟨by rw [SV]; rfl, ((b1.setCell (by simp) _).setCell (by simp) _).setCell (by simp) _⟩
theorem left_any (A : Option Addr) (a : List Nat) (c n m : Nat) (w : World) (hm : m ≤ w.heap.size) (h1 : CellsAt w m A (w32 a)) (ha : wordsOk a) (l1 : a.length ≤ 100000) (hn : n ≤ 1000000) :
    Calls Tryz.prog 69 #[.slice A a.length c, .int .i64 (n : Int)] w fun e w' =>
      ∃ G g, e = .returned (.slice G (canon (wval a * 2 ^ n)).length g) ∧ (G = none → g = 0) ∧ (canon (wval a * 2 ^ n)).length ≤ g ∧ CellsAt w' w'.heap.size G (w32 (canon (wval a * 2 ^ n))) ∧ Below w.heap.size w w' := by
  rw [pow_split n]
  obtain ⟨q, hq⟩ : ∃ q, q = n / 32 := ⟨_, rfl⟩
  obtain ⟨p, hp⟩ : ∃ p, p = 2 ^ (n % 32) := ⟨_, rfl⟩
  have hp0 : 0 < p := by rw [hp]; exact Nat.two_pow_pos _
  have hp32 : p ≤ 2147483648 := by
    rw [hp]
    exact Nat.pow_le_pow_right (n := 2) (by decide) (show n % 32 ≤ 31 by omega)
  rw [← hq, ← hp]
  have HP := Lib.hid hp
  have H1 := Lib.hid h1
  have HA := Lib.hid ha
  have hqi : (n : Int) / 32 = (q : Int) := by omega
  have hq6 : q ≤ 31250 := by omega
  clear h1 ha hp hq
  obtain ⟨i0, hi, hz0, hz1, hz2⟩ := info_parts info_w4
  go_enter Tryz.func69, Tryz.ntmps69
  go_wp2_with (with_reducible refine wpList_make_full _ rfl (.tmp 10) (.tmp 10) 51 rfl w.heap.size 108 i0 (.int .u32 0) 1 under_w hi hz0 hz1 .i64 .i64 _ _ q rfl rfl rfl rfl (by rw [hz2]; omega) (by unfold maxLen; omega) (Nat.le_refl _) ?_; intro w2 hown hg)
  have hst := (Below.refl w.heap.size w).grown hg (Nat.le_refl _) (fun k h => by simp at h)
  have hown2 : OwnW w2 w.heap.size (.slice (some ⟨w.heap.size, 0, none⟩) q q) (List.replicate q 0) := by
    have e1 : w32 (List.replicate q 0) = (madeCells (Value.int .u32 0).cells (q * 1)).toList := by
      rw [Nat.mul_one]
      have := toList_madeCells_one (Value.int .u32 0) q
      simp only [w32, List.map_replicate]
      exact this.symm
    unfold OwnW
    rw [e1, List.length_replicate]
    exact hown
  have hsz := hst.size
  clear hown hg hi hz0 hz1 hz2
  go_loopw [5, 6, 14] (fun v cv i wr => lfRel w a q p v cv i wr) (fun _ _ i _ => a.length - (intOf i).toNat)
  case atStart => exact ⟨0, List.replicate q 0, 0, Nat.zero_le _, rfl, rfl, hown2, by simp, words_zeros q, hp0, by simp [wval_zeros, wval], hst⟩
  case round =>
    as_aux_lemma =>
    obtain ⟨k, os, cy, hk, rfl, rfl, hown, hol, hok, hcy, hv, hb⟩ := hrel
    have HO := Lib.hid hown
    have HOL := Lib.hid hol
    have HOK := Lib.hid hok
    have HV := Lib.hid hv
    clear hown hol hok hv hown2 hst
    have hsz := hb.size
    by_cases hlt : k < a.length
    · as_aux_lemma =>
      obtain ⟨b1, o1, x, rfl, q1, _, hx, g1'⟩ := H1.out.w32_ hlt
      have g1 := (hb.cell (p := ⟨b1, o1 + k, none⟩) (Nat.lt_of_lt_of_le q1 hm)).trans g1'
      have bx := HA.out x (List.mem_of_getElem? hx)
      have HX := Lib.hid (show a[k]?.getD 0 = x by rw [hx]; rfl)
      have ka' : (k : Int) < (a.length : Int) := by omega
      clear hx g1'
      obtain ⟨s, hs⟩ : ∃ s : Nat, s = cy + x * p := ⟨_, rfl⟩
      have hor : bits .or .u64 (cy : Int) (IntKind.u64.wrap ((x : Int) * 2 ^ (n % 32))) = (s : Int) := by
        rw [hs]
        exact lf_or HP.out hcy bx (by omega)
      have HC := Lib.hid (lf_word hcy bx)
      rw [← hs] at HC
      obtain ⟨z, hz⟩ : ∃ z : Nat, (s : Int) % 4294967296 = (z : Int) := ⟨(s % 4294967296 : Nat), by omega⟩
      obtain ⟨c', hc'⟩ : ∃ c' : Nat, (s : Int) / 4294967296 = (c' : Int) := ⟨(s / 4294967296 : Nat), by omega⟩
      have HZ := Lib.hid (show z + 4294967296 * c' = cy + x * p by rw [← hs]; omega)
      have hzb : z < 4294967296 := by omega
      have HC2 := Lib.hid (show c' < p by have h := HC.out; omega)
      clear hs HC
      go_wp2_with (at_builtin; refine push_w rfl _ _ rfl w.heap.size _ os z wr.heap.size rfl (HO.out.alloc _) rfl (by simp [go_sem]) (by have := HOL.out; omega) (by simp; omega) ?_; intro v' w3 hown3 hg3 hb3)
      exact ⟨⟨k + 1, os ++ [z], c', by omega, by go_num, rfl, hown3, by rw [List.length_append, HOL.out]; rfl, words_push HOK.out hzb, HC2.out, lf_step HOL.out HX.out HV.out HZ.out, hb.trans ((((Below.refl _ wr).alloc (Nat.le_refl _) _).mono hb.size).trans hb3)⟩, by simp [intOf]; omega⟩
    · as_aux_lemma =>
      have hle : ¬ (k : Int) < (a.length : Int) := by omega
      have hka : a.length ≤ k := by omega
      have hcy32 : cy < 4294967296 := by omega
      have hcym : (cy : Int) % 4294967296 = (cy : Int) := by omega
      obtain ⟨ws, hws⟩ : ∃ ws, ws = os ++ [cy] := ⟨_, rfl⟩
      have hwok : wordsOk ws := by rw [hws]; exact words_push HOK.out hcy32
      have hwl : ws.length = q + k + 1 := by rw [hws, List.length_append, HOL.out]; rfl
      have hwv : wval ws = wval a * (4294967296 ^ q * p) := by
        have hv := HV.out
        rw [List.take_of_length_le hka] at hv
        rw [hws, wval_append, HOL.out, ← hv]
        simp only [wval, Nat.mul_zero, Nat.add_zero]
      have hl6 : ws.length ≤ 1000000 := by omega
      have HWS := Lib.hid hws
      have HWO := Lib.hid hwok
      have HWV := Lib.hid hwv
      clear hws hwok hwv hka hwl hlt
      go_wp2_with (first
        | (go_at_call 133; refine (trim_any G ws g w3.heap.size w3 hGc hgc hl6).mono ?_; rintro e w4 ⟨rfl, rfl⟩)
        | (at_builtin; refine push_w rfl _ _ rfl w.heap.size _ os cy wr.heap.size rfl (HO.out.alloc _) rfl (by simp [go_sem]) (by have := HOL.out; omega) (by simp; omega) ?_; intro v' w3 hown3 hg3 hb3; rw [← HWS.out] at hown3; obtain ⟨G, g, rfl, hGn, hGc⟩ := hown3.view; obtain ⟨_, hgc, _, _⟩ := hown3.cap_))
      go_ret
      have hcan := trim_canon HWO.out
      rw [HWV.out] at hcan
      refine ⟨G, g, by rw [hcan]; rfl, hGn, ?_, ?_, hb.trans ((((Below.refl _ wr).alloc (Nat.le_refl _) _).mono hb.size).trans hb3)⟩
      · rw [← hcan, trimL_len]
        have := trimN_le ws ws.length
        omega
      · rw [← hcan]
        exact hGc.takeW _
theorem right_any (A : Option Addr) (a : List Nat) (c n m : Nat) (w : World) (hm : m ≤ w.heap.size) (h1 : CellsAt w m A (w32 a)) (ha : wordsOk a) (l1 : a.length ≤ 100000) (hn : n ≤ 1000000) :
    Calls Tryz.prog 134 #[.slice A a.length c, .int .i64 (n : Int)] w fun e w' =>
      ∃ G g, e = .returned (.tuple #[.slice G (canon (wval a / 2 ^ n)).length g, .bool (cutB (wval a) n)]) ∧ (G = none → g = 0) ∧ (canon (wval a / 2 ^ n)).length ≤ g ∧ CellsAt w' w'.heap.size G (w32 (canon (wval a / 2 ^ n))) ∧ Below w.heap.size w w' := by
  have H1 := Lib.hid h1
  have HA := Lib.hid ha
  clear h1 ha
  go_enter Tryz.func134, Tryz.ntmps134
  go_wp2_with fail
  go_loopw [6, 7] (fun cv i wr => rgRel a n w cv i wr) (fun _ i _ => n - (intOf i).toNat)
  case atStart => exact ⟨0, Nat.zero_le _, Nat.zero_le _, rfl, by rw [cutB_zero], rfl⟩
  case round =>
    obtain ⟨k, hk, hkl, rfl, rfl, rfl⟩ := hrel
    by_cases hlt : k < n
    · by_cases hlt2 : k < 32 * a.length
      · obtain ⟨q, hq⟩ : ∃ q, q = k / 32 := ⟨_, rfl⟩
        have hka : q < a.length := by omega
        obtain ⟨b1, o1, x, rfl, q1, _, hx, g1⟩ := H1.out.w32_ hka
        have bx := HA.out x (List.mem_of_getElem? hx)
        have HX := Lib.hid (show a[k / 32]?.getD 0 = x by rw [← hq, hx]; rfl)
        have i1 : (k : Int) < (n : Int) := by omega
        have i2 : (k : Int) < 32 * (a.length : Int) := by omega
        have i3 : (k : Int) / 32 = (q : Int) := by omega
        have i4 : (q : Int) < (a.length : Int) := by omega
        clear hq
        clear hx
        obtain ⟨cb, hcb⟩ : ∃ cb, cb = cutB (wval a) k := ⟨_, rfl⟩
        rw [← hcb]
        have HC := Lib.hid hcb
        clear hcb
        cases cb with
        | true =>
          go_wp2_with fail
          have e := cutB_succ (wval a) k
          rw [← HC.out] at e
          exact ⟨⟨k + 1, by omega, by omega, by go_num, by rw [e]; rfl, rfl⟩, by simp [intOf]; omega⟩
        | false =>
          go_wp2_with fail
          have e := cutB_succ (wval a) k
          rw [← HC.out, ← rg_bit HA.out bx HX.out] at e
          exact ⟨⟨k + 1, by omega, by omega, by go_num, by rw [e]; rfl, rfl⟩, by simp [intOf]; omega⟩
      · as_aux_lemma =>
        have hc : cutB (wval a) k = cutB (wval a) n := by
          have hl := wval_lt HA.out
          have e : (4294967296 : Nat) ^ a.length = 2 ^ (32 * a.length) := by
            rw [Nat.pow_mul]
          rw [e, show 32 * a.length = k by omega] at hl
          exact (cutB_big hl hk).symm
        have hz : canon (wval a / 2 ^ n) = [] := by
          have hl := wval_lt HA.out
          have e : (4294967296 : Nat) ^ a.length = 2 ^ (32 * a.length) := by
            rw [Nat.pow_mul]
          rw [e] at hl
          rw [Nat.div_eq_of_lt (Nat.lt_of_lt_of_le hl (Nat.pow_le_pow_right (by decide) (by omega))), canon_zero]
        have i1 : (k : Int) < (n : Int) := by omega
        have i2 : ¬ (k : Int) < 32 * (a.length : Int) := by omega
        have i3 : 32 * (a.length : Int) ≤ (n : Int) := by omega
        rw [hc]
        have HZ := Lib.hid hz
        clear hc hz
        go_wp2_with fail
        exact bodyPost_ret (v := .tuple #[.slice none 0 0, .bool (cutB (wval a) n)]) (by simp [results, Tryz.results134, go_sem]) rfl ⟨none, 0, by rw [HZ.out]; rfl, fun _ => rfl, by rw [HZ.out]; exact Nat.le_refl _, by rw [HZ.out]; exact CellsAt.nil_, Below.refl _ _⟩
    · have hkn : k = n := by omega
      subst hkn
      have i1 : ¬ (k : Int) < (k : Int) := by omega
      by_cases hlt2 : k < 32 * a.length
      · as_aux_lemma =>
        obtain ⟨q, hq⟩ : ∃ q, q = k / 32 := ⟨_, rfl⟩
        have hql : q < a.length := by omega
        have i3 : ¬ 32 * (a.length : Int) ≤ (k : Int) := by omega
        have i4 : (k : Int) / 32 = (q : Int) := by omega
        have HQ := Lib.hid hq
        clear hlt hlt2 hq hkl hk
        go_wp2_with fail
        go_loopw [8, 9] (fun v i wr => rgRel2 w a k q v i wr) (fun _ i _ => a.length - (intOf i).toNat)
        case atStart => exact ⟨0, [], by omega, by simp, OwnW.nil_ _ _, rfl, by simp [wordsOk], by simp [wval, Nat.mod_one], Below.refl _ _⟩
        case round =>
          as_aux_lemma =>
          obtain ⟨j, os, hj, rfl, hown, hol, hok, hv, hb⟩ := hrel
          have HO := Lib.hid hown
          have HOL := Lib.hid hol
          have HOK := Lib.hid hok
          have HV := Lib.hid hv
          clear hown hol hok hv
          have hsz := hb.size
          obtain ⟨i, hi⟩ : ∃ i, i = q + j := ⟨_, rfl⟩
          rw [← hi]
          have hij : (i : Int) + 1 = ((q + (j + 1) : Nat) : Int) := by omega
          have HIJ := Lib.hid hij
          have HI := Lib.hid hi
          have hjl : j < 1000000 := by omega
          clear hi hij hj
          by_cases hlt : i < a.length
          · obtain ⟨b1, o1, x, rfl, q1, _, hx, g1'⟩ := H1.out.w32_ hlt
            have g1 := (hb.cell (p := ⟨b1, o1 + i, none⟩) (Nat.lt_of_lt_of_le q1 hm)).trans g1'
            have bx := HA.out x (List.mem_of_getElem? hx)
            have HX := Lib.hid (show a[k / 32 + j]?.getD 0 = x by rw [← HQ.out, ← HI.out, hx]; rfl)
            have ka' : (i : Int) < (a.length : Int) := by omega
            clear hx g1'
            by_cases hlt2 : i + 1 < a.length
            · obtain ⟨b2, o2, y, hA2, q2, _, hy, g2'⟩ := H1.out.w32_ hlt2
              cases hA2
              have g2 := (hb.cell (p := ⟨b1, o1 + (i + 1), none⟩) (Nat.lt_of_lt_of_le q1 hm)).trans g2'
              have by' := HA.out y (List.mem_of_getElem? hy)
              have HY := Lib.hid (show a[k / 32 + j + 1]?.getD 0 = y by rw [← HQ.out, ← HI.out, hy]; rfl)
              have kb' : (i : Int) + 1 < (a.length : Int) := by omega
              clear hy g2'
              obtain ⟨z, hzn⟩ : ∃ z : Nat, z = (x + y * 4294967296) / 2 ^ (k % 32) % 4294967296 := ⟨_, rfl⟩
              have hz : (bits .or .u64 (x : Int) ((y : Int) * 4294967296) / 2 ^ (k % 32) % 4294967296) = (z : Int) := by rw [hzn, rg_or bx by']; simp
              have HZ := Lib.hid (show z = (a[k / 32 + j]?.getD 0 + a[k / 32 + j + 1]?.getD 0 * 4294967296) / 2 ^ (k % 32) % 4294967296 by rw [HX.out, HY.out]; exact hzn)
              clear hzn
              have HZB := Lib.hid (show z < 4294967296 by rw [HZ.out]; exact Nat.mod_lt _ (by decide))
              have hj2 : q + (j + 1) ≤ a.length := by have := HIJ.out; omega
              go_wp2_with (at_builtin; refine push_w rfl _ _ rfl w.heap.size _ os z wr.heap.size rfl (HO.out.alloc _) rfl (by simp [go_sem]) (by have := HOL.out; omega) (by simp; omega) ?_; intro v' w3 hown3 hg3 hb3)
              exact ⟨⟨j + 1, os ++ [z], hj2, by rw [← HIJ.out], hown3, by rw [List.length_append, HOL.out]; rfl, words_push HOK.out HZB.out, rg_step HA.out HOL.out HV.out HZ.out, hb.trans ((((Below.refl _ wr).alloc (Nat.le_refl _) _).mono hb.size).trans hb3)⟩, by simp [intOf]; try omega⟩
            · have HY := Lib.hid (show a[k / 32 + j + 1]?.getD 0 = 0 by rw [← HQ.out, ← HI.out, List.getElem?_eq_none (by omega)]; rfl)
              have kb' : ¬ (i : Int) + 1 < (a.length : Int) := by omega
              obtain ⟨z, hzn⟩ : ∃ z : Nat, z = x / 2 ^ (k % 32) % 4294967296 := ⟨_, rfl⟩
              have hz : ((x : Int) / 2 ^ (k % 32) % 4294967296) = (z : Int) := by rw [hzn]; simp
              have HZ := Lib.hid (show z = (a[k / 32 + j]?.getD 0 + a[k / 32 + j + 1]?.getD 0 * 4294967296) / 2 ^ (k % 32) % 4294967296 by rw [HX.out, HY.out, Nat.zero_mul, Nat.add_zero]; exact hzn)
              clear hzn
              have HZB := Lib.hid (show z < 4294967296 by rw [HZ.out]; exact Nat.mod_lt _ (by decide))
              have hj2 : q + (j + 1) ≤ a.length := by have := HIJ.out; omega
              go_wp2_with (at_builtin; refine push_w rfl _ _ rfl w.heap.size _ os z wr.heap.size rfl (HO.out.alloc _) rfl (by simp [go_sem]) (by have := HOL.out; omega) (by simp; omega) ?_; intro v' w3 hown3 hg3 hb3)
              exact ⟨⟨j + 1, os ++ [z], hj2, by rw [← HIJ.out], hown3, by rw [List.length_append, HOL.out]; rfl, words_push HOK.out HZB.out, rg_step HA.out HOL.out HV.out HZ.out, hb.trans ((((Below.refl _ wr).alloc (Nat.le_refl _) _).mono hb.size).trans hb3)⟩, by simp [intOf]; try omega⟩
          · as_aux_lemma =>
            have hle : ¬ (i : Int) < (a.length : Int) := by omega
            have hl6 : os.length ≤ 1000000 := by have := HOL.out; omega
            have HWV := Lib.hid (rg_end (k := j) HA.out (by have := HI.out; have := HQ.out; omega) HV.out)
            obtain ⟨G, g, rfl, hGn, hGc⟩ := HO.out.view
            obtain ⟨_, hgc, _, _⟩ := HO.out.cap_
            have HGC := Lib.hid hGc
            clear hGc
            go_wp2_with (go_at_call 133; refine (trim_any G os g wr.heap.size wr HGC.out hgc hl6).mono ?_; rintro e w3 ⟨rfl, rfl⟩)
            have hcan := trim_canon HOK.out
            rw [HWV.out] at hcan
            refine bodyPost_ret (v := .tuple #[.slice G (trimL os).length g, .bool (cutB (wval a) k)]) (by simp [results, Tryz.results134, go_sem]) rfl ⟨G, g, by rw [hcan], hGn, ?_, ?_, hb⟩
            · rw [← hcan, trimL_len]
              have := trimN_le os os.length
              omega
            · rw [← hcan]
              exact HGC.out.takeW _
      · as_aux_lemma =>
        have hz : canon (wval a / 2 ^ k) = [] := by
          have hl := wval_lt HA.out
          have e : (4294967296 : Nat) ^ a.length = 2 ^ (32 * a.length) := by
            rw [Nat.pow_mul]
          rw [e] at hl
          rw [Nat.div_eq_of_lt (Nat.lt_of_lt_of_le hl (Nat.pow_le_pow_right (by decide) (by omega))), canon_zero]
        have i3 : 32 * (a.length : Int) ≤ (k : Int) := by omega
        have HZ := Lib.hid hz
        clear hz
        go_wp2_with fail
        exact bodyPost_ret (v := .tuple #[.slice none 0 0, .bool (cutB (wval a) k)]) (by simp [results, Tryz.results134, go_sem]) rfl ⟨none, 0, by rw [HZ.out]; rfl, fun _ => rfl, by rw [HZ.out]; exact Nat.le_refl _, by rw [HZ.out]; exact CellsAt.nil_, Below.refl _ _⟩
theorem res_number {tmps : Array Value} {w : World} {b : Nat} {v0 v1 v2 : Value} (h2 : tmps.getD 6 undef = .pointer (some ⟨b, 0, none⟩)) (hB : RowD w b [v0, v1, v2] 53) :
    (results Tryz.f68 tmps).run Tryz.prog w = .ok (.agg #[v0, v1, v2]) w := by
  have k0 := hB.cell 0
  have k1 := hB.cell 1
  have k2 := hB.cell 2
  simp at k0 k1 k2
  simp at h2
  simp [results, Tryz.results68, go_sem, h2, k0, k1, k2]
theorem number_any (neg : Bool) (A : Option Addr) (ws : List Nat) (c den m : Nat) (w : World) (hm : m ≤ w.heap.size) (h1 : CellsAt w m A (w32 ws)) (hc : ws.length ≤ c) (ha : wordsOk ws) (l1 : ws.length ≤ 100000) (hd : den ≤ 65536) :
    Calls Tryz.prog 68 #[.bool neg, .slice A ws.length c, .int .i64 (den : Int)] w fun e w' =>
      ∃ v, e = .returned v ∧ DyR w' w.heap.size w'.heap.size v (nf (sg neg (wval ws)) den).1 (nf (sg neg (wval ws)) den).2 ∧ Below w.heap.size w w' := by
  have hcan := trim_canon ha
  have hlen : (canon (wval ws)).length ≤ ws.length := by
    rw [← hcan, trimL_len]
    exact trimN_le _ _
  have HCAN := Lib.hid hcan
  have H1 := Lib.hid h1
  have hct := h1.takeW (trimN ws ws.length)
  rw [show ws.take (trimN ws ws.length) = canon (wval ws) from hcan] at hct
  have HCT := Lib.hid hct
  obtain ⟨n, hn⟩ : ∃ n, n = wval ws := ⟨_, rfl⟩
  rw [← hn] at HCT HCAN hlen ⊢
  have l2 : (canon n).length ≤ 100000 := by omega
  have l3 : (canon n).length ≤ c := by omega
  have l4 : ws.length ≤ 1000000 := by omega
  clear h1 ha hcan hct hn
  have b0 : Below w.heap.size w (w.alloc (.cells #[.bool false, .slice none 0 0, .int .i64 0] 53)) := ext_alloc (Below.refl _ _) _
  have r0 := RowD.new_ w [.bool false, .slice none 0 0, .int .i64 0] 53
  go_enter Tryz.func68, Tryz.ntmps68
  go_wp2_with (go_at_call 133; refine (trim_any A ws c m _ (H1.out.below b0 hm) hc l4).mono ?_; rintro e w3 ⟨rfl, rfl⟩)
  rw [HCAN.out]
  by_cases hn0 : n = 0
  · subst hn0
    have hr : nf (sg neg 0) den = (0, 0) := by
      rw [show sg neg 0 = 0 by unfold sg; split <;> rfl]
      exact nf_zero den
    have HR := Lib.hid hr
    clear hr
    rw [canon_zero] at HCT ⊢
    clear l2 l3 hlen
    go_loopw [7] (fun i wr => n0Rel (w.alloc (.cells #[.bool false, .slice none 0 0, .int .i64 0] 53)) i wr) (fun i _ => 0)
    case atStart => exact ⟨rfl, rfl⟩
    case round =>
      obtain ⟨rfl, rfl⟩ := hrel
      have i9 : ¬ (65536 : Int) < (den : Int) := by omega
      by_cases hlt : den = 0
      · subst hlt
        go_wp2_with (go_at_call 134
                     refine (right_any _ [] c 0 m _ (by simp; omega) (HCT.out.below b0 hm) (by simp [wordsOk]) (by simp) (by omega)).mono ?_
                     rintro e w2 ⟨G, g, rfl, hG, hg, hcG, hb2⟩
                     rw [show wval [] / 2 ^ 0 = 0 by rfl, canon_zero]
                     have hsz2 := hb2.size
                     simp at hsz2
                     have hszl : w.heap.size < w2.heap.size := by omega
                     obtain ⟨qc, qf, qs, qz⟩ := ext_at (m := w.heap.size + 1) hb2 (by simp) (by simp)
                     have r4 := r0.below hb2 (by simp)
                     have bb4 := b0.trans (hb2.mono (by simp)))
        refine bodyPost_ret (res_number rfl (((r4.set_ 0 _).set_ 1 _).set_ 2 _)) rfl ⟨_, rfl, ?_, ((bb4.setCell (by simp) _).setCell (by simp) _).setCell (by simp) _⟩
        rw [HR.out]
        exact DyR.zero_ _ _ _
      · have i1 : 0 < den := by omega
        have i2 : (0 : Int) < (den : Int) := by omega
        clear hlt
        go_wp2_with (go_at_call 134
                     refine (right_any _ [] c 0 m _ (by simp; omega) (HCT.out.below b0 hm) (by simp [wordsOk]) (by simp) (by omega)).mono ?_
                     rintro e w2 ⟨G, g, rfl, hG, hg, hcG, hb2⟩
                     rw [show wval [] / 2 ^ 0 = 0 by rfl, canon_zero]
                     have hsz2 := hb2.size
                     simp at hsz2
                     have hszl : w.heap.size < w2.heap.size := by omega
                     obtain ⟨qc, qf, qs, qz⟩ := ext_at (m := w.heap.size + 1) hb2 (by simp) (by simp)
                     have r4 := r0.below hb2 (by simp)
                     have bb4 := b0.trans (hb2.mono (by simp)))
        refine bodyPost_ret (res_number rfl (((r4.set_ 0 _).set_ 1 _).set_ 2 _)) rfl ⟨_, rfl, ?_, ((bb4.setCell (by simp) _).setCell (by simp) _).setCell (by simp) _⟩
        rw [HR.out]
        exact DyR.zero_ _ _ _
  · have HN0 := Lib.hid hn0
    have hn1 := canon_ne hn0
    clear hn0
    go_loopw [7] (fun i wr => nuRel n den neg (w.alloc (.cells #[.bool false, .slice none 0 0, .int .i64 0] 53)) i wr) (fun i _ => den - (intOf i).toNat)
    case atStart => exact ⟨0, Nat.zero_le _, Nat.zero_le _, rfl, Nat.mod_one _, by simp, rfl⟩
    case round =>
      skip
      obtain ⟨k, hk, hkl, rfl, hmod, hnf, rfl⟩ := hrel
      have HNF := Lib.hid hnf
      have HMOD := Lib.hid hmod
      clear hnf hmod
      have i9 : ¬ (65536 : Int) < (den : Int) - (k : Int) := by omega
      by_cases hlt : k < den
      · have i1 : (k : Int) < (den : Int) := by omega
        have hlt2 : k < 32 * (canon n).length := by
          rcases Nat.lt_or_ge k (32 * (canon n).length) with h | h
          · exact h
          · exfalso
            have h2 := wval_lt (canon_ok n)
            rw [wval_canon, show (4294967296 : Nat) = 2 ^ 32 by decide, ← Nat.pow_mul, show 32 * (canon n).length = k by omega] at h2
            have h3 := HMOD.out
            rw [Nat.mod_eq_of_lt h2] at h3
            exact HN0.out h3
        obtain ⟨q, hq⟩ : ∃ q, q = k / 32 := ⟨_, rfl⟩
        have hka : q < (canon n).length := by omega
        obtain ⟨b1, o1, x, rfl, q1, _, hx, g1'⟩ := HCT.out.w32_ hka
        have g1 := (b0.cell (p := ⟨b1, o1 + q, none⟩) (Nat.lt_of_lt_of_le q1 hm)).trans g1'
        have bx := canon_ok n x (List.mem_of_getElem? hx)
        have hbit := rg_bit (canon_ok n) bx (show (canon n)[k / 32]?.getD 0 = x by rw [← hq, hx]; rfl)
        have hbit0 := nu_bit (canon_ok n) bx (show (canon n)[k / 32]?.getD 0 = x by rw [← hq, hx]; rfl)
        rw [wval_canon] at hbit hbit0
        have i2 : (k : Int) < 32 * ((canon n).length : Int) := by omega
        have i3 : (k : Int) / 32 = (q : Int) := by omega
        have i4 : (q : Int) < ((canon n).length : Int) := by omega
        clear hq hx g1' hbit
        by_cases hz : n / 2 ^ k % 2 = 0
        · have hb0 : (bits .and .u32 ((x : Int) / 2 ^ (k % 32)) 1 == 0) = true := by rw [hbit0, hz]; rfl
          have HZ := Lib.hid hz
          clear hbit0 hz
          go_wp2_with fail
          refine ⟨⟨k + 1, by omega, by omega, by go_num, nu_mod HMOD.out HZ.out, HNF.out.trans (nf_step hlt HZ.out), rfl⟩, by simp [intOf]; omega⟩
        · have hb0 : (bits .and .u32 ((x : Int) / 2 ^ (k % 32)) 1 == 0) = false := by rw [hbit0]; simp; omega
          have hodd : den - k ≠ 0 → n / 2 ^ k % 2 = 1 := fun _ => by omega
          have hy0 : n / 2 ^ k ≠ 0 := fun h => by rw [h] at hz; exact hz rfl
          clear hbit0 hz
          obtain ⟨y, hy⟩ : ∃ y, y = n / 2 ^ k := ⟨_, rfl⟩
          rw [← hy] at hodd hy0
          have HRES := Lib.hid (show nf (sg neg n) den = (sg neg y, den - k) by rw [HNF.out, ← hy]; exact nf_done (fun h => by have := hodd h; unfold sg; split <;> omega))
          have HY := Lib.hid hy
          have HODD := Lib.hid hodd
          have HY0 := Lib.hid hy0
          have hp := canon_ne hy0
          have e0 : (((canon y).length : Int) == 0) = false := by rw [beq_eq_false_iff_ne]; omega
          have hyl : (canon y).length ≤ 100000 := by
            refine Nat.le_trans (canon_len_mono ?_) l2
            rw [hy]
            exact Nat.div_le_self _ _
          clear hy hodd hy0 hp
          go_wp2_with (first
            | (go_at_call 134
               refine (right_any _ (canon n) c k m _ (by simp; omega) (HCT.out.below b0 hm) (canon_ok n) l2 (by omega)).mono ?_
               rintro e w2 ⟨G, g, rfl, hG, hg, hcG, hb2⟩
               rw [wval_canon, ← HY.out] at hg hcG ⊢
               have hsz2 := hb2.size
               simp at hsz2
               have hszl : w.heap.size < w2.heap.size := by omega)
            | (at_builtin
               refine app_w rfl _ _ rfl w2.heap.size _ [] (canon y) G g w2.heap.size rfl (OwnW.lit0 (Nat.le_refl _)) rfl hG (hcG.below ((Below.refl w2.heap.size w2).alloc (Nat.le_refl _) _) (Nat.le_refl _)) (by simp; omega) (by simp) ?_
               intro v' w4 hown4 hg4 hb4
               rw [List.nil_append] at hown4
               obtain ⟨A', c', rfl, _, _⟩ := hown4.view
               have hall : Below (w.heap.size + 1) (w.alloc (.cells #[.bool false, .slice none 0 0, .int .i64 0] 53)) w4 := (hb2.mono (by simp)).trans ((((Below.refl (w.heap.size + 1) w2).alloc (by omega) _)).trans (hb4.mono (by omega)))
               have hsz4 := hb4.size
               simp at hsz4
               have hsz5 : w.heap.size < w4.heap.size := by omega
               have r4 := r0.below hall (by simp)
               have bb4 := b0.trans (hall.mono (by simp))
               clear hb2 hb4 hg4
               obtain ⟨qc, qf, qs, qz⟩ := ext_at (m := w.heap.size + 1) hall (by simp) (by simp)))
          have hown5 : OwnW (((w4.setCell ⟨w.heap.size, 0, none⟩ (.bool neg)).setCell ⟨w.heap.size, 1, none⟩ (.slice A' (canon y).length c')).setCell ⟨w.heap.size, 2, none⟩ (.int .i64 ((den : Int) - (k : Int)))) w2.heap.size (.slice A' (canon y).length c') (canon y) := ownsRow_setCell_below (ownsRow_setCell_below (ownsRow_setCell_below hown4 (by simp; omega) _) (by simp; omega) _) (by simp; omega) _
          refine bodyPost_ret (res_number rfl (((r4.set_ 0 _).set_ 1 _).set_ 2 _)) rfl ⟨_, rfl, ?_, ((bb4.setCell (by simp) _).setCell (by simp) _).setCell (by simp) _⟩
          rw [HRES.out]
          obtain ⟨_, hcl, hn', hc'⟩ := hown5.cap_
          refine ⟨A', c', ?_, hn', ?_, ?_, ?_, by show den - k ≤ 65536; omega, ?_⟩
          · rw [sg_abs, sg_neg HY0.out]
            have : (den : Int) - (k : Int) = ((den - k : Nat) : Int) := by omega
            rw [this]
          · rw [sg_abs]; exact hcl
          · rw [sg_abs]; exact hc'
          · intro a ha
            have := (World.ownsRow.lt hown5 a.block (by rw [ha]; rfl)).1
            omega
          · intro h
            have := HODD.out h
            show sg neg y % 2 = 1
            unfold sg
            split <;> omega
      · have hkd : k = den := by omega
        have i1 : ¬ (k : Int) < (den : Int) := by omega
        have hodd : den - k ≠ 0 → n / 2 ^ k % 2 = 1 := fun h => by omega
        have hy0 : n / 2 ^ k ≠ 0 := fun h => by
          have h2 := Nat.div_add_mod n (2 ^ k)
          rw [h, HMOD.out] at h2
          exact HN0.out (by omega)
        clear hkd
        obtain ⟨y, hy⟩ : ∃ y, y = n / 2 ^ k := ⟨_, rfl⟩
        rw [← hy] at hodd hy0
        have HRES := Lib.hid (show nf (sg neg n) den = (sg neg y, den - k) by rw [HNF.out, ← hy]; exact nf_done (fun h => by have := hodd h; unfold sg; split <;> omega))
        have HY := Lib.hid hy
        have HODD := Lib.hid hodd
        have HY0 := Lib.hid hy0
        have hp := canon_ne hy0
        have e0 : (((canon y).length : Int) == 0) = false := by rw [beq_eq_false_iff_ne]; omega
        have hyl : (canon y).length ≤ 100000 := by
          refine Nat.le_trans (canon_len_mono ?_) l2
          rw [hy]
          exact Nat.div_le_self _ _
        clear hy hodd hy0 hp
        go_wp2_with (first
          | (go_at_call 134
             refine (right_any _ (canon n) c k m _ (by simp; omega) (HCT.out.below b0 hm) (canon_ok n) l2 (by omega)).mono ?_
             rintro e w2 ⟨G, g, rfl, hG, hg, hcG, hb2⟩
             rw [wval_canon, ← HY.out] at hg hcG ⊢
             have hsz2 := hb2.size
             simp at hsz2
             have hszl : w.heap.size < w2.heap.size := by omega)
          | (at_builtin
             refine app_w rfl _ _ rfl w2.heap.size _ [] (canon y) G g w2.heap.size rfl (OwnW.lit0 (Nat.le_refl _)) rfl hG (hcG.below ((Below.refl w2.heap.size w2).alloc (Nat.le_refl _) _) (Nat.le_refl _)) (by simp; omega) (by simp) ?_
             intro v' w4 hown4 hg4 hb4
             rw [List.nil_append] at hown4
             obtain ⟨A', c', rfl, _, _⟩ := hown4.view
             have hall : Below (w.heap.size + 1) (w.alloc (.cells #[.bool false, .slice none 0 0, .int .i64 0] 53)) w4 := (hb2.mono (by simp)).trans ((((Below.refl (w.heap.size + 1) w2).alloc (by omega) _)).trans (hb4.mono (by omega)))
             have hsz4 := hb4.size
             simp at hsz4
             have hsz5 : w.heap.size < w4.heap.size := by omega
             have r4 := r0.below hall (by simp)
             have bb4 := b0.trans (hall.mono (by simp))
             clear hb2 hb4 hg4
             obtain ⟨qc, qf, qs, qz⟩ := ext_at (m := w.heap.size + 1) hall (by simp) (by simp)))
        have hown5 : OwnW (((w4.setCell ⟨w.heap.size, 0, none⟩ (.bool neg)).setCell ⟨w.heap.size, 1, none⟩ (.slice A' (canon y).length c')).setCell ⟨w.heap.size, 2, none⟩ (.int .i64 ((den : Int) - (k : Int)))) w2.heap.size (.slice A' (canon y).length c') (canon y) := ownsRow_setCell_below (ownsRow_setCell_below (ownsRow_setCell_below hown4 (by simp; omega) _) (by simp; omega) _) (by simp; omega) _
        refine bodyPost_ret (res_number rfl (((r4.set_ 0 _).set_ 1 _).set_ 2 _)) rfl ⟨_, rfl, ?_, ((bb4.setCell (by simp) _).setCell (by simp) _).setCell (by simp) _⟩
        rw [HRES.out]
        obtain ⟨_, hcl, hn', hc'⟩ := hown5.cap_
        refine ⟨A', c', ?_, hn', ?_, ?_, ?_, by show den - k ≤ 65536; omega, ?_⟩
        · rw [sg_abs, sg_neg HY0.out]
          have : (den : Int) - (k : Int) = ((den - k : Nat) : Int) := by omega
          rw [this]
        · rw [sg_abs]; exact hcl
        · rw [sg_abs]; exact hc'
        · intro a ha
          have := (World.ownsRow.lt hown5 a.block (by rw [ha]; rfl)).1
          omega
        · intro h
          have := HODD.out h
          show sg neg y % 2 = 1
          unfold sg
          split <;> omega
theorem norm_w {v : Value} {x : Int} {d lo m : Nat} {w : World} (D : DyR w lo m v x d) (hm : m ≤ w.heap.size) (hl : (canon x.natAbs).length ≤ 100000) :
    Calls Tryz.prog 67 #[v] w fun e w' => e = .returned v ∧ Below w.heap.size w w' := by
  obtain ⟨A, c, rfl, h1, h2, h3, h4, h5, h6⟩ := D
  exact norm_any _ A _ d c m w hm h3 hl (dy_ok h5 h6)
theorem sign_w {v : Value} {x : Int} {d lo m : Nat} {w : World} (D : DyR w lo m v x d) (hm : m ≤ w.heap.size) (hl : (canon x.natAbs).length ≤ 100000) :
    Calls Tryz.prog 63 #[v] w fun e w' => e = .returned (.int .i64 (sgI x)) ∧ Below w.heap.size w w' := by
  obtain ⟨A, c, rfl, h1, h2, h3, h4, h5, h6⟩ := D
  refine (sign_any _ A _ d c m w hm h3 hl (dy_ok h5 h6)).mono ?_
  rintro e w' ⟨rfl, hb⟩
  refine ⟨?_, hb⟩
  have : sgn (decide (x < 0)) x.natAbs = sgI x := by
    unfold sgn sgI
    by_cases h0 : x = 0
    · subst h0; rfl
    · rw [if_neg (by omega), if_neg h0]
      by_cases h1 : x < 0
      · simp [h1]
      · simp [h1]
  rw [this]
theorem number_w {neg : Bool} {A : Option Addr} {L c n d m : Nat} {w : World} (hL : L = (canon n).length) (hc : CellsAt w m A (w32 (canon n))) (hcap : L ≤ c) (hm : m ≤ w.heap.size) (hl : (canon n).length ≤ 100000) (hd : d ≤ 65536) :
    Calls Tryz.prog 68 #[.bool neg, .slice A L c, .int .i64 (d : Int)] w fun e w' =>
      ∃ v, e = .returned v ∧ DyR w' w.heap.size w'.heap.size v (nf (sg neg n) d).1 (nf (sg neg n) d).2 ∧ Below w.heap.size w w' := by
  subst hL
  have h := number_any neg A (canon n) c d m w hm hc hcap (canon_ok n) hl hd
  rw [wval_canon] at h
  exact h
theorem res_Neg {tmps : Array Value} {w : World} {b : Nat} {v0 v1 v2 : Value} (h2 : tmps.getD 2 undef = .pointer (some ⟨b, 0, none⟩)) (hB : RowD w b [v0, v1, v2] 53) :
    (results Tryz.f66 tmps).run Tryz.prog w = .ok (.agg #[v0, v1, v2]) w := by
  have k0 := hB.cell 0
  have k1 := hB.cell 1
  have k2 := hB.cell 2
  simp at k0 k1 k2
  simp at h2
  simp [results, Tryz.results66, go_sem, h2, k0, k1, k2]
theorem neg_w {v : Value} {x : Int} {d lo m : Nat} {w : World} (D : DyR w lo m v x d) (hm : m ≤ w.heap.size) (hl : (canon x.natAbs).length ≤ 100000) :
    Calls Tryz.prog 66 #[v] w fun e w' => ∃ v', e = .returned v' ∧ DyR w' w.heap.size w'.heap.size v' (-x) d ∧ Below w.heap.size w w' := by
  obtain ⟨nb, A, L, c, rfl, HD⟩ := D.form
  have D' := Lib.hid D
  clear D
  have b0 : Below w.heap.size w ((w.alloc (.cells #[.bool nb, .slice A L c, .int .i64 (d : Int)] 53)).alloc (.cells #[.bool false, .slice none 0 0, .int .i64 0] 53)) := ext_alloc (ext_alloc (Below.refl _ _) _) _
  have r0 := (RowD.new_ (w.alloc (.cells #[.bool nb, .slice A L c, .int .i64 (d : Int)] 53)) [.bool false, .slice none 0 0, .int .i64 0] 53)
  rw [show (w.alloc (.cells #[.bool nb, .slice A L c, .int .i64 (d : Int)] 53)).heap.size = w.heap.size + 1 by simp] at r0
  go_enter Tryz.func66, Tryz.ntmps66
  go_wp2_with fail
  go_at_call 67
  refine (norm_w (D'.out.below b0 hm) (by simp; omega) hl).mono ?_
  rintro e w1 ⟨rfl, hb⟩
  obtain ⟨qc, qf, qs, qz⟩ := ext_at (m := w.heap.size + 2) hb (by simp) (by simp)
  have r1 := r0.below hb (by simp)
  have b1 := b0.trans (hb.mono (by simp; omega))
  clear hb r0 b0
  go_wp2_with fail
  go_at_call 68
  obtain ⟨W, hW⟩ : ∃ W, W = ((w1.setCell ⟨w.heap.size, 0, none⟩ (.bool nb)).setCell ⟨w.heap.size, 1, none⟩ (.slice A L c)).setCell ⟨w.heap.size, 2, none⟩ (.int .i64 (d : Int)) := ⟨_, rfl⟩
  have hWs : w.heap.size + 2 ≤ W.heap.size := by rw [hW]; simp; omega
  have b2 : Below w.heap.size w W := by rw [hW]; exact ((b1.setCell (by simp) _).setCell (by simp) _).setCell (by simp) _
  have r2 : RowD W (w.heap.size + 1) [.bool false, .slice none 0 0, .int .i64 0] 53 := by
    rw [hW]
    exact ((r1.other_ (by omega) _ _).other_ (by omega) _ _).other_ (by omega) _ _
  rw [← hW]
  clear hW qc qf qs qz r1 b1
  refine (number_w (n := x.natAbs) (m := m) HD.out.2.1 (HD.out.2.2.2.2.1.below b2 hm) HD.out.2.2.2.1 (by omega) hl HD.out.2.2.2.2.2.1).mono ?_
  rintro e w3 ⟨v', rfl, D3, hb3⟩
  obtain ⟨tc, tf, ts, tz⟩ := ext_at (m := w.heap.size + 2) hb3 hWs hWs
  have r3 := r2.below hb3 (by omega)
  have b3 := b2.trans (hb3.mono (by omega))
  have hval : nf (sg (!nb) x.natAbs) d = (-x, d) := by
    have e : sg (!nb) x.natAbs = -x := by
      rw [HD.out.1]
      unfold sg
      by_cases h : x < 0
      · simp [h]; omega
      · simp [h]; omega
    rw [e]
    exact nf_id (fun h => by have := HD.out.2.2.2.2.2.2 h; omega)
  rw [hval] at D3
  obtain ⟨nb3, A3, L3, c3, rfl, _⟩ := D3.form
  have D3' := Lib.hid D3
  have k0 : w3.cell? ⟨w.heap.size + 1, 0, none⟩ = some (.bool false) := r3.cell 0
  have k1 : w3.cell? ⟨w.heap.size + 1, 1, none⟩ = some (.slice none 0 0) := r3.cell 1
  have k2 : w3.cell? ⟨w.heap.size + 1, 2, none⟩ = some (.int .i64 0) := r3.cell 2
  have kf := r3.free
  clear D3 hb3 r2 b2 hval tc tf
  go_wp2_with fail
  refine bodyPost_ret (res_Neg rfl (((r3.set_ 0 _).set_ 1 _).set_ 2 _)) rfl ⟨_, rfl, ?_, ((b3.setCell (by simp) _).setCell (by simp) _).setCell (by simp) _⟩
  exact ((((D3'.out.set_ (by omega) 0 _).set_ (by omega) 1 _).set_ (by omega) 2 _).low (by omega)).more (by simp)
theorem res_Of {tmps : Array Value} {w : World} {b : Nat} {v0 v1 v2 : Value} (h2 : tmps.getD 2 undef = .pointer (some ⟨b, 0, none⟩)) (hB : RowD w b [v0, v1, v2] 53) :
    (results Tryz.f24 tmps).run Tryz.prog w = .ok (.agg #[v0, v1, v2]) w := by
  have k0 := hB.cell 0
  have k1 := hB.cell 1
  have k2 := hB.cell 2
  simp at k0 k1 k2
  simp at h2
  simp [results, Tryz.results24, go_sem, h2, k0, k1, k2]
theorem of_any (n : Int) (h1 : -9223372036854775808 ≤ n) (h2 : n < 9223372036854775808) (w : World) :
    Calls Tryz.prog 24 #[.int .i64 n] w fun e w' => ∃ v', e = .returned v' ∧ DyR w' w.heap.size w'.heap.size v' n 0 ∧ Below w.heap.size w w' := by
  by_cases h : n < 0
  · as_aux_lemma =>
    obtain ⟨p, hp⟩ : ∃ p : Nat, -(n + 1) = (p : Int) := ⟨(-(n + 1)).toNat, by omega⟩
    obtain ⟨a, ha⟩ : ∃ a : Nat, (p : Int) + 1 = (a : Int) := ⟨p + 1, by omega⟩
    have hsg : sg true a = n := by unfold sg; simp; omega
    have hpb : p < 9223372036854775808 := by omega
    obtain ⟨lo, hlo⟩ : ∃ lo : Nat, (a : Int) % 4294967296 = (lo : Int) := ⟨(a % 4294967296 : Nat), by omega⟩
    obtain ⟨hi, hhi⟩ : ∃ hi : Nat, (a : Int) / 4294967296 = (hi : Int) := ⟨(a / 4294967296 : Nat), by omega⟩
    have hib : hi < 4294967296 := by omega
    have lob : lo < 4294967296 := by omega
    have hval : wval [lo, hi] = a := by rw [of_words]; omega
    have HSG := Lib.hid hsg
    have HV := Lib.hid hval
    clear hsg hval
    have b0 : Below w.heap.size w ((w.alloc (.cells #[.bool false, .slice none 0 0, .int .i64 0] 53)).alloc (.cells #[.int .u32 (lo : Int), .int .u32 (hi : Int)] 108)) := ext_alloc (ext_alloc (Below.refl _ _) _) _
    have r0 := (RowD.new_ w [.bool false, .slice none 0 0, .int .i64 0] 53).below ((Below.refl (w.heap.size + 1) _).alloc (by simp) (.cells #[.int .u32 (lo : Int), .int .u32 (hi : Int)] 108)) (by omega)
    have c0 : CellsAt ((w.alloc (.cells #[.bool false, .slice none 0 0, .int .i64 0] 53)).alloc (.cells #[.int .u32 (lo : Int), .int .u32 (hi : Int)] 108)) (w.heap.size + 2) (some ⟨w.heap.size + 1, 0, none⟩) (w32 [lo, hi]) := by
      have h := RowD.new_ (w.alloc (.cells #[.bool false, .slice none 0 0, .int .i64 0] 53)) (w32 [lo, hi]) 108
      rw [show (w.alloc (.cells #[.bool false, .slice none 0 0, .int .i64 0] 53)).heap.size = w.heap.size + 1 by simp] at h
      exact h.cells_ (by omega)
    go_enter Tryz.func24, Tryz.ntmps24
    go_wp2_with fail
    go_at_call 68
    refine (number_any true (some ⟨w.heap.size + 1, 0, none⟩) [lo, hi] 2 0 (w.heap.size + 2) _ (by simp) c0 (by simp) (of_ok lob hib) (by simp) (by omega)).mono ?_
    rintro e w3 ⟨v', rfl, D3, hb3⟩
    obtain ⟨tc, tf, ts, tz⟩ := ext_at (m := w.heap.size + 2) hb3 (by simp) (by simp)
    have r3 := r0.below hb3 (by simp; omega)
    have b3 := b0.trans (hb3.mono (by simp; omega))
    rw [HV.out, HSG.out] at D3
    have D3 : DyR w3 (w.heap.size + 2) w3.heap.size v' n 0 := D3.low (by simp)
    obtain ⟨nb3, A3, L3, c3, rfl, _⟩ := D3.form
    have D3' := Lib.hid D3
    have k0 : w3.cell? ⟨w.heap.size, 0, none⟩ = some (.bool false) := r3.cell 0
    have k1 : w3.cell? ⟨w.heap.size, 1, none⟩ = some (.slice none 0 0) := r3.cell 1
    have k2 : w3.cell? ⟨w.heap.size, 2, none⟩ = some (.int .i64 0) := r3.cell 2
    have kf := r3.free
    clear D3 hb3 r0 b0 c0 tc tf
    go_wp2_with fail
    refine bodyPost_ret (res_Of rfl (((r3.set_ 0 _).set_ 1 _).set_ 2 _)) rfl ⟨_, rfl, ?_, ((b3.setCell (by simp) _).setCell (by simp) _).setCell (by simp) _⟩
    exact ((((D3'.out.set_ (by omega) 0 _).set_ (by omega) 1 _).set_ (by omega) 2 _).low (by omega)).more (by simp)
  · as_aux_lemma =>
    obtain ⟨a, rfl⟩ : ∃ a : Nat, n = (a : Int) := ⟨n.toNat, by omega⟩
    have hsg : sg false a = (a : Int) := by unfold sg; simp
    obtain ⟨lo, hlo⟩ : ∃ lo : Nat, (a : Int) % 4294967296 = (lo : Int) := ⟨(a % 4294967296 : Nat), by omega⟩
    obtain ⟨hi, hhi⟩ : ∃ hi : Nat, (a : Int) / 4294967296 = (hi : Int) := ⟨(a / 4294967296 : Nat), by omega⟩
    have hib : hi < 4294967296 := by omega
    have lob : lo < 4294967296 := by omega
    have hval : wval [lo, hi] = a := by rw [of_words]; omega
    have HSG := Lib.hid hsg
    have HV := Lib.hid hval
    clear hsg hval
    have b0 : Below w.heap.size w ((w.alloc (.cells #[.bool false, .slice none 0 0, .int .i64 0] 53)).alloc (.cells #[.int .u32 (lo : Int), .int .u32 (hi : Int)] 108)) := ext_alloc (ext_alloc (Below.refl _ _) _) _
    have r0 := (RowD.new_ w [.bool false, .slice none 0 0, .int .i64 0] 53).below ((Below.refl (w.heap.size + 1) _).alloc (by simp) (.cells #[.int .u32 (lo : Int), .int .u32 (hi : Int)] 108)) (by omega)
    have c0 : CellsAt ((w.alloc (.cells #[.bool false, .slice none 0 0, .int .i64 0] 53)).alloc (.cells #[.int .u32 (lo : Int), .int .u32 (hi : Int)] 108)) (w.heap.size + 2) (some ⟨w.heap.size + 1, 0, none⟩) (w32 [lo, hi]) := by
      have h := RowD.new_ (w.alloc (.cells #[.bool false, .slice none 0 0, .int .i64 0] 53)) (w32 [lo, hi]) 108
      rw [show (w.alloc (.cells #[.bool false, .slice none 0 0, .int .i64 0] 53)).heap.size = w.heap.size + 1 by simp] at h
      exact h.cells_ (by omega)
    go_enter Tryz.func24, Tryz.ntmps24
    go_wp2_with fail
    go_at_call 68
    refine (number_any false (some ⟨w.heap.size + 1, 0, none⟩) [lo, hi] 2 0 (w.heap.size + 2) _ (by simp) c0 (by simp) (of_ok lob hib) (by simp) (by omega)).mono ?_
    rintro e w3 ⟨v', rfl, D3, hb3⟩
    obtain ⟨tc, tf, ts, tz⟩ := ext_at (m := w.heap.size + 2) hb3 (by simp) (by simp)
    have r3 := r0.below hb3 (by simp; omega)
    have b3 := b0.trans (hb3.mono (by simp; omega))
    rw [HV.out, HSG.out] at D3
    have D3 : DyR w3 (w.heap.size + 2) w3.heap.size v' (a : Int) 0 := D3.low (by simp)
    obtain ⟨nb3, A3, L3, c3, rfl, _⟩ := D3.form
    have D3' := Lib.hid D3
    have k0 : w3.cell? ⟨w.heap.size, 0, none⟩ = some (.bool false) := r3.cell 0
    have k1 : w3.cell? ⟨w.heap.size, 1, none⟩ = some (.slice none 0 0) := r3.cell 1
    have k2 : w3.cell? ⟨w.heap.size, 2, none⟩ = some (.int .i64 0) := r3.cell 2
    have kf := r3.free
    clear D3 hb3 r0 b0 c0 tc tf
    go_wp2_with fail
    refine bodyPost_ret (res_Of rfl (((r3.set_ 0 _).set_ 1 _).set_ 2 _)) rfl ⟨_, rfl, ?_, ((b3.setCell (by simp) _).setCell (by simp) _).setCell (by simp) _⟩
    exact ((((D3'.out.set_ (by omega) 0 _).set_ (by omega) 1 _).set_ (by omega) 2 _).low (by omega)).more (by simp)
theorem left_w {v : Value} {n k m : Nat} {w : World} (h : WdR w m v n) (hm : m ≤ w.heap.size) (hl : (canon n).length ≤ 100000) (hk : k ≤ 1000000) :
    Calls Tryz.prog 69 #[v, .int .i64 (k : Int)] w fun e w' => ∃ v', e = .returned v' ∧ WdR w' w'.heap.size v' (n * 2 ^ k) ∧ Below w.heap.size w w' := by
  obtain ⟨A, c, rfl, h1, h2, h3⟩ := h
  refine (left_any A (canon n) c k m w hm h3 (canon_ok n) hl hk).mono ?_
  rintro e w' ⟨G, g, rfl, g1, g2, g3, hb⟩
  rw [wval_canon] at g2 g3 ⊢
  exact ⟨_, rfl, ⟨G, g, rfl, g1, g2, g3⟩, hb⟩
theorem plus_w {v v2 : Value} {a b m m2 : Nat} {w : World} (h : WdR w m v a) (h2 : WdR w m2 v2 b) (hm : m ≤ w.heap.size) (hm2 : m2 ≤ w.heap.size) (hl : (canon a).length ≤ 100000) (hl2 : (canon b).length ≤ 100000) :
    Calls Tryz.prog 85 #[v, v2] w fun e w' => ∃ v', e = .returned v' ∧ WdR w' w'.heap.size v' (a + b) ∧ Below w.heap.size w w' := by
  obtain ⟨A, c, rfl, h1, h1', h3⟩ := h
  obtain ⟨A2, c2, rfl, k1, k1', k3⟩ := h2
  refine (plus_any A A2 (canon a) (canon b) c c2 w.heap.size w (Nat.le_refl _) (h3.more hm) (k3.more hm2) (canon_ok a) (canon_ok b) hl hl2).mono ?_
  rintro e w' ⟨G, g, rfl, g1, g2, g3, hb⟩
  rw [wval_canon, wval_canon] at g2 g3 ⊢
  exact ⟨_, rfl, ⟨G, g, rfl, g1, g2, g3⟩, hb⟩
theorem minus_w {v v2 : Value} {a b m m2 : Nat} {w : World} (h : WdR w m v a) (h2 : WdR w m2 v2 b) (hm : m ≤ w.heap.size) (hm2 : m2 ≤ w.heap.size) (hl : (canon a).length ≤ 100000) (hle : b ≤ a) :
    Calls Tryz.prog 87 #[v, v2] w fun e w' => ∃ v', e = .returned v' ∧ WdR w' w'.heap.size v' (a - b) ∧ Below w.heap.size w w' := by
  obtain ⟨A, c, rfl, h1, h1', h3⟩ := h
  obtain ⟨A2, c2, rfl, k1, k1', k3⟩ := h2
  refine (minus_any A A2 (canon a) (canon b) c c2 w.heap.size w (Nat.le_refl _) (h3.more hm) (k3.more hm2) (canon_ok a) (canon_ok b) hl (canon_len_mono hle) (by rw [wval_canon, wval_canon]; exact hle)).mono ?_
  rintro e w' ⟨G, g, rfl, g1, g2, g3, hb⟩
  rw [wval_canon, wval_canon] at g2 g3 ⊢
  exact ⟨_, rfl, ⟨G, g, rfl, g1, g2, g3⟩, hb⟩
theorem less_w {v v2 : Value} {a b m m2 : Nat} {w : World} (h : WdR w m v a) (h2 : WdR w m2 v2 b) (hl : (canon a).length ≤ 100000) (hl2 : (canon b).length ≤ 100000) :
    Calls Tryz.prog 86 #[v, v2] w fun e w' => e = .returned (.bool (decide (a < b))) ∧ Below w.heap.size w w' := by
  obtain ⟨A, c, rfl, h1, h1', h3⟩ := h
  obtain ⟨A2, c2, rfl, k1, k1', k3⟩ := h2
  have := less_any A A2 (canon a) (canon b) c c2 (max m m2) w (h3.more (by omega)) (k3.more (by omega)) (canon_ok a) (canon_ok b) hl hl2
  rw [lessB_canon] at this
  exact this
theorem number_v {neg : Bool} {v : Value} {n d m : Nat} {w : World} (h : WdR w m v n) (hm : m ≤ w.heap.size) (hl : (canon n).length ≤ 100000) (hd : d ≤ 65536) :
    Calls Tryz.prog 68 #[.bool neg, v, .int .i64 (d : Int)] w fun e w' =>
      ∃ v', e = .returned v' ∧ DyR w' w.heap.size w'.heap.size v' (nf (sg neg n) d).1 (nf (sg neg n) d).2 ∧ Below w.heap.size w w' := by
  obtain ⟨A, c, rfl, h1, h1', h3⟩ := h
  exact number_w rfl h3 h1' hm hl hd
theorem res_Add {tmps : Array Value} {w : World} {b : Nat} {v0 v1 v2 : Value} (h2 : tmps.getD 4 undef = .pointer (some ⟨b, 0, none⟩)) (hB : RowD w b [v0, v1, v2] 53) :
    (results Tryz.f34 tmps).run Tryz.prog w = .ok (.agg #[v0, v1, v2]) w := by
  have k0 := hB.cell 0
  have k1 := hB.cell 1
  have k2 := hB.cell 2
  simp at k0 k1 k2
  simp at h2
  simp [results, Tryz.results34, go_sem, h2, k0, k1, k2]
theorem add_any {v v2 : Value} {x y : Int} {dx dy lo1 lo2 m m2 : Nat} {w : World} (D1 : DyR w lo1 m v x dx) (D2 : DyR w lo2 m2 v2 y dy) (hm : m ≤ w.heap.size) (hm2 : m2 ≤ w.heap.size) (l1 : (canon x.natAbs).length ≤ 50000) (l2 : (canon y.natAbs).length ≤ 50000) :
    Calls Tryz.prog 34 #[v, v2] w fun e w' => ∃ v', e = .returned v' ∧ DyR w' w.heap.size w'.heap.size v' (dySum x dx y dy).1 (dySum x dx y dy).2 ∧ Below w.heap.size w w' := by
  replace D2 := D2.more (Nat.le_max_right m m2)
  replace D1 := D1.more (Nat.le_max_left m m2)
  replace hm : max m m2 ≤ w.heap.size := by omega
  generalize max m m2 = m at D1 D2 hm
  obtain ⟨nb1, A1, L1, c1, rfl, HD1⟩ := D1.form
  obtain ⟨nb2, A2, L2, c2, rfl, HD2⟩ := D2.form
  have b0 : Below w.heap.size w (((w.alloc (.cells #[.bool nb1, .slice A1 L1 c1, .int .i64 (dx : Int)] 53)).alloc (.cells #[.bool nb2, .slice A2 L2 c2, .int .i64 (dy : Int)] 53)).alloc (.cells #[.bool false, .slice none 0 0, .int .i64 0] 53)) := ext_alloc (ext_alloc (ext_alloc (Below.refl _ _) _) _) _
  have D1' := D1.below b0 hm
  have D2' := D2.below b0 hm
  clear D1 D2
  have r2 := RowD.new_ ((w.alloc (.cells #[.bool nb1, .slice A1 L1 c1, .int .i64 (dx : Int)] 53)).alloc (.cells #[.bool nb2, .slice A2 L2 c2, .int .i64 (dy : Int)] 53)) [.bool false, .slice none 0 0, .int .i64 0] 53
  have r1 := (RowD.new_ (w.alloc (.cells #[.bool nb1, .slice A1 L1 c1, .int .i64 (dx : Int)] 53)) [.bool nb2, .slice A2 L2 c2, .int .i64 (dy : Int)] 53).call ((Below.refl _ _).alloc (Nat.le_refl _) (.cells #[.bool false, .slice none 0 0, .int .i64 0] 53))
  have r0 := ((RowD.new_ w [.bool nb1, .slice A1 L1 c1, .int .i64 (dx : Int)] 53).call ((Below.refl _ _).alloc (Nat.le_refl _) (.cells #[.bool nb2, .slice A2 L2 c2, .int .i64 (dy : Int)] 53))).call ((Below.refl _ _).alloc (Nat.le_refl _) (.cells #[.bool false, .slice none 0 0, .int .i64 0] 53))
  rw [show ((w.alloc (.cells #[.bool nb1, .slice A1 L1 c1, .int .i64 (dx : Int)] 53)).alloc (.cells #[.bool nb2, .slice A2 L2 c2, .int .i64 (dy : Int)] 53)).heap.size = w.heap.size + 2 by simp] at r2
  rw [show (w.alloc (.cells #[.bool nb1, .slice A1 L1 c1, .int .i64 (dx : Int)] 53)).heap.size = w.heap.size + 1 by simp] at r1
  go_enter Tryz.func34, Tryz.ntmps34
  go_wp2_with fail
  obtain ⟨W, hW⟩ : ∃ W, W = (((w.alloc (.cells #[.bool nb1, .slice A1 L1 c1, .int .i64 (dx : Int)] 53)).alloc (.cells #[.bool nb2, .slice A2 L2 c2, .int .i64 (dy : Int)] 53)).alloc (.cells #[.bool false, .slice none 0 0, .int .i64 0] 53)) := ⟨_, rfl⟩
  have hWs : W.heap.size = w.heap.size + 3 := by rw [hW]; simp
  rw [← hW]
  rw [← hW] at b0 D1' D2' r0 r1 r2
  clear hW
  have a0 : W.cell? ⟨w.heap.size, 0, none⟩ = some (.bool nb1) := r0.cell 0
  have a1 : W.cell? ⟨w.heap.size, 1, none⟩ = some (.slice A1 L1 c1) := r0.cell 1
  have a2 : W.cell? ⟨w.heap.size, 2, none⟩ = some (.int .i64 (dx : Int)) := r0.cell 2
  have e0 : W.cell? ⟨w.heap.size + 1, 0, none⟩ = some (.bool nb2) := r1.cell 0
  have e1 : W.cell? ⟨w.heap.size + 1, 1, none⟩ = some (.slice A2 L2 c2) := r1.cell 1
  have e2 : W.cell? ⟨w.heap.size + 1, 2, none⟩ = some (.int .i64 (dy : Int)) := r1.cell 2
  have hle : m ≤ w.heap.size + 3 := by omega
  have hle2 : m ≤ w.heap.size + 2 := by omega
  have hz : w.heap.size + 3 ≤ W.heap.size := by omega
  refine wp_region_qtail 4 (w.heap.size + 3) hz (by kernel_rfl) (by kernel_rfl) ?_
  intro _
  simp only [List.take_succ_cons, List.take_zero, List.drop_succ_cons, List.drop_zero]
  repeat (go_big_quiet_step ((first
    | (go_at_call 67; exact qext_call (norm_w (D1'.below (ExtW.is _) hle) (Nat.le_trans hle (ExtW.fits _)) (Nat.le_trans l1 (by omega))))
    | (go_at_call 67; exact qext_call (norm_w (D2'.below (ExtW.is _) hle) (Nat.le_trans hle (ExtW.fits _)) (Nat.le_trans l2 (by omega)))))))
  refine wpQuiet_nil ?_
  intro w2 hw'
  obtain ⟨⟨_, hb2, hz2⟩, rfl⟩ := hw'
  have s0 := r0.below hb2 (by omega)
  have s1 := r1.below hb2 (by omega)
  have s2 := r2.below hb2 (by omega)
  have b2 := b0.trans (hb2.mono (by omega))
  replace D1' := D1'.below hb2 hle
  replace D2' := D2'.below hb2 hle
  clear r0 r1 r2 b0 a0 a1 a2 e0 e1 e2 hWs hz hb2
  have a0 : w2.cell? ⟨w.heap.size, 0, none⟩ = some (.bool nb1) := s0.cell 0
  have a1 : w2.cell? ⟨w.heap.size, 1, none⟩ = some (.slice A1 L1 c1) := s0.cell 1
  have a2 : w2.cell? ⟨w.heap.size, 2, none⟩ = some (.int .i64 (dx : Int)) := s0.cell 2
  have e0 : w2.cell? ⟨w.heap.size + 1, 0, none⟩ = some (.bool nb2) := s1.cell 0
  have e1 : w2.cell? ⟨w.heap.size + 1, 1, none⟩ = some (.slice A2 L2 c2) := s1.cell 1
  have e2 : w2.cell? ⟨w.heap.size + 1, 2, none⟩ = some (.int .i64 (dy : Int)) := s1.cell 2
  have f0 := s0.free
  have f1 := s1.free
  have hd1 := HD1.out.2.2.2.2.2.1
  have hd2 := HD2.out.2.2.2.2.2.1
  obtain ⟨D, hD⟩ : ∃ D : Nat, D = max dx dy := ⟨_, rfl⟩
  have hDD : max (dx : Int) (dy : Int) = (D : Int) := by omega
  have hD6 : D ≤ 65536 := by omega
  obtain ⟨p, hp⟩ : ∃ p : Nat, p = D - dx := ⟨_, rfl⟩
  obtain ⟨q, hq⟩ : ∃ q : Nat, q = D - dy := ⟨_, rfl⟩
  have hpp : IntKind.i64.wrap ((D : Int) - (dx : Int)) = (p : Int) := by rw [IntKind.wrap_i64]; omega
  have hqq : IntKind.i64.wrap ((D : Int) - (dy : Int)) = (q : Int) := by rw [IntKind.wrap_i64]; omega
  have hp6 : p ≤ 65536 := by omega
  have hq6 : q ≤ 65536 := by omega
  have HV := Lib.hid (show dySum x dx y dy = nf (x * 2 ^ p + y * 2 ^ q) D by unfold dySum; rw [← hD, ← hp, ← hq])
  have hp6' : p ≤ 1000000 := by omega
  have hq6' : q ≤ 1000000 := by omega
  clear hD hp hq
  go_wp2_with fail
  obtain ⟨W, hW⟩ : ∃ W, W = (((((w2.setCell ⟨w.heap.size, 0, none⟩ (.bool nb1)).setCell ⟨w.heap.size, 1, none⟩ (.slice A1 L1 c1)).setCell ⟨w.heap.size, 2, none⟩ (.int .i64 (dx : Int))).setCell ⟨w.heap.size + 1, 0, none⟩ (.bool nb2)).setCell ⟨w.heap.size + 1, 1, none⟩ (.slice A2 L2 c2)).setCell ⟨w.heap.size + 1, 2, none⟩ (.int .i64 (dy : Int)) := ⟨_, rfl⟩
  rw [← hW]
  have t0 : RowD W w.heap.size [.bool nb1, .slice A1 L1 c1, .int .i64 (dx : Int)] 53 := by
    rw [hW]
    exact ((((((s0.set_ 0 _).set_ 1 _).set_ 2 _).other_ (by omega) _ _).other_ (by omega) _ _).other_ (by omega) _ _)
  have t1 : RowD W (w.heap.size + 1) [.bool nb2, .slice A2 L2 c2, .int .i64 (dy : Int)] 53 := by
    rw [hW]
    exact ((((((s1.other_ (by omega) _ _).other_ (by omega) _ _).other_ (by omega) _ _).set_ 0 _).set_ 1 _).set_ 2 _)
  have t2 : RowD W (w.heap.size + 2) [.bool false, .slice none 0 0, .int .i64 0] 53 := by
    rw [hW]
    exact ((((((s2.other_ (by omega) _ _).other_ (by omega) _ _).other_ (by omega) _ _).other_ (by omega) _ _).other_ (by omega) _ _).other_ (by omega) _ _)
  have b0 : Below w.heap.size w W := by
    rw [hW]
    exact (((((b2.setCell (by simp) _).setCell (by simp) _).setCell (by simp) _).setCell (by simp) _).setCell (by simp) _).setCell (by simp) _
  have hWs : w.heap.size + 3 ≤ W.heap.size := by rw [hW]; simpa using hz2
  have bW : Below w.heap.size w2 W := by
    rw [hW]
    exact ((((((Below.refl _ w2).setCell (by simp) _).setCell (by simp) _).setCell (by simp) _).setCell (by simp) _).setCell (by simp) _).setCell (by simp) _
  have X1 : WdR W m (.slice A1 L1 c1) x.natAbs := D1'.words.below bW hm
  have X2 : WdR W m (.slice A2 L2 c2) y.natAbs := D2'.words.below bW hm
  clear hW bW s0 s1 s2 b2 a0 a1 a2 e0 e1 e2 f0 f1 D1' D2'
  have a0 : W.cell? ⟨w.heap.size, 0, none⟩ = some (.bool nb1) := t0.cell 0
  have a1 : W.cell? ⟨w.heap.size, 1, none⟩ = some (.slice A1 L1 c1) := t0.cell 1
  have a2 : W.cell? ⟨w.heap.size, 2, none⟩ = some (.int .i64 (dx : Int)) := t0.cell 2
  have e0 : W.cell? ⟨w.heap.size + 1, 0, none⟩ = some (.bool nb2) := t1.cell 0
  have e1 : W.cell? ⟨w.heap.size + 1, 1, none⟩ = some (.slice A2 L2 c2) := t1.cell 1
  have e2 : W.cell? ⟨w.heap.size + 1, 2, none⟩ = some (.int .i64 (dy : Int)) := t1.cell 2
  have hk : SK W (w.heap.size + 2) (w.heap.size + 2) W := SK.refl (by omega) ⟨_, _, _, t2⟩
  go_cut [6, 7] (fun s6 s7 wx => ∃ A6 L6 c6 A7 L7 c7, s6 = .slice A6 L6 c6 ∧ s7 = .slice A7 L7 c7 ∧ WdR wx wx.heap.size (.slice A6 L6 c6) (x.natAbs * 2 ^ p) ∧ WdR wx wx.heap.size (.slice A7 L7 c7) (y.natAbs * 2 ^ q) ∧ SK W (w.heap.size + 2) (w.heap.size + 2) wx)
  case first =>
    go_region_held3 (fun w' => (∀ b o, b < w.heap.size + 2 → w'.cell? ⟨b, o, none⟩ = W.cell? ⟨b, o, none⟩) ∧ SK W (w.heap.size + 2) (w.heap.size + 2) w')
      (first
      | (refine SK.all ?_
         first
           | assumption
           | exact hk
           | exact hk.drew
           | exact ((SK.set (by assumption) (by omega) _ _).set (by omega) _ _).set (by omega) _ _))
      (first
        | (go_at_call_of 69 (Value.slice A1 L1 c1); refine (left_w (X1.below (SK.is (m := w.heap.size + 2) (r := w.heap.size + 2) (by first | exact hk | exact hk.drew | assumption)) hle2) ?_ ?_ hp6').mono ?_; exact (Nat.le_trans hle2 (SK.fits (m := w.heap.size + 2) (r := w.heap.size + 2) (by first | exact hk | exact hk.drew | assumption))); exact (by omega); (rintro e w5 ⟨v5, rfl, Y1, hb5⟩; have hk5 := SK.call (W := W) (m := w.heap.size + 2) (r := w.heap.size + 2) (by first | exact hk | exact hk.drew | assumption) hb5; obtain ⟨A5, L5, c5, rfl⟩ := Y1.form))
        | (go_at_call_of 69 (Value.slice A2 L2 c2); refine (left_w (X2.below (SK.is (m := w.heap.size + 2) (r := w.heap.size + 2) (by first | exact hk | exact hk.drew | assumption)) hle2) ?_ ?_ hq6').mono ?_; exact (Nat.le_trans hle2 (SK.fits (m := w.heap.size + 2) (r := w.heap.size + 2) (by first | exact hk | exact hk.drew | assumption))); exact (by omega); (rintro e w4 ⟨v4, rfl, Y2, hb4⟩; have hk4 := SK.call (W := W) (m := w.heap.size + 2) (r := w.heap.size + 2) (by first | exact hk | exact hk.drew | assumption) hb4; obtain ⟨A4, L4, c4, rfl⟩ := Y2.form)))
    all_goals (go_wp2_with fail; go_meet; exact ⟨A5, L5, c5, A4, L4, c4, rfl, rfl, (Y1.below hb4 (Nat.le_refl _)).more hb4.size, Y2, hk4⟩)
  case rest =>
    obtain ⟨A6, L6, c6, A7, L7, c7, rfl, rfl, Y1, Y2, hkx⟩ := hcut
    have g0 : wc.cell? ⟨w.heap.size, 0, none⟩ = some (.bool nb1) := (hkx.all.1 _ _ (by omega)).trans a0
    have g1 : wc.cell? ⟨w.heap.size + 1, 0, none⟩ = some (.bool nb2) := (hkx.all.1 _ _ (by omega)).trans e0
    obtain ⟨a, ha⟩ : ∃ a, a = x.natAbs * 2 ^ p := ⟨_, rfl⟩
    obtain ⟨b, hb⟩ : ∃ b, b = y.natAbs * 2 ^ q := ⟨_, rfl⟩
    have hx := sg_mul x p
    have hy := sg_mul y q
    rw [← HD1.out.1, ← ha] at hx
    rw [← HD2.out.1, ← hb] at hy
    have hla : (canon a).length ≤ 60000 := by
      have := canon_len_shift x.natAbs p
      rw [← ha] at this
      omega
    have hlb : (canon b).length ≤ 60000 := by
      have := canon_len_shift y.natAbs q
      rw [← hb] at this
      omega
    rw [← ha] at Y1
    rw [← hb] at Y2
    have HX := Lib.hid hx
    have HY := Lib.hid hy
    clear ha hb hx hy X1 X2 hle hle2
    by_cases hn : nb1 = nb2
    · as_aux_lemma =>
      subst hn
      have hlen : (canon (a + b)).length ≤ 100000 := by have := canon_len_add a b; omega
      have hval : nf (sg nb1 (a + b)) D = dySum x dx y dy := by rw [ad_same, HX.out, HY.out, HV.out]
      have HVAL := Lib.hid hval
      clear hval
      go_wp2_with fail
      obtain ⟨wv, hwv⟩ : ∃ wv, wv = wc := ⟨_, rfl⟩
      rw [← hwv]
      rw [← hwv] at Y1 Y2 hkx g0 g1
      have hkv := hkx
      clear hwv hkx
      go_region_held3 (fun w' => (∀ b o, b < w.heap.size + 2 → w'.cell? ⟨b, o, none⟩ = W.cell? ⟨b, o, none⟩) ∧ SK W (w.heap.size + 2) (w.heap.size + 2) w')
        (first
          | (refine SK.all ?_
             first
               | assumption
               | exact hkv
               | exact hkv.drew
               | exact ((SK.set (by assumption) (by omega) _ _).set (by omega) _ _).set (by omega) _ _))
        (first
          | (go_at_call 85; refine (plus_w (Y1.below (Below.refl _ wv).drew (Nat.le_refl _)) (Y2.below (Below.refl _ wv).drew (Nat.le_refl _)) (Nat.le_refl _) (Nat.le_refl _) (by omega) (by omega)).mono ?_; (rintro e w5 ⟨v5, rfl, D5, hb5⟩; have hk5 := SK.call (W := W) (m := w.heap.size + 2) (r := w.heap.size + 2) (by first | exact hkv.drew | assumption) hb5; have hf5 := hk5.lt; obtain ⟨A5, L5, c5, rfl⟩ := D5.form))
          | (go_at_call 68; refine (number_v D5 (Nat.le_refl _) hlen hD6).mono ?_; (rintro e w6 ⟨v6, rfl, D6, hb6⟩; have hk6 := SK.call hk5 hb6; have hf6 := hk6.lt; rw [HVAL.out] at D6; obtain ⟨nb6, A9, L9, c9, rfl, _⟩ := D6.form; obtain ⟨z0, z1, z2, rz, k0, k1, k2, kf⟩ := SK.cells hk6)))
      go_wp2_with fail
      refine bodyPost_ret (res_Add rfl (((rz.set_ 0 _).set_ 1 _).set_ 2 _)) rfl ⟨_, rfl, ?_, (((b0.trans (hk6.is.mono (by omega))).setCell (by simp; omega) _).setCell (by simp; omega) _).setCell (by simp; omega) _⟩
      exact ((((D6.set_ (by omega) 0 _).set_ (by omega) 1 _).set_ (by omega) 2 _).low (by omega)).more (by simp)
    · have hne : (nb1 == nb2) = false := by simpa using hn
      have HN := Lib.hid hn
      clear hn
      go_wp2_with fail
      go_at_call 86
      refine (less_w Y1 Y2 (by omega) (by omega)).mono ?_
      rintro e w4 ⟨rfl, hb4⟩
      have hkv := hkx.call hb4
      have g0' : w4.cell? ⟨w.heap.size, 0, none⟩ = some (.bool nb1) := (hkv.all.1 _ _ (by omega)).trans a0
      have g1' : w4.cell? ⟨w.heap.size + 1, 0, none⟩ = some (.bool nb2) := (hkv.all.1 _ _ (by omega)).trans e0
      replace Y1 := (Y1.below hb4 (Nat.le_refl _)).more hb4.size
      replace Y2 := (Y2.below hb4 (Nat.le_refl _)).more hb4.size
      clear hkx hb4 g0 g1
      obtain ⟨wv, hwv⟩ : ∃ wv, wv = w4 := ⟨_, rfl⟩
      rw [← hwv]
      rw [← hwv] at Y1 Y2 hkv g0' g1'
      clear hwv
      by_cases hlt : a < b
      · as_aux_lemma =>
        have hlen : (canon (b - a)).length ≤ 100000 := Nat.le_trans (canon_len_mono (Nat.sub_le _ _)) (by omega)
        have hval : nf (sg nb2 (b - a)) D = dySum x dx y dy := by rw [ad_less HN.out hlt, HX.out, HY.out, HV.out]
        have HVAL := Lib.hid hval
        rw [decide_eq_true hlt]
        have hle : a ≤ b := by omega
        clear hval hlt
        go_wp2_with fail
        go_region_held3 (fun w' => (∀ b o, b < w.heap.size + 2 → w'.cell? ⟨b, o, none⟩ = W.cell? ⟨b, o, none⟩) ∧ SK W (w.heap.size + 2) (w.heap.size + 2) w')
          (first
            | (refine SK.all ?_
               first
                 | assumption
                 | exact hkv
                 | exact hkv.drew
                 | exact ((SK.set (by assumption) (by omega) _ _).set (by omega) _ _).set (by omega) _ _))
          (first
            | (go_at_call 87; refine (minus_w (Y2.below (Below.refl _ wv).drew (Nat.le_refl _)) (Y1.below (Below.refl _ wv).drew (Nat.le_refl _)) (Nat.le_refl _) (Nat.le_refl _) (by omega) hle).mono ?_; (rintro e w5 ⟨v5, rfl, D5, hb5⟩; have hk5 := SK.call (W := W) (m := w.heap.size + 2) (r := w.heap.size + 2) (by first | exact hkv.drew | assumption) hb5; have hf5 := hk5.lt; obtain ⟨A5, L5, c5, rfl⟩ := D5.form))
            | (go_at_call 68; refine (number_v D5 (Nat.le_refl _) hlen hD6).mono ?_; (rintro e w6 ⟨v6, rfl, D6, hb6⟩; have hk6 := SK.call hk5 hb6; have hf6 := hk6.lt; rw [HVAL.out] at D6; obtain ⟨nb6, A9, L9, c9, rfl, _⟩ := D6.form; obtain ⟨z0, z1, z2, rz, k0, k1, k2, kf⟩ := SK.cells hk6)))
        go_wp2_with fail
        refine bodyPost_ret (res_Add rfl (((rz.set_ 0 _).set_ 1 _).set_ 2 _)) rfl ⟨_, rfl, ?_, (((b0.trans (hk6.is.mono (by omega))).setCell (by simp; omega) _).setCell (by simp; omega) _).setCell (by simp; omega) _⟩
        exact ((((D6.set_ (by omega) 0 _).set_ (by omega) 1 _).set_ (by omega) 2 _).low (by omega)).more (by simp)
      · as_aux_lemma =>
        have hlen : (canon (a - b)).length ≤ 100000 := Nat.le_trans (canon_len_mono (Nat.sub_le _ _)) (by omega)
        have hval : nf (sg nb1 (a - b)) D = dySum x dx y dy := by rw [ad_more HN.out (by omega), HX.out, HY.out, HV.out]
        have HVAL := Lib.hid hval
        rw [decide_eq_false hlt]
        have hle : b ≤ a := by omega
        clear hval hlt
        go_wp2_with fail
        go_region_held3 (fun w' => (∀ b o, b < w.heap.size + 2 → w'.cell? ⟨b, o, none⟩ = W.cell? ⟨b, o, none⟩) ∧ SK W (w.heap.size + 2) (w.heap.size + 2) w')
          (first
            | (refine SK.all ?_
               first
                 | assumption
                 | exact hkv
                 | exact hkv.drew
                 | exact ((SK.set (by assumption) (by omega) _ _).set (by omega) _ _).set (by omega) _ _))
          (first
            | (go_at_call 87; refine (minus_w (Y1.below (Below.refl _ wv).drew (Nat.le_refl _)) (Y2.below (Below.refl _ wv).drew (Nat.le_refl _)) (Nat.le_refl _) (Nat.le_refl _) (by omega) hle).mono ?_; (rintro e w5 ⟨v5, rfl, D5, hb5⟩; have hk5 := SK.call (W := W) (m := w.heap.size + 2) (r := w.heap.size + 2) (by first | exact hkv.drew | assumption) hb5; have hf5 := hk5.lt; obtain ⟨A5, L5, c5, rfl⟩ := D5.form))
            | (go_at_call 68; refine (number_v D5 (Nat.le_refl _) hlen hD6).mono ?_; (rintro e w6 ⟨v6, rfl, D6, hb6⟩; have hk6 := SK.call hk5 hb6; have hf6 := hk6.lt; rw [HVAL.out] at D6; obtain ⟨nb6, A9, L9, c9, rfl, _⟩ := D6.form; obtain ⟨z0, z1, z2, rz, k0, k1, k2, kf⟩ := SK.cells hk6)))
        go_wp2_with fail
        refine bodyPost_ret (res_Add rfl (((rz.set_ 0 _).set_ 1 _).set_ 2 _)) rfl ⟨_, rfl, ?_, (((b0.trans (hk6.is.mono (by omega))).setCell (by simp; omega) _).setCell (by simp; omega) _).setCell (by simp; omega) _⟩
        exact ((((D6.set_ (by omega) 0 _).set_ (by omega) 1 _).set_ (by omega) 2 _).low (by omega)).more (by simp)
theorem res_Sub {tmps : Array Value} {w : World} {b : Nat} {v0 v1 v2 : Value} (h2 : tmps.getD 4 undef = .pointer (some ⟨b, 0, none⟩)) (hB : RowD w b [v0, v1, v2] 53) :
    (results Tryz.f84 tmps).run Tryz.prog w = .ok (.agg #[v0, v1, v2]) w := by
  have k0 := hB.cell 0
  have k1 := hB.cell 1
  have k2 := hB.cell 2
  simp at k0 k1 k2
  simp at h2
  simp [results, Tryz.results84, go_sem, h2, k0, k1, k2]
theorem sub_any {v v2 : Value} {x y : Int} {dx dy lo1 lo2 m : Nat} {w : World} (D1 : DyR w lo1 m v x dx) (D2 : DyR w lo2 m v2 y dy) (hm : m ≤ w.heap.size) (l1 : (canon x.natAbs).length ≤ 50000) (l2 : (canon y.natAbs).length ≤ 50000) :
    Calls Tryz.prog 84 #[v, v2] w fun e w' => ∃ v', e = .returned v' ∧ DyR w' w.heap.size w'.heap.size v' (dySum x dx (-y) dy).1 (dySum x dx (-y) dy).2 ∧ Below w.heap.size w w' := by
  obtain ⟨nb1, A1, L1, c1, rfl, HD1⟩ := D1.form
  obtain ⟨nb2, A2, L2, c2, rfl, HD2⟩ := D2.form
  have b0 : Below w.heap.size w (((w.alloc (.cells #[.bool nb1, .slice A1 L1 c1, .int .i64 (dx : Int)] 53)).alloc (.cells #[.bool nb2, .slice A2 L2 c2, .int .i64 (dy : Int)] 53)).alloc (.cells #[.bool false, .slice none 0 0, .int .i64 0] 53)) := ext_alloc (ext_alloc (ext_alloc (Below.refl _ _) _) _) _
  have D1' := D1.below b0 hm
  have D2' := D2.below b0 hm
  clear D1 D2
  have r2 := RowD.new_ ((w.alloc (.cells #[.bool nb1, .slice A1 L1 c1, .int .i64 (dx : Int)] 53)).alloc (.cells #[.bool nb2, .slice A2 L2 c2, .int .i64 (dy : Int)] 53)) [.bool false, .slice none 0 0, .int .i64 0] 53
  have r1 := (RowD.new_ (w.alloc (.cells #[.bool nb1, .slice A1 L1 c1, .int .i64 (dx : Int)] 53)) [.bool nb2, .slice A2 L2 c2, .int .i64 (dy : Int)] 53).call ((Below.refl _ _).alloc (Nat.le_refl _) (.cells #[.bool false, .slice none 0 0, .int .i64 0] 53))
  have r0 := ((RowD.new_ w [.bool nb1, .slice A1 L1 c1, .int .i64 (dx : Int)] 53).call ((Below.refl _ _).alloc (Nat.le_refl _) (.cells #[.bool nb2, .slice A2 L2 c2, .int .i64 (dy : Int)] 53))).call ((Below.refl _ _).alloc (Nat.le_refl _) (.cells #[.bool false, .slice none 0 0, .int .i64 0] 53))
  rw [show ((w.alloc (.cells #[.bool nb1, .slice A1 L1 c1, .int .i64 (dx : Int)] 53)).alloc (.cells #[.bool nb2, .slice A2 L2 c2, .int .i64 (dy : Int)] 53)).heap.size = w.heap.size + 2 by simp] at r2
  rw [show (w.alloc (.cells #[.bool nb1, .slice A1 L1 c1, .int .i64 (dx : Int)] 53)).heap.size = w.heap.size + 1 by simp] at r1
  go_enter Tryz.func84, Tryz.ntmps84
  go_wp2_with fail
  obtain ⟨W, hW⟩ : ∃ W, W = (((w.alloc (.cells #[.bool nb1, .slice A1 L1 c1, .int .i64 (dx : Int)] 53)).alloc (.cells #[.bool nb2, .slice A2 L2 c2, .int .i64 (dy : Int)] 53)).alloc (.cells #[.bool false, .slice none 0 0, .int .i64 0] 53)) := ⟨_, rfl⟩
  have hWs : W.heap.size = w.heap.size + 3 := by rw [hW]; simp
  rw [← hW]
  rw [← hW] at b0 D1' D2' r0 r1 r2
  clear hW
  have a0 : W.cell? ⟨w.heap.size, 0, none⟩ = some (.bool nb1) := r0.cell 0
  have a1 : W.cell? ⟨w.heap.size, 1, none⟩ = some (.slice A1 L1 c1) := r0.cell 1
  have a2 : W.cell? ⟨w.heap.size, 2, none⟩ = some (.int .i64 (dx : Int)) := r0.cell 2
  have e0 : W.cell? ⟨w.heap.size + 1, 0, none⟩ = some (.bool nb2) := r1.cell 0
  have e1 : W.cell? ⟨w.heap.size + 1, 1, none⟩ = some (.slice A2 L2 c2) := r1.cell 1
  have e2 : W.cell? ⟨w.heap.size + 1, 2, none⟩ = some (.int .i64 (dy : Int)) := r1.cell 2
  have hk : SK W (w.heap.size + 2) (w.heap.size + 2) W := SK.refl (by omega) ⟨_, _, _, r2⟩
  have hle : m ≤ w.heap.size + 2 := by omega
  go_region_held3 (fun w' => (∀ b o, b < w.heap.size + 2 → w'.cell? ⟨b, o, none⟩ = W.cell? ⟨b, o, none⟩) ∧ SK W (w.heap.size + 2) (w.heap.size + 2) w')
    (first
      | (refine SK.all ?_
         first
           | assumption
           | exact hk
           | exact hk.drew
           | exact ((SK.set (by assumption) (by omega) _ _).set (by omega) _ _).set (by omega) _ _))
    (first
      | (go_at_call 66; refine (neg_w (D2'.below (SK.is (m := w.heap.size + 2) (r := w.heap.size + 2) (by first | exact hk.drew | assumption)) hle) ?_ ?_).mono ?_; (simp; omega); exact (by omega); (rintro e w5 ⟨v5, rfl, D5, hb5⟩; have hk5 := SK.call (W := W) (m := w.heap.size + 2) (r := w.heap.size + 2) (by first | exact hk.drew | assumption) hb5; have hf5 := hk5.lt; obtain ⟨nb5, A5, L5, c5, rfl, _⟩ := D5.form))
      | (go_at_call 34; refine (add_any (D1'.below (SK.is (m := w.heap.size + 2) (r := w.heap.size + 2) hk5) hle) D5 ?_ ?_ ?_ ?_).mono ?_; exact (by omega); exact (Nat.le_refl _); exact l1; (rw [Int.natAbs_neg]; exact l2); (rintro e w6 ⟨v6, rfl, D6, hb6⟩; have hk6 := SK.call hk5 hb6; have hf6 := hk6.lt; have hlo := hf5; obtain ⟨nb6, A6, L6, c6, rfl, _⟩ := D6.form; obtain ⟨z0, z1, z2, rz, k0, k1, k2, kf⟩ := SK.cells hk6)))
  go_wp2_with fail
  refine bodyPost_ret (res_Sub rfl (((rz.set_ 0 _).set_ 1 _).set_ 2 _)) rfl ⟨_, rfl, ?_, (((b0.trans (hk6.is.mono (by omega))).setCell (by simp; omega) _).setCell (by simp; omega) _).setCell (by simp; omega) _⟩
  exact ((((D6.set_ (by omega) 0 _).set_ (by omega) 1 _).set_ (by omega) 2 _).low (by omega)).more (by simp)
theorem cmp_any {v v2 : Value} {x y : Int} {dx dy lo1 lo2 m : Nat} {w : World} (D1 : DyR w lo1 m v x dx) (D2 : DyR w lo2 m v2 y dy) (hm : m ≤ w.heap.size) (l1 : (canon x.natAbs).length ≤ 50000) (l2 : (canon y.natAbs).length ≤ 50000) :
    Calls Tryz.prog 73 #[v, v2] w fun e w' => e = .returned (.int .i64 (dyCmp x dx y dy)) ∧ Below w.heap.size w w' := by
  have hlen : (canon (dySum x dx (-y) dy).1.natAbs).length ≤ 100000 := dySum_len l1 (by rw [Int.natAbs_neg]; exact l2) D1.bound.1 D2.bound.1
  obtain ⟨nb1, A1, L1, c1, rfl, HD1⟩ := D1.form
  obtain ⟨nb2, A2, L2, c2, rfl, HD2⟩ := D2.form
  have b0 : Below w.heap.size w ((w.alloc (.cells #[.bool nb1, .slice A1 L1 c1, .int .i64 (dx : Int)] 53)).alloc (.cells #[.bool nb2, .slice A2 L2 c2, .int .i64 (dy : Int)] 53)) := ext_alloc (ext_alloc (Below.refl _ _) _) _
  have D1' := Lib.hid (D1.below b0 hm)
  have D2' := Lib.hid (D2.below b0 hm)
  clear D1 D2
  go_enter Tryz.func73, Tryz.ntmps73
  go_wp2_with fail
  go_at_call 84
  refine (sub_any D1'.out D2'.out (by simp; omega) l1 l2).mono ?_
  rintro e w5 ⟨v5, rfl, D5, hb5⟩
  have D5' := Lib.hid D5
  obtain ⟨nb5, A5, L5, c5, rfl, _⟩ := D5.form
  have b5 := b0.trans (hb5.mono (by simp; omega))
  clear D5 hb5
  go_wp2_with fail
  go_at_call 63
  refine (sign_w D5'.out (Nat.le_refl _) hlen).mono ?_
  rintro e w6 ⟨rfl, hb6⟩
  have b6 := b5.trans (hb6.mono (by have := b5.size; omega))
  go_wp2_with fail
  go_ret
  exact ⟨rfl, b6⟩
theorem res_Min {tmps : Array Value} {w : World} {b : Nat} {v0 v1 v2 : Value} (h2 : tmps.getD 4 undef = .pointer (some ⟨b, 0, none⟩)) (hB : RowD w b [v0, v1, v2] 53) :
    (results Tryz.f131 tmps).run Tryz.prog w = .ok (.agg #[v0, v1, v2]) w := by
  have k0 := hB.cell 0
  have k1 := hB.cell 1
  have k2 := hB.cell 2
  simp at k0 k1 k2
  simp at h2
  simp [results, Tryz.results131, go_sem, h2, k0, k1, k2]
theorem min_any {v v2 : Value} {x y : Int} {dx dy lo1 lo2 m : Nat} {w : World} (D1 : DyR w lo1 m v x dx) (D2 : DyR w lo2 m v2 y dy) (hm : m ≤ w.heap.size) (l1 : (canon x.natAbs).length ≤ 50000) (l2 : (canon y.natAbs).length ≤ 50000) :
    Calls Tryz.prog 131 #[v, v2] w fun e w' => ∃ v', e = .returned v' ∧ DyR w' w.heap.size w'.heap.size v' (dyMin x dx y dy).1 (dyMin x dx y dy).2 ∧ Below w.heap.size w w' := by
  have HB1 := D1.bound
  have HB2 := D2.bound
  obtain ⟨nb1, A1, L1, c1, rfl, HD1⟩ := D1.form
  obtain ⟨nb2, A2, L2, c2, rfl, HD2⟩ := D2.form
  have b0 : Below w.heap.size w (((w.alloc (.cells #[.bool nb1, .slice A1 L1 c1, .int .i64 (dx : Int)] 53)).alloc (.cells #[.bool nb2, .slice A2 L2 c2, .int .i64 (dy : Int)] 53)).alloc (.cells #[.bool false, .slice none 0 0, .int .i64 0] 53)) := ext_alloc (ext_alloc (ext_alloc (Below.refl _ _) _) _) _
  have D1' := D1.below b0 hm
  have D2' := D2.below b0 hm
  clear D1 D2
  have r2 := RowD.new_ ((w.alloc (.cells #[.bool nb1, .slice A1 L1 c1, .int .i64 (dx : Int)] 53)).alloc (.cells #[.bool nb2, .slice A2 L2 c2, .int .i64 (dy : Int)] 53)) [.bool false, .slice none 0 0, .int .i64 0] 53
  have r1 := (RowD.new_ (w.alloc (.cells #[.bool nb1, .slice A1 L1 c1, .int .i64 (dx : Int)] 53)) [.bool nb2, .slice A2 L2 c2, .int .i64 (dy : Int)] 53).call ((Below.refl _ _).alloc (Nat.le_refl _) (.cells #[.bool false, .slice none 0 0, .int .i64 0] 53))
  have r0 := ((RowD.new_ w [.bool nb1, .slice A1 L1 c1, .int .i64 (dx : Int)] 53).call ((Below.refl _ _).alloc (Nat.le_refl _) (.cells #[.bool nb2, .slice A2 L2 c2, .int .i64 (dy : Int)] 53))).call ((Below.refl _ _).alloc (Nat.le_refl _) (.cells #[.bool false, .slice none 0 0, .int .i64 0] 53))
  rw [show ((w.alloc (.cells #[.bool nb1, .slice A1 L1 c1, .int .i64 (dx : Int)] 53)).alloc (.cells #[.bool nb2, .slice A2 L2 c2, .int .i64 (dy : Int)] 53)).heap.size = w.heap.size + 2 by simp] at r2
  rw [show (w.alloc (.cells #[.bool nb1, .slice A1 L1 c1, .int .i64 (dx : Int)] 53)).heap.size = w.heap.size + 1 by simp] at r1
  go_enter Tryz.func131, Tryz.ntmps131
  go_wp2_with fail
  obtain ⟨W, hW⟩ : ∃ W, W = (((w.alloc (.cells #[.bool nb1, .slice A1 L1 c1, .int .i64 (dx : Int)] 53)).alloc (.cells #[.bool nb2, .slice A2 L2 c2, .int .i64 (dy : Int)] 53)).alloc (.cells #[.bool false, .slice none 0 0, .int .i64 0] 53)) := ⟨_, rfl⟩
  have hWs : W.heap.size = w.heap.size + 3 := by rw [hW]; simp
  rw [← hW]
  rw [← hW] at b0 D1' D2' r0 r1 r2
  clear hW
  have a0 : W.cell? ⟨w.heap.size, 0, none⟩ = some (.bool nb1) := r0.cell 0
  have a1 : W.cell? ⟨w.heap.size, 1, none⟩ = some (.slice A1 L1 c1) := r0.cell 1
  have a2 : W.cell? ⟨w.heap.size, 2, none⟩ = some (.int .i64 (dx : Int)) := r0.cell 2
  have e0 : W.cell? ⟨w.heap.size + 1, 0, none⟩ = some (.bool nb2) := r1.cell 0
  have e1 : W.cell? ⟨w.heap.size + 1, 1, none⟩ = some (.slice A2 L2 c2) := r1.cell 1
  have e2 : W.cell? ⟨w.heap.size + 1, 2, none⟩ = some (.int .i64 (dy : Int)) := r1.cell 2
  go_at_call 73
  refine (cmp_any D1' D2' (by omega) l1 l2).mono ?_
  rintro e w2 ⟨rfl, hb2⟩
  have s0 := r0.call hb2
  have s1 := r1.call hb2
  have s2 := r2.call hb2
  have b2 := b0.trans (hb2.mono (by omega))
  replace D1' := D1'.below hb2 (by omega)
  replace D2' := D2'.below hb2 (by omega)
  have hz2 : w.heap.size + 3 ≤ w2.heap.size := by have := hb2.size; omega
  clear r0 r1 r2 b0 a0 a1 a2 e0 e1 e2 hWs hb2
  have a0 : w2.cell? ⟨w.heap.size, 0, none⟩ = some (.bool nb1) := s0.cell 0
  have a1 : w2.cell? ⟨w.heap.size, 1, none⟩ = some (.slice A1 L1 c1) := s0.cell 1
  have a2 : w2.cell? ⟨w.heap.size, 2, none⟩ = some (.int .i64 (dx : Int)) := s0.cell 2
  have e0 : w2.cell? ⟨w.heap.size + 1, 0, none⟩ = some (.bool nb2) := s1.cell 0
  have e1 : w2.cell? ⟨w.heap.size + 1, 1, none⟩ = some (.slice A2 L2 c2) := s1.cell 1
  have e2 : w2.cell? ⟨w.heap.size + 1, 2, none⟩ = some (.int .i64 (dy : Int)) := s1.cell 2
  have f0 := s0.free
  by_cases hc : 0 < dyCmp x dx y dy
  · as_aux_lemma =>
    have HC := Lib.hid hc
    have hodd := HB2.2
    obtain ⟨cv, hcv⟩ : ∃ cv, cv = dyCmp x dx y dy := ⟨_, rfl⟩
    rw [← hcv] at hc
    rw [← hcv]
    have hcb : decide (0 < cv) = true := decide_eq_true hc
    clear hcv HB1 HB2
    go_wp2_with fail
    go_at_call 34
    obtain ⟨W, hW⟩ : ∃ W, W = ((w2.setCell ⟨w.heap.size, 0, none⟩ (.bool nb2)).setCell ⟨w.heap.size, 1, none⟩ (.slice A2 L2 c2)).setCell ⟨w.heap.size, 2, none⟩ (.int .i64 (dy : Int)) := ⟨_, rfl⟩
    have rz : RowD W (w.heap.size + 2) [.bool false, .slice none 0 0, .int .i64 0] 53 := by
      rw [hW]
      exact ((s2.other_ (by omega) _ _).other_ (by omega) _ _).other_ (by omega) _ _
    have bW : Below w.heap.size w W := by
      rw [hW]
      exact ((b2.setCell (by simp) _).setCell (by simp) _).setCell (by simp) _
    have bX : Below w.heap.size w2 W := by
      rw [hW]
      exact (((Below.refl _ w2).setCell (by simp) _).setCell (by simp) _).setCell (by simp) _
    have hWs : w.heap.size + 3 ≤ W.heap.size := by rw [hW]; simpa using hz2
    rw [← hW]
    clear hW s0 s1 s2 a0 a1 a2 e0 e1 e2 f0 b2
    have D0 : DyR W 0 0 (.agg #[.bool false, .slice none 0 0, .int .i64 0]) 0 0 := DyR.zero_ _ _ _
    have hk : SK W (w.heap.size + 2) (w.heap.size + 2) W := SK.refl (by omega) ⟨_, _, _, rz⟩
    refine (add_any (D2'.below bX hm) D0 (by omega) (by omega) l2 (by simp [canon_zero])).mono ?_
    rintro e w6 ⟨v6, rfl, D6, hb6⟩
    have hk6 := SK.call hk hb6
    rw [dySum_zero hodd] at D6
    have D6' := Lib.hid D6
    obtain ⟨nb6, A6, L6, c6, rfl, _⟩ := D6.form
    have hf6 := hk6.lt
    obtain ⟨z0, z1, z2, rw6, k0, k1, k2, kf⟩ := SK.cells hk6
    have b6 := bW.trans (hb6.mono (by omega))
    clear D6 hb6 hk6 hk rz bW
    go_wp2_with fail
    refine bodyPost_ret (res_Min rfl (((rw6.set_ 0 _).set_ 1 _).set_ 2 _)) rfl ⟨_, rfl, ?_, ((b6.setCell (by simp; omega) _).setCell (by simp; omega) _).setCell (by simp; omega) _⟩
    have HE := ((((D6'.out.set_ (b := w.heap.size + 2) (by omega) 0 (.bool nb6)).set_ (b := w.heap.size + 2) (by omega) 1 (.slice A6 L6 c6)).set_ (b := w.heap.size + 2) (by omega) 2 (.int .i64 (dy : Int))).low (show w.heap.size ≤ W.heap.size by omega))
    have hv : dyMin x dx y dy = (y, dy) := by
      unfold dyMin
      exact if_pos (by have := HC.out; omega)
    rw [hv]
    exact HE.more (by simp)
  · as_aux_lemma =>
    have HC := Lib.hid hc
    have hodd := HB1.2
    obtain ⟨cv, hcv⟩ : ∃ cv, cv = dyCmp x dx y dy := ⟨_, rfl⟩
    rw [← hcv] at hc
    rw [← hcv]
    have hcb : decide (0 < cv) = false := decide_eq_false hc
    clear hcv HB1 HB2
    go_wp2_with fail
    go_at_call 34
    obtain ⟨W, hW⟩ : ∃ W, W = w2 := ⟨_, rfl⟩
    have rz := s2
    have bW := b2
    have hWs := hz2
    rw [← hW]
    rw [← hW] at rz bW hWs D1' D2'
    clear hW s0 s1 s2 a0 a1 a2 e0 e1 e2 f0 b2
    have D0 : DyR W 0 0 (.agg #[.bool false, .slice none 0 0, .int .i64 0]) 0 0 := DyR.zero_ _ _ _
    have hk : SK W (w.heap.size + 2) (w.heap.size + 2) W := SK.refl (by omega) ⟨_, _, _, rz⟩
    refine (add_any D1' D0 (by omega) (by omega) l1 (by simp [canon_zero])).mono ?_
    rintro e w6 ⟨v6, rfl, D6, hb6⟩
    have hk6 := SK.call hk hb6
    rw [dySum_zero hodd] at D6
    have D6' := Lib.hid D6
    obtain ⟨nb6, A6, L6, c6, rfl, _⟩ := D6.form
    have hf6 := hk6.lt
    obtain ⟨z0, z1, z2, rw6, k0, k1, k2, kf⟩ := SK.cells hk6
    have b6 := bW.trans (hb6.mono (by omega))
    clear D6 hb6 hk6 hk rz bW
    go_wp2_with fail
    refine bodyPost_ret (res_Min rfl (((rw6.set_ 0 _).set_ 1 _).set_ 2 _)) rfl ⟨_, rfl, ?_, ((b6.setCell (by simp; omega) _).setCell (by simp; omega) _).setCell (by simp; omega) _⟩
    have HE := ((((D6'.out.set_ (b := w.heap.size + 2) (by omega) 0 (.bool nb6)).set_ (b := w.heap.size + 2) (by omega) 1 (.slice A6 L6 c6)).set_ (b := w.heap.size + 2) (by omega) 2 (.int .i64 (dx : Int))).low (show w.heap.size ≤ W.heap.size by omega))
    have hv : dyMin x dx y dy = (x, dx) := by
      unfold dyMin
      exact if_neg (by have := HC.out; omega)
    rw [hv]
    exact HE.more (by simp)
theorem res_Max {tmps : Array Value} {w : World} {b : Nat} {v0 v1 v2 : Value} (h2 : tmps.getD 4 undef = .pointer (some ⟨b, 0, none⟩)) (hB : RowD w b [v0, v1, v2] 53) :
    (results Tryz.f132 tmps).run Tryz.prog w = .ok (.agg #[v0, v1, v2]) w := by
  have k0 := hB.cell 0
  have k1 := hB.cell 1
  have k2 := hB.cell 2
  simp at k0 k1 k2
  simp at h2
  simp [results, Tryz.results132, go_sem, h2, k0, k1, k2]
theorem max_any {v v2 : Value} {x y : Int} {dx dy lo1 lo2 m : Nat} {w : World} (D1 : DyR w lo1 m v x dx) (D2 : DyR w lo2 m v2 y dy) (hm : m ≤ w.heap.size) (l1 : (canon x.natAbs).length ≤ 50000) (l2 : (canon y.natAbs).length ≤ 50000) :
    Calls Tryz.prog 132 #[v, v2] w fun e w' => ∃ v', e = .returned v' ∧ DyR w' w.heap.size w'.heap.size v' (dyMax x dx y dy).1 (dyMax x dx y dy).2 ∧ Below w.heap.size w w' := by
  have HB1 := D1.bound
  have HB2 := D2.bound
  obtain ⟨nb1, A1, L1, c1, rfl, HD1⟩ := D1.form
  obtain ⟨nb2, A2, L2, c2, rfl, HD2⟩ := D2.form
  have b0 : Below w.heap.size w (((w.alloc (.cells #[.bool nb1, .slice A1 L1 c1, .int .i64 (dx : Int)] 53)).alloc (.cells #[.bool nb2, .slice A2 L2 c2, .int .i64 (dy : Int)] 53)).alloc (.cells #[.bool false, .slice none 0 0, .int .i64 0] 53)) := ext_alloc (ext_alloc (ext_alloc (Below.refl _ _) _) _) _
  have D1' := D1.below b0 hm
  have D2' := D2.below b0 hm
  clear D1 D2
  have r2 := RowD.new_ ((w.alloc (.cells #[.bool nb1, .slice A1 L1 c1, .int .i64 (dx : Int)] 53)).alloc (.cells #[.bool nb2, .slice A2 L2 c2, .int .i64 (dy : Int)] 53)) [.bool false, .slice none 0 0, .int .i64 0] 53
  have r1 := (RowD.new_ (w.alloc (.cells #[.bool nb1, .slice A1 L1 c1, .int .i64 (dx : Int)] 53)) [.bool nb2, .slice A2 L2 c2, .int .i64 (dy : Int)] 53).call ((Below.refl _ _).alloc (Nat.le_refl _) (.cells #[.bool false, .slice none 0 0, .int .i64 0] 53))
  have r0 := ((RowD.new_ w [.bool nb1, .slice A1 L1 c1, .int .i64 (dx : Int)] 53).call ((Below.refl _ _).alloc (Nat.le_refl _) (.cells #[.bool nb2, .slice A2 L2 c2, .int .i64 (dy : Int)] 53))).call ((Below.refl _ _).alloc (Nat.le_refl _) (.cells #[.bool false, .slice none 0 0, .int .i64 0] 53))
  rw [show ((w.alloc (.cells #[.bool nb1, .slice A1 L1 c1, .int .i64 (dx : Int)] 53)).alloc (.cells #[.bool nb2, .slice A2 L2 c2, .int .i64 (dy : Int)] 53)).heap.size = w.heap.size + 2 by simp] at r2
  rw [show (w.alloc (.cells #[.bool nb1, .slice A1 L1 c1, .int .i64 (dx : Int)] 53)).heap.size = w.heap.size + 1 by simp] at r1
  go_enter Tryz.func132, Tryz.ntmps132
  go_wp2_with fail
  obtain ⟨W, hW⟩ : ∃ W, W = (((w.alloc (.cells #[.bool nb1, .slice A1 L1 c1, .int .i64 (dx : Int)] 53)).alloc (.cells #[.bool nb2, .slice A2 L2 c2, .int .i64 (dy : Int)] 53)).alloc (.cells #[.bool false, .slice none 0 0, .int .i64 0] 53)) := ⟨_, rfl⟩
  have hWs : W.heap.size = w.heap.size + 3 := by rw [hW]; simp
  rw [← hW]
  rw [← hW] at b0 D1' D2' r0 r1 r2
  clear hW
  have a0 : W.cell? ⟨w.heap.size, 0, none⟩ = some (.bool nb1) := r0.cell 0
  have a1 : W.cell? ⟨w.heap.size, 1, none⟩ = some (.slice A1 L1 c1) := r0.cell 1
  have a2 : W.cell? ⟨w.heap.size, 2, none⟩ = some (.int .i64 (dx : Int)) := r0.cell 2
  have e0 : W.cell? ⟨w.heap.size + 1, 0, none⟩ = some (.bool nb2) := r1.cell 0
  have e1 : W.cell? ⟨w.heap.size + 1, 1, none⟩ = some (.slice A2 L2 c2) := r1.cell 1
  have e2 : W.cell? ⟨w.heap.size + 1, 2, none⟩ = some (.int .i64 (dy : Int)) := r1.cell 2
  go_at_call 73
  refine (cmp_any D1' D2' (by omega) l1 l2).mono ?_
  rintro e w2 ⟨rfl, hb2⟩
  have s0 := r0.call hb2
  have s1 := r1.call hb2
  have s2 := r2.call hb2
  have b2 := b0.trans (hb2.mono (by omega))
  replace D1' := D1'.below hb2 (by omega)
  replace D2' := D2'.below hb2 (by omega)
  have hz2 : w.heap.size + 3 ≤ w2.heap.size := by have := hb2.size; omega
  clear r0 r1 r2 b0 a0 a1 a2 e0 e1 e2 hWs hb2
  have a0 : w2.cell? ⟨w.heap.size, 0, none⟩ = some (.bool nb1) := s0.cell 0
  have a1 : w2.cell? ⟨w.heap.size, 1, none⟩ = some (.slice A1 L1 c1) := s0.cell 1
  have a2 : w2.cell? ⟨w.heap.size, 2, none⟩ = some (.int .i64 (dx : Int)) := s0.cell 2
  have e0 : w2.cell? ⟨w.heap.size + 1, 0, none⟩ = some (.bool nb2) := s1.cell 0
  have e1 : w2.cell? ⟨w.heap.size + 1, 1, none⟩ = some (.slice A2 L2 c2) := s1.cell 1
  have e2 : w2.cell? ⟨w.heap.size + 1, 2, none⟩ = some (.int .i64 (dy : Int)) := s1.cell 2
  have f0 := s0.free
  by_cases hc : dyCmp x dx y dy < 0
  · as_aux_lemma =>
    have HC := Lib.hid hc
    have hodd := HB2.2
    obtain ⟨cv, hcv⟩ : ∃ cv, cv = dyCmp x dx y dy := ⟨_, rfl⟩
    rw [← hcv] at hc
    rw [← hcv]
    have hcb : decide (cv < 0) = true := decide_eq_true hc
    clear hcv HB1 HB2
    go_wp2_with fail
    go_at_call 34
    obtain ⟨W, hW⟩ : ∃ W, W = ((w2.setCell ⟨w.heap.size, 0, none⟩ (.bool nb2)).setCell ⟨w.heap.size, 1, none⟩ (.slice A2 L2 c2)).setCell ⟨w.heap.size, 2, none⟩ (.int .i64 (dy : Int)) := ⟨_, rfl⟩
    have rz : RowD W (w.heap.size + 2) [.bool false, .slice none 0 0, .int .i64 0] 53 := by
      rw [hW]
      exact ((s2.other_ (by omega) _ _).other_ (by omega) _ _).other_ (by omega) _ _
    have bW : Below w.heap.size w W := by
      rw [hW]
      exact ((b2.setCell (by simp) _).setCell (by simp) _).setCell (by simp) _
    have bX : Below w.heap.size w2 W := by
      rw [hW]
      exact (((Below.refl _ w2).setCell (by simp) _).setCell (by simp) _).setCell (by simp) _
    have hWs : w.heap.size + 3 ≤ W.heap.size := by rw [hW]; simpa using hz2
    rw [← hW]
    clear hW s0 s1 s2 a0 a1 a2 e0 e1 e2 f0 b2
    have D0 : DyR W 0 0 (.agg #[.bool false, .slice none 0 0, .int .i64 0]) 0 0 := DyR.zero_ _ _ _
    have hk : SK W (w.heap.size + 2) (w.heap.size + 2) W := SK.refl (by omega) ⟨_, _, _, rz⟩
    refine (add_any (D2'.below bX hm) D0 (by omega) (by omega) l2 (by simp [canon_zero])).mono ?_
    rintro e w6 ⟨v6, rfl, D6, hb6⟩
    have hk6 := SK.call hk hb6
    rw [dySum_zero hodd] at D6
    have D6' := Lib.hid D6
    obtain ⟨nb6, A6, L6, c6, rfl, _⟩ := D6.form
    have hf6 := hk6.lt
    obtain ⟨z0, z1, z2, rw6, k0, k1, k2, kf⟩ := SK.cells hk6
    have b6 := bW.trans (hb6.mono (by omega))
    clear D6 hb6 hk6 hk rz bW
    go_wp2_with fail
    refine bodyPost_ret (res_Max rfl (((rw6.set_ 0 _).set_ 1 _).set_ 2 _)) rfl ⟨_, rfl, ?_, ((b6.setCell (by simp; omega) _).setCell (by simp; omega) _).setCell (by simp; omega) _⟩
    have HE := ((((D6'.out.set_ (b := w.heap.size + 2) (by omega) 0 (.bool nb6)).set_ (b := w.heap.size + 2) (by omega) 1 (.slice A6 L6 c6)).set_ (b := w.heap.size + 2) (by omega) 2 (.int .i64 (dy : Int))).low (show w.heap.size ≤ W.heap.size by omega))
    have hv : dyMax x dx y dy = (y, dy) := by
      unfold dyMax
      exact if_pos (by have := HC.out; omega)
    rw [hv]
    exact HE.more (by simp)
  · as_aux_lemma =>
    have HC := Lib.hid hc
    have hodd := HB1.2
    obtain ⟨cv, hcv⟩ : ∃ cv, cv = dyCmp x dx y dy := ⟨_, rfl⟩
    rw [← hcv] at hc
    rw [← hcv]
    have hcb : decide (cv < 0) = false := decide_eq_false hc
    clear hcv HB1 HB2
    go_wp2_with fail
    go_at_call 34
    obtain ⟨W, hW⟩ : ∃ W, W = w2 := ⟨_, rfl⟩
    have rz := s2
    have bW := b2
    have hWs := hz2
    rw [← hW]
    rw [← hW] at rz bW hWs D1' D2'
    clear hW s0 s1 s2 a0 a1 a2 e0 e1 e2 f0 b2
    have D0 : DyR W 0 0 (.agg #[.bool false, .slice none 0 0, .int .i64 0]) 0 0 := DyR.zero_ _ _ _
    have hk : SK W (w.heap.size + 2) (w.heap.size + 2) W := SK.refl (by omega) ⟨_, _, _, rz⟩
    refine (add_any D1' D0 (by omega) (by omega) l1 (by simp [canon_zero])).mono ?_
    rintro e w6 ⟨v6, rfl, D6, hb6⟩
    have hk6 := SK.call hk hb6
    rw [dySum_zero hodd] at D6
    have D6' := Lib.hid D6
    obtain ⟨nb6, A6, L6, c6, rfl, _⟩ := D6.form
    have hf6 := hk6.lt
    obtain ⟨z0, z1, z2, rw6, k0, k1, k2, kf⟩ := SK.cells hk6
    have b6 := bW.trans (hb6.mono (by omega))
    clear D6 hb6 hk6 hk rz bW
    go_wp2_with fail
    refine bodyPost_ret (res_Max rfl (((rw6.set_ 0 _).set_ 1 _).set_ 2 _)) rfl ⟨_, rfl, ?_, ((b6.setCell (by simp; omega) _).setCell (by simp; omega) _).setCell (by simp; omega) _⟩
    have HE := ((((D6'.out.set_ (b := w.heap.size + 2) (by omega) 0 (.bool nb6)).set_ (b := w.heap.size + 2) (by omega) 1 (.slice A6 L6 c6)).set_ (b := w.heap.size + 2) (by omega) 2 (.int .i64 (dx : Int))).low (show w.heap.size ≤ W.heap.size by omega))
    have hv : dyMax x dx y dy = (x, dx) := by
      unfold dyMax
      exact if_neg (by have := HC.out; omega)
    rw [hv]
    exact HE.more (by simp)
theorem res_Shift {tmps : Array Value} {w : World} {b : Nat} {v0 v1 v2 : Value} (h2 : tmps.getD 4 undef = .pointer (some ⟨b, 0, none⟩)) (hB : RowD w b [v0, v1, v2] 53) :
    (results Tryz.f23 tmps).run Tryz.prog w = .ok (.agg #[v0, v1, v2]) w := by
  have k0 := hB.cell 0
  have k1 := hB.cell 1
  have k2 := hB.cell 2
  simp at k0 k1 k2
  simp at h2
  simp [results, Tryz.results23, go_sem, h2, k0, k1, k2]
theorem dshift_any {v : Value} {x : Int} {d lo m : Nat} {n : Int} {w : World} (D : DyR w lo m v x d) (hm : m ≤ w.heap.size) (hl : (canon x.natAbs).length ≤ 50000) (hd : (d : Int) - max (-65536) (min n 65536) ≤ 65536) :
    Calls Tryz.prog 23 #[v, .int .i64 n] w fun e w' => ∃ v', e = .returned v' ∧ DyR w' w.heap.size w'.heap.size v' (dyShift x d n).1 (dyShift x d n).2 ∧ Below w.heap.size w w' := by
  obtain ⟨nn, hnn⟩ : ∃ nn : Int, max (-65536) (min n 65536) = nn := ⟨_, rfl⟩
  have hb1 : -65536 ≤ nn := by omega
  have hb2 : nn ≤ 65536 := by omega
  rw [hnn] at hd
  by_cases hneg : nn < 0
  · as_aux_lemma =>
    obtain ⟨p, hp⟩ : ∃ p : Nat, p = d + (-nn).toNat := ⟨_, rfl⟩
    have HV := Lib.hid (show dyShift x d n = nf x p by unfold dyShift; rw [hnn, if_pos hneg, ← hp])
    have hpp : (d : Int) - nn = (p : Int) := by omega
    have hp6 : p ≤ 65536 := by omega
    clear hp
    obtain ⟨nb, A, L, c, rfl, HD⟩ := D.form
    have D' := Lib.hid D
    clear D
    have b0 : Below w.heap.size w ((w.alloc (.cells #[.bool nb, .slice A L c, .int .i64 (d : Int)] 53)).alloc (.cells #[.bool false, .slice none 0 0, .int .i64 0] 53)) := ext_alloc (ext_alloc (Below.refl _ _) _) _
    have r0 := (RowD.new_ w [.bool nb, .slice A L c, .int .i64 (d : Int)] 53).call ((Below.refl _ _).alloc (Nat.le_refl _) (.cells #[.bool false, .slice none 0 0, .int .i64 0] 53))
    have r1 := (RowD.new_ (w.alloc (.cells #[.bool nb, .slice A L c, .int .i64 (d : Int)] 53)) [.bool false, .slice none 0 0, .int .i64 0] 53)
    rw [show (w.alloc (.cells #[.bool nb, .slice A L c, .int .i64 (d : Int)] 53)).heap.size = w.heap.size + 1 by simp] at r1
    go_enter Tryz.func23, Tryz.ntmps23
    go_wp2_with fail
    go_at_call 67
    refine (norm_w (D'.out.below b0 hm) (by simp; omega) (by omega)).mono ?_
    rintro e w1 ⟨rfl, hb⟩
    have s0 := r0.below hb (by simp; omega)
    have s1 := r1.below hb (by simp)
    have b1 := b0.trans (hb.mono (by simp; omega))
    have D1 := Lib.hid (D'.out.below b1 hm)
    have hz1 : w.heap.size + 2 ≤ w1.heap.size := by simpa using hb.size
    clear hb r0 r1 b0
    have k0 : w1.cell? ⟨w.heap.size, 0, none⟩ = some (.bool nb) := s0.cell 0
    have k1 : w1.cell? ⟨w.heap.size, 1, none⟩ = some (.slice A L c) := s0.cell 1
    have k2 : w1.cell? ⟨w.heap.size, 2, none⟩ = some (.int .i64 (d : Int)) := s0.cell 2
    have kf := s0.free
    go_wp2_with fail
    go_at_call 68
    obtain ⟨W, hW⟩ : ∃ W, W = ((w1.setCell ⟨w.heap.size, 0, none⟩ (.bool nb)).setCell ⟨w.heap.size, 1, none⟩ (.slice A L c)).setCell ⟨w.heap.size, 2, none⟩ (.int .i64 (d : Int)) := ⟨_, rfl⟩
    have hWs : w.heap.size + 2 ≤ W.heap.size := by rw [hW]; simpa using hz1
    have b2 : Below w.heap.size w W := by rw [hW]; exact ((b1.setCell (by simp) _).setCell (by simp) _).setCell (by simp) _
    have t0 : RowD W w.heap.size [.bool nb, .slice A L c, .int .i64 (d : Int)] 53 := by
      rw [hW]
      exact ((s0.set_ 0 _).set_ 1 _).set_ 2 _
    have t1 : RowD W (w.heap.size + 1) [.bool false, .slice none 0 0, .int .i64 0] 53 := by
      rw [hW]
      exact ((s1.other_ (by omega) _ _).other_ (by omega) _ _).other_ (by omega) _ _
    have X : WdR W m (.slice A L c) x.natAbs := (D'.out.below b2 hm).words
    rw [← hW]
    clear hW s0 s1 b1 k0 k1 k2 kf hz1 D1
    have k0 : W.cell? ⟨w.heap.size, 0, none⟩ = some (.bool nb) := t0.cell 0
    have k1 : W.cell? ⟨w.heap.size, 1, none⟩ = some (.slice A L c) := t0.cell 1
    have k2 : W.cell? ⟨w.heap.size, 2, none⟩ = some (.int .i64 (d : Int)) := t0.cell 2
    refine (number_v X (by omega) (by omega) hp6).mono ?_
    rintro e w3 ⟨v', rfl, D3, hb3⟩
    rw [HD.out.1, sg_back, ← HV.out] at D3
    have b3 := b2.trans (hb3.mono (by omega))
    have u1 := t1.call hb3
    have hu1 := u1.lt
    obtain ⟨nb3, A3, L3, c3, rfl, _⟩ := D3.form
    have D3' := Lib.hid D3
    have q0 : w3.cell? ⟨w.heap.size + 1, 0, none⟩ = some (.bool false) := u1.cell 0
    have q1 : w3.cell? ⟨w.heap.size + 1, 1, none⟩ = some (.slice none 0 0) := u1.cell 1
    have q2 : w3.cell? ⟨w.heap.size + 1, 2, none⟩ = some (.int .i64 0) := u1.cell 2
    have qf := u1.free
    clear D3 hb3 t0 t1 b2 X
    go_wp2_with fail
    refine bodyPost_ret (res_Shift rfl (((u1.set_ 0 _).set_ 1 _).set_ 2 _)) rfl ⟨_, rfl, ?_, ((b3.setCell (by simp) _).setCell (by simp) _).setCell (by simp) _⟩
    exact ((((D3'.out.set_ (by omega) 0 _).set_ (by omega) 1 _).set_ (by omega) 2 _).low (by omega)).more (by simp)
  · as_aux_lemma =>
    obtain ⟨p, hp⟩ : ∃ p : Nat, nn = (p : Int) := ⟨nn.toNat, by omega⟩
    subst hp
    have HV := Lib.hid (show dyShift x d n = nf (x * 2 ^ p) d by unfold dyShift; rw [hnn, if_neg hneg]; rfl)
    have hneg' : ¬ (p : Int) < 0 := by omega
    have hn2 : decide ((p : Int) < 0) = false := decide_eq_false hneg'
    have hp6 : p ≤ 1000000 := by omega
    clear hneg
    obtain ⟨nb, A, L, c, rfl, HD⟩ := D.form
    have D' := Lib.hid D
    clear D
    have b0 : Below w.heap.size w ((w.alloc (.cells #[.bool nb, .slice A L c, .int .i64 (d : Int)] 53)).alloc (.cells #[.bool false, .slice none 0 0, .int .i64 0] 53)) := ext_alloc (ext_alloc (Below.refl _ _) _) _
    have r0 := (RowD.new_ w [.bool nb, .slice A L c, .int .i64 (d : Int)] 53).call ((Below.refl _ _).alloc (Nat.le_refl _) (.cells #[.bool false, .slice none 0 0, .int .i64 0] 53))
    have r1 := (RowD.new_ (w.alloc (.cells #[.bool nb, .slice A L c, .int .i64 (d : Int)] 53)) [.bool false, .slice none 0 0, .int .i64 0] 53)
    rw [show (w.alloc (.cells #[.bool nb, .slice A L c, .int .i64 (d : Int)] 53)).heap.size = w.heap.size + 1 by simp] at r1
    go_enter Tryz.func23, Tryz.ntmps23
    go_wp2_with fail
    go_at_call 67
    refine (norm_w (D'.out.below b0 hm) (by simp; omega) (by omega)).mono ?_
    rintro e w1 ⟨rfl, hb⟩
    have s0 := r0.below hb (by simp; omega)
    have s1 := r1.below hb (by simp)
    have b1 := b0.trans (hb.mono (by simp; omega))
    have D1 := Lib.hid (D'.out.below b1 hm)
    have hz1 : w.heap.size + 2 ≤ w1.heap.size := by simpa using hb.size
    clear hb r0 r1 b0
    have k0 : w1.cell? ⟨w.heap.size, 0, none⟩ = some (.bool nb) := s0.cell 0
    have k1 : w1.cell? ⟨w.heap.size, 1, none⟩ = some (.slice A L c) := s0.cell 1
    have k2 : w1.cell? ⟨w.heap.size, 2, none⟩ = some (.int .i64 (d : Int)) := s0.cell 2
    have kf := s0.free
    have hd6 := HD.out.2.2.2.2.2.1
    have hval : nf (sg nb (x.natAbs * 2 ^ p)) d = dyShift x d n := by rw [HD.out.1, sg_mul, HV.out]
    have HVAL := Lib.hid hval
    have hlen : (canon (x.natAbs * 2 ^ p)).length ≤ 100000 := by
      have := canon_len_shift x.natAbs p
      omega
    clear hval
    go_wp2_with fail
    obtain ⟨W, hW⟩ : ∃ W, W = ((w1.setCell ⟨w.heap.size, 0, none⟩ (.bool nb)).setCell ⟨w.heap.size, 1, none⟩ (.slice A L c)).setCell ⟨w.heap.size, 2, none⟩ (.int .i64 (d : Int)) := ⟨_, rfl⟩
    have hWs : w.heap.size + 2 ≤ W.heap.size := by rw [hW]; simpa using hz1
    have b2 : Below w.heap.size w W := by rw [hW]; exact ((b1.setCell (by simp) _).setCell (by simp) _).setCell (by simp) _
    have t0 : RowD W w.heap.size [.bool nb, .slice A L c, .int .i64 (d : Int)] 53 := by
      rw [hW]
      exact ((s0.set_ 0 _).set_ 1 _).set_ 2 _
    have t1 : RowD W (w.heap.size + 1) [.bool false, .slice none 0 0, .int .i64 0] 53 := by
      rw [hW]
      exact ((s1.other_ (by omega) _ _).other_ (by omega) _ _).other_ (by omega) _ _
    have X : WdR W m (.slice A L c) x.natAbs := (D'.out.below b2 hm).words
    rw [← hW]
    clear hW s0 s1 b1 k0 k1 k2 kf hz1 D1
    have k0 : W.cell? ⟨w.heap.size, 0, none⟩ = some (.bool nb) := t0.cell 0
    have k1 : W.cell? ⟨w.heap.size, 1, none⟩ = some (.slice A L c) := t0.cell 1
    have k2 : W.cell? ⟨w.heap.size, 2, none⟩ = some (.int .i64 (d : Int)) := t0.cell 2
    have hle : m ≤ w.heap.size + 1 := by omega
    have hk : SK W (w.heap.size + 1) (w.heap.size + 1) W := SK.refl (by omega) ⟨_, _, _, t1⟩
    go_region_held3 (fun w' => (∀ b o, b < w.heap.size + 1 → w'.cell? ⟨b, o, none⟩ = W.cell? ⟨b, o, none⟩) ∧ SK W (w.heap.size + 1) (w.heap.size + 1) w')
      (first
      | (refine SK.all ?_
         first
           | assumption
           | exact hk
           | exact hk.drew
           | exact ((SK.set (by assumption) (by omega) _ _).set (by omega) _ _).set (by omega) _ _))
      (first
        | (go_at_call 69; refine (left_w (X.below (Below.refl m W).drew (Nat.le_refl _)) (by simp; omega) (by omega) hp6).mono ?_; (rintro e w5 ⟨v5, rfl, D5, hb5⟩; have hk5 := SK.call hk.drew hb5; have hf5 := hk5.lt; obtain ⟨A5, L5, c5, rfl⟩ := D5.form))
        | (go_at_call 68; refine (number_v D5 (Nat.le_refl _) hlen hd6).mono ?_; (rintro e w6 ⟨v6, rfl, D6, hb6⟩; have hk6 := SK.call hk5 hb6; have hf6 := hk6.lt; rw [HVAL.out] at D6; obtain ⟨nb6, A9, L9, c9, rfl, _⟩ := D6.form; obtain ⟨z0, z1, z2, rz, k0, k1, k2, kf⟩ := SK.cells hk6)))
    go_wp2_with fail
    refine bodyPost_ret (res_Shift rfl (((rz.set_ 0 _).set_ 1 _).set_ 2 _)) rfl ⟨_, rfl, ?_, (((b2.trans (hk6.is.mono (by omega))).setCell (by simp) _).setCell (by simp) _).setCell (by simp) _⟩
    exact ((((D6.set_ (by omega) 0 _).set_ (by omega) 1 _).set_ (by omega) 2 _).low (by omega)).more (by simp)
theorem add32_any (x y c : Nat) (w : World) (hx : x < 4294967296) (hy : y < 4294967296) (hc : c ≤ 1) :
    Calls Tryz.prog 155 #[.int .u32 (x : Int), .int .u32 (y : Int), .int .u32 (c : Int)] w fun e w' => e = .returned (.tuple #[.int .u32 (((x + y + c) % 4294967296 : Nat) : Int), .int .u32 (((x + y + c) / 4294967296 : Nat) : Int)]) ∧ w = w' := by
  have h1 : (x : Int) % 18446744073709551616 = (x : Int) := by omega
  have h2 : (y : Int) % 18446744073709551616 = (y : Int) := by omega
  have h3 : (c : Int) % 18446744073709551616 = (c : Int) := by omega
  obtain ⟨s, hs⟩ : ∃ s : Nat, (x : Int) + (y : Int) + (c : Int) = (s : Int) := ⟨x + y + c, by omega⟩
  have hs2 : x + y + c = s := by omega
  have hsb : s < 8589934592 := by omega
  rw [hs2]
  go_enter Tryz.func155, Tryz.ntmps155
  go_wp2_with fail
  refine bodyPost_ret (v := .tuple #[.int .u32 ((s % 4294967296 : Nat) : Int), .int .u32 ((s / 4294967296 : Nat) : Int)]) ?_ rfl ⟨rfl, rfl⟩
  simp [results, Tryz.results155, go_sem]
def paRel (w : World) (a b : List Nat) (g L : Nat) (cv i : Value) (wr : World) : Prop :=
  ∃ (k : Nat) (os : List Nat) (cy : Nat), k ≤ L ∧ i = .int .i64 (k : Int) ∧ cv = .int .u32 (cy : Int) ∧ OwnW wr w.heap.size (.slice (some ⟨g, 0, none⟩) L L) (os ++ List.replicate (L - k) 0) ∧ os.length = k ∧ wordsOk os ∧ cy ≤ 1 ∧
    wval os + 4294967296 ^ k * cy = wval (a.take k) + wval (b.take k) ∧ Below w.heap.size w wr
theorem pa_end {a b os : List Nat} {L cy : Nat} (ha : wordsOk a) (hb : wordsOk b) (hL : L = max a.length b.length + 1) (hol : os.length = L) (hv : wval os + 4294967296 ^ L * cy = wval (a.take L) + wval (b.take L)) : wval os = wval a + wval b := by
  rw [List.take_of_length_le (by omega), List.take_of_length_le (by omega)] at hv
  have h1 := wval_lt ha
  have h2 := wval_lt hb
  have p1 : 4294967296 ^ a.length ≤ 4294967296 ^ (max a.length b.length) := Nat.pow_le_pow_right (by decide) (by omega)
  have p2 : 4294967296 ^ b.length ≤ 4294967296 ^ (max a.length b.length) := Nat.pow_le_pow_right (by decide) (by omega)
  have p3 : 4294967296 ^ L = 4294967296 * 4294967296 ^ (max a.length b.length) := by rw [hL, Nat.pow_succ, Nat.mul_comm]
  rcases Nat.eq_zero_or_pos cy with h | h
  · rw [h] at hv; omega
  · have : 4294967296 ^ L * 1 ≤ 4294967296 ^ L * cy := Nat.mul_le_mul_left _ h
    omega
theorem padd_any (A B : Option Addr) (a b : List Nat) (c1 c2 m : Nat) (w : World) (hm : m ≤ w.heap.size) (h1 : CellsAt w m A (w32 a)) (h2 : CellsAt w m B (w32 b)) (ha : wordsOk a) (hb : wordsOk b) (l1 : a.length ≤ 90000) (l2 : b.length ≤ 90000) :
    Calls Tryz.prog 148 #[.slice A a.length c1, .slice B b.length c2] w fun e w' =>
      ∃ G g, e = .returned (.slice G (canon (wval a + wval b)).length g) ∧ (G = none → g = 0) ∧ (canon (wval a + wval b)).length ≤ g ∧ CellsAt w' w'.heap.size G (w32 (canon (wval a + wval b))) ∧ Below w.heap.size w w' := by
  have H1 := Lib.hid h1
  have H2 := Lib.hid h2
  have HA := Lib.hid ha
  have HB := Lib.hid hb
  obtain ⟨L, hL⟩ : ∃ L, L = max a.length b.length + 1 := ⟨_, rfl⟩
  have hLi : max (a.length : Int) (b.length : Int) + 1 = (L : Int) := by omega
  have hL6 : L ≤ 100000 := by omega
  have HL := Lib.hid hL
  obtain ⟨i0, hi, hz0, hz1, hz2⟩ := info_parts info_w4
  clear h1 h2 ha hb hL
  go_enter Tryz.func148, Tryz.ntmps148
  go_wp2_with (with_reducible refine wpList_make_full _ rfl (.tmp 13) (.tmp 13) 136 rfl w.heap.size 108 i0 (.int .u32 0) 1 under_nat hi hz0 hz1 .i64 .i64 _ _ L rfl rfl rfl rfl (by rw [hz2]; omega) (by unfold maxLen; omega) (Nat.le_refl _) ?_; intro w2 hown hg)
  have hst := (Below.refl w.heap.size w).grown hg (Nat.le_refl _) (fun k h => by simp at h)
  have hown2 := made_w hown
  obtain ⟨g, hg1⟩ : ∃ g, g = w.heap.size := ⟨_, rfl⟩
  have hgw := Lib.hid hg1
  rw [← hg1]
  rw [show OwnW w2 w.heap.size (.slice (some ⟨w.heap.size, 0, none⟩) L L) (List.replicate L 0) = OwnW w2 w.heap.size (.slice (some ⟨g, 0, none⟩) L L) (List.replicate L 0) by rw [hg1]] at hown2
  clear hown hg hi hz0 hz1 hz2 hg1
  go_loopw [6, 17] (fun cv i wr => paRel w a b g L cv i wr) (fun _ i _ => L - (intOf i).toNat)
  case atStart => exact ⟨0, [], 0, Nat.zero_le _, rfl, rfl, by simpa using hown2, rfl, by simp [wordsOk], by omega, by simp [wval], hst⟩
  case round =>
    obtain ⟨k, os, cy, hk, rfl, rfl, hown, hol, hok, hcy, hv, hb⟩ := hrel
    have HO := Lib.hid hown
    have HOL := Lib.hid hol
    have HOK := Lib.hid hok
    have HV := Lib.hid hv
    have hsz := hb.size
    have hlen := Lib.hid (show L = (os ++ List.replicate (L - k) 0).length by simp; omega)
    clear hown hol hok hv hown2 hst
    by_cases hlt : k < L
    · obtain ⟨x, hx⟩ : ∃ x, x = a[k]?.getD 0 := ⟨_, rfl⟩
      obtain ⟨y, hy⟩ : ∃ y, y = b[k]?.getD 0 := ⟨_, rfl⟩
      have bx : x < 4294967296 := by
        rw [hx]
        by_cases h : k < a.length
        · rw [List.getElem?_eq_getElem h]; exact HA.out _ (List.getElem_mem h)
        · rw [List.getElem?_eq_none (by omega)]; decide
      have by' : y < 4294967296 := by
        rw [hy]
        by_cases h : k < b.length
        · rw [List.getElem?_eq_getElem h]; exact HB.out _ (List.getElem_mem h)
        · rw [List.getElem?_eq_none (by omega)]; decide
      have hat1 := at_any A a c1 k m wr (H1.out.below hb hm) (by omega) (by omega)
      have hat2 := at_any B b c2 k m wr (H2.out.below hb hm) (by omega) (by omega)
      rw [← hx] at hat1
      rw [← hy] at hat2
      have hadd := add32_any x y cy wr bx by' hcy
      obtain ⟨z, hz⟩ : ∃ z, z = (x + y + cy) % 4294967296 := ⟨_, rfl⟩
      obtain ⟨c', hc'⟩ : ∃ c', c' = (x + y + cy) / 4294967296 := ⟨_, rfl⟩
      rw [← hz, ← hc'] at hadd
      have HZ := Lib.hid (show z + 4294967296 * c' = cy + x + y by omega)
      have HZB := Lib.hid (show z < 4294967296 by omega)
      have HCB := Lib.hid (show c' ≤ 1 by omega)
      have HAT1 := Lib.hid hat1
      have HAT2 := Lib.hid hat2
      have HADD := Lib.hid hadd
      have HX := Lib.hid hx.symm
      have HY := Lib.hid hy.symm
      have hkl' : (k : Int) < (L : Int) := by omega
      have f1 : wr.cell? ⟨g, k, none⟩ = some (.int .u32 0) := by
        have := HO.out.cellA (j := k) (z := 0) (by rw [List.getElem?_append_right (by rw [HOL.out]; omega), HOL.out, Nat.sub_self]; rw [List.getElem?_replicate]; simp; omega)
        simpa using this
      have f2 : ∀ j, wr.frozen? ⟨g, j, none⟩ = false := fun j => HO.out.freeA hlen.out j
      clear hx hy hz hc' hat1 hat2 hadd
      go_wp2_with fail
      go_at_call 154
      refine HAT1.out.mono ?_
      rintro e wq ⟨rfl, rfl⟩
      go_wp2_with fail
      go_at_call 154
      refine HAT2.out.mono ?_
      rintro e wq ⟨rfl, rfl⟩
      go_wp2_with fail
      go_at_call 155
      refine HADD.out.mono ?_
      rintro e wq ⟨rfl, rfl⟩
      go_wp2_with fail
      refine ⟨⟨k + 1, os ++ [z], c', by omega, by go_num, rfl, ?_, by rw [List.length_append, HOL.out]; rfl, words_push HOK.out HZB.out, HCB.out, pl_step HOL.out HX.out HY.out HV.out HZ.out, hb.setCell (by have := hgw.out; simp; omega) _⟩, by simp [intOf]; omega⟩
      have h5 := HO.out.put hlen.out k z
      rw [set_rep HOL.out hlt] at h5
      exact h5
    · have hkL : k = L := by omega
      have hle : ¬ (k : Int) < (L : Int) := by omega
      have hO := HO.out
      rw [hkL, Nat.sub_self, List.replicate_zero, List.append_nil] at hO
      have hol := HOL.out.trans hkL
      have hL6' : os.length ≤ 1000000 := by omega
      have HWV := Lib.hid (pa_end HA.out HB.out HL.out hol (by have := HV.out; rw [hkL] at this; exact this))
      have HGC := Lib.hid hO.cap_.2.2.2
      have hcall := ptrim_any (some ⟨g, 0, none⟩) os os.length wr.heap.size wr HGC.out (Nat.le_refl _) hL6'
      rw [hol] at hcall
      have HCALL := Lib.hid hcall
      clear hkL hol hO hcall
      go_wp2_with (go_at_call 149; refine HCALL.out.mono ?_; rintro e w3 ⟨rfl, rfl⟩)
      go_ret
      have hcan := trim_canon HOK.out
      rw [HWV.out] at hcan
      refine ⟨some ⟨g, 0, none⟩, L, by rw [hcan]; rfl, by simp, ?_, ?_, hb⟩
      · rw [← hcan, trimL_len]
        have := trimN_le os os.length
        have := HOL.out
        omega
      · rw [← hcan]
        exact HGC.out.takeW _
end Go.Proofs.YtilbehepmkpdbaaGreatDoor
namespace Go.Proofs.YtilbehepmkpdbaaGreatDoor
open Go.RowKit
def puRel (w : World) (a : List Nat) (u i : Value) (wr : World) : Prop := ∃ k : Nat, k ≤ a.length ∧ i = .int .i64 ((k : Int) - 1) ∧ u = .int .u64 (wval (a.drop k) : Int) ∧ w = wr
end Go.Proofs.YtilbehepmkpdbaaGreatDoor
namespace Go.Proofs.YtilbehepmkpdbaaGreatDoor
open Go.RowKit
def i64In (x : Int) : Bool := decide (-9223372036854775808 ≤ x ∧ x < 9223372036854775808)
def i64V (x : Int) : Int := if i64In x = true then x else 0
end Go.Proofs.YtilbehepmkpdbaaGreatDoor
namespace Go.Proofs.YtilbehepmkpdbaaGreatDoor
open Go.RowKit
theorem padd_w {v v2 : Value} {a b m : Nat} {w : World} (h : WdR w m v a) (h2 : WdR w m v2 b) (hm : m ≤ w.heap.size) (l1 : (canon a).length ≤ 90000) (l2 : (canon b).length ≤ 90000) :
    Calls Tryz.prog 148 #[v, v2] w fun e w' => ∃ v', e = .returned v' ∧ WdR w' w'.heap.size v' (a + b) ∧ Below w.heap.size w w' := by
  obtain ⟨A, c, rfl, _, _, h3⟩ := h
  obtain ⟨B, c', rfl, _, _, h4⟩ := h2
  have hc := padd_any A B (canon a) (canon b) c c' m w hm h3 h4 (canon_ok a) (canon_ok b) l1 l2
  rw [wval_canon, wval_canon] at hc
  refine hc.mono ?_
  rintro e w' ⟨G, g, rfl, hG, hg, hC, hb⟩
  exact ⟨_, rfl, ⟨G, g, rfl, hG, hg, hC⟩, hb⟩
theorem fl_odd {x : Int} {k : Nat} (hx : x % 2 = 1) (hk : 0 < k) : cutB x.natAbs k = true := by
  unfold cutB
  refine decide_eq_true ?_
  intro h0
  obtain ⟨j, rfl⟩ : ∃ j, k = j + 1 := ⟨k - 1, by omega⟩
  have h1 : 2 ∣ x.natAbs := Nat.dvd_trans ⟨2 ^ j, by rw [Nat.pow_succ, Nat.mul_comm]⟩ (Nat.dvd_of_mod_eq_zero h0)
  omega
theorem canon_one1 : canon 1 = [1] := by rw [canon_pos (by decide), show 1 / 4294967296 = 0 by decide, canon_zero]
theorem canon_one_len : (canon 1).length = 1 := by rw [canon_one1]; rfl
theorem one_words (w : World) : WdR (w.alloc (.cells #[.int .u32 1] 108)) (w.heap.size + 1) (.slice (some ⟨w.heap.size, 0, none⟩) 1 1) 1 :=
  ⟨some ⟨w.heap.size, 0, none⟩, 1, by rw [canon_one1]; rfl, by simp, by rw [canon_one1]; decide, by
    rw [canon_one1]
    exact (RowD.new_ w [.int .u32 1] 108).cells_ (Nat.lt_succ_self _)⟩
theorem res_pFloor {tmps : Array Value} {w : World} {b : Nat} {v0 v1 v2 v5 : Value} (h2 : tmps.getD 4 undef = .pointer (some ⟨b, 0, none⟩)) (h5 : tmps.getD 5 undef = v5) (hB : RowD w b [v0, v1, v2] 53) :
    (results Tryz.f124 tmps).run Tryz.prog w = .ok (.tuple #[.agg #[v0, v1, v2], v5]) w := by
  have k0 := hB.cell 0
  have k1 := hB.cell 1
  have k2 := hB.cell 2
  simp at k0 k1 k2
  simp at h2 h5
  simp [results, Tryz.results124, go_sem, h2, h5, k0, k1, k2]
theorem pfloor_any {v : Value} {x : Int} {d lo m den : Nat} {w : World} (D : DyR w lo m v x d) (hm : m ≤ w.heap.size) (hl : (canon x.natAbs).length ≤ 50000) (hden : den ≤ 65536) (ht : TabAt w) :
    Calls Tryz.prog 124 #[v, .int .i64 (den : Int)] w fun e w' => ∃ v', e = .returned (.tuple #[v', .nilIface]) ∧ DyR w' w.heap.size w'.heap.size v' (dyFloor x d den).1 (dyFloor x d den).2 ∧ Below w.heap.size w w' := by
  have n1 : decide ((den : Int) < 0) = false := decide_eq_false (by omega)
  have n2 : decide ((65536 : Int) < (den : Int)) = false := decide_eq_false (by omega)
  have n3 : ¬ (den : Int) < 0 := by omega
  have n4 : ¬ (65536 : Int) < (den : Int) := by omega
  have hdr := D.bound
  have hd6 := hdr.1
  have HDR := Lib.hid hdr.2
  clear hdr
  by_cases hle : d ≤ den
  · as_aux_lemma =>
    have HV := Lib.hid (show dyFloor x d den = (x, d) from if_pos hle)
    have n5 : (d : Int) ≤ (den : Int) := by omega
    obtain ⟨nb, A, L, c, rfl, HD⟩ := D.form
    have D' := Lib.hid D
    have HT := Lib.hid ht
    clear D ht
    have b0 : Below w.heap.size w ((w.alloc (.cells #[.bool nb, .slice A L c, .int .i64 (d : Int)] 53)).alloc (.cells #[.bool false, .slice none 0 0, .int .i64 0] 53)) := ext_alloc (ext_alloc (Below.refl _ _) _) _
    have r0 := RowD.new_ (w.alloc (.cells #[.bool nb, .slice A L c, .int .i64 (d : Int)] 53)) [.bool false, .slice none 0 0, .int .i64 0] 53
    rw [show (w.alloc (.cells #[.bool nb, .slice A L c, .int .i64 (d : Int)] 53)).heap.size = w.heap.size + 1 by simp] at r0
    go_enter Tryz.func124, Tryz.ntmps124
    go_wp2_with fail
    go_at_call 129
    refine (parts_w (D'.out.below b0 hm) (by simp; omega) (by omega)).mono ?_
    rintro e w1 ⟨nb', A', L', c', he, rfl, hb1⟩
    cases he
    have r1 := r0.call hb1
    have b1 := b0.trans (hb1.mono (by simp; omega))
    have hw1 := r1.lt
    have HT1 := HT.out.below b1 HT.out.1
    have X1 := (D'.out.below b1 hm).words
    clear hb1 r0 b0
    go_wp2_with fail
    go_at_call 130
    refine (presult_v (d := d) X1 (by omega) (by omega) hd6 HT1).mono ?_
    rintro e w3 ⟨v', rfl, D3, hb3⟩
    rw [HD.out.1, sg_back, nf_done HDR.out, ← HV.out] at D3
    have u1 := r1.call hb3
    have bv := b1.trans (hb3.mono (by have := b1.size; omega))
    obtain ⟨nb3, A3, L3, c3, rfl, _⟩ := D3.form
    have D3' := Lib.hid D3
    clear D3 hb3 r1 b1
    have q0 : w3.cell? ⟨w.heap.size + 1, 0, none⟩ = some (.bool false) := u1.cell 0
    have q1 : w3.cell? ⟨w.heap.size + 1, 1, none⟩ = some (.slice none 0 0) := u1.cell 1
    have q2 : w3.cell? ⟨w.heap.size + 1, 2, none⟩ = some (.int .i64 0) := u1.cell 2
    have qf := u1.free
    have hu1 := u1.lt
    go_wp2_with fail
    refine bodyPost_ret (res_pFloor rfl rfl (((u1.set_ 0 _).set_ 1 _).set_ 2 _)) rfl ⟨_, rfl, ?_, ((bv.setCell (by simp) _).setCell (by simp) _).setCell (by simp) _⟩
    exact ((((D3'.out.set_ (by omega) 0 _).set_ (by omega) 1 _).set_ (by omega) 2 _).low (by omega)).more (by simp)
  · as_aux_lemma =>
    have n5 : ¬ (d : Int) ≤ (den : Int) := by omega
    obtain ⟨k, hk⟩ : ∃ k : Nat, k = d - den := ⟨_, rfl⟩
    have HV := Lib.hid (show dyFloor x d den = nf (x / 2 ^ k) den by rw [hk]; exact if_neg hle)
    have n6 : (d : Int) - (den : Int) = (k : Int) := by omega
    have hk6 : k ≤ 1000000 := by omega
    have HC := Lib.hid (fl_odd (x := x) (k := k) (HDR.out (by omega)) (by omega))
    have hln : (canon (x.natAbs / 2 ^ k)).length ≤ 50000 := Nat.le_trans (canon_len_mono (Nat.div_le_self _ _)) hl
    have hln1 : (canon (x.natAbs / 2 ^ k + 1)).length ≤ 100000 := by
      have h1 := canon_len_add (x.natAbs / 2 ^ k) 1
      have h2 := canon_one_len
      omega
    clear hk
    obtain ⟨nb, A, L, c, rfl, HD⟩ := D.form
    have D' := Lib.hid D
    have HT := Lib.hid ht
    clear D ht
    have b0 : Below w.heap.size w ((w.alloc (.cells #[.bool nb, .slice A L c, .int .i64 (d : Int)] 53)).alloc (.cells #[.bool false, .slice none 0 0, .int .i64 0] 53)) := ext_alloc (ext_alloc (Below.refl _ _) _) _
    have r0 := RowD.new_ (w.alloc (.cells #[.bool nb, .slice A L c, .int .i64 (d : Int)] 53)) [.bool false, .slice none 0 0, .int .i64 0] 53
    rw [show (w.alloc (.cells #[.bool nb, .slice A L c, .int .i64 (d : Int)] 53)).heap.size = w.heap.size + 1 by simp] at r0
    go_enter Tryz.func124, Tryz.ntmps124
    go_wp2_with fail
    go_at_call 129
    refine (parts_w (D'.out.below b0 hm) (by simp; omega) (by omega)).mono ?_
    rintro e w1 ⟨nb', A', L', c', he, rfl, hb1⟩
    cases he
    have r1 := r0.call hb1
    have b1 := b0.trans (hb1.mono (by simp; omega))
    have hw1 := r1.lt
    have HT1 := HT.out.below b1 HT.out.1
    have X1 := (D'.out.below b1 hm).words
    clear hb1 r0 b0
    go_wp2_with fail
    go_at_call 147
    refine (pright_w X1 (by omega) (by omega) hk6).mono ?_
    rintro e w2 ⟨v2, rfl, Y, hb2⟩
    have r2 := r1.call hb2
    have b2 := b1.trans (hb2.mono (by have := b1.size; omega))
    have HT2 := HT1.call hb2
    obtain ⟨A2, L2, c2, rfl⟩ := Y.form
    have hw2 := r2.lt
    clear hb2 r1 b1 HT1
    have hnb := HD.out.1
    cases nb with
    | false =>
      as_aux_lemma =>
      have hx : 0 ≤ x := by simpa using hnb.symm
      have HX := Lib.hid hx
      clear hnb hx
      go_wp2_with fail
      go_at_call 130
      refine (presult_v (d := den) Y (Nat.le_refl _) (by omega) hden HT2).mono ?_
      rintro e w3 ⟨v', rfl, D3, hb3⟩
      rw [fl_pos HX.out, ← HV.out] at D3
      have u1 := r2.call hb3
      have bv := b2.trans (hb3.mono (by have := b2.size; omega))
      obtain ⟨nb3, A3, L3, c3, rfl, _⟩ := D3.form
      have D3' := Lib.hid D3
      clear D3 hb3 r2 b2
      have q0 : w3.cell? ⟨w.heap.size + 1, 0, none⟩ = some (.bool false) := u1.cell 0
      have q1 : w3.cell? ⟨w.heap.size + 1, 1, none⟩ = some (.slice none 0 0) := u1.cell 1
      have q2 : w3.cell? ⟨w.heap.size + 1, 2, none⟩ = some (.int .i64 0) := u1.cell 2
      have qf := u1.free
      have hu1 := u1.lt
      go_wp2_with fail
      refine bodyPost_ret (res_pFloor rfl rfl (((u1.set_ 0 _).set_ 1 _).set_ 2 _)) rfl ⟨_, rfl, ?_, ((bv.setCell (by simp) _).setCell (by simp) _).setCell (by simp) _⟩
      exact ((((D3'.out.set_ (by omega) 0 _).set_ (by omega) 1 _).set_ (by omega) 2 _).low (by omega)).more (by simp)
    | true =>
      as_aux_lemma =>
      have hx : x < 0 := by simpa using hnb.symm
      have HX := Lib.hid hx
      clear hnb hx
      have BA := al_ w2 (.cells #[.int .u32 1] 108)
      have r4 := r2.call BA
      have b4 := b2.trans (BA.mono (by have := b2.size; omega))
      have HT4 := HT2.call BA
      have Y4 := (Y.below BA (Nat.le_refl _)).more (show w2.heap.size ≤ w2.heap.size + 1 by omega)
      have O4 := one_words w2
      clear BA Y r2 b2 HT2
      go_wp2_with fail
      go_at_call 148
      refine (padd_w Y4 O4 (by simp) (by omega) (by rw [canon_one_len]; decide)).mono ?_
      rintro e w5 ⟨v5, rfl, Z, hb5⟩
      have r5 := r4.call hb5
      have b5 := b4.trans (hb5.mono (by have := b4.size; omega))
      have HT5 := HT4.call hb5
      obtain ⟨A5, L5, c5, rfl⟩ := Z.form
      have hw5 := r5.lt
      clear hb5 r4 b4 HT4
      go_wp2_with fail
      go_at_call 130
      refine (presult_v (d := den) Z (Nat.le_refl _) (by omega) hden HT5).mono ?_
      rintro e w3 ⟨v', rfl, D3, hb3⟩
      rw [fl_neg_cut HX.out HC.out, ← HV.out] at D3
      have u1 := r5.call hb3
      have bv := b5.trans (hb3.mono (by have := b5.size; omega))
      obtain ⟨nb3, A3, L3, c3, rfl, _⟩ := D3.form
      have D3' := Lib.hid D3
      clear D3 hb3 r5 b5
      have q0 : w3.cell? ⟨w.heap.size + 1, 0, none⟩ = some (.bool false) := u1.cell 0
      have q1 : w3.cell? ⟨w.heap.size + 1, 1, none⟩ = some (.slice none 0 0) := u1.cell 1
      have q2 : w3.cell? ⟨w.heap.size + 1, 2, none⟩ = some (.int .i64 0) := u1.cell 2
      have qf := u1.free
      have hu1 := u1.lt
      go_wp2_with fail
      refine bodyPost_ret (res_pFloor rfl rfl (((u1.set_ 0 _).set_ 1 _).set_ 2 _)) rfl ⟨_, rfl, ?_, ((bv.setCell (by simp) _).setCell (by simp) _).setCell (by simp) _⟩
      exact ((((D3'.out.set_ (by omega) 0 _).set_ (by omega) 1 _).set_ (by omega) 2 _).low (by omega)).more (by simp)
end Go.Proofs.YtilbehepmkpdbaaGreatDoor
namespace Go.Proofs.YtilbehepmkpdbaaGreatDoor
open Go.RowKit
def NoWd (vs : List Value) : Prop := ∀ u ∈ vs, ∀ z, u ≠ .int .u32 z
def shE (x k : Int) : Int := if k < 0 then x / 2 ^ (-k).toNat else x * 2 ^ k.toNat
def rawOk (n e f : Int) : Prop := -2147483648 < n ∧ n < 2147483648 ∧ -62 ≤ e ∧ e ≤ 30 ∧ 0 ≤ f ∧ f ≤ 30
instance (n e f : Int) : Decidable (rawOk n e f) := by unfold rawOk; infer_instance
def rawErr (n e f : Int) : Int := if rawOk n e f then (if -2147483648 ≤ shE n (e + f) ∧ shE n (e + f) < 2147483648 then 0 else 13) else 3
def rawV (n e f : Int) : Int := if rawErr n e f = 0 then shE n (e + f) else 0
end Go.Proofs.YtilbehepmkpdbaaGreatDoor
namespace Go.Proofs.YtilbehepmkpdbaaGreatDoor
open Go.RowKit
end Go.Proofs.YtilbehepmkpdbaaGreatDoor
namespace Go.Proofs.YtilbehepmkpdbaaGreatDoor
open Go.RowKit
def fitV (n : Int) : Int := max (-2147483648) (min n 2147483647)
def fitB (n : Int) : Bool := decide (-2147483648 ≤ n ∧ n < 2147483648)
end Go.Proofs.YtilbehepmkpdbaaGreatDoor
namespace Go.Proofs.YtilbehepmkpdbaaGreatDoor
open Go.RowKit
end Go.Proofs.YtilbehepmkpdbaaGreatDoor
namespace Go.Proofs.YtilbehepmkpdbaaGreatDoor
open Go.RowKit
def wds (x : Int) : List D := (w32 (canon x.natAbs)).map D.val
def dDy (t : Bool) (x : Int) (d : Nat) : List D := [.val (.bool (decide (x < 0))), .row t 1 (canon x.natAbs).length (wds x), .val (.int .i64 (d : Int))]
def aDy (t : Bool) (x : Int) (d : Nat) : A := .agg (dDy t x d)
def Nf (x : Int) (d : Nat) : Prop := d ≤ 65536 ∧ (d ≠ 0 → x % 2 = 1)
theorem dy_in {w : World} {S : Sets} {t : Bool} {x : Int} {d : Nat} {v : Value} (h : ARel w S (aDy t x d) v) (hS : ∀ t b, S t b → b < w.heap.size) (hn : Nf x d) : DyR w 0 w.heap.size v x d := by
  obtain ⟨xs, rfl, h1⟩ := h
  obtain ⟨a, l1, rfl, ha, h2⟩ := h1.uncons
  obtain ⟨b, l2, rfl, hb, h3⟩ := h2.uncons
  obtain ⟨c, l3, rfl, hc, h4⟩ := h3.uncons
  rw [h4.unnil]
  cases ha
  cases hc
  cases hb with
  | @row _ _ _ c cs A xs hc hA hl hx hm hr =>
    have hw : xs = w32 (canon x.natAbs) := vals_rel (vs := w32 (canon x.natAbs)) ⟨hx, hr⟩
    subst hw
    refine ⟨A, c, rfl, hA, hc, fun hne => ?_, fun a _ => Nat.zero_le _, hn.1, hn.2⟩
    obtain ⟨b, off, rfl, hb, hcell⟩ := hm (fun h => hne (List.map_eq_nil_iff.1 h))
    exact ⟨b, off, rfl, hS _ _ hb, hS _ _ hb, hcell⟩
theorem w32_one {l : List Nat} {v : Value} (h : v ∈ w32 l) : v.oneCell' = true := by
  simp only [w32, List.mem_map] at h
  obtain ⟨n, _, rfl⟩ := h
  rfl
theorem dy_out {w w' : World} {v : Value} {x : Int} {d : Nat} (h : DyR w' w.heap.size w'.heap.size v x d) : ARel w' (Fresh w w') (aDy false x d) v := by
  obtain ⟨A, c, rfl, h1, h2, h3, h4, h5, h6⟩ := h
  refine ⟨[.bool (decide (x < 0)), .slice A (canon x.natAbs).length c, .int .i64 (d : Int)], rfl, .cons_ (.val rfl) (.cons_ (.row (w32 (canon x.natAbs)) h2 h1 ?_ ?_ ?_ ?_) (.cons_ (.val rfl) .nil_))⟩
  · rw [wds, List.length_map, w32_len, Nat.mul_one]
  · rw [wds, List.length_map]
  · intro hne
    obtain ⟨b, off, rfl, h7, h8, h9⟩ := h3 (fun h => hne (by rw [wds, h]; rfl))
    exact ⟨b, off, rfl, ⟨rfl, h4 _ rfl, h8⟩, h9⟩
  · intro j u y hu hy
    rw [wds, List.getElem?_map, hy] at hu
    cases hu
    exact .val (w32_one (List.mem_of_getElem? hy))
theorem Nf.nf {m : Int} {p : Nat} (h : p ≤ 65536) : Nf (nf m p).1 (nf m p).2 := ⟨Nat.le_trans (nf_le m p) h, nf_odd m p⟩
section
variable {G : World → Prop}
theorem of_cv (n : Int) (h1 : -9223372036854775808 ≤ n) (h2 : n < 9223372036854775808) : CVF Tryz.prog G 24 [aI n] [aDy false n 0] := fun w S vs hg hlt ha => by
  obtain ⟨u, hu, h3⟩ := one_arg ha
  subst hu
  cases h3
  exact (of_any n h1 h2 w).mono fun r w' ⟨v, he, hd, hb⟩ => ⟨v, he, dy_out hd, hb⟩
theorem dshift_cv (t : Bool) (x : Int) (d : Nat) (n : Int) (hn : Nf x d) (hl : (canon x.natAbs).length ≤ 50000) (hd : (d : Int) - max (-65536) (min n 65536) ≤ 65536) : CVF Tryz.prog G 23 [aDy t x d, aI n] [aDy false (dyShift x d n).1 (dyShift x d n).2] := fun w S vs hg hlt ha => by
  obtain ⟨v, vs', rfl, h1, ha⟩ := ha.uncons
  obtain ⟨u, hu, h2⟩ := one_arg ha
  subst hu
  cases h2
  exact (dshift_any (dy_in h1 hlt hn) (Nat.le_refl _) hl hd).mono fun r w' ⟨v, he, hd, hb⟩ => ⟨v, he, dy_out hd, hb⟩
theorem dcmp_cv (t t' : Bool) (x : Int) (dx : Nat) (y : Int) (dy : Nat) (hn : Nf x dx) (hm : Nf y dy) (l1 : (canon x.natAbs).length ≤ 50000) (l2 : (canon y.natAbs).length ≤ 50000) : CVF Tryz.prog G 73 [aDy t x dx, aDy t' y dy] [aI (dyCmp x dx y dy)] := fun w S vs hg hlt ha => by
  obtain ⟨v, vs', rfl, h1, ha⟩ := ha.uncons
  obtain ⟨u, hu, h2⟩ := one_arg ha
  subst hu
  exact (cmp_any (dy_in h1 hlt hn) (dy_in h2 hlt hm) (Nat.le_refl _) l1 l2).mono fun r w' ⟨he, hb⟩ => ⟨_, he, DRel.val rfl, hb⟩
end
theorem sgI_eq {a b : Int} {p q : Nat} (h : a * 2 ^ p = b * 2 ^ q) : sgI a = sgI b := by rw [← sgI_mul a p, h, sgI_mul b q]
theorem cmp_sgn {a b A B : Int} {da db q : Nat} (ha : a * 2 ^ q = A * 2 ^ da) (hb : b * 2 ^ q = B * 2 ^ db) : dyCmp a da b db = sgI (A - B) := by
  unfold dyCmp dySum
  rw [sgI_eq (nf_eq _ _)]
  refine sgI_eq (p := q) (q := max da db) ?_
  have e1 : a * 2 ^ (max da db - da) * 2 ^ q = A * 2 ^ max da db := by
    rw [Int.mul_right_comm, ha, Int.mul_assoc, ← Int.pow_add]; congr 2; omega
  have e2 : b * 2 ^ (max da db - db) * 2 ^ q = B * 2 ^ max da db := by
    rw [Int.mul_right_comm, hb, Int.mul_assoc, ← Int.pow_add]; congr 2; omega
  rw [Int.add_mul, Int.neg_mul, Int.neg_mul, e1, e2, Int.sub_mul]
  omega
def dW (n : Nat) : D := .val (.int .u32 (n : Int))
def rowW (t : Bool) (ws : List Nat) : D := .row t 1 ws.length (ws.map dW)
def cW (ws : List Nat) : List C := ws.map fun n => .d (dW n)
theorem w32_D (ws : List Nat) : (w32 ws).map D.val = ws.map dW := by simp [w32, dW]
theorem cW_zero (n : Nat) : valsC (madeCells (Value.int .u32 0).cells (n * 1)).toList = cW (List.replicate n 0) := by
  rw [Nat.mul_one, show (Value.int .u32 0).cells = #[Value.int .u32 0] from rfl, toList_madeCells_one]
  simp [valsC, cW, dW]
theorem bel_cW {n : Nat} {l : List Nat} : ∀ c ∈ cW l, C.bel n c := fun c hc => by obtain ⟨z, _, rfl⟩ := List.mem_map.1 hc; trivial
theorem word_at {ws : List Nat} {k x : Nat} (h : ws[k]? = some x) : ((ws.map dW).drop (k * 1)).take 1 = [dW x] := map_at h
section
variable {P : Program} {G : World → Prop} {o : Oper} {F : Frm} {H : List Ob}
theorem ok_makeW {t e : TypeId} {x y : Operand} {by_ n : Nat} {k k' : IntKind} {z : Int} (ho : o.op = .makeSlice t x y) (hx : F.ev x = .one (.d (.val (.int k z)))) (hy : F.ev y = .one (.d (.val (.int k' z)))) (hz' : z = (n : Int)) (ht : TyS P t e 1) (hz : TyZ P e (.int .u32 0) 1 by_) (hn : n ≤ 1000000) (hby : by_ ≤ 1000) :
    OpOk P G o F H (.one (.own H.length n)) [.row e 1 n (cW (List.replicate n 0))] := by
  subst hz'
  have := ok_makeSlice (P := P) (G := G) (H := H) ho hx hy ht hz hn hby
  rwa [cW_zero] at this
theorem ok_ldW {t ty : TypeId} {x : Operand} {id s n i k : Nat} {xs : List Nat} {z : Nat} (ho : o.op = .load t x) (hx : F.ev x = .one (.ref id (i * 1) (some n))) (hH : H[id]? = some (.row ty s n (cW xs))) (hz : xs[i]? = some z) (hk : TyK P t false k) : OpOk P G o F H (.one (.d (.val (.int .u32 (z : Int))))) [] :=
  ok_load1 ho hx (.row hH) (by simp [cW, hz, dW]) hk
theorem to_stW {t ty : TypeId} {x y : Operand} {id s n i : Nat} {xs : List Nat} {z : Int} {u : Nat} {b : Bool} (ho : o.op = .store t x y) (hx : F.ev x = .one (.ref id (i * 1) (some n))) (hH : H[id]? = some (.row ty s n (cW xs))) (hy : F.ev y = .one (.d (.val (.int .u32 z)))) (hz : z = (u : Int)) (hty : TyK P t b 1) (hi : i < xs.length) {ys : List Nat} (hys : xs.set i u = ys) : TOk P G o F H .any (H.set id (.row ty s n (cW ys))) := by
  subst hz
  have := to_store1 (P := P) (G := G) ho hx hH rfl hy hty (by simp [Ob.cs, cW, hi])
  have e : (cW xs).set (i * 1) (.d (.val (.int .u32 (u : Int)))) = cW ys := by rw [← hys, Nat.mul_one]; simp [cW, List.map_set, dW]
  simp only [Ob.cs, Ob.setC, e] at this
  exact this
theorem ok_convR {s t : TypeId} {x : Operand} {k k' : IntKind} {p r : Int} (ho : o.op = .convert s t x) (hs : P.underlying s = some (.int k)) (ht : P.underlying t = some (.int k')) (hx : F.ev x = .one (.d (.val (.int k p)))) (hr : k'.wrap p = r) : OpOk P G o F H (.one (.d (.val (.int k' r)))) [] := hr ▸ ok_conv ho hs ht hx
theorem ok_mulR {t t' : TypeId} {x y : Operand} {k : IntKind} {p q r : Int} (ho : o.op = .binOp .mul t x y t') (hx : F.ev x = .one (.d (.val (.int k p)))) (hy : F.ev y = .one (.d (.val (.int k q)))) (hr : k.wrap (p * q) = r) : OpOk P G o F H (.one (.d (.val (.int k r)))) [] := hr ▸ ok_mul ho hx hy
theorem ok_addR {t t' : TypeId} {x y : Operand} {k : IntKind} {p q r : Int} (ho : o.op = .binOp .add t x y t') (hx : F.ev x = .one (.d (.val (.int k p)))) (hy : F.ev y = .one (.d (.val (.int k q)))) (hr : k.wrap (p + q) = r) : OpOk P G o F H (.one (.d (.val (.int k r)))) [] := hr ▸ ok_add ho hx hy
theorem ok_shr32 {t t' : TypeId} {x : Operand} {k' : IntKind} {p : Nat} {r : Int} (ho : o.op = .binOp .shr t x (.const (.int k' 32)) t') (hx : F.ev x = .one (.d (.val (.int .u64 (p : Int))))) (hr : ((p / 4294967296 : Nat) : Int) = r) : OpOk P G o F H (.one (.d (.val (.int .u64 r)))) [] := by
  subst hr
  refine ok_bin (y := .const (.int k' 32)) (u' := .int k' 32) ho hx rfl (fun w => ?_) rfl
  have e : (p : Int).fdiv 4294967296 = ((p / 4294967296 : Nat) : Int) := by rw [Int.fdiv_eq_ediv_of_nonneg _ (by decide)]; rfl
  simp [eqGuard, binOp, Op.shift, IntKind.bits, e]
theorem ok_neqB {t t' : TypeId} {x y : Operand} {p q : Bool} (ho : o.op = .binOp .neq t x y t') (ht : P.underlying t = some .bool) (hx : F.ev x = .one (.d (.val (.bool p)))) (hy : F.ev y = .one (.d (.val (.bool q)))) : OpOk P G o F H (.one (.d (.val (.bool (p != q))))) [] := by
  refine ok_bin ho hx hy (fun w => ?_) rfl
  have h1 : (Op.equal t (.bool p) (.bool q)).run P w = .ok (p == q) w := by
    have key : ∀ d : Nat, (Op.equalIn (d + 1) t (.bool p) (.bool q)).run P w = .ok (p == q) w := fun d => by simp [Op.equalIn, run_underlying ht]
    exact key 9999
  simp [eqGuard, binOp, h1, bne]
end
theorem cexp_oW {t : Bool} {H : List Ob} {id ty n : Nat} {c : C} {y : D} {ws : List Nat} (hc : c = .own id n) (hH : H[id]? = some (.row ty 1 n (cW ws))) (hy : y = .row t 1 n (ws.map dW)) : CExp t H c y :=
  cexp_o hc hH hy ⟨by simp [cW], fun j a b ha hb => by
    simp only [cW, List.getElem?_map, Option.map_eq_some_iff] at ha hb
    obtain ⟨z, hz, rfl⟩ := ha
    obtain ⟨z', hz', rfl⟩ := hb
    rw [hz] at hz'
    cases hz'
    exact .d fun _ => .val _⟩
theorem u64_in {z : Int} (h0 : 0 ≤ z) (h1 : z < 18446744073709551616) : IntKind.wrap .u64 z = z := by rw [IntKind.wrap_u64]; omega
theorem u32_cut (n : Nat) : IntKind.wrap .u32 (n : Int) = ((n % 4294967296 : Nat) : Int) := by rw [IntKind.wrap_u32]; omega
theorem number_cv (G : World → Prop) (t neg : Bool) (ws : List Nat) (n den : Nat) (hn : n = ws.length) (ha : wordsOk ws) (l1 : ws.length ≤ 100000) (hd : den ≤ 65536) : CVF Tryz.prog G 68 [aB neg, .one (.row t 1 n (ws.map dW)), aI (den : Int)] [aDy false (nf (sg neg (wval ws)) den).1 (nf (sg neg (wval ws)) den).2] := fun w S vs hg hlt hv => by
  subst hn
  obtain ⟨v, vs', rfl, q1, hv⟩ := hv.uncons
  obtain ⟨v2, vs', rfl, q2, hv⟩ := hv.uncons
  obtain ⟨u, hu, q3⟩ := one_arg hv
  subst hu
  cases q1
  cases q3
  have q2' : DRel w S (.row t 1 ws.length (ws.map dW)) v2 := q2
  cases q2' with
  | @row _ _ _ c cs A xs hc hA hl hx hm hr =>
    have hw : xs = w32 ws := vals_rel (vs := w32 ws) (by rw [w32_D]; exact ⟨hx, hr⟩)
    subst hw
    refine (number_any neg A ws c den w.heap.size w (Nat.le_refl _) (fun hne => ?_) hc ha l1 hd).mono fun r w' ⟨v, he, hd, hb⟩ => ⟨v, he, dy_out hd, hb⟩
    obtain ⟨b, off, rfl, hb, hcell⟩ := hm (fun h => hne (by rw [List.map_eq_nil_iff.1 h]; rfl))
    exact ⟨b, off, rfl, hlt _ _ hb, hlt _ _ hb, hcell⟩
theorem norm_cv (G : World → Prop) (x : Int) (d : Nat) (hn : Nf x d) (hl : (canon x.natAbs).length ≤ 100000) : CV Tryz.prog G 67 [aDy false x d] [aDy false x d] := fun w S vs hg hlt ha => by
  obtain ⟨u, hu, h3⟩ := one_arg ha
  subst hu
  refine (norm_w (dy_in h3 hlt hn) (Nat.le_refl _) hl).mono fun r w' ⟨he, hb⟩ => ⟨_, he, ?_, hb⟩
  obtain ⟨xs, hv, hl2⟩ := h3
  refine ⟨xs, hv, hl2.1, fun j a b ha hb' => ?_⟩
  have hf : DFree a := by
    have hm := List.mem_of_getElem? ha
    simp only [dDy, List.mem_cons, List.not_mem_nil, or_false] at hm
    rcases hm with rfl | rfl | rfl
    · exact .val _
    · exact .row fun d hd => by obtain ⟨v, _, rfl⟩ := List.mem_map.1 hd; exact .val _
    · exact .val _
  have h5 : DRel w (fun t b => t = false ∧ S false b) a b := DRel.free (fun b h => ⟨rfl, h⟩) (hl2.2 j a b ha hb') hf
  exact h5.mono (fun t b h => ⟨h.1, .inl h.2⟩) (fun t b h => hb.block b (hlt _ _ h.2))
theorem wval_set {o : List Nat} : ∀ {j u v : Nat}, o[j]? = some v → wval (o.set j u) + v * 4294967296 ^ j = wval o + u * 4294967296 ^ j := by
  induction o with
  | nil => intro j u v h; simp at h
  | cons y o ih =>
    intro j u v h
    cases j with
    | zero =>
      simp only [List.getElem?_cons_zero, Option.some.injEq] at h
      subst h
      simp only [List.set_cons_zero, wval]
      omega
    | succ j =>
      simp only [List.getElem?_cons_succ] at h
      have := ih (u := u) h
      simp only [List.set_cons_succ, wval, Nat.pow_succ]
      rw [← Nat.mul_assoc, ← Nat.mul_assoc]
      omega
theorem words_set {o : List Nat} {j u : Nat} (h : wordsOk o) (hu : u < 4294967296) : wordsOk (o.set j u) := fun x hx => by
  rcases List.mem_or_eq_of_mem_set hx with hx | rfl
  · exact h x hx
  · exact hu
structure MulIn (b o0 : List Nat) (i x k : Nat) (o : List Nat) (c : Nat) : Prop where
  len : o.length = o0.length
  ok : wordsOk o
  car : c < 4294967296
  val : wval o + c * 4294967296 ^ (i + k) = wval o0 + x * wval (b.take k) * 4294967296 ^ i
  zero : ∀ j, i + b.length ≤ j → j < o0.length → o[j]? = some 0
theorem MulIn.fit {b o0 : List Nat} {i x k : Nat} {o : List Nat} {c y u : Nat} (h : MulIn b o0 i x k o c) (hx : x < 4294967296) (hy : y < 4294967296) (hu : o[i + k]? = some u) : x * y + u < 18446744073709551616 ∧ c + (x * y + u) < 18446744073709551616 := by
  have h1 : x * y ≤ 4294967295 * 4294967295 := Nat.mul_le_mul (by omega) (by omega)
  have h2 := h.ok u (List.mem_of_getElem? hu)
  have h3 := h.car
  omega
theorem MulIn.step {b o0 : List Nat} {i x k : Nat} {o : List Nat} {c y u : Nat} (h : MulIn b o0 i x k o c) (hx : x < 4294967296) (hb : wordsOk b) (hy : b[k]? = some y) (hu : o[i + k]? = some u) : MulIn b o0 i x (k + 1) (o.set (i + k) ((c + (x * y + u)) % 4294967296)) ((c + (x * y + u)) / 4294967296) := by
  obtain ⟨f1, f2⟩ := h.fit hx (hb y (List.mem_of_getElem? hy)) hu
  have hkb := (List.getElem?_eq_some_iff.1 hy).1
  refine ⟨by rw [List.length_set]; exact h.len, words_set h.ok (by omega), by omega, ?_, fun j h1 h2 => by rw [List.getElem?_set, if_neg (by omega)]; exact h.zero j h1 h2⟩
  have hs := wval_set (u := (c + (x * y + u)) % 4294967296) hu
  have hv := h.val
  have ht := wval_take_succ b k
  rw [hy, Option.getD_some] at ht
  have hdm := Nat.div_add_mod (c + (x * y + u)) 4294967296
  rw [ht, Nat.mul_add, Nat.add_mul, show i + (k + 1) = (i + k) + 1 by omega, Nat.pow_succ]
  generalize hP : 4294967296 ^ (i + k) = p at hs hv ⊢
  have e1 : x * (4294967296 ^ k * y) * 4294967296 ^ i = x * y * p := by
    rw [← hP, Nat.pow_add]
    simp only [Nat.mul_assoc, Nat.mul_comm, Nat.mul_left_comm]
  rw [e1]
  generalize (c + (x * y + u)) / 4294967296 = q at hdm ⊢
  generalize (c + (x * y + u)) % 4294967296 = r at hs hdm ⊢
  have e2 : q * (p * 4294967296) + r * p = (c + (x * y + u)) * p := by
    rw [← hdm, Nat.add_mul, Nat.mul_comm p 4294967296, ← Nat.mul_assoc, Nat.mul_comm q 4294967296]
  rw [Nat.add_mul, Nat.add_mul] at e2
  omega
structure MulOut (a b : List Nat) (i : Nat) (o : List Nat) : Prop where
  len : o.length = a.length + b.length
  ok : wordsOk o
  val : wval o = wval (a.take i) * wval b
  zero : ∀ j, i + b.length ≤ j → j < a.length + b.length → o[j]? = some 0
theorem MulOut.start (a b : List Nat) : MulOut a b 0 (List.replicate (a.length + b.length) 0) := by
  refine ⟨by simp, fun x hx => by rw [(List.mem_replicate.1 hx).2]; decide, by rw [wval_zeros]; simp [wval], fun j _ h2 => by simp [h2]⟩
theorem MulOut.enter {a b : List Nat} {i x : Nat} {o : List Nat} (h : MulOut a b i o) : MulIn b o i x 0 o 0 :=
  ⟨rfl, h.ok, by decide, by simp [wval], fun j h1 h2 => h.zero j h1 (by rw [← h.len]; exact h2)⟩
theorem MulOut.leave {a b : List Nat} {i x : Nat} {o0 o : List Nat} {c : Nat} (h : MulOut a b i o0) (hx : a[i]? = some x) (h2 : MulIn b o0 i x b.length o c) : MulOut a b (i + 1) (o.set (i + b.length) c) := by
  have hi := (List.getElem?_eq_some_iff.1 hx).1
  have hz := h2.zero (i + b.length) (Nat.le_refl _) (by rw [h.len]; omega)
  have hs := wval_set (u := c) hz
  refine ⟨by rw [List.length_set, h2.len]; exact h.len, words_set h2.ok h2.car, ?_, fun j h3 h4 => by rw [List.getElem?_set, if_neg (by omega)]; exact h2.zero j (by omega) (by rw [h.len]; exact h4)⟩
  have hv := h2.val
  rw [List.take_length] at hv
  have ht := wval_take_succ a i
  rw [hx, Option.getD_some] at ht
  rw [ht, Nat.add_mul, ← h.val]
  have e : x * wval b * 4294967296 ^ i = 4294967296 ^ i * x * wval b := by simp only [Nat.mul_assoc, Nat.mul_comm, Nat.mul_left_comm]
  omega
theorem sg_prod (x y : Int) : sg (decide (x < 0) != decide (y < 0)) (x.natAbs * y.natAbs) = x * y := by
  unfold sg
  have hx : x = if x < 0 then -(x.natAbs : Int) else x.natAbs := by split <;> omega
  have hy : y = if y < 0 then -(y.natAbs : Int) else y.natAbs := by split <;> omega
  by_cases h1 : x < 0 <;> by_cases h2 : y < 0
  all_goals
    simp only [h1, h2, decide_true, decide_false, bne_self_eq_false, Bool.false_eq_true, if_true, if_false, Bool.true_bne, Bool.false_bne, Bool.not_false] at hx hy ⊢
    conv => rhs; rw [hx, hy]
    simp [Int.neg_mul, Int.mul_neg]
def dyMul (x : Int) (dx : Nat) (y : Int) (dy : Nat) : Int × Nat := nf (x * y) (dx + dy)
theorem wds_at {x : Int} {k p : Nat} (h : (canon x.natAbs)[k]? = some p) : ((wds x).drop (k * 1)).take 1 = [dW p] := by
  unfold wds
  rw [w32_D]
  exact word_at h
theorem free_w (x : Int) : DFree (.row false 1 (canon x.natAbs).length (wds x)) := .row fun d hd => by obtain ⟨v, _, rfl⟩ := List.mem_map.1 hd; exact .val _
theorem rvW {P : Program} {F : Frm} {H : List Ob} {t : Tmp} {ty ty' id k : Nat} {x : Int} {d : Nat} (hk : TyK P ty true k) (hi : 3 = k) (hF : F t = .one (.ref id 0 none) := by with_unfolding_all exact rfl) (hH : H[id]? = some (.box ty' ((dDy false x d).map C.d)) := by with_unfolding_all exact rfl) : RV P F H (.cell t ty) (aDy false x d) :=
  rv_box hF hH hk hi rfl (.cons_ (cexp_d rfl fun _ => .val _) (.cons_ (cexp_d rfl fun _ => free_w x) (.cons_ (cexp_d rfl fun _ => .val _) .nil_)))
theorem dmul_cv (x : Int) (dx : Nat) (y : Int) (dy : Nat) (hnx : Nf x dx) (hny : Nf y dy) (lx : (canon x.natAbs).length ≤ 40000) (ly : (canon y.natAbs).length ≤ 40000) (hd : dx + dy ≤ 65536) : CV Tryz.prog TabAt 32 [aDy false x dx, aDy false y dy] [aDy false (dyMul x dx y dy).1 (dyMul x dx y dy).2] := by
  refine cvz Tryz.func32 Tryz.ntmps32 ?_
  have NX := norm_cv TabAt x dx hnx (Nat.le_trans lx (by decide))
  have NY := norm_cv TabAt y dy hny (Nat.le_trans ly (by decide))
  have hax := canon_ok x.natAbs
  have hay := canon_ok y.natAbs
  repeat' (with_reducible first | apply qa | apply qb | apply qc | apply qd | apply qe | apply qf | apply qg | apply qh | apply qi | apply qj | apply qk | apply ql rfl | apply qm rfl | apply qn rfl | apply Je | (refine Tx 0 ?_; refine Jn xBo ?_; refine Jn xBo ?_; refine Jn (xAl tz_Dyadic) ?_) | (refine cw_part (id := 1) 4 mixed (by kernel_rfl) ?_; dsimp only [List.take, List.drop]; refine Ko (xLa tk_Dyadic) ?_; refine Ko (by first | exact xCl Tryz.func67 (NX) | exact xCl Tryz.func67 (NY)) ?_; refine Ko (xLa tk_Dyadic) ?_; refine Ko (by first | exact xCl Tryz.func67 (NX) | exact xCl Tryz.func67 (NY)) ?_; refine Ke ?_; refine Js (xSk tk_Dyadic) ?_; refine Js (xSk tk_Dyadic) ?_) | (refine Tx 2 ?_; refine Jo (xFa tf_Dyadic1 tk_s_uint32) ?_; refine Jo (xLd tk_s_uint32) ?_; refine Jo (xLn ts_s_uint32) ?_; refine Jo (xFa tf_Dyadic1 tk_s_uint32) ?_; refine Jo (xLd tk_s_uint32) ?_; refine Jo (xLn ts_s_uint32) ?_; refine Jo xAd ?_; refine Jn (by first | exact ok_makeW (n := (canon x.natAbs).length + (canon y.natAbs).length) rfl rfl rfl (by omega) ts_s_uint32 tz_uint32 (by omega) (by decide) | exact ok_makeSlice rfl rfl rfl ts_s_uint32 tz_uint32 (by omega) (by decide)) ?_; refine Ja ?_) | (refine Tx 3 ?_; refine Jo (xFa tf_Dyadic1 tk_s_uint32) ?_; refine Jo (xLd tk_s_uint32) ?_; refine Jo (xLn ts_s_uint32) ?_; refine Jm ?_))
  refine cw_wk (F' := ofL [(2, vr 0), (3, vr 1), (4, vr 2), (5, vo 3 (((canon x.natAbs).length + (canon y.natAbs).length))), (24, vd (.row false 1 (canon x.natAbs).length (wds x))), (25, vi ((canon x.natAbs).length)), (26, vi ((0 : Nat)))]) (H' := [.box 53 ((dDy false x dx).map C.d), .box 53 ((dDy false y dy).map C.d), .box 53 [.d (.val (.bool false)), .d (.val (.slice none 0 0)), .d (.val (.int .i64 0))], .row 108 1 ((canon x.natAbs).length + (canon y.natAbs).length) (cW (List.replicate ((canon x.natAbs).length + (canon y.natAbs).length) 0))]) (wk_go _ 4 ?_ ?_ ?_) ?_
  · rfl
  · exact mB rfl rfl
  · exact ⟨bel_d, bel_d, bel_lit rfl, bel_cW, trivial⟩
  refine cw_loopW (fun n Fr H => ∃ (i : Nat) (o : List Nat), i ≤ (canon x.natAbs).length ∧ n = (canon x.natAbs).length - i ∧ MulOut (canon x.natAbs) (canon y.natAbs) i o ∧ Fr = ofL [(2, vr 0), (3, vr 1), (4, vr 2), (5, vo 3 (((canon x.natAbs).length + (canon y.natAbs).length))), (24, vd (.row false 1 (canon x.natAbs).length (wds x))), (25, vi ((canon x.natAbs).length)), (26, vi ((i : Nat)))] ∧ H = [.box 53 ((dDy false x dx).map C.d), .box 53 ((dDy false y dy).map C.d), .box 53 [.d (.val (.bool false)), .d (.val (.slice none 0 0)), .d (.val (.int .i64 0))], .row 108 1 ((canon x.natAbs).length + (canon y.natAbs).length) (cW o)]) (n0 := (canon x.natAbs).length) ⟨0, (List.replicate ((canon x.natAbs).length + (canon y.natAbs).length) 0), Nat.zero_le _, rfl, MulOut.start _ _, rfl, rfl⟩ ?_
  rintro n Fr H ⟨i, o, hi, rfl, ho, rfl, rfl⟩
  by_cases hlt : i < (canon x.natAbs).length
  case pos =>
    obtain ⟨p, hp⟩ : ∃ p, (canon x.natAbs)[i]? = some p := ⟨_, List.getElem?_eq_getElem hlt⟩
    have hpk := hax p (List.mem_of_getElem? hp)
    have hp2 := wds_at hp
    repeat' (with_reducible first | apply qa | apply qb | apply qc | apply qd | apply qe | apply qf | apply qg | apply qh | apply qi | apply qj | apply qk | apply ql rfl | apply qm rfl | apply qn rfl | apply Je | (refine Tx 4 ?_; refine Jo xLt ?_) | (refine Tx 5 ?_; refine Jm ?_; refine Jo (xIr ts_s_uint32 (hp2)) ?_; refine Jo (xLd tk_uint32) ?_; refine Ja ?_; refine Ja ?_) | (refine Tx 6 ?_; refine Ja ?_) | (refine Tx 7 ?_; refine Jo (xFa tf_Dyadic1 tk_s_uint32) ?_; refine Jo (xLd tk_s_uint32) ?_; refine Jo (xLn ts_s_uint32) ?_; refine Jm ?_))
    refine cw_wk (F' := ofL [(2, vr 0), (3, vr 1), (4, vr 2), (5, vo 3 (((canon x.natAbs).length + (canon y.natAbs).length))), (6, vi i), (7, vd (dW p)), (24, vd (.row false 1 (canon x.natAbs).length (wds x))), (25, vi ((canon x.natAbs).length)), (26, vi ((i : Nat))), (8, vd (.val (.int .u64 ((0 : Nat) : Int)))), (32, vd (.row false 1 (canon y.natAbs).length (wds y))), (33, vi ((canon y.natAbs).length)), (34, vi ((0 : Nat)))]) (H' := [.box 53 ((dDy false x dx).map C.d), .box 53 ((dDy false y dy).map C.d), .box 53 [.d (.val (.bool false)), .d (.val (.slice none 0 0)), .d (.val (.int .i64 0))], .row 108 1 ((canon x.natAbs).length + (canon y.natAbs).length) (cW o)]) (wk_go _ 4 ?_ ?_ ?_) ?_
    · rfl
    · exact mB rfl rfl
    · exact ⟨bel_d, bel_d, bel_lit rfl, bel_cW, trivial⟩
    refine cw_loopW (fun n Fr H => ∃ (k : Nat) (q : List Nat) (c : Nat), k ≤ (canon y.natAbs).length ∧ n = (canon y.natAbs).length - k ∧ MulIn (canon y.natAbs) o i p k q c ∧ Fr = ofL [(2, vr 0), (3, vr 1), (4, vr 2), (5, vo 3 (((canon x.natAbs).length + (canon y.natAbs).length))), (6, vi i), (7, vd (dW p)), (24, vd (.row false 1 (canon x.natAbs).length (wds x))), (25, vi ((canon x.natAbs).length)), (26, vi ((i : Nat))), (8, vd (.val (.int .u64 ((c : Nat) : Int)))), (32, vd (.row false 1 (canon y.natAbs).length (wds y))), (33, vi ((canon y.natAbs).length)), (34, vi ((k : Nat)))] ∧ H = [.box 53 ((dDy false x dx).map C.d), .box 53 ((dDy false y dy).map C.d), .box 53 [.d (.val (.bool false)), .d (.val (.slice none 0 0)), .d (.val (.int .i64 0))], .row 108 1 ((canon x.natAbs).length + (canon y.natAbs).length) (cW q)]) (n0 := (canon y.natAbs).length) ⟨0, o, 0, Nat.zero_le _, rfl, ho.enter, rfl, rfl⟩ ?_
    rintro n Fr H ⟨k, q, c, hk, rfl, hq, rfl, rfl⟩
    by_cases hlt2 : k < (canon y.natAbs).length
    case pos =>
      obtain ⟨r, hr⟩ : ∃ r, (canon y.natAbs)[k]? = some r := ⟨_, List.getElem?_eq_getElem hlt2⟩
      have hrk := hay r (List.mem_of_getElem? hr)
      have hr2 := wds_at hr
      have hql := hq.len
      have hol := ho.len
      obtain ⟨u, hu⟩ : ∃ u, q[i + k]? = some u := ⟨_, List.getElem?_eq_getElem (by omega)⟩
      have hu2 := hq.ok u (List.mem_of_getElem? hu)
      obtain ⟨f1, f2⟩ := hq.fit hpk hrk hu
      have hst := hq.step hpk hay hr hu
      have m1 : IntKind.wrap .u64 (p : Int) = (p : Int) := u64_in (by omega) (by omega)
      have m2 : IntKind.wrap .u64 (r : Int) = (r : Int) := u64_in (by omega) (by omega)
      have m3 : IntKind.wrap .u64 ((p : Int) * (r : Int)) = ((p * r : Nat) : Int) := by rw [← Int.natCast_mul]; exact u64_in (by omega) (by omega)
      have m4 : IntKind.wrap .u64 (u : Int) = (u : Int) := u64_in (by omega) (by omega)
      have m5 : IntKind.wrap .u64 (((p * r : Nat) : Int) + (u : Int)) = ((p * r + u : Nat) : Int) := u64_in (by omega) (by omega)
      have m6 : IntKind.wrap .u64 ((c : Int) + ((p * r + u : Nat) : Int)) = ((c + (p * r + u) : Nat) : Int) := u64_in (by omega) (by omega)
      have m7 := u32_cut (c + (p * r + u))
      have tl : i + k < q.length := by omega
      generalize hm : p * r + u = m at *
      repeat' (with_reducible first | apply qa | apply qb | apply qc | apply qd | apply qe | apply qf | apply qg | apply qh | apply qi | apply qj | apply qk | apply ql rfl | apply qm rfl | apply qn rfl | apply Je | (refine Tx 8 ?_; refine Jo xLt ?_) | (refine Tx 9 ?_; refine Jm ?_; refine Jo (by first | exact xIr ts_s_uint32 (hr2) | exact ok_ixO (i := i + k) rfl rfl rfl rfl (by omega) ts_s_uint32 (by omega) (by decide)) ?_; refine Jo (by first | exact ok_ldW rfl rfl rfl hu tk_uint32 | exact xLd tk_uint32) ?_; refine Ja ?_; refine Ja ?_) | (refine Tx 10 ?_; refine Jm ?_; refine Jm ?_; refine Jo (by first | exact ok_convR rfl Tryz.underlying108 Tryz.underlying107 rfl m1 | exact ok_conv rfl Tryz.underlying108 Tryz.underlying107 rfl) ?_; refine Jm ?_; refine Jo (by first | exact ok_convR rfl Tryz.underlying108 Tryz.underlying107 rfl m2 | exact ok_conv rfl Tryz.underlying108 Tryz.underlying107 rfl) ?_; refine Jo (by first | exact ok_mulR rfl rfl rfl m3 | exact ok_mul64 rfl rfl rfl (by omega)) ?_; refine Jm ?_; refine Jm ?_; refine Jm ?_; refine Jo xAd ?_; refine Jo (by first | exact xIr ts_s_uint32 (hr2) | exact ok_ixO (i := i + k) rfl rfl rfl rfl (by omega) ts_s_uint32 (by omega) (by decide)) ?_; refine Jo (by first | exact ok_ldW rfl rfl rfl hu tk_uint32 | exact xLd tk_uint32) ?_; refine Jo (by first | exact ok_convR rfl Tryz.underlying108 Tryz.underlying107 rfl m4 | exact ok_conv rfl Tryz.underlying108 Tryz.underlying107 rfl) ?_; refine Jo (by first | exact ok_addR rfl rfl rfl m5 | exact xAd) ?_; refine Jo (by first | exact ok_addR rfl rfl rfl m6 | exact xAd) ?_; refine Ja ?_) | (refine Tx 11 ?_; refine Jm ?_; refine Jm ?_; refine Jm ?_; refine Jo xAd ?_; refine Jm ?_; refine Jo (by first | exact ok_convR rfl Tryz.underlying107 Tryz.underlying108 rfl m7 | exact ok_conv rfl Tryz.underlying107 Tryz.underlying108 rfl) ?_; refine Jo (by first | exact xIr ts_s_uint32 (hr2) | exact ok_ixO (i := i + k) rfl rfl rfl rfl (by omega) ts_s_uint32 (by omega) (by decide)) ?_; refine Js (by first | exact to_stW rfl rfl rfl rfl rfl tk_uint32 tl rfl | exact xS1 tk_uint32 | exact xSk tk_uint32) ?_) | (refine Tx 12 ?_; refine Jm ?_; refine Jo (by exact ok_shr32 rfl rfl rfl) ?_; refine Ja ?_) | (refine Tx 13 ?_; refine Jo xAd ?_; refine Jm ?_))
      refine ⟨_, _, wk_go _ 4 ?_ ?_ ?_, _, by omega, k + 1, _, _, by omega, rfl, hst, rfl, rfl⟩
      · rfl
      · exact mB rfl rfl
      · exact ⟨bel_d, bel_d, bel_lit rfl, bel_cW, trivial⟩
    obtain rfl : k = (canon y.natAbs).length := by omega
    have hql := hq.len
    have hol := ho.len
    have hlv := ho.leave hp hq
    have tl : i + (canon y.natAbs).length < q.length := by omega
    have hck := hq.car
    have m8 : IntKind.wrap .u32 (c : Int) = (c : Int) := by rw [u32_cut, Nat.mod_eq_of_lt hck]
    repeat' (with_reducible first | apply qa | apply qb | apply qc | apply qd | apply qe | apply qf | apply qg | apply qh | apply qi | apply qj | apply qk | apply ql rfl | apply qm rfl | apply qn rfl | apply Je | (refine Tx 8 ?_; refine Jo xLt ?_) | (refine Tx 14 ?_; refine Jm ?_; refine Jm ?_; refine Jo (xFa tf_Dyadic1 tk_s_uint32) ?_; refine Jo (xLd tk_s_uint32) ?_; refine Jo (xLn ts_s_uint32) ?_; refine Jo xAd ?_; refine Jm ?_; refine Jo (by first | exact ok_convR rfl Tryz.underlying107 Tryz.underlying108 rfl m8 | exact ok_conv rfl Tryz.underlying107 Tryz.underlying108 rfl) ?_; refine Jo (by exact ok_ixO (i := i + (canon y.natAbs).length) rfl rfl rfl rfl (by omega) ts_s_uint32 (by omega) (by decide)) ?_; refine Js (by first | exact to_stW rfl rfl rfl rfl rfl tk_uint32 tl rfl | exact xS1 tk_uint32 | exact xSk tk_uint32) ?_) | (refine Tx 15 ?_; refine Jo xAd ?_; refine Jm ?_))
    refine ⟨_, _, wk_go _ 4 ?_ ?_ ?_, _, by omega, i + 1, _, by omega, rfl, hlv, rfl, rfl⟩
    · rfl
    · exact mB rfl rfl
    · exact ⟨bel_d, bel_d, bel_lit rfl, bel_cW, trivial⟩
  obtain rfl : i = (canon x.natAbs).length := by omega
  have hv := ho.val
  rw [List.take_length, wval_canon, wval_canon] at hv
  have hol := ho.len
  have NB := number_cv TabAt true (decide (x < 0) != decide (y < 0)) o ((canon x.natAbs).length + (canon y.natAbs).length) (dx + dy) hol.symm ho.ok (by omega) hd
  rw [hv, sg_prod] at NB
  repeat' (with_reducible first | apply qa | apply qb | apply qc | apply qd | apply qe | apply qf | apply qg | apply qh | apply qi | apply qj | apply qk | apply ql rfl | apply qm rfl | apply qn rfl | apply Je | (refine Tx 4 ?_; refine Jo xLt ?_) | (refine Tx 16 ?_; refine Jo (xFa tf_Dyadic0 tk_bool) ?_; refine Jo (xLd tk_bool) ?_; refine Jo (xFa tf_Dyadic0 tk_bool) ?_; refine Jo (xLd tk_bool) ?_; refine Jo (by first | exact ok_neqB rfl Tryz.underlying4 rfl rfl | exact xNe) ?_; refine Jm ?_; refine Jo (xFa tf_Dyadic2 tk_int) ?_; refine Jo (xLd tk_int) ?_; refine Jo (xFa tf_Dyadic2 tk_int) ?_; refine Jo (xLd tk_int) ?_; refine Jo xAd ?_; refine Jo (xCl Tryz.func68 (NB.cv) (ha := .cons_ (xexp_1 rfl rfl (cexp_d rfl fun h => by cases h)) (.cons_ (xexp_1 rfl rfl (cexp_oW rfl rfl rfl)) (.cons_ (xexp_1 rfl rfl (cexp_d rfl fun h => by cases h)) .nil_)))) ?_; refine Js (xSk tk_Dyadic) ?_))
  exact ret_q rfl (.cons_ (rvW tk_Dyadic rfl) .nil_)
theorem ok_sliceL {P : Program} {G : World → Prop} {o : Oper} {F : Frm} {H : List Ob} {t e : TypeId} {x l : Operand} {tg : Bool} {n s lo : Nat} {k : IntKind} {z : Int} {cs : List D} (ho : o.op = .slice t x (some l) none none) (hx : F.ev x = .one (.d (.row tg s n cs))) (hl : F.ev l = .one (.d (.val (.int k z)))) (hz : z = (lo : Int)) (ht : TyS P t e s) (h1 : lo ≤ n) :
    OpOk P G o F H (.one (.d (.row tg s (n - lo) (cs.drop (lo * s))))) [] := ok_same fun b0 m a hp hcx hor => by
  subst hz
  have hv := ev_rel hor (x := x) (by rw [ho]; simp [Op.operands])
  have el := val_of (m := m) (v := a.eval l) (by rw [← hl]; exact ev_rel hor (by rw [ho]; simp [Op.operands]))
  rw [hx] at hv
  have hv' : DRel m.w m.S (.row tg s n cs) (a.eval x) := hv
  generalize hxe : a.eval x = u at hv'
  cases hv' with
  | @row _ _ _ cap _ A xs hc hA hln hxl hm hr =>
    obtain ⟨ie, hi1, hi2⟩ := Option.map_eq_some_iff.1 ht.s
    have hls : lo * s ≤ n * s := Nat.mul_le_mul_right _ h1
    have e3 : (n : Int) ≤ (cap : Int) := by omega
    have e4 : (lo : Int) ≤ (n : Int) := by omega
    have e6 : (0 : Int) ≤ (lo : Int) := by omega
    refine ⟨.slice (if cap = lo then A else A.map (·.add (lo * s))) (n - lo) (cap - lo), ?_, DRel.row (xs.drop (lo * s)) (by omega) (fun h0 => ?_) ?_ ?_ (fun hne => ?_) (fun j u x hu hj => ?_)⟩
    · unfold execOp
      simp [ho, hxe, el, Instr.sliceAt, Instr.slice, run_underlying ht.h, Instr.sliceBounds, Instr.sliceBound, asIntOf, sizeOf, typeInfo, hi1, hi2, h1, hc]
    · split at h0
      · omega
      · cases A with
        | none => have := hA rfl; omega
        | some p => simp at h0
    · rw [List.length_drop, hln, Nat.sub_mul]
    · simp [hxl]
    · have hcne : cs ≠ [] := fun h0 => hne (by rw [h0]; simp)
      obtain ⟨b, off, rfl, hb, hcells⟩ := hm hcne
      have hcl : cap ≠ lo := fun h0 => hne (by
        refine List.eq_nil_of_length_eq_zero ?_
        rw [List.length_drop, hln, show n = lo by omega, Nat.sub_self])
      rw [if_neg hcl]
      refine ⟨b, off + lo * s, by simp [Addr.add_mid], hb, fun j x hj => ?_⟩
      rw [List.getElem?_drop] at hj
      rw [Nat.add_assoc]
      exact hcells _ x hj
    · rw [List.getElem?_drop] at hu hj
      exact hr _ u x hu hj
theorem dadd_cv (G : World → Prop) (t t' : Bool) (x : Int) (dx : Nat) (y : Int) (dy : Nat) (hn : Nf x dx) (hm : Nf y dy) (l1 : (canon x.natAbs).length ≤ 50000) (l2 : (canon y.natAbs).length ≤ 50000) : CVF Tryz.prog G 34 [aDy t x dx, aDy t' y dy] [aDy false (dySum x dx y dy).1 (dySum x dx y dy).2] := fun w S vs hg hlt ha => by
  obtain ⟨v, vs', rfl, h1, ha⟩ := ha.uncons
  obtain ⟨u, hu, h2⟩ := one_arg ha
  subst hu
  exact (add_any (dy_in h1 hlt hn) (dy_in h2 hlt hm) (Nat.le_refl _) (Nat.le_refl _) l1 l2).mono fun r w' ⟨v, he, hd, hb⟩ => ⟨v, he, dy_out hd, hb⟩
theorem dsub_cv (G : World → Prop) (t t' : Bool) (x : Int) (dx : Nat) (y : Int) (dy : Nat) (hn : Nf x dx) (hm : Nf y dy) (l1 : (canon x.natAbs).length ≤ 50000) (l2 : (canon y.natAbs).length ≤ 50000) : CVF Tryz.prog G 84 [aDy t x dx, aDy t' y dy] [aDy false (dySum x dx (-y) dy).1 (dySum x dx (-y) dy).2] := fun w S vs hg hlt ha => by
  obtain ⟨v, vs', rfl, h1, ha⟩ := ha.uncons
  obtain ⟨u, hu, h2⟩ := one_arg ha
  subst hu
  exact (sub_any (dy_in h1 hlt hn) (dy_in h2 hlt hm) (Nat.le_refl _) l1 l2).mono fun r w' ⟨v, he, hd, hb⟩ => ⟨v, he, dy_out hd, hb⟩
theorem dmin_cv (G : World → Prop) (t t' : Bool) (x : Int) (dx : Nat) (y : Int) (dy : Nat) (hn : Nf x dx) (hm : Nf y dy) (l1 : (canon x.natAbs).length ≤ 50000) (l2 : (canon y.natAbs).length ≤ 50000) : CVF Tryz.prog G 131 [aDy t x dx, aDy t' y dy] [aDy false (dyMin x dx y dy).1 (dyMin x dx y dy).2] := fun w S vs hg hlt ha => by
  obtain ⟨v, vs', rfl, h1, ha⟩ := ha.uncons
  obtain ⟨u, hu, h2⟩ := one_arg ha
  subst hu
  exact (min_any (dy_in h1 hlt hn) (dy_in h2 hlt hm) (Nat.le_refl _) l1 l2).mono fun r w' ⟨v, he, hd, hb⟩ => ⟨v, he, dy_out hd, hb⟩
theorem dmax_cv (G : World → Prop) (t t' : Bool) (x : Int) (dx : Nat) (y : Int) (dy : Nat) (hn : Nf x dx) (hm : Nf y dy) (l1 : (canon x.natAbs).length ≤ 50000) (l2 : (canon y.natAbs).length ≤ 50000) : CVF Tryz.prog G 132 [aDy t x dx, aDy t' y dy] [aDy false (dyMax x dx y dy).1 (dyMax x dx y dy).2] := fun w S vs hg hlt ha => by
  obtain ⟨v, vs', rfl, h1, ha⟩ := ha.uncons
  obtain ⟨u, hu, h2⟩ := one_arg ha
  subst hu
  exact (max_any (dy_in h1 hlt hn) (dy_in h2 hlt hm) (Nat.le_refl _) l1 l2).mono fun r w' ⟨v, he, hd, hb⟩ => ⟨v, he, dy_out hd, hb⟩
def Rp (p : Int × Nat) (X : Int) : Prop := p.1 * 2 ^ 200 = X * 2 ^ p.2
structure Sm (p : Int × Nat) (n d : Nat) : Prop where
  ok : Nf p.1 p.2
  n : p.1.natAbs < 2 ^ n
  d : p.2 ≤ d
theorem pow_words {n : Nat} (k : Nat) (h : n ≤ 32 * k) : 2 ^ n ≤ 4294967296 ^ k := by
  rw [show (4294967296 : Nat) = 2 ^ 32 from rfl, ← Nat.pow_mul]
  exact Nat.pow_le_pow_right (by decide) h
theorem Sm.len {p : Int × Nat} {n d : Nat} (h : Sm p n d) (hn : n ≤ 1600) : (canon p.1.natAbs).length ≤ 50 := canon_len_le (Nat.lt_of_lt_of_le h.n (pow_words 50 (by omega)))
theorem Sm.lenN {p : Int × Nat} {n d : Nat} (h : Sm p n d) (k : Nat) (hn : n ≤ 32 * k) : (canon p.1.natAbs).length ≤ k := canon_len_le (Nat.lt_of_lt_of_le h.n (pow_words k hn))
theorem Sm.l4 {p : Int × Nat} {n d : Nat} (h : Sm p n d) (hn : n ≤ 32 * 625 := by decide) : (canon p.1.natAbs).length ≤ 40000 := Nat.le_trans (h.lenN 625 hn) (by decide)
theorem Sm.more {p : Int × Nat} {n d n' d' : Nat} (h : Sm p n d) (h1 : n ≤ n') (h2 : d ≤ d') : Sm p n' d' := ⟨h.ok, Nat.lt_of_lt_of_le h.n (Nat.pow_le_pow_right (by decide) h1), Nat.le_trans h.d h2⟩
theorem Sm.mk_nf {m : Int} {p n d : Nat} (hd : p ≤ d) (h : p ≤ 65536) (hm : m.natAbs < 2 ^ n) : Sm (nf m p) n d := ⟨Nf.nf h, Nat.lt_of_le_of_lt (nf_abs_le m p) hm, Nat.le_trans (nf_le m p) hd⟩
theorem Sm.shift {x k : Int} {n : Nat} (h1 : -200 ≤ k) (h2 : k ≤ 200) (hx : x.natAbs < 2 ^ n) : Sm (dyShift x 0 k) (n + 200) 200 := by
  unfold dyShift
  rw [show max (-65536) (min k 65536) = k by omega]
  split
  · exact (Sm.mk_nf (by omega) (by omega) hx).more (by omega) (Nat.le_refl _)
  · refine Sm.mk_nf (by omega) (by omega) ?_
    rw [Int.natAbs_mul, Int.natAbs_pow, Nat.pow_add]
    exact Nat.lt_of_le_of_lt (Nat.mul_le_mul_left _ (Nat.pow_le_pow_right (by decide) (show k.toNat ≤ 200 by omega))) (Nat.mul_lt_mul_of_pos_right hx (Nat.pow_pos (by decide)))
section
variable {p q : Int × Nat} {X Y Z : Int} {n m d : Nat}
theorem Sm.neg (h : Sm p n d) : Sm (-p.1, p.2) n d := ⟨⟨h.ok.1, fun h0 => by have := h.ok.2 h0; show (-p.1) % 2 = 1; omega⟩, by show (-p.1).natAbs < _; rw [Int.natAbs_neg]; exact h.n, h.d⟩
theorem Sm.abs (h : Sm p n d) : Sm (((p.1.natAbs : Nat) : Int), p.2) n d := ⟨⟨h.ok.1, fun h0 => by have := h.ok.2 h0; show ((p.1.natAbs : Nat) : Int) % 2 = 1; omega⟩, h.n, h.d⟩
theorem Sm.sum (h : Sm p n d) (h2 : Sm q n d) (hd : d ≤ 65536) : Sm (dySum p.1 p.2 q.1 q.2) (n + d + 1) d := by
  have e : ∀ r : Int × Nat, Sm r n d → (r.1 * 2 ^ (Max.max p.2 q.2 - r.2)).natAbs < 2 ^ (n + d) := fun r hr => by
    rw [Int.natAbs_mul, Int.natAbs_pow, Nat.pow_add]
    have hpd := h.d
    have hqd := h2.d
    exact Nat.lt_of_le_of_lt (Nat.mul_le_mul_left _ (Nat.pow_le_pow_right (by decide) (show Max.max p.2 q.2 - r.2 ≤ d by omega))) (Nat.mul_lt_mul_of_pos_right hr.n (Nat.pow_pos (by decide)))
  have hpd := h.d
  have hqd := h2.d
  refine Sm.mk_nf (by omega) (by omega) ?_
  have h3 := e p h
  have h4 := e q h2
  have h5 := Int.natAbs_add_le (p.1 * 2 ^ (Max.max p.2 q.2 - p.2)) (q.1 * 2 ^ (Max.max p.2 q.2 - q.2))
  rw [Nat.pow_succ]
  omega
theorem Sm.mul (h : Sm p n d) (h2 : Sm q n d) (hd : d ≤ 30000) : Sm (dyMul p.1 p.2 q.1 q.2) (n + n) (d + d) := by
  have hpd := h.d
  have hqd := h2.d
  refine Sm.mk_nf (by omega) (by omega) ?_
  rw [Int.natAbs_mul, Nat.pow_add]
  exact Nat.mul_lt_mul'' h.n h2.n
theorem Sm.min (h : Sm p n d) (h2 : Sm q n d) : Sm (dyMin p.1 p.2 q.1 q.2) n d := by
  unfold dyMin
  split
  · exact h2
  · exact h
theorem Sm.max (h : Sm p n d) (h2 : Sm q n d) : Sm (dyMax p.1 p.2 q.1 q.2) n d := by
  unfold dyMax
  split
  · exact h2
  · exact h
end
def dyP (p : Int × Nat) : List D := dDy false p.1 p.2
theorem dy_at {l : List (Int × Nat)} {k : Nat} {p : Int × Nat} (h : l[k]? = some p) : ((flatD dyP l).drop (k * 3)).take 3 = dyP p := flatD_at (f := dyP) (s := 3) (fun _ => rfl) h
def blkD (y : Bk) (l : List (Int × Nat)) : Int × Nat :=
  if y.kind = 1 then dyShift y.vn 0 y.ve
  else if y.kind = 3 then dySum (l[0]?.getD (0, 0)).1 (l[0]?.getD (0, 0)).2 (l[1]?.getD (0, 0)).1 (l[1]?.getD (0, 0)).2
  else if y.kind = 4 then dySum (l[0]?.getD (0, 0)).1 (l[0]?.getD (0, 0)).2 (-(l[1]?.getD (0, 0)).1) (l[1]?.getD (0, 0)).2
  else if y.kind = 5 then (-(l[0]?.getD (0, 0)).1, (l[0]?.getD (0, 0)).2)
  else if y.kind = 6 then dyMul (dyShift y.vn 0 y.ve).1 (dyShift y.vn 0 y.ve).2 (l[0]?.getD (0, 0)).1 (l[0]?.getD (0, 0)).2
  else if y.kind = 7 then dyMul (l[0]?.getD (0, 0)).1 (l[0]?.getD (0, 0)).2 (l[1]?.getD (0, 0)).1 (l[1]?.getD (0, 0)).2
  else if y.kind = 8 then dyMin (l[0]?.getD (0, 0)).1 (l[0]?.getD (0, 0)).2 (l[1]?.getD (0, 0)).1 (l[1]?.getD (0, 0)).2
  else if y.kind = 9 then dyMax (l[0]?.getD (0, 0)).1 (l[0]?.getD (0, 0)).2 (l[1]?.getD (0, 0)).1 (l[1]?.getD (0, 0)).2
  else if y.kind = 10 then ((((l[0]?.getD (0, 0)).1.natAbs : Nat) : Int), (l[0]?.getD (0, 0)).2)
  else dyMin (dyMax (l[0]?.getD (0, 0)).1 (l[0]?.getD (0, 0)).2 (dyShift y.vn 0 y.ve).1 (dyShift y.vn 0 y.ve).2).1 (dyMax (l[0]?.getD (0, 0)).1 (l[0]?.getD (0, 0)).2 (dyShift y.vn 0 y.ve).1 (dyShift y.vn 0 y.ve).2).2 (dyShift y.un 0 y.ue).1 (dyShift y.un 0 y.ue).2
theorem ord_split {bs : List Bk} : ∀ (f : Nat) (out : List Nat), (∀ l1 j l2, out = l1 ++ j :: l2 → rdy bs l1 j = true) → ∀ l1 j l2, ordN bs f out = l1 ++ j :: l2 → rdy bs l1 j = true
  | 0, out, h, l1, j, l2, e => h l1 j l2 e
  | f + 1, out, h, l1, j, l2, e => by
    unfold ordN at e
    cases hn : nxt bs out with
    | none => rw [hn] at e; exact h l1 j l2 e
    | some i =>
      rw [hn] at e
      refine ord_split f (out ++ [i]) (fun m1 q m2 he => ?_) l1 j l2 e
      rcases List.eq_nil_or_concat m2 with rfl | ⟨m3, q', rfl⟩
      · have h1 := List.append_inj' he rfl
        obtain ⟨rfl, h2⟩ := h1
        cases h2
        exact (nxt_some hn).2
      · have h1 : out ++ [i] = (m1 ++ q :: m3) ++ [q'] := by rw [he]; simp
        exact h m1 q m3 (List.append_inj' h1 rfl).1
theorem ord_done {bs : List Bk} {l1 l2 : List Nat} {j : Nat} (h : ordM bs = l1 ++ j :: l2) {a : Int} (ha : a ∈ preds bs j) : kindAt bs a.toNat = 2 ∨ a.toNat ∈ l1 := by
  have h1 := ord_split bs.length [] (fun m1 q m2 he => by simp at he) l1 j l2 h
  unfold rdy at h1
  rw [Bool.and_eq_true] at h1
  have h2 := List.all_eq_true.1 h1.2 a ha
  unfold doneB at h2
  simpa using h2
theorem ord_all {bs : List Bk} (h : ordErr bs = 0) {j : Nat} (hj : j < bs.length) (hk : kindAt bs j ≠ 2) : j ∈ ordM bs := Classical.byContradiction fun hn => by
  have hlen : (ordM bs).length = nonDel bs := by
    unfold ordErr at h
    exact Classical.byContradiction fun hx => by rw [if_neg hx] at h; cases h
  have ho := ordN_ok bs.length (OutOk.nil bs)
  have := OutOk.le (bs := bs) (out := j :: ordM bs) ⟨List.nodup_cons.2 ⟨hn, ho.nodup⟩, fun i hi => by
    rcases List.mem_cons.1 hi with rfl | hi
    · exact ⟨hj, hk⟩
    · exact ho.mem i hi⟩
  rw [List.length_cons] at this
  omega
end Go.Proofs.YtilbehepmkpdbaaGreatDoor
