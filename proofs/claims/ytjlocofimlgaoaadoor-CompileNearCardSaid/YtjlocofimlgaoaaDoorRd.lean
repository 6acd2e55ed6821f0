/- The document's exact numbers: its functions' contracts. No conditions. -/
import Derived.Test.YtjlocofimlgaoaaDoorWd
namespace Go.Proofs.YtjlocofimlgaoaaDoor
set_option linter.unusedVariables false
set_option linter.unusedSimpArgs false
set_option linter.unusedSectionVars false
open Go.RowKit

set_option maxHeartbeats 1000000 in
theorem trim_any (A : Option Addr) (ws : List Nat) (c m : Nat) (w : World) (h : CellsAt w m A (w32 ws)) (hc : ws.length ≤ c) (hl : ws.length ≤ 1000000) :
    Calls Tryd.prog 118 #[.slice A ws.length c] w fun e w' => e = .returned (.slice A (trimL ws).length c) ∧ w = w' := by
  have H := Lib.hid h
  clear h
  go_enter Tryd.func118, Tryd.ntmps118
  go_wp2_with fail
  go_loopw [3] (fun i wr => trRel w ws i wr) (fun i _ => (intOf i).toNat)
  case atStart => exact ⟨ws.length, Nat.le_refl _, rfl, rfl, rfl⟩
  case round =>
    obtain ⟨k, hk, rfl, ht, rfl⟩ := hrel
    have HT := Lib.hid ht
    clear ht
    by_cases h0 : k = 0
    · subst h0
      go_wp2_with fail
      go_ret
      refine ⟨?_, rfl⟩
      rw [trimL_len, ← HT.out]
      rfl
    · obtain ⟨j, rfl⟩ := Nat.exists_eq_succ_of_ne_zero h0
      obtain ⟨b, off, z, rfl, hbm, hbs, hx, hcc⟩ := H.out.w32_ (k := j) (by omega)
      have HX := Lib.hid hx
      clear hx
      by_cases hz : z = 0
      · subst hz
        go_wp2_with fail
        have e1 : trimN ws j = trimN ws ws.length := by
          rw [← HT.out]
          show trimN ws j = if ws[j]?.getD 0 = 0 then trimN ws j else j + 1
          rw [if_pos (by rw [HX.out]; rfl)]
        exact ⟨⟨j, by omega, by go_num, e1, rfl⟩, by simp [intOf]; try omega⟩
      · have hz' : ((z : Int) == 0) = false := by simp; omega
        go_wp2_with fail
        go_ret
        refine ⟨?_, rfl⟩
        have e1 : j + 1 = trimN ws ws.length := by
          rw [← HT.out]
          show j + 1 = if ws[j]?.getD 0 = 0 then trimN ws j else j + 1
          rw [if_neg (by rw [HX.out]; exact hz)]
        rw [trimL_len, ← e1]
        rfl
set_option maxRecDepth 100000 in
set_option maxHeartbeats 8000000 in
theorem plus_any (A B : Option Addr) (a b : List Nat) (c1 c2 m : Nat) (w : World) (hm : m ≤ w.heap.size) (h1 : CellsAt w m A (w32 a)) (h2 : CellsAt w m B (w32 b)) (ha : wordsOk a) (hb : wordsOk b) (l1 : a.length ≤ 100000) (l2 : b.length ≤ 100000) :
    Calls Tryd.prog 87 #[.slice A a.length c1, .slice B b.length c2] w fun e w' =>
      ∃ G g, e = .returned (.slice G (canon (wval a + wval b)).length g) ∧ (G = none → g = 0) ∧ (canon (wval a + wval b)).length ≤ g ∧ CellsAt w' w'.heap.size G (w32 (canon (wval a + wval b))) ∧ Below w.heap.size w w' := by
  have H1 := Lib.hid h1
  have H2 := Lib.hid h2
  have HA := Lib.hid ha
  have HB := Lib.hid hb
  clear h1 h2 ha hb
  go_enter Tryd.func87, Tryd.ntmps87
  go_wp2_with fail
  go_loopw [5, 6, 7] (fun v cv i wr => plRel w a b v cv i wr) (fun _ _ i _ => max a.length b.length - (intOf i).toNat)
  case atStart => exact ⟨0, [], 0, Nat.zero_le _, rfl, rfl, OwnW.nil_ _ _, rfl, by simp [wordsOk], by omega, by simp [wval], Below.refl _ _⟩
  case round =>
    as_aux_lemma =>
    obtain ⟨k, os, cy, hk, rfl, rfl, hown, hol, hok, hcy, hv, hb⟩ := hrel
    have HO := Lib.hid hown
    have HOL := Lib.hid hol
    have HOK := Lib.hid hok
    have HV := Lib.hid hv
    clear hown hol hok hv
    have hmax : max (a.length : Int) (b.length : Int) = ((max a.length b.length : Nat) : Int) := by omega
    have hsz := hb.size
    by_cases hlt : k < max a.length b.length
    · by_cases ka : k < a.length
      · by_cases kb : k < b.length
        · as_aux_lemma =>
          obtain ⟨b1, o1, x, rfl, q1, _, hx, g1'⟩ := H1.out.w32_ ka
          have g1 := (hb.cell (p := ⟨b1, o1 + k, none⟩) (Nat.lt_of_lt_of_le q1 hm)).trans g1'
          have bx := HA.out x (List.mem_of_getElem? hx)
          have HX := Lib.hid (show a[k]?.getD 0 = x by rw [hx]; rfl)
          have ka' : (k : Int) < (a.length : Int) := by omega
          clear hx g1'
          obtain ⟨b2, o2, y, rfl, q2, _, hy, g2'⟩ := H2.out.w32_ kb
          have g2 := (hb.cell (p := ⟨b2, o2 + k, none⟩) (Nat.lt_of_lt_of_le q2 hm)).trans g2'
          have by' := HB.out y (List.mem_of_getElem? hy)
          have HY := Lib.hid (show b[k]?.getD 0 = y by rw [hy]; rfl)
          have kb' : (k : Int) < (b.length : Int) := by omega
          clear hy g2'
          obtain ⟨z, hz⟩ : ∃ z : Nat, ((cy : Int) + (x : Int) + (y : Int)) % 4294967296 = (z : Int) := ⟨((cy + x + y) % 4294967296 : Nat), by omega⟩
          obtain ⟨c', hc'⟩ : ∃ c' : Nat, ((cy : Int) + (x : Int) + (y : Int)) / 4294967296 = (c' : Int) := ⟨((cy + x + y) / 4294967296 : Nat), by omega⟩
          have HZ := Lib.hid (show z + 4294967296 * c' = cy + x + y by omega)
          have hzb : z < 4294967296 := by omega
          have hcb := Lib.hid (show c' ≤ 1 by omega)
          clear ka kb
          go_wp2_with (at_builtin; refine push_w rfl _ _ rfl w.heap.size _ os z wr.heap.size rfl (HO.out.alloc _) rfl (by simp [go_sem]) (by have := HOL.out; omega) (by simp; omega) ?_; intro v' w2 hown2 hg2 hb2)
          exact ⟨⟨k + 1, os ++ [z], c', by omega, by go_num, rfl, hown2, by rw [List.length_append, HOL.out]; rfl, words_push HOK.out hzb, hcb.out, (pl_step HOL.out HX.out HY.out HV.out HZ.out), hb.trans ((((Below.refl _ wr).alloc (Nat.le_refl _) _).mono hb.size).trans hb2)⟩, by simp [intOf]; omega⟩
        · as_aux_lemma =>
          obtain ⟨b1, o1, x, rfl, q1, _, hx, g1'⟩ := H1.out.w32_ ka
          have g1 := (hb.cell (p := ⟨b1, o1 + k, none⟩) (Nat.lt_of_lt_of_le q1 hm)).trans g1'
          have bx := HA.out x (List.mem_of_getElem? hx)
          have HX := Lib.hid (show a[k]?.getD 0 = x by rw [hx]; rfl)
          have ka' : (k : Int) < (a.length : Int) := by omega
          clear hx g1'
          have HY := Lib.hid (show b[k]?.getD 0 = 0 by rw [List.getElem?_eq_none (by omega)]; rfl)
          have kb' : ¬ (k : Int) < (b.length : Int) := by omega
          have kb2 : decide ((k : Int) < (b.length : Int)) = false := decide_eq_false kb'
          obtain ⟨z, hz⟩ : ∃ z : Nat, ((cy : Int) + (x : Int)) % 4294967296 = (z : Int) := ⟨((cy + x) % 4294967296 : Nat), by omega⟩
          obtain ⟨c', hc'⟩ : ∃ c' : Nat, ((cy : Int) + (x : Int)) / 4294967296 = (c' : Int) := ⟨((cy + x) / 4294967296 : Nat), by omega⟩
          have HZ := Lib.hid (show z + 4294967296 * c' = cy + x by omega)
          have hzb : z < 4294967296 := by omega
          have hcb := Lib.hid (show c' ≤ 1 by omega)
          clear ka kb
          go_wp2_with (at_builtin; refine push_w rfl _ _ rfl w.heap.size _ os z wr.heap.size rfl (HO.out.alloc _) rfl (by simp [go_sem]) (by have := HOL.out; omega) (by simp; omega) ?_; intro v' w2 hown2 hg2 hb2)
          exact ⟨⟨k + 1, os ++ [z], c', by omega, by go_num, rfl, hown2, by rw [List.length_append, HOL.out]; rfl, words_push HOK.out hzb, hcb.out, (pl_step HOL.out HX.out HY.out HV.out (by have := HZ.out; omega)), hb.trans ((((Below.refl _ wr).alloc (Nat.le_refl _) _).mono hb.size).trans hb2)⟩, by simp [intOf]; omega⟩
      · have kb : k < b.length := by omega
        have HX := Lib.hid (show a[k]?.getD 0 = 0 by rw [List.getElem?_eq_none (by omega)]; rfl)
        have ka' : ¬ (k : Int) < (a.length : Int) := by omega
        have ka2 : decide ((k : Int) < (a.length : Int)) = false := decide_eq_false ka'
        obtain ⟨b2, o2, y, rfl, q2, _, hy, g2'⟩ := H2.out.w32_ kb
        have g2 := (hb.cell (p := ⟨b2, o2 + k, none⟩) (Nat.lt_of_lt_of_le q2 hm)).trans g2'
        have by' := HB.out y (List.mem_of_getElem? hy)
        have HY := Lib.hid (show b[k]?.getD 0 = y by rw [hy]; rfl)
        have kb' : (k : Int) < (b.length : Int) := by omega
        clear hy g2'
        obtain ⟨z, hz⟩ : ∃ z : Nat, ((cy : Int) + (y : Int)) % 4294967296 = (z : Int) := ⟨((cy + y) % 4294967296 : Nat), by omega⟩
        obtain ⟨c', hc'⟩ : ∃ c' : Nat, ((cy : Int) + (y : Int)) / 4294967296 = (c' : Int) := ⟨((cy + y) / 4294967296 : Nat), by omega⟩
        have HZ := Lib.hid (show z + 4294967296 * c' = cy + y by omega)
        have hzb : z < 4294967296 := by omega
        have hcb := Lib.hid (show c' ≤ 1 by omega)
        clear ka kb
        go_wp2_with (at_builtin; refine push_w rfl _ _ rfl w.heap.size _ os z wr.heap.size rfl (HO.out.alloc _) rfl (by simp [go_sem]) (by have := HOL.out; omega) (by simp; omega) ?_; intro v' w2 hown2 hg2 hb2)
        exact ⟨⟨k + 1, os ++ [z], c', by omega, by go_num, rfl, hown2, by rw [List.length_append, HOL.out]; rfl, words_push HOK.out hzb, hcb.out, (pl_step HOL.out HX.out HY.out HV.out (by have := HZ.out; omega)), hb.trans ((((Below.refl _ wr).alloc (Nat.le_refl _) _).mono hb.size).trans hb2)⟩, by simp [intOf]; omega⟩
    · as_aux_lemma =>
      have hle : ¬ (k : Int) < ((max a.length b.length : Nat) : Int) := by omega
      have hke : k = max a.length b.length := by omega
      have hka : a.length ≤ k := by omega
      have hkb : b.length ≤ k := by omega
      have hcy32 : cy < 4294967296 := by omega
      obtain ⟨ws, hws⟩ : ∃ ws, ws = os ++ [cy] := ⟨_, rfl⟩
      have hwok : wordsOk ws := by rw [hws]; exact words_push HOK.out hcy32
      have hwl : ws.length = k + 1 := by rw [hws, List.length_append, HOL.out]; rfl
      have hwv : wval ws = wval a + wval b := by
        have hv := HV.out
        rw [List.take_of_length_le hka, List.take_of_length_le hkb] at hv
        rw [hws, wval_append, HOL.out, ← hv]
        simp only [wval, Nat.mul_zero, Nat.add_zero]
      have hl6 : ws.length ≤ 1000000 := by omega
      have HWS := Lib.hid hws
      have HWO := Lib.hid hwok
      have HWV := Lib.hid hwv
      clear hws hwok hwv hmax hke hka hkb hwl hlt
      have hmax : max (a.length : Int) (b.length : Int) = ((max a.length b.length : Nat) : Int) := by omega
      go_wp2_with (first
        | (go_at_call 118; refine (trim_any G ws g w2.heap.size w2 hGc hgc hl6).mono ?_; rintro e w3 ⟨rfl, rfl⟩)
        | (at_builtin; refine push_w rfl _ _ rfl w.heap.size _ os cy wr.heap.size rfl (HO.out.alloc _) rfl (by simp [go_sem]) (by have := HOL.out; omega) (by simp; omega) ?_; intro v' w2 hown2 hg2 hb2; rw [← HWS.out] at hown2; obtain ⟨G, g, rfl, hGn, hGc⟩ := hown2.view; obtain ⟨_, hgc, _, _⟩ := hown2.cap_))
      go_ret
      have hcan := trim_canon HWO.out
      rw [HWV.out] at hcan
      refine ⟨G, g, by rw [hcan]; rfl, hGn, ?_, ?_, hb.trans ((((Below.refl _ wr).alloc (Nat.le_refl _) _).mono hb.size).trans hb2)⟩
      · rw [← hcan, trimL_len]
        have := trimN_le ws ws.length
        omega
      · rw [← hcan]
        exact hGc.takeW _
set_option maxRecDepth 100000 in
set_option maxHeartbeats 4000000 in
theorem less_any (A B : Option Addr) (a b : List Nat) (c1 c2 m : Nat) (w : World) (h1 : CellsAt w m A (w32 a)) (h2 : CellsAt w m B (w32 b)) (ha : wordsOk a) (hb : wordsOk b) (l1 : a.length ≤ 100000) (l2 : b.length ≤ 100000) :
    Calls Tryd.prog 97 #[.slice A a.length c1, .slice B b.length c2] w fun e w' => e = .returned (.bool (lessB a b)) ∧ Below w.heap.size w w' := by
  have H1 := Lib.hid h1
  have H2 := Lib.hid h2
  have HA := Lib.hid ha
  have HB := Lib.hid hb
  clear h1 h2 ha hb
  by_cases hl : a.length = b.length
  · have HL := Lib.hid hl
    have e1 : ((a.length : Int) != (b.length : Int)) = false := by simp; omega
    have hlb : lessB a b = decide (wval a < wval b) := if_pos hl
    rw [hlb]
    clear hl hlb
    go_enter Tryd.func97, Tryd.ntmps97
    go_wp2_with fail
    go_loopw [5] (fun i wr => lsRel w a b i wr) (fun i _ => (intOf i + 1).toNat)
    case atStart => exact ⟨a.length, 0, Nat.le_refl _, rfl, by rw [List.drop_length, HL.out, List.drop_length], rfl⟩
    case round =>
      as_aux_lemma =>
      obtain ⟨k, nq, hk, rfl, hd, rfl⟩ := hrel
      have HD := Lib.hid hd
      clear hd
      by_cases h0 : k = 0
      · subst h0
        go_wp2_with fail
        go_ret
        refine ⟨?_, below_drewN (Below.refl _ _) _⟩
        have := HD.out
        simp at this
        subst this
        simp
      · obtain ⟨j, rfl⟩ := Nat.exists_eq_succ_of_ne_zero h0
        obtain ⟨b1, o1, x, rfl, _, _, hx, g1⟩ := H1.out.w32_ (k := j) (by omega)
        obtain ⟨b2, o2, y, rfl, _, _, hy, g2⟩ := H2.out.w32_ (k := j) (by have := HL.out; omega)
        have HX := Lib.hid hx
        have HY := Lib.hid hy
        have hj : ((j.succ : Nat) : Int) - 1 = (j : Int) := by omega
        have hja : (j : Int) < (a.length : Int) := by omega
        have hjb : (j : Int) < (b.length : Int) := by have := HL.out; omega
        rw [hj]
        clear hx hy h0
        by_cases hxy : x = y
        · subst hxy
          have e2 : ((x : Int) != (x : Int)) = false := by simp
          go_wp2_with fail
          go_quiet (fail)
          go_wp2_with fail
          exact ⟨⟨j, _, by omega, by go_num, drop_step HX.out HY.out HD.out, rfl⟩, by simp [intOf]; try omega⟩
        · have e2 : ((x : Int) != (y : Int)) = true := by simp; omega
          have HN := Lib.hid hxy
          clear hxy
          go_wp2_with fail
          go_quiet (fail)
          go_wp2_with fail
          go_quiet (fail)
          go_wp2_with fail
          go_ret
          refine ⟨?_, by repeat (first | exact Below.refl _ _ | refine ext_drewN ?_ _)⟩
          rw [less_at HA.out HB.out HX.out HY.out HD.out HN.out]
          simp
  · have e1 : ((a.length : Int) != (b.length : Int)) = true := by simp; omega
    have hlb : lessB a b = decide (a.length < b.length) := if_neg hl
    rw [hlb]
    clear hl hlb
    go_enter Tryd.func97, Tryd.ntmps97
    go_wp2_with fail
    go_ret
    exact ⟨by simp, Below.refl _ _⟩
set_option maxRecDepth 100000 in
set_option maxHeartbeats 8000000 in
theorem minus_any (A B : Option Addr) (a b : List Nat) (c1 c2 m : Nat) (w : World) (hm : m ≤ w.heap.size) (h1 : CellsAt w m A (w32 a)) (h2 : CellsAt w m B (w32 b)) (ha : wordsOk a) (hb : wordsOk b) (l1 : a.length ≤ 100000) (l2 : b.length ≤ a.length) (hle : wval b ≤ wval a) :
    Calls Tryd.prog 98 #[.slice A a.length c1, .slice B b.length c2] w fun e w' =>
      ∃ G g, e = .returned (.slice G (canon (wval a - wval b)).length g) ∧ (G = none → g = 0) ∧ (canon (wval a - wval b)).length ≤ g ∧ CellsAt w' w'.heap.size G (w32 (canon (wval a - wval b))) ∧ Below w.heap.size w w' := by
  have H1 := Lib.hid h1
  have H2 := Lib.hid h2
  have HA := Lib.hid ha
  have HB := Lib.hid hb
  have HLE := Lib.hid hle
  clear h1 h2 ha hb hle
  go_enter Tryd.func98, Tryd.ntmps98
  go_wp2_with fail
  go_loopw [5, 6, 11] (fun v cv i wr => miRel w a b v cv i wr) (fun _ _ i _ => a.length - (intOf i).toNat)
  case atStart => exact ⟨0, [], 0, Nat.zero_le _, rfl, rfl, OwnW.nil_ _ _, rfl, by simp [wordsOk], by omega, by simp [wval], Below.refl _ _⟩
  case round =>
    as_aux_lemma =>
    obtain ⟨k, os, br, hk, rfl, rfl, hown, hol, hok, hcy, hv, hb⟩ := hrel
    have HO := Lib.hid hown
    have HOL := Lib.hid hol
    have HOK := Lib.hid hok
    have HV := Lib.hid hv
    clear hown hol hok hv
    have hsz := hb.size
    by_cases hlt : k < a.length
    · by_cases kb : k < b.length
      · skip
        obtain ⟨b1, o1, x, rfl, q1, _, hx, g1'⟩ := H1.out.w32_ hlt
        have g1 := (hb.cell (p := ⟨b1, o1 + k, none⟩) (Nat.lt_of_lt_of_le q1 hm)).trans g1'
        have bx := HA.out x (List.mem_of_getElem? hx)
        have HX := Lib.hid (show a[k]?.getD 0 = x by rw [hx]; rfl)
        have ka' : (k : Int) < (a.length : Int) := by omega
        clear hx g1'
        obtain ⟨b2, o2, y, rfl, q2, _, hy, g2'⟩ := H2.out.w32_ kb
        have g2 := (hb.cell (p := ⟨b2, o2 + k, none⟩) (Nat.lt_of_lt_of_le q2 hm)).trans g2'
        have by' := HB.out y (List.mem_of_getElem? hy)
        have HY := Lib.hid (show b[k]?.getD 0 = y by rw [hy]; rfl)
        have kb' : (k : Int) < (b.length : Int) := by omega
        clear hy g2'
        by_cases hneg : (x : Int) - (br : Int) - (y : Int) < 0
        · as_aux_lemma =>
          obtain ⟨z, hz⟩ : ∃ z : Nat, (x : Int) - (br : Int) - (y : Int) + 4294967296 = (z : Int) := ⟨((x : Int) - (br : Int) - (y : Int) + 4294967296).toNat, by omega⟩
          have HZ := Lib.hid (show z + br + y = x + 4294967296 * 1 by omega)
          have hzb : z < 4294967296 := by omega
          have hzm : (z : Int) % 4294967296 = (z : Int) := by omega
          clear hlt kb
          go_wp2_with (at_builtin; refine push_w rfl _ _ rfl w.heap.size _ os z wr.heap.size rfl (HO.out.alloc _) rfl (by simp [go_sem]) (by have := HOL.out; omega) (by simp; omega) ?_; intro v' w2 hown2 hg2 hb2)
          exact ⟨⟨k + 1, os ++ [z], 1, by omega, by go_num, rfl, hown2, by rw [List.length_append, HOL.out]; rfl, words_push HOK.out hzb, by omega, mi_step HOL.out HX.out HY.out HV.out HZ.out, hb.trans ((((Below.refl _ wr).alloc (Nat.le_refl _) _).mono hb.size).trans hb2)⟩, by simp [intOf]; omega⟩
        · as_aux_lemma =>
          obtain ⟨z, hz⟩ : ∃ z : Nat, (x : Int) - (br : Int) - (y : Int) = (z : Int) := ⟨((x : Int) - (br : Int) - (y : Int)).toNat, by omega⟩
          have HZ := Lib.hid (show z + br + y = x + 4294967296 * 0 by omega)
          have hzb : z < 4294967296 := by omega
          have hzm : (z : Int) % 4294967296 = (z : Int) := by omega
          clear hlt kb
          go_wp2_with (at_builtin; refine push_w rfl _ _ rfl w.heap.size _ os z wr.heap.size rfl (HO.out.alloc _) rfl (by simp [go_sem]) (by have := HOL.out; omega) (by simp; omega) ?_; intro v' w2 hown2 hg2 hb2)
          exact ⟨⟨k + 1, os ++ [z], 0, by omega, by go_num, rfl, hown2, by rw [List.length_append, HOL.out]; rfl, words_push HOK.out hzb, by omega, mi_step HOL.out HX.out HY.out HV.out HZ.out, hb.trans ((((Below.refl _ wr).alloc (Nat.le_refl _) _).mono hb.size).trans hb2)⟩, by simp [intOf]; omega⟩
      · skip
        obtain ⟨b1, o1, x, rfl, q1, _, hx, g1'⟩ := H1.out.w32_ hlt
        have g1 := (hb.cell (p := ⟨b1, o1 + k, none⟩) (Nat.lt_of_lt_of_le q1 hm)).trans g1'
        have bx := HA.out x (List.mem_of_getElem? hx)
        have HX := Lib.hid (show a[k]?.getD 0 = x by rw [hx]; rfl)
        have ka' : (k : Int) < (a.length : Int) := by omega
        clear hx g1'
        have HY := Lib.hid (show b[k]?.getD 0 = 0 by rw [List.getElem?_eq_none (by omega)]; rfl)
        have kb' : ¬ (k : Int) < (b.length : Int) := by omega
        by_cases hneg : (x : Int) - (br : Int) < 0
        · as_aux_lemma =>
          obtain ⟨z, hz⟩ : ∃ z : Nat, (x : Int) - (br : Int) + 4294967296 = (z : Int) := ⟨((x : Int) - (br : Int) + 4294967296).toNat, by omega⟩
          have HZ := Lib.hid (show z + br + 0 = x + 4294967296 * 1 by omega)
          have hzb : z < 4294967296 := by omega
          have hzm : (z : Int) % 4294967296 = (z : Int) := by omega
          clear hlt kb
          go_wp2_with (at_builtin; refine push_w rfl _ _ rfl w.heap.size _ os z wr.heap.size rfl (HO.out.alloc _) rfl (by simp [go_sem]) (by have := HOL.out; omega) (by simp; omega) ?_; intro v' w2 hown2 hg2 hb2)
          exact ⟨⟨k + 1, os ++ [z], 1, by omega, by go_num, rfl, hown2, by rw [List.length_append, HOL.out]; rfl, words_push HOK.out hzb, by omega, mi_step HOL.out HX.out HY.out HV.out HZ.out, hb.trans ((((Below.refl _ wr).alloc (Nat.le_refl _) _).mono hb.size).trans hb2)⟩, by simp [intOf]; omega⟩
        · as_aux_lemma =>
          obtain ⟨z, hz⟩ : ∃ z : Nat, (x : Int) - (br : Int) = (z : Int) := ⟨((x : Int) - (br : Int)).toNat, by omega⟩
          have HZ := Lib.hid (show z + br + 0 = x + 4294967296 * 0 by omega)
          have hzb : z < 4294967296 := by omega
          have hzm : (z : Int) % 4294967296 = (z : Int) := by omega
          clear hlt kb
          go_wp2_with (at_builtin; refine push_w rfl _ _ rfl w.heap.size _ os z wr.heap.size rfl (HO.out.alloc _) rfl (by simp [go_sem]) (by have := HOL.out; omega) (by simp; omega) ?_; intro v' w2 hown2 hg2 hb2)
          exact ⟨⟨k + 1, os ++ [z], 0, by omega, by go_num, rfl, hown2, by rw [List.length_append, HOL.out]; rfl, words_push HOK.out hzb, by omega, mi_step HOL.out HX.out HY.out HV.out HZ.out, hb.trans ((((Below.refl _ wr).alloc (Nat.le_refl _) _).mono hb.size).trans hb2)⟩, by simp [intOf]; omega⟩
    · as_aux_lemma =>
      have hka : a.length ≤ k := by omega
      have hkb : b.length ≤ k := by omega
      have hke : k = a.length := by omega
      have hwv : wval os = wval a - wval b := by
        have hv := HV.out
        rw [List.take_of_length_le hka, List.take_of_length_le hkb, hke] at hv
        exact mi_end (HOL.out.trans hke) HOK.out hcy HLE.out hv
      have hl6 : os.length ≤ 1000000 := by have := HOL.out; omega
      have HWV := Lib.hid hwv
      obtain ⟨G, g, rfl, hGn, hGc⟩ := HO.out.view
      obtain ⟨_, hgc, _, _⟩ := HO.out.cap_
      have HGC := Lib.hid hGc
      clear hwv hka hkb hke hGc
      go_wp2_with (go_at_call 118; refine (trim_any G os g wr.heap.size wr HGC.out hgc hl6).mono ?_; rintro e w3 ⟨rfl, rfl⟩)
      go_ret
      have hcan := trim_canon HOK.out
      rw [HWV.out] at hcan
      refine ⟨G, g, by rw [hcan]; rfl, hGn, ?_, ?_, hb⟩
      · rw [← hcan, trimL_len]
        have := trimN_le os os.length
        omega
      · rw [← hcan]
        exact HGC.out.takeW _
set_option maxRecDepth 100000 in
set_option maxHeartbeats 2000000 in
theorem valid_any (neg : Bool) (A : Option Addr) (n den c m : Nat) (w : World) (hm : m ≤ w.heap.size) (h : CellsAt w m A (w32 (canon n))) (hl : (canon n).length ≤ 100000) (ok : DyOk neg n den) :
    Calls Tryd.prog 117 #[.agg #[.bool neg, .slice A (canon n).length c, .int .i64 (den : Int)]] w fun e w' => e = .returned (.bool true) ∧ Below w.heap.size w w' := by
  by_cases h0 : n = 0
  · obtain ⟨rfl, rfl⟩ := ok.zero h0
    subst h0
    rw [canon_zero]
    clear h hl ok
    go_enter Tryd.func117, Tryd.ntmps117
    go_wp2_with fail
    go_ret
    exact ⟨rfl, (Below.refl _ w).alloc (Nat.le_refl _) _⟩
  · have hp := canon_ne h0
    have ht := canon_top h0
    obtain ⟨b, off, z, rfl, q1, q2, hz, g1⟩ := h.w32_ (k := (canon n).length - 1) (by omega)
    have hz0 : ((z : Int) != 0) = true := by
      rw [hz] at ht
      simp at ht
      simp
      omega
    have g0 : w.cell? ⟨b, off, none⟩ = some (.int .u32 ((n % 4294967296 : Nat) : Int)) := by
      obtain ⟨b', off', z', hA, _, _, hz', g'⟩ := h.w32_ (k := 0) hp
      cases hA
      rw [canon_head h0] at hz'
      cases hz'
      exact g'
    obtain ⟨L, hL⟩ : ∃ L, L = (canon n).length - 1 := ⟨_, rfl⟩
    obtain ⟨x, hx⟩ : ∃ x : Nat, x = n % 4294967296 := ⟨_, rfl⟩
    have hlen : (canon n).length = L + 1 := by omega
    have hd := ok.fine
    have ho := ok.odd
    rw [← hx] at g0
    rw [← hL] at g1
    rw [hlen]
    have hl' : L ≤ 100000 := by omega
    have e0 : ((L : Int) + 1 == 0) = false := by simp; omega
    have hodd : den ≠ 0 → (x : Int) % 2 = 1 := fun hne => by have := ho hne; omega
    clear h hl ok ho ht hz hL hx hlen hp h0
    by_cases hden : den = 0
    · subst hden
      clear hodd hd
      go_enter Tryd.func117, Tryd.ntmps117
      go_wp2_with fail
      go_ret
      exact ⟨rfl, (Below.refl _ w).alloc (Nat.le_refl _) _⟩
    · have ho := hodd hden
      have d0 : ((den : Int) == 0) = false := by simp; omega
      have d1 : decide ((den : Int) ≤ 65536) = true := decide_eq_true (by omega)
      clear hodd hden
      go_enter Tryd.func117, Tryd.ntmps117
      go_wp2_with fail
      go_ret
      exact ⟨rfl, (Below.refl _ w).alloc (Nat.le_refl _) _⟩
theorem res_norm {tmps : Array Value} {w : World} {b : Nat} {v0 v1 v2 : Value} (h2 : tmps.getD 2 undef = .pointer (some ⟨b, 0, none⟩)) (hB : RowD w b [v0, v1, v2] 37) :
    (results Tryd.f84 tmps).run Tryd.prog w = .ok (.agg #[v0, v1, v2]) w := by
  have k0 := hB.cell 0
  have k1 := hB.cell 1
  have k2 := hB.cell 2
  simp at k0 k1 k2
  simp at h2
  simp [results, Tryd.results84, go_sem, h2, k0, k1, k2]
set_option maxRecDepth 100000 in
set_option maxHeartbeats 2000000 in
theorem norm_any (neg : Bool) (A : Option Addr) (n den c m : Nat) (w : World) (hm : m ≤ w.heap.size) (h : CellsAt w m A (w32 (canon n))) (hl : (canon n).length ≤ 100000) (ok : DyOk neg n den) :
    Calls Tryd.prog 84 #[.agg #[.bool neg, .slice A (canon n).length c, .int .i64 (den : Int)]] w fun e w' => e = .returned (.agg #[.bool neg, .slice A (canon n).length c, .int .i64 (den : Int)]) ∧ Below w.heap.size w w' := by
  have H := Lib.hid h
  have OK := Lib.hid ok
  have HL := Lib.hid hl
  clear h ok hl
  have b0 : Below w.heap.size w ((w.alloc (.cells #[.bool neg, .slice A (canon n).length c, .int .i64 (den : Int)] 37)).alloc (.cells #[.bool false, .slice none 0 0, .int .i64 0] 37)) := ext_alloc (ext_alloc (Below.refl _ _) _) _
  have r0 := RowD.new_ (w.alloc (.cells #[.bool neg, .slice A (canon n).length c, .int .i64 (den : Int)] 37)) [.bool false, .slice none 0 0, .int .i64 0] 37
  go_enter Tryd.func84, Tryd.ntmps84
  go_wp2_with fail
  go_at_call 117
  refine (valid_any neg A n den c m _ (by simp; omega) (H.out.below b0 hm) HL.out OK.out).mono ?_
  rintro e w1 ⟨rfl, hb⟩
  obtain ⟨qc, qf, qs, qz⟩ := ext_at (m := w.heap.size + 2) hb (by simp) (by simp)
  have r1 := r0.below hb (by simp)
  have b1 := b0.trans (hb.mono (by simp; omega))
  have e1 : (w.alloc (.cells #[.bool neg, .slice A (canon n).length c, .int .i64 (den : Int)] 37)).heap.size = w.heap.size + 1 := by simp
  rw [e1] at r1
  clear hb r0 b0 e1
  go_wp2_with fail
  refine bodyPost_ret (res_norm rfl (((r1.set_ 0 _).set_ 1 _).set_ 2 _)) rfl ⟨rfl, ((b1.setCell (by simp) _).setCell (by simp) _).setCell (by simp) _⟩
set_option maxRecDepth 100000 in
set_option maxHeartbeats 2000000 in
theorem sign_any (neg : Bool) (A : Option Addr) (n den c m : Nat) (w : World) (hm : m ≤ w.heap.size) (h : CellsAt w m A (w32 (canon n))) (hl : (canon n).length ≤ 100000) (ok : DyOk neg n den) :
    Calls Tryd.prog 47 #[.agg #[.bool neg, .slice A (canon n).length c, .int .i64 (den : Int)]] w fun e w' => e = .returned (.int .i64 (sgn neg n)) ∧ Below w.heap.size w w' := by
  have H := Lib.hid h
  have OK := Lib.hid ok
  have HL := Lib.hid hl
  clear h ok hl
  have b0 : Below w.heap.size w (w.alloc (.cells #[.bool neg, .slice A (canon n).length c, .int .i64 (den : Int)] 37)) := ext_alloc (Below.refl _ _) _
  have r0 := RowD.new_ w [.bool neg, .slice A (canon n).length c, .int .i64 (den : Int)] 37
  by_cases h0 : n = 0
  · have SV : sgn neg n = 0 := by simp [sgn, h0]
    have ez : (((canon n).length : Int) == 0) = true := by rw [h0, canon_zero]; rfl
    clear h0
    go_enter Tryd.func47, Tryd.ntmps47
    go_wp2_with fail
    go_at_call 84
    refine (norm_any neg A n den c m _ (by simp; omega) (H.out.below b0 hm) HL.out OK.out).mono ?_
    rintro e w1 ⟨rfl, hb⟩
    obtain ⟨qc, qf, qs, qz⟩ := ext_at (m := w.heap.size + 1) hb (by simp) (by simp)
    have b1 := b0.trans (hb.mono (by simp))
    clear hb r0 b0
    go_wp2_with fail
    go_ret
    exact ⟨by rw [SV]; rfl, ((b1.setCell (by simp) _).setCell (by simp) _).setCell (by simp) _⟩
  · have hp := canon_ne h0
    have ez : (((canon n).length : Int) == 0) = false := by rw [beq_eq_false_iff_ne]; omega
    cases neg with
    | true =>
      have SV : sgn true n = -1 := by simp [sgn, h0]
      clear hp h0
      go_enter Tryd.func47, Tryd.ntmps47
      go_wp2_with fail
      go_at_call 84
      refine (norm_any true A n den c m _ (by simp; omega) (H.out.below b0 hm) HL.out OK.out).mono ?_
      rintro e w1 ⟨rfl, hb⟩
      obtain ⟨qc, qf, qs, qz⟩ := ext_at (m := w.heap.size + 1) hb (by simp) (by simp)
      have b1 := b0.trans (hb.mono (by simp))
      clear hb r0 b0
      go_wp2_with fail
      go_ret
      exact ⟨by rw [SV]; rfl, ((b1.setCell (by simp) _).setCell (by simp) _).setCell (by simp) _⟩
    | false =>
      have SV : sgn false n = 1 := by simp [sgn, h0]
      clear hp h0
      go_enter Tryd.func47, Tryd.ntmps47
      go_wp2_with fail
      go_at_call 84
      refine (norm_any false A n den c m _ (by simp; omega) (H.out.below b0 hm) HL.out OK.out).mono ?_
      rintro e w1 ⟨rfl, hb⟩
      obtain ⟨qc, qf, qs, qz⟩ := ext_at (m := w.heap.size + 1) hb (by simp) (by simp)
      have b1 := b0.trans (hb.mono (by simp))
      clear hb r0 b0
      go_wp2_with fail
      go_ret
      exact ⟨by rw [SV]; rfl, ((b1.setCell (by simp) _).setCell (by simp) _).setCell (by simp) _⟩
set_option maxRecDepth 100000 in
set_option maxHeartbeats 8000000 in
theorem left_any (A : Option Addr) (a : List Nat) (c n m : Nat) (w : World) (hm : m ≤ w.heap.size) (h1 : CellsAt w m A (w32 a)) (ha : wordsOk a) (l1 : a.length ≤ 100000) (hn : n ≤ 1000000) :
    Calls Tryd.prog 88 #[.slice A a.length c, .int .i64 (n : Int)] w fun e w' =>
      ∃ G g, e = .returned (.slice G (canon (wval a * 2 ^ n)).length g) ∧ (G = none → g = 0) ∧ (canon (wval a * 2 ^ n)).length ≤ g ∧ CellsAt w' w'.heap.size G (w32 (canon (wval a * 2 ^ n))) ∧ Below w.heap.size w w' := by
  rw [pow_split n]
  obtain ⟨q, hq⟩ : ∃ q, q = n / 32 := ⟨_, rfl⟩
  obtain ⟨p, hp⟩ : ∃ p, p = 2 ^ (n % 32) := ⟨_, rfl⟩
  have hp0 : 0 < p := by rw [hp]; exact Nat.two_pow_pos _
  have hp32 : p ≤ 2147483648 := by
    rw [hp]
    exact Nat.pow_le_pow_right (n := 2) (by decide) (show n % 32 ≤ 31 by omega)
  rw [← hq, ← hp]
  have HP := Lib.hid hp
  have H1 := Lib.hid h1
  have HA := Lib.hid ha
  have hqi : (n : Int) / 32 = (q : Int) := by omega
  have hq6 : q ≤ 31250 := by omega
  clear h1 ha hp hq
  obtain ⟨i0, hi, hz0, hz1, hz2⟩ := info_parts info_w4
  go_enter Tryd.func88, Tryd.ntmps88
  go_wp2_with (with_reducible refine wpList_make_full _ rfl (.tmp 10) (.tmp 10) 35 rfl w.heap.size 130 i0 (.int .u32 0) 1 under_w hi hz0 hz1 .i64 .i64 _ _ q rfl rfl rfl rfl (by rw [hz2]; omega) (by unfold maxLen; omega) (Nat.le_refl _) ?_; intro w2 hown hg)
  have hst := (Below.refl w.heap.size w).grown hg (Nat.le_refl _) (fun k h => by simp at h)
  have hown2 : OwnW w2 w.heap.size (.slice (some ⟨w.heap.size, 0, none⟩) q q) (List.replicate q 0) := by
    have e1 : w32 (List.replicate q 0) = (madeCells (Value.int .u32 0).cells (q * 1)).toList := by
      rw [Nat.mul_one]
      have := toList_madeCells_one (Value.int .u32 0) q
      simp only [w32, List.map_replicate]
      exact this.symm
    unfold OwnW
    rw [e1, List.length_replicate]
    exact hown
  have hsz := hst.size
  clear hown hg hi hz0 hz1 hz2
  go_loopw [5, 6, 14] (fun v cv i wr => lfRel w a q p v cv i wr) (fun _ _ i _ => a.length - (intOf i).toNat)
  case atStart => exact ⟨0, List.replicate q 0, 0, Nat.zero_le _, rfl, rfl, hown2, by simp, words_zeros q, hp0, by simp [wval_zeros, wval], hst⟩
  case round =>
    as_aux_lemma =>
    obtain ⟨k, os, cy, hk, rfl, rfl, hown, hol, hok, hcy, hv, hb⟩ := hrel
    have HO := Lib.hid hown
    have HOL := Lib.hid hol
    have HOK := Lib.hid hok
    have HV := Lib.hid hv
    clear hown hol hok hv hown2 hst
    have hsz := hb.size
    by_cases hlt : k < a.length
    · as_aux_lemma =>
      obtain ⟨b1, o1, x, rfl, q1, _, hx, g1'⟩ := H1.out.w32_ hlt
      have g1 := (hb.cell (p := ⟨b1, o1 + k, none⟩) (Nat.lt_of_lt_of_le q1 hm)).trans g1'
      have bx := HA.out x (List.mem_of_getElem? hx)
      have HX := Lib.hid (show a[k]?.getD 0 = x by rw [hx]; rfl)
      have ka' : (k : Int) < (a.length : Int) := by omega
      clear hx g1'
      obtain ⟨s, hs⟩ : ∃ s : Nat, s = cy + x * p := ⟨_, rfl⟩
      have hor : bits .or .u64 (cy : Int) (IntKind.u64.wrap ((x : Int) * 2 ^ (n % 32))) = (s : Int) := by
        rw [hs]
        exact lf_or HP.out hcy bx (by omega)
      have HC := Lib.hid (lf_word hcy bx)
      rw [← hs] at HC
      obtain ⟨z, hz⟩ : ∃ z : Nat, (s : Int) % 4294967296 = (z : Int) := ⟨(s % 4294967296 : Nat), by omega⟩
      obtain ⟨c', hc'⟩ : ∃ c' : Nat, (s : Int) / 4294967296 = (c' : Int) := ⟨(s / 4294967296 : Nat), by omega⟩
      have HZ := Lib.hid (show z + 4294967296 * c' = cy + x * p by rw [← hs]; omega)
      have hzb : z < 4294967296 := by omega
      have HC2 := Lib.hid (show c' < p by have h := HC.out; omega)
      clear hs HC
      go_wp2_with (at_builtin; refine push_w rfl _ _ rfl w.heap.size _ os z wr.heap.size rfl (HO.out.alloc _) rfl (by simp [go_sem]) (by have := HOL.out; omega) (by simp; omega) ?_; intro v' w3 hown3 hg3 hb3)
      exact ⟨⟨k + 1, os ++ [z], c', by omega, by go_num, rfl, hown3, by rw [List.length_append, HOL.out]; rfl, words_push HOK.out hzb, HC2.out, lf_step HOL.out HX.out HV.out HZ.out, hb.trans ((((Below.refl _ wr).alloc (Nat.le_refl _) _).mono hb.size).trans hb3)⟩, by simp [intOf]; omega⟩
    · as_aux_lemma =>
      have hle : ¬ (k : Int) < (a.length : Int) := by omega
      have hka : a.length ≤ k := by omega
      have hcy32 : cy < 4294967296 := by omega
      have hcym : (cy : Int) % 4294967296 = (cy : Int) := by omega
      obtain ⟨ws, hws⟩ : ∃ ws, ws = os ++ [cy] := ⟨_, rfl⟩
      have hwok : wordsOk ws := by rw [hws]; exact words_push HOK.out hcy32
      have hwl : ws.length = q + k + 1 := by rw [hws, List.length_append, HOL.out]; rfl
      have hwv : wval ws = wval a * (4294967296 ^ q * p) := by
        have hv := HV.out
        rw [List.take_of_length_le hka] at hv
        rw [hws, wval_append, HOL.out, ← hv]
        simp only [wval, Nat.mul_zero, Nat.add_zero]
      have hl6 : ws.length ≤ 1000000 := by omega
      have HWS := Lib.hid hws
      have HWO := Lib.hid hwok
      have HWV := Lib.hid hwv
      clear hws hwok hwv hka hwl hlt
      go_wp2_with (first
        | (go_at_call 118; refine (trim_any G ws g w3.heap.size w3 hGc hgc hl6).mono ?_; rintro e w4 ⟨rfl, rfl⟩)
        | (at_builtin; refine push_w rfl _ _ rfl w.heap.size _ os cy wr.heap.size rfl (HO.out.alloc _) rfl (by simp [go_sem]) (by have := HOL.out; omega) (by simp; omega) ?_; intro v' w3 hown3 hg3 hb3; rw [← HWS.out] at hown3; obtain ⟨G, g, rfl, hGn, hGc⟩ := hown3.view; obtain ⟨_, hgc, _, _⟩ := hown3.cap_))
      go_ret
      have hcan := trim_canon HWO.out
      rw [HWV.out] at hcan
      refine ⟨G, g, by rw [hcan]; rfl, hGn, ?_, ?_, hb.trans ((((Below.refl _ wr).alloc (Nat.le_refl _) _).mono hb.size).trans hb3)⟩
      · rw [← hcan, trimL_len]
        have := trimN_le ws ws.length
        omega
      · rw [← hcan]
        exact hGc.takeW _
set_option maxRecDepth 100000 in
set_option maxHeartbeats 8000000 in
theorem right_any (A : Option Addr) (a : List Nat) (c n m : Nat) (w : World) (hm : m ≤ w.heap.size) (h1 : CellsAt w m A (w32 a)) (ha : wordsOk a) (l1 : a.length ≤ 100000) (hn : n ≤ 1000000) :
    Calls Tryd.prog 86 #[.slice A a.length c, .int .i64 (n : Int)] w fun e w' =>
      ∃ G g, e = .returned (.tuple #[.slice G (canon (wval a / 2 ^ n)).length g, .bool (cutB (wval a) n)]) ∧ (G = none → g = 0) ∧ (canon (wval a / 2 ^ n)).length ≤ g ∧ CellsAt w' w'.heap.size G (w32 (canon (wval a / 2 ^ n))) ∧ Below w.heap.size w w' := by
  have H1 := Lib.hid h1
  have HA := Lib.hid ha
  clear h1 ha
  go_enter Tryd.func86, Tryd.ntmps86
  go_wp2_with fail
  go_loopw [6, 7] (fun cv i wr => rgRel a n w cv i wr) (fun _ i _ => n - (intOf i).toNat)
  case atStart => exact ⟨0, Nat.zero_le _, Nat.zero_le _, rfl, by rw [cutB_zero], rfl⟩
  case round =>
    obtain ⟨k, hk, hkl, rfl, rfl, rfl⟩ := hrel
    by_cases hlt : k < n
    · by_cases hlt2 : k < 32 * a.length
      · obtain ⟨q, hq⟩ : ∃ q, q = k / 32 := ⟨_, rfl⟩
        have hka : q < a.length := by omega
        obtain ⟨b1, o1, x, rfl, q1, _, hx, g1⟩ := H1.out.w32_ hka
        have bx := HA.out x (List.mem_of_getElem? hx)
        have HX := Lib.hid (show a[k / 32]?.getD 0 = x by rw [← hq, hx]; rfl)
        have i1 : (k : Int) < (n : Int) := by omega
        have i2 : (k : Int) < 32 * (a.length : Int) := by omega
        have i3 : (k : Int) / 32 = (q : Int) := by omega
        have i4 : (q : Int) < (a.length : Int) := by omega
        clear hq
        clear hx
        obtain ⟨cb, hcb⟩ : ∃ cb, cb = cutB (wval a) k := ⟨_, rfl⟩
        rw [← hcb]
        have HC := Lib.hid hcb
        clear hcb
        cases cb with
        | true =>
          go_wp2_with fail
          have e := cutB_succ (wval a) k
          rw [← HC.out] at e
          exact ⟨⟨k + 1, by omega, by omega, by go_num, by rw [e]; rfl, rfl⟩, by simp [intOf]; omega⟩
        | false =>
          go_wp2_with fail
          have e := cutB_succ (wval a) k
          rw [← HC.out, ← rg_bit HA.out bx HX.out] at e
          exact ⟨⟨k + 1, by omega, by omega, by go_num, by rw [e]; rfl, rfl⟩, by simp [intOf]; omega⟩
      · as_aux_lemma =>
        have hc : cutB (wval a) k = cutB (wval a) n := by
          have hl := wval_lt HA.out
          have e : (4294967296 : Nat) ^ a.length = 2 ^ (32 * a.length) := by
            rw [Nat.pow_mul]
          rw [e, show 32 * a.length = k by omega] at hl
          exact (cutB_big hl hk).symm
        have hz : canon (wval a / 2 ^ n) = [] := by
          have hl := wval_lt HA.out
          have e : (4294967296 : Nat) ^ a.length = 2 ^ (32 * a.length) := by
            rw [Nat.pow_mul]
          rw [e] at hl
          rw [Nat.div_eq_of_lt (Nat.lt_of_lt_of_le hl (Nat.pow_le_pow_right (by decide) (by omega))), canon_zero]
        have i1 : (k : Int) < (n : Int) := by omega
        have i2 : ¬ (k : Int) < 32 * (a.length : Int) := by omega
        have i3 : 32 * (a.length : Int) ≤ (n : Int) := by omega
        rw [hc]
        have HZ := Lib.hid hz
        clear hc hz
        go_wp2_with fail
        exact bodyPost_ret (v := .tuple #[.slice none 0 0, .bool (cutB (wval a) n)]) (by simp [results, Tryd.results86, go_sem]) rfl ⟨none, 0, by rw [HZ.out]; rfl, fun _ => rfl, by rw [HZ.out]; exact Nat.le_refl _, by rw [HZ.out]; exact CellsAt.nil_, Below.refl _ _⟩
    · have hkn : k = n := by omega
      subst hkn
      have i1 : ¬ (k : Int) < (k : Int) := by omega
      by_cases hlt2 : k < 32 * a.length
      · as_aux_lemma =>
        obtain ⟨q, hq⟩ : ∃ q, q = k / 32 := ⟨_, rfl⟩
        have hql : q < a.length := by omega
        have i3 : ¬ 32 * (a.length : Int) ≤ (k : Int) := by omega
        have i4 : (k : Int) / 32 = (q : Int) := by omega
        have HQ := Lib.hid hq
        clear hlt hlt2 hq hkl hk
        go_wp2_with fail
        go_loopw [8, 9] (fun v i wr => rgRel2 w a k q v i wr) (fun _ i _ => a.length - (intOf i).toNat)
        case atStart => exact ⟨0, [], by omega, by simp, OwnW.nil_ _ _, rfl, by simp [wordsOk], by simp [wval, Nat.mod_one], Below.refl _ _⟩
        case round =>
          as_aux_lemma =>
          obtain ⟨j, os, hj, rfl, hown, hol, hok, hv, hb⟩ := hrel
          have HO := Lib.hid hown
          have HOL := Lib.hid hol
          have HOK := Lib.hid hok
          have HV := Lib.hid hv
          clear hown hol hok hv
          have hsz := hb.size
          obtain ⟨i, hi⟩ : ∃ i, i = q + j := ⟨_, rfl⟩
          rw [← hi]
          have hij : (i : Int) + 1 = ((q + (j + 1) : Nat) : Int) := by omega
          have HIJ := Lib.hid hij
          have HI := Lib.hid hi
          have hjl : j < 1000000 := by omega
          clear hi hij hj
          by_cases hlt : i < a.length
          · obtain ⟨b1, o1, x, rfl, q1, _, hx, g1'⟩ := H1.out.w32_ hlt
            have g1 := (hb.cell (p := ⟨b1, o1 + i, none⟩) (Nat.lt_of_lt_of_le q1 hm)).trans g1'
            have bx := HA.out x (List.mem_of_getElem? hx)
            have HX := Lib.hid (show a[k / 32 + j]?.getD 0 = x by rw [← HQ.out, ← HI.out, hx]; rfl)
            have ka' : (i : Int) < (a.length : Int) := by omega
            clear hx g1'
            by_cases hlt2 : i + 1 < a.length
            · obtain ⟨b2, o2, y, hA2, q2, _, hy, g2'⟩ := H1.out.w32_ hlt2
              cases hA2
              have g2 := (hb.cell (p := ⟨b1, o1 + (i + 1), none⟩) (Nat.lt_of_lt_of_le q1 hm)).trans g2'
              have by' := HA.out y (List.mem_of_getElem? hy)
              have HY := Lib.hid (show a[k / 32 + j + 1]?.getD 0 = y by rw [← HQ.out, ← HI.out, hy]; rfl)
              have kb' : (i : Int) + 1 < (a.length : Int) := by omega
              clear hy g2'
              obtain ⟨z, hzn⟩ : ∃ z : Nat, z = (x + y * 4294967296) / 2 ^ (k % 32) % 4294967296 := ⟨_, rfl⟩
              have hz : (bits .or .u64 (x : Int) ((y : Int) * 4294967296) / 2 ^ (k % 32) % 4294967296) = (z : Int) := by rw [hzn, rg_or bx by']; simp
              have HZ := Lib.hid (show z = (a[k / 32 + j]?.getD 0 + a[k / 32 + j + 1]?.getD 0 * 4294967296) / 2 ^ (k % 32) % 4294967296 by rw [HX.out, HY.out]; exact hzn)
              clear hzn
              have HZB := Lib.hid (show z < 4294967296 by rw [HZ.out]; exact Nat.mod_lt _ (by decide))
              have hj2 : q + (j + 1) ≤ a.length := by have := HIJ.out; omega
              go_wp2_with (at_builtin; refine push_w rfl _ _ rfl w.heap.size _ os z wr.heap.size rfl (HO.out.alloc _) rfl (by simp [go_sem]) (by have := HOL.out; omega) (by simp; omega) ?_; intro v' w3 hown3 hg3 hb3)
              exact ⟨⟨j + 1, os ++ [z], hj2, by rw [← HIJ.out], hown3, by rw [List.length_append, HOL.out]; rfl, words_push HOK.out HZB.out, rg_step HA.out HOL.out HV.out HZ.out, hb.trans ((((Below.refl _ wr).alloc (Nat.le_refl _) _).mono hb.size).trans hb3)⟩, by simp [intOf]; try omega⟩
            · have HY := Lib.hid (show a[k / 32 + j + 1]?.getD 0 = 0 by rw [← HQ.out, ← HI.out, List.getElem?_eq_none (by omega)]; rfl)
              have kb' : ¬ (i : Int) + 1 < (a.length : Int) := by omega
              obtain ⟨z, hzn⟩ : ∃ z : Nat, z = x / 2 ^ (k % 32) % 4294967296 := ⟨_, rfl⟩
              have hz : ((x : Int) / 2 ^ (k % 32) % 4294967296) = (z : Int) := by rw [hzn]; simp
              have HZ := Lib.hid (show z = (a[k / 32 + j]?.getD 0 + a[k / 32 + j + 1]?.getD 0 * 4294967296) / 2 ^ (k % 32) % 4294967296 by rw [HX.out, HY.out, Nat.zero_mul, Nat.add_zero]; exact hzn)
              clear hzn
              have HZB := Lib.hid (show z < 4294967296 by rw [HZ.out]; exact Nat.mod_lt _ (by decide))
              have hj2 : q + (j + 1) ≤ a.length := by have := HIJ.out; omega
              go_wp2_with (at_builtin; refine push_w rfl _ _ rfl w.heap.size _ os z wr.heap.size rfl (HO.out.alloc _) rfl (by simp [go_sem]) (by have := HOL.out; omega) (by simp; omega) ?_; intro v' w3 hown3 hg3 hb3)
              exact ⟨⟨j + 1, os ++ [z], hj2, by rw [← HIJ.out], hown3, by rw [List.length_append, HOL.out]; rfl, words_push HOK.out HZB.out, rg_step HA.out HOL.out HV.out HZ.out, hb.trans ((((Below.refl _ wr).alloc (Nat.le_refl _) _).mono hb.size).trans hb3)⟩, by simp [intOf]; try omega⟩
          · as_aux_lemma =>
            have hle : ¬ (i : Int) < (a.length : Int) := by omega
            have hl6 : os.length ≤ 1000000 := by have := HOL.out; omega
            have HWV := Lib.hid (rg_end (k := j) HA.out (by have := HI.out; have := HQ.out; omega) HV.out)
            obtain ⟨G, g, rfl, hGn, hGc⟩ := HO.out.view
            obtain ⟨_, hgc, _, _⟩ := HO.out.cap_
            have HGC := Lib.hid hGc
            clear hGc
            go_wp2_with (go_at_call 118; refine (trim_any G os g wr.heap.size wr HGC.out hgc hl6).mono ?_; rintro e w3 ⟨rfl, rfl⟩)
            have hcan := trim_canon HOK.out
            rw [HWV.out] at hcan
            refine bodyPost_ret (v := .tuple #[.slice G (trimL os).length g, .bool (cutB (wval a) k)]) (by simp [results, Tryd.results86, go_sem]) rfl ⟨G, g, by rw [hcan], hGn, ?_, ?_, hb⟩
            · rw [← hcan, trimL_len]
              have := trimN_le os os.length
              omega
            · rw [← hcan]
              exact HGC.out.takeW _
      · as_aux_lemma =>
        have hz : canon (wval a / 2 ^ k) = [] := by
          have hl := wval_lt HA.out
          have e : (4294967296 : Nat) ^ a.length = 2 ^ (32 * a.length) := by
            rw [Nat.pow_mul]
          rw [e] at hl
          rw [Nat.div_eq_of_lt (Nat.lt_of_lt_of_le hl (Nat.pow_le_pow_right (by decide) (by omega))), canon_zero]
        have i3 : 32 * (a.length : Int) ≤ (k : Int) := by omega
        have HZ := Lib.hid hz
        clear hz
        go_wp2_with fail
        exact bodyPost_ret (v := .tuple #[.slice none 0 0, .bool (cutB (wval a) k)]) (by simp [results, Tryd.results86, go_sem]) rfl ⟨none, 0, by rw [HZ.out]; rfl, fun _ => rfl, by rw [HZ.out]; exact Nat.le_refl _, by rw [HZ.out]; exact CellsAt.nil_, Below.refl _ _⟩
theorem res_number {tmps : Array Value} {w : World} {b : Nat} {v0 v1 v2 : Value} (h2 : tmps.getD 6 undef = .pointer (some ⟨b, 0, none⟩)) (hB : RowD w b [v0, v1, v2] 37) :
    (results Tryd.f85 tmps).run Tryd.prog w = .ok (.agg #[v0, v1, v2]) w := by
  have k0 := hB.cell 0
  have k1 := hB.cell 1
  have k2 := hB.cell 2
  simp at k0 k1 k2
  simp at h2
  simp [results, Tryd.results85, go_sem, h2, k0, k1, k2]
set_option maxRecDepth 100000 in
set_option maxHeartbeats 8000000 in
theorem number_any (neg : Bool) (A : Option Addr) (ws : List Nat) (c den m : Nat) (w : World) (hm : m ≤ w.heap.size) (h1 : CellsAt w m A (w32 ws)) (hc : ws.length ≤ c) (ha : wordsOk ws) (l1 : ws.length ≤ 100000) (hd : den ≤ 65536) :
    Calls Tryd.prog 85 #[.bool neg, .slice A ws.length c, .int .i64 (den : Int)] w fun e w' =>
      ∃ v, e = .returned v ∧ DyR w' w.heap.size w'.heap.size v (nf (sg neg (wval ws)) den).1 (nf (sg neg (wval ws)) den).2 ∧ Below w.heap.size w w' := by
  have hcan := trim_canon ha
  have hlen : (canon (wval ws)).length ≤ ws.length := by
    rw [← hcan, trimL_len]
    exact trimN_le _ _
  have HCAN := Lib.hid hcan
  have H1 := Lib.hid h1
  have hct := h1.takeW (trimN ws ws.length)
  rw [show ws.take (trimN ws ws.length) = canon (wval ws) from hcan] at hct
  have HCT := Lib.hid hct
  obtain ⟨n, hn⟩ : ∃ n, n = wval ws := ⟨_, rfl⟩
  rw [← hn] at HCT HCAN hlen ⊢
  have l2 : (canon n).length ≤ 100000 := by omega
  have l3 : (canon n).length ≤ c := by omega
  have l4 : ws.length ≤ 1000000 := by omega
  clear h1 ha hcan hct hn
  have b0 : Below w.heap.size w (w.alloc (.cells #[.bool false, .slice none 0 0, .int .i64 0] 37)) := ext_alloc (Below.refl _ _) _
  have r0 := RowD.new_ w [.bool false, .slice none 0 0, .int .i64 0] 37
  go_enter Tryd.func85, Tryd.ntmps85
  go_wp2_with (go_at_call 118; refine (trim_any A ws c m _ (H1.out.below b0 hm) hc l4).mono ?_; rintro e w3 ⟨rfl, rfl⟩)
  rw [HCAN.out]
  by_cases hn0 : n = 0
  · subst hn0
    have hr : nf (sg neg 0) den = (0, 0) := by
      rw [show sg neg 0 = 0 by unfold sg; split <;> rfl]
      exact nf_zero den
    have HR := Lib.hid hr
    clear hr
    rw [canon_zero] at HCT ⊢
    clear l2 l3 hlen
    go_loopw [7] (fun i wr => n0Rel (w.alloc (.cells #[.bool false, .slice none 0 0, .int .i64 0] 37)) i wr) (fun i _ => 0)
    case atStart => exact ⟨rfl, rfl⟩
    case round =>
      obtain ⟨rfl, rfl⟩ := hrel
      have i9 : ¬ (65536 : Int) < (den : Int) := by omega
      by_cases hlt : den = 0
      · subst hlt
        go_wp2_with (go_at_call 86
                     refine (right_any _ [] c 0 m _ (by simp; omega) (HCT.out.below b0 hm) (by simp [wordsOk]) (by simp) (by omega)).mono ?_
                     rintro e w2 ⟨G, g, rfl, hG, hg, hcG, hb2⟩
                     rw [show wval [] / 2 ^ 0 = 0 by rfl, canon_zero]
                     have hsz2 := hb2.size
                     simp at hsz2
                     have hszl : w.heap.size < w2.heap.size := by omega
                     obtain ⟨qc, qf, qs, qz⟩ := ext_at (m := w.heap.size + 1) hb2 (by simp) (by simp)
                     have r4 := r0.below hb2 (by simp)
                     have bb4 := b0.trans (hb2.mono (by simp)))
        refine bodyPost_ret (res_number rfl (((r4.set_ 0 _).set_ 1 _).set_ 2 _)) rfl ⟨_, rfl, ?_, ((bb4.setCell (by simp) _).setCell (by simp) _).setCell (by simp) _⟩
        rw [HR.out]
        exact DyR.zero_ _ _ _
      · have i1 : 0 < den := by omega
        have i2 : (0 : Int) < (den : Int) := by omega
        clear hlt
        go_wp2_with (go_at_call 86
                     refine (right_any _ [] c 0 m _ (by simp; omega) (HCT.out.below b0 hm) (by simp [wordsOk]) (by simp) (by omega)).mono ?_
                     rintro e w2 ⟨G, g, rfl, hG, hg, hcG, hb2⟩
                     rw [show wval [] / 2 ^ 0 = 0 by rfl, canon_zero]
                     have hsz2 := hb2.size
                     simp at hsz2
                     have hszl : w.heap.size < w2.heap.size := by omega
                     obtain ⟨qc, qf, qs, qz⟩ := ext_at (m := w.heap.size + 1) hb2 (by simp) (by simp)
                     have r4 := r0.below hb2 (by simp)
                     have bb4 := b0.trans (hb2.mono (by simp)))
        refine bodyPost_ret (res_number rfl (((r4.set_ 0 _).set_ 1 _).set_ 2 _)) rfl ⟨_, rfl, ?_, ((bb4.setCell (by simp) _).setCell (by simp) _).setCell (by simp) _⟩
        rw [HR.out]
        exact DyR.zero_ _ _ _
  · have HN0 := Lib.hid hn0
    have hn1 := canon_ne hn0
    clear hn0
    go_loopw [7] (fun i wr => nuRel n den neg (w.alloc (.cells #[.bool false, .slice none 0 0, .int .i64 0] 37)) i wr) (fun i _ => den - (intOf i).toNat)
    case atStart => exact ⟨0, Nat.zero_le _, Nat.zero_le _, rfl, Nat.mod_one _, by simp, rfl⟩
    case round =>
      skip
      obtain ⟨k, hk, hkl, rfl, hmod, hnf, rfl⟩ := hrel
      have HNF := Lib.hid hnf
      have HMOD := Lib.hid hmod
      clear hnf hmod
      have i9 : ¬ (65536 : Int) < (den : Int) - (k : Int) := by omega
      by_cases hlt : k < den
      · have i1 : (k : Int) < (den : Int) := by omega
        have hlt2 : k < 32 * (canon n).length := by
          rcases Nat.lt_or_ge k (32 * (canon n).length) with h | h
          · exact h
          · exfalso
            have h2 := wval_lt (canon_ok n)
            rw [wval_canon, show (4294967296 : Nat) = 2 ^ 32 by decide, ← Nat.pow_mul, show 32 * (canon n).length = k by omega] at h2
            have h3 := HMOD.out
            rw [Nat.mod_eq_of_lt h2] at h3
            exact HN0.out h3
        obtain ⟨q, hq⟩ : ∃ q, q = k / 32 := ⟨_, rfl⟩
        have hka : q < (canon n).length := by omega
        obtain ⟨b1, o1, x, rfl, q1, _, hx, g1'⟩ := HCT.out.w32_ hka
        have g1 := (b0.cell (p := ⟨b1, o1 + q, none⟩) (Nat.lt_of_lt_of_le q1 hm)).trans g1'
        have bx := canon_ok n x (List.mem_of_getElem? hx)
        have hbit := rg_bit (canon_ok n) bx (show (canon n)[k / 32]?.getD 0 = x by rw [← hq, hx]; rfl)
        have hbit0 := nu_bit (canon_ok n) bx (show (canon n)[k / 32]?.getD 0 = x by rw [← hq, hx]; rfl)
        rw [wval_canon] at hbit hbit0
        have i2 : (k : Int) < 32 * ((canon n).length : Int) := by omega
        have i3 : (k : Int) / 32 = (q : Int) := by omega
        have i4 : (q : Int) < ((canon n).length : Int) := by omega
        clear hq hx g1' hbit
        by_cases hz : n / 2 ^ k % 2 = 0
        · have hb0 : (bits .and .u32 ((x : Int) / 2 ^ (k % 32)) 1 == 0) = true := by rw [hbit0, hz]; rfl
          have HZ := Lib.hid hz
          clear hbit0 hz
          go_wp2_with fail
          refine ⟨⟨k + 1, by omega, by omega, by go_num, nu_mod HMOD.out HZ.out, HNF.out.trans (nf_step hlt HZ.out), rfl⟩, by simp [intOf]; omega⟩
        · have hb0 : (bits .and .u32 ((x : Int) / 2 ^ (k % 32)) 1 == 0) = false := by rw [hbit0]; simp; omega
          have hodd : den - k ≠ 0 → n / 2 ^ k % 2 = 1 := fun _ => by omega
          have hy0 : n / 2 ^ k ≠ 0 := fun h => by rw [h] at hz; exact hz rfl
          clear hbit0 hz
          obtain ⟨y, hy⟩ : ∃ y, y = n / 2 ^ k := ⟨_, rfl⟩
          rw [← hy] at hodd hy0
          have HRES := Lib.hid (show nf (sg neg n) den = (sg neg y, den - k) by rw [HNF.out, ← hy]; exact nf_done (fun h => by have := hodd h; unfold sg; split <;> omega))
          have HY := Lib.hid hy
          have HODD := Lib.hid hodd
          have HY0 := Lib.hid hy0
          have hp := canon_ne hy0
          have e0 : (((canon y).length : Int) == 0) = false := by rw [beq_eq_false_iff_ne]; omega
          have hyl : (canon y).length ≤ 100000 := by
            refine Nat.le_trans (canon_len_mono ?_) l2
            rw [hy]
            exact Nat.div_le_self _ _
          clear hy hodd hy0 hp
          go_wp2_with (first
            | (go_at_call 86
               refine (right_any _ (canon n) c k m _ (by simp; omega) (HCT.out.below b0 hm) (canon_ok n) l2 (by omega)).mono ?_
               rintro e w2 ⟨G, g, rfl, hG, hg, hcG, hb2⟩
               rw [wval_canon, ← HY.out] at hg hcG ⊢
               have hsz2 := hb2.size
               simp at hsz2
               have hszl : w.heap.size < w2.heap.size := by omega)
            | (at_builtin
               refine app_w rfl _ _ rfl w2.heap.size _ [] (canon y) G g w2.heap.size rfl (OwnW.lit0 (Nat.le_refl _)) rfl hG (hcG.below ((Below.refl w2.heap.size w2).alloc (Nat.le_refl _) _) (Nat.le_refl _)) (by simp; omega) (by simp) ?_
               intro v' w4 hown4 hg4 hb4
               rw [List.nil_append] at hown4
               obtain ⟨A', c', rfl, _, _⟩ := hown4.view
               have hall : Below (w.heap.size + 1) (w.alloc (.cells #[.bool false, .slice none 0 0, .int .i64 0] 37)) w4 := (hb2.mono (by simp)).trans ((((Below.refl (w.heap.size + 1) w2).alloc (by omega) _)).trans (hb4.mono (by omega)))
               have hsz4 := hb4.size
               simp at hsz4
               have hsz5 : w.heap.size < w4.heap.size := by omega
               have r4 := r0.below hall (by simp)
               have bb4 := b0.trans (hall.mono (by simp))
               clear hb2 hb4 hg4
               obtain ⟨qc, qf, qs, qz⟩ := ext_at (m := w.heap.size + 1) hall (by simp) (by simp)))
          have hown5 : OwnW (((w4.setCell ⟨w.heap.size, 0, none⟩ (.bool neg)).setCell ⟨w.heap.size, 1, none⟩ (.slice A' (canon y).length c')).setCell ⟨w.heap.size, 2, none⟩ (.int .i64 ((den : Int) - (k : Int)))) w2.heap.size (.slice A' (canon y).length c') (canon y) := ownsRow_setCell_below (ownsRow_setCell_below (ownsRow_setCell_below hown4 (by simp; omega) _) (by simp; omega) _) (by simp; omega) _
          refine bodyPost_ret (res_number rfl (((r4.set_ 0 _).set_ 1 _).set_ 2 _)) rfl ⟨_, rfl, ?_, ((bb4.setCell (by simp) _).setCell (by simp) _).setCell (by simp) _⟩
          rw [HRES.out]
          obtain ⟨_, hcl, hn', hc'⟩ := hown5.cap_
          refine ⟨A', c', ?_, hn', ?_, ?_, ?_, by show den - k ≤ 65536; omega, ?_⟩
          · rw [sg_abs, sg_neg HY0.out]
            have : (den : Int) - (k : Int) = ((den - k : Nat) : Int) := by omega
            rw [this]
          · rw [sg_abs]; exact hcl
          · rw [sg_abs]; exact hc'
          · intro a ha
            have := (World.ownsRow.lt hown5 a.block (by rw [ha]; rfl)).1
            omega
          · intro h
            have := HODD.out h
            show sg neg y % 2 = 1
            unfold sg
            split <;> omega
      · have hkd : k = den := by omega
        have i1 : ¬ (k : Int) < (den : Int) := by omega
        have hodd : den - k ≠ 0 → n / 2 ^ k % 2 = 1 := fun h => by omega
        have hy0 : n / 2 ^ k ≠ 0 := fun h => by
          have h2 := Nat.div_add_mod n (2 ^ k)
          rw [h, HMOD.out] at h2
          exact HN0.out (by omega)
        clear hkd
        obtain ⟨y, hy⟩ : ∃ y, y = n / 2 ^ k := ⟨_, rfl⟩
        rw [← hy] at hodd hy0
        have HRES := Lib.hid (show nf (sg neg n) den = (sg neg y, den - k) by rw [HNF.out, ← hy]; exact nf_done (fun h => by have := hodd h; unfold sg; split <;> omega))
        have HY := Lib.hid hy
        have HODD := Lib.hid hodd
        have HY0 := Lib.hid hy0
        have hp := canon_ne hy0
        have e0 : (((canon y).length : Int) == 0) = false := by rw [beq_eq_false_iff_ne]; omega
        have hyl : (canon y).length ≤ 100000 := by
          refine Nat.le_trans (canon_len_mono ?_) l2
          rw [hy]
          exact Nat.div_le_self _ _
        clear hy hodd hy0 hp
        go_wp2_with (first
          | (go_at_call 86
             refine (right_any _ (canon n) c k m _ (by simp; omega) (HCT.out.below b0 hm) (canon_ok n) l2 (by omega)).mono ?_
             rintro e w2 ⟨G, g, rfl, hG, hg, hcG, hb2⟩
             rw [wval_canon, ← HY.out] at hg hcG ⊢
             have hsz2 := hb2.size
             simp at hsz2
             have hszl : w.heap.size < w2.heap.size := by omega)
          | (at_builtin
             refine app_w rfl _ _ rfl w2.heap.size _ [] (canon y) G g w2.heap.size rfl (OwnW.lit0 (Nat.le_refl _)) rfl hG (hcG.below ((Below.refl w2.heap.size w2).alloc (Nat.le_refl _) _) (Nat.le_refl _)) (by simp; omega) (by simp) ?_
             intro v' w4 hown4 hg4 hb4
             rw [List.nil_append] at hown4
             obtain ⟨A', c', rfl, _, _⟩ := hown4.view
             have hall : Below (w.heap.size + 1) (w.alloc (.cells #[.bool false, .slice none 0 0, .int .i64 0] 37)) w4 := (hb2.mono (by simp)).trans ((((Below.refl (w.heap.size + 1) w2).alloc (by omega) _)).trans (hb4.mono (by omega)))
             have hsz4 := hb4.size
             simp at hsz4
             have hsz5 : w.heap.size < w4.heap.size := by omega
             have r4 := r0.below hall (by simp)
             have bb4 := b0.trans (hall.mono (by simp))
             clear hb2 hb4 hg4
             obtain ⟨qc, qf, qs, qz⟩ := ext_at (m := w.heap.size + 1) hall (by simp) (by simp)))
        have hown5 : OwnW (((w4.setCell ⟨w.heap.size, 0, none⟩ (.bool neg)).setCell ⟨w.heap.size, 1, none⟩ (.slice A' (canon y).length c')).setCell ⟨w.heap.size, 2, none⟩ (.int .i64 ((den : Int) - (k : Int)))) w2.heap.size (.slice A' (canon y).length c') (canon y) := ownsRow_setCell_below (ownsRow_setCell_below (ownsRow_setCell_below hown4 (by simp; omega) _) (by simp; omega) _) (by simp; omega) _
        refine bodyPost_ret (res_number rfl (((r4.set_ 0 _).set_ 1 _).set_ 2 _)) rfl ⟨_, rfl, ?_, ((bb4.setCell (by simp) _).setCell (by simp) _).setCell (by simp) _⟩
        rw [HRES.out]
        obtain ⟨_, hcl, hn', hc'⟩ := hown5.cap_
        refine ⟨A', c', ?_, hn', ?_, ?_, ?_, by show den - k ≤ 65536; omega, ?_⟩
        · rw [sg_abs, sg_neg HY0.out]
          have : (den : Int) - (k : Int) = ((den - k : Nat) : Int) := by omega
          rw [this]
        · rw [sg_abs]; exact hcl
        · rw [sg_abs]; exact hc'
        · intro a ha
          have := (World.ownsRow.lt hown5 a.block (by rw [ha]; rfl)).1
          omega
        · intro h
          have := HODD.out h
          show sg neg y % 2 = 1
          unfold sg
          split <;> omega
theorem norm_w {v : Value} {x : Int} {d lo m : Nat} {w : World} (D : DyR w lo m v x d) (hm : m ≤ w.heap.size) (hl : (canon x.natAbs).length ≤ 100000) :
    Calls Tryd.prog 84 #[v] w fun e w' => e = .returned v ∧ Below w.heap.size w w' := by
  obtain ⟨A, c, rfl, h1, h2, h3, h4, h5, h6⟩ := D
  exact norm_any _ A _ d c m w hm h3 hl (dy_ok h5 h6)
theorem sign_w {v : Value} {x : Int} {d lo m : Nat} {w : World} (D : DyR w lo m v x d) (hm : m ≤ w.heap.size) (hl : (canon x.natAbs).length ≤ 100000) :
    Calls Tryd.prog 47 #[v] w fun e w' => e = .returned (.int .i64 (sgI x)) ∧ Below w.heap.size w w' := by
  obtain ⟨A, c, rfl, h1, h2, h3, h4, h5, h6⟩ := D
  refine (sign_any _ A _ d c m w hm h3 hl (dy_ok h5 h6)).mono ?_
  rintro e w' ⟨rfl, hb⟩
  refine ⟨?_, hb⟩
  have : sgn (decide (x < 0)) x.natAbs = sgI x := by
    unfold sgn sgI
    by_cases h0 : x = 0
    · subst h0; rfl
    · rw [if_neg (by omega), if_neg h0]
      by_cases h1 : x < 0
      · simp [h1]
      · simp [h1]
  rw [this]
/-- number, for words without leading zeros. -/
theorem number_w {neg : Bool} {A : Option Addr} {L c n d m : Nat} {w : World} (hL : L = (canon n).length) (hc : CellsAt w m A (w32 (canon n))) (hcap : L ≤ c) (hm : m ≤ w.heap.size) (hl : (canon n).length ≤ 100000) (hd : d ≤ 65536) :
    Calls Tryd.prog 85 #[.bool neg, .slice A L c, .int .i64 (d : Int)] w fun e w' =>
      ∃ v, e = .returned v ∧ DyR w' w.heap.size w'.heap.size v (nf (sg neg n) d).1 (nf (sg neg n) d).2 ∧ Below w.heap.size w w' := by
  subst hL
  have h := number_any neg A (canon n) c d m w hm hc hcap (canon_ok n) hl hd
  rw [wval_canon] at h
  exact h
theorem res_Neg {tmps : Array Value} {w : World} {b : Nat} {v0 v1 v2 : Value} (h2 : tmps.getD 2 undef = .pointer (some ⟨b, 0, none⟩)) (hB : RowD w b [v0, v1, v2] 37) :
    (results Tryd.f62 tmps).run Tryd.prog w = .ok (.agg #[v0, v1, v2]) w := by
  have k0 := hB.cell 0
  have k1 := hB.cell 1
  have k2 := hB.cell 2
  simp at k0 k1 k2
  simp at h2
  simp [results, Tryd.results62, go_sem, h2, k0, k1, k2]
set_option maxRecDepth 100000 in
set_option maxHeartbeats 4000000 in
theorem neg_w {v : Value} {x : Int} {d lo m : Nat} {w : World} (D : DyR w lo m v x d) (hm : m ≤ w.heap.size) (hl : (canon x.natAbs).length ≤ 100000) :
    Calls Tryd.prog 62 #[v] w fun e w' => ∃ v', e = .returned v' ∧ DyR w' w.heap.size w'.heap.size v' (-x) d ∧ Below w.heap.size w w' := by
  obtain ⟨nb, A, L, c, rfl, HD⟩ := D.form
  have D' := Lib.hid D
  clear D
  have b0 : Below w.heap.size w ((w.alloc (.cells #[.bool nb, .slice A L c, .int .i64 (d : Int)] 37)).alloc (.cells #[.bool false, .slice none 0 0, .int .i64 0] 37)) := ext_alloc (ext_alloc (Below.refl _ _) _) _
  have r0 := (RowD.new_ (w.alloc (.cells #[.bool nb, .slice A L c, .int .i64 (d : Int)] 37)) [.bool false, .slice none 0 0, .int .i64 0] 37)
  rw [show (w.alloc (.cells #[.bool nb, .slice A L c, .int .i64 (d : Int)] 37)).heap.size = w.heap.size + 1 by simp] at r0
  go_enter Tryd.func62, Tryd.ntmps62
  go_wp2_with fail
  go_at_call 84
  refine (norm_w (D'.out.below b0 hm) (by simp; omega) hl).mono ?_
  rintro e w1 ⟨rfl, hb⟩
  obtain ⟨qc, qf, qs, qz⟩ := ext_at (m := w.heap.size + 2) hb (by simp) (by simp)
  have r1 := r0.below hb (by simp)
  have b1 := b0.trans (hb.mono (by simp; omega))
  clear hb r0 b0
  go_wp2_with fail
  go_at_call 85
  obtain ⟨W, hW⟩ : ∃ W, W = ((w1.setCell ⟨w.heap.size, 0, none⟩ (.bool nb)).setCell ⟨w.heap.size, 1, none⟩ (.slice A L c)).setCell ⟨w.heap.size, 2, none⟩ (.int .i64 (d : Int)) := ⟨_, rfl⟩
  have hWs : w.heap.size + 2 ≤ W.heap.size := by rw [hW]; simp; omega
  have b2 : Below w.heap.size w W := by rw [hW]; exact ((b1.setCell (by simp) _).setCell (by simp) _).setCell (by simp) _
  have r2 : RowD W (w.heap.size + 1) [.bool false, .slice none 0 0, .int .i64 0] 37 := by
    rw [hW]
    exact ((r1.other_ (by omega) _ _).other_ (by omega) _ _).other_ (by omega) _ _
  rw [← hW]
  clear hW qc qf qs qz r1 b1
  refine (number_w (n := x.natAbs) (m := m) HD.out.2.1 (HD.out.2.2.2.2.1.below b2 hm) HD.out.2.2.2.1 (by omega) hl HD.out.2.2.2.2.2.1).mono ?_
  rintro e w3 ⟨v', rfl, D3, hb3⟩
  obtain ⟨tc, tf, ts, tz⟩ := ext_at (m := w.heap.size + 2) hb3 hWs hWs
  have r3 := r2.below hb3 (by omega)
  have b3 := b2.trans (hb3.mono (by omega))
  have hval : nf (sg (!nb) x.natAbs) d = (-x, d) := by
    have e : sg (!nb) x.natAbs = -x := by
      rw [HD.out.1]
      unfold sg
      by_cases h : x < 0
      · simp [h]; omega
      · simp [h]; omega
    rw [e]
    exact nf_id (fun h => by have := HD.out.2.2.2.2.2.2 h; omega)
  rw [hval] at D3
  obtain ⟨nb3, A3, L3, c3, rfl, _⟩ := D3.form
  have D3' := Lib.hid D3
  have k0 : w3.cell? ⟨w.heap.size + 1, 0, none⟩ = some (.bool false) := r3.cell 0
  have k1 : w3.cell? ⟨w.heap.size + 1, 1, none⟩ = some (.slice none 0 0) := r3.cell 1
  have k2 : w3.cell? ⟨w.heap.size + 1, 2, none⟩ = some (.int .i64 0) := r3.cell 2
  have kf := r3.free
  clear D3 hb3 r2 b2 hval tc tf
  go_wp2_with fail
  refine bodyPost_ret (res_Neg rfl (((r3.set_ 0 _).set_ 1 _).set_ 2 _)) rfl ⟨_, rfl, ?_, ((b3.setCell (by simp) _).setCell (by simp) _).setCell (by simp) _⟩
  exact ((((D3'.out.set_ (by omega) 0 _).set_ (by omega) 1 _).set_ (by omega) 2 _).low (by omega)).more (by simp)
theorem res_Abs {tmps : Array Value} {w : World} {b : Nat} {v0 v1 v2 : Value} (h2 : tmps.getD 2 undef = .pointer (some ⟨b, 0, none⟩)) (hB : RowD w b [v0, v1, v2] 37) :
    (results Tryd.f60 tmps).run Tryd.prog w = .ok (.agg #[v0, v1, v2]) w := by
  have k0 := hB.cell 0
  have k1 := hB.cell 1
  have k2 := hB.cell 2
  simp at k0 k1 k2
  simp at h2
  simp [results, Tryd.results60, go_sem, h2, k0, k1, k2]
set_option maxRecDepth 100000 in
set_option maxHeartbeats 4000000 in
theorem abs_w {v : Value} {x : Int} {d lo m : Nat} {w : World} (D : DyR w lo m v x d) (hm : m ≤ w.heap.size) (hl : (canon x.natAbs).length ≤ 100000) :
    Calls Tryd.prog 60 #[v] w fun e w' => ∃ v', e = .returned v' ∧ DyR w' w.heap.size w'.heap.size v' (((x.natAbs : Nat) : Int)) d ∧ Below w.heap.size w w' := by
  obtain ⟨nb, A, L, c, rfl, HD⟩ := D.form
  have D' := Lib.hid D
  clear D
  have b0 : Below w.heap.size w ((w.alloc (.cells #[.bool nb, .slice A L c, .int .i64 (d : Int)] 37)).alloc (.cells #[.bool false, .slice none 0 0, .int .i64 0] 37)) := ext_alloc (ext_alloc (Below.refl _ _) _) _
  have r0 := (RowD.new_ (w.alloc (.cells #[.bool nb, .slice A L c, .int .i64 (d : Int)] 37)) [.bool false, .slice none 0 0, .int .i64 0] 37)
  rw [show (w.alloc (.cells #[.bool nb, .slice A L c, .int .i64 (d : Int)] 37)).heap.size = w.heap.size + 1 by simp] at r0
  go_enter Tryd.func60, Tryd.ntmps60
  go_wp2_with fail
  go_at_call 84
  refine (norm_w (D'.out.below b0 hm) (by simp; omega) hl).mono ?_
  rintro e w1 ⟨rfl, hb⟩
  obtain ⟨qc, qf, qs, qz⟩ := ext_at (m := w.heap.size + 2) hb (by simp) (by simp)
  have r1 := r0.below hb (by simp)
  have b1 := b0.trans (hb.mono (by simp; omega))
  clear hb r0 b0
  go_wp2_with fail
  go_at_call 85
  obtain ⟨W, hW⟩ : ∃ W, W = ((w1.setCell ⟨w.heap.size, 0, none⟩ (.bool nb)).setCell ⟨w.heap.size, 1, none⟩ (.slice A L c)).setCell ⟨w.heap.size, 2, none⟩ (.int .i64 (d : Int)) := ⟨_, rfl⟩
  have hWs : w.heap.size + 2 ≤ W.heap.size := by rw [hW]; simp; omega
  have b2 : Below w.heap.size w W := by rw [hW]; exact ((b1.setCell (by simp) _).setCell (by simp) _).setCell (by simp) _
  have r2 : RowD W (w.heap.size + 1) [.bool false, .slice none 0 0, .int .i64 0] 37 := by
    rw [hW]
    exact ((r1.other_ (by omega) _ _).other_ (by omega) _ _).other_ (by omega) _ _
  rw [← hW]
  clear hW qc qf qs qz r1 b1
  refine (number_w (n := x.natAbs) (m := m) HD.out.2.1 (HD.out.2.2.2.2.1.below b2 hm) HD.out.2.2.2.1 (by omega) hl HD.out.2.2.2.2.2.1).mono ?_
  rintro e w3 ⟨v', rfl, D3, hb3⟩
  obtain ⟨tc, tf, ts, tz⟩ := ext_at (m := w.heap.size + 2) hb3 hWs hWs
  have r3 := r2.below hb3 (by omega)
  have b3 := b2.trans (hb3.mono (by omega))
  have hval : nf (sg false x.natAbs) d = (((x.natAbs : Nat) : Int), d) := by
    exact nf_id (fun h => by have := HD.out.2.2.2.2.2.2 h; unfold sg; simp; omega)
  rw [hval] at D3
  obtain ⟨nb3, A3, L3, c3, rfl, _⟩ := D3.form
  have D3' := Lib.hid D3
  have k0 : w3.cell? ⟨w.heap.size + 1, 0, none⟩ = some (.bool false) := r3.cell 0
  have k1 : w3.cell? ⟨w.heap.size + 1, 1, none⟩ = some (.slice none 0 0) := r3.cell 1
  have k2 : w3.cell? ⟨w.heap.size + 1, 2, none⟩ = some (.int .i64 0) := r3.cell 2
  have kf := r3.free
  clear D3 hb3 r2 b2 hval tc tf
  go_wp2_with fail
  refine bodyPost_ret (res_Abs rfl (((r3.set_ 0 _).set_ 1 _).set_ 2 _)) rfl ⟨_, rfl, ?_, ((b3.setCell (by simp) _).setCell (by simp) _).setCell (by simp) _⟩
  exact ((((D3'.out.set_ (by omega) 0 _).set_ (by omega) 1 _).set_ (by omega) 2 _).low (by omega)).more (by simp)
theorem res_Of {tmps : Array Value} {w : World} {b : Nat} {v0 v1 v2 : Value} (h2 : tmps.getD 2 undef = .pointer (some ⟨b, 0, none⟩)) (hB : RowD w b [v0, v1, v2] 37) :
    (results Tryd.f46 tmps).run Tryd.prog w = .ok (.agg #[v0, v1, v2]) w := by
  have k0 := hB.cell 0
  have k1 := hB.cell 1
  have k2 := hB.cell 2
  simp at k0 k1 k2
  simp at h2
  simp [results, Tryd.results46, go_sem, h2, k0, k1, k2]
set_option maxRecDepth 100000 in
set_option maxHeartbeats 4000000 in
theorem of_any (n : Int) (h1 : -9223372036854775808 ≤ n) (h2 : n < 9223372036854775808) (w : World) :
    Calls Tryd.prog 46 #[.int .i64 n] w fun e w' => ∃ v', e = .returned v' ∧ DyR w' w.heap.size w'.heap.size v' n 0 ∧ Below w.heap.size w w' := by
  by_cases h : n < 0
  · as_aux_lemma =>
    obtain ⟨p, hp⟩ : ∃ p : Nat, -(n + 1) = (p : Int) := ⟨(-(n + 1)).toNat, by omega⟩
    obtain ⟨a, ha⟩ : ∃ a : Nat, (p : Int) + 1 = (a : Int) := ⟨p + 1, by omega⟩
    have hsg : sg true a = n := by unfold sg; simp; omega
    have hpb : p < 9223372036854775808 := by omega
    obtain ⟨lo, hlo⟩ : ∃ lo : Nat, (a : Int) % 4294967296 = (lo : Int) := ⟨(a % 4294967296 : Nat), by omega⟩
    obtain ⟨hi, hhi⟩ : ∃ hi : Nat, (a : Int) / 4294967296 = (hi : Int) := ⟨(a / 4294967296 : Nat), by omega⟩
    have hib : hi < 4294967296 := by omega
    have lob : lo < 4294967296 := by omega
    have hval : wval [lo, hi] = a := by rw [of_words]; omega
    have HSG := Lib.hid hsg
    have HV := Lib.hid hval
    clear hsg hval
    have b0 : Below w.heap.size w ((w.alloc (.cells #[.bool false, .slice none 0 0, .int .i64 0] 37)).alloc (.cells #[.int .u32 (lo : Int), .int .u32 (hi : Int)] 130)) := ext_alloc (ext_alloc (Below.refl _ _) _) _
    have r0 := (RowD.new_ w [.bool false, .slice none 0 0, .int .i64 0] 37).below ((Below.refl (w.heap.size + 1) _).alloc (by simp) (.cells #[.int .u32 (lo : Int), .int .u32 (hi : Int)] 130)) (by omega)
    have c0 : CellsAt ((w.alloc (.cells #[.bool false, .slice none 0 0, .int .i64 0] 37)).alloc (.cells #[.int .u32 (lo : Int), .int .u32 (hi : Int)] 130)) (w.heap.size + 2) (some ⟨w.heap.size + 1, 0, none⟩) (w32 [lo, hi]) := by
      have h := RowD.new_ (w.alloc (.cells #[.bool false, .slice none 0 0, .int .i64 0] 37)) (w32 [lo, hi]) 130
      rw [show (w.alloc (.cells #[.bool false, .slice none 0 0, .int .i64 0] 37)).heap.size = w.heap.size + 1 by simp] at h
      exact h.cells_ (by omega)
    go_enter Tryd.func46, Tryd.ntmps46
    go_wp2_with fail
    go_at_call 85
    refine (number_any true (some ⟨w.heap.size + 1, 0, none⟩) [lo, hi] 2 0 (w.heap.size + 2) _ (by simp) c0 (by simp) (of_ok lob hib) (by simp) (by omega)).mono ?_
    rintro e w3 ⟨v', rfl, D3, hb3⟩
    obtain ⟨tc, tf, ts, tz⟩ := ext_at (m := w.heap.size + 2) hb3 (by simp) (by simp)
    have r3 := r0.below hb3 (by simp; omega)
    have b3 := b0.trans (hb3.mono (by simp; omega))
    rw [HV.out, HSG.out] at D3
    have D3 : DyR w3 (w.heap.size + 2) w3.heap.size v' n 0 := D3.low (by simp)
    obtain ⟨nb3, A3, L3, c3, rfl, _⟩ := D3.form
    have D3' := Lib.hid D3
    have k0 : w3.cell? ⟨w.heap.size, 0, none⟩ = some (.bool false) := r3.cell 0
    have k1 : w3.cell? ⟨w.heap.size, 1, none⟩ = some (.slice none 0 0) := r3.cell 1
    have k2 : w3.cell? ⟨w.heap.size, 2, none⟩ = some (.int .i64 0) := r3.cell 2
    have kf := r3.free
    clear D3 hb3 r0 b0 c0 tc tf
    go_wp2_with fail
    refine bodyPost_ret (res_Of rfl (((r3.set_ 0 _).set_ 1 _).set_ 2 _)) rfl ⟨_, rfl, ?_, ((b3.setCell (by simp) _).setCell (by simp) _).setCell (by simp) _⟩
    exact ((((D3'.out.set_ (by omega) 0 _).set_ (by omega) 1 _).set_ (by omega) 2 _).low (by omega)).more (by simp)
  · as_aux_lemma =>
    obtain ⟨a, rfl⟩ : ∃ a : Nat, n = (a : Int) := ⟨n.toNat, by omega⟩
    have hsg : sg false a = (a : Int) := by unfold sg; simp
    obtain ⟨lo, hlo⟩ : ∃ lo : Nat, (a : Int) % 4294967296 = (lo : Int) := ⟨(a % 4294967296 : Nat), by omega⟩
    obtain ⟨hi, hhi⟩ : ∃ hi : Nat, (a : Int) / 4294967296 = (hi : Int) := ⟨(a / 4294967296 : Nat), by omega⟩
    have hib : hi < 4294967296 := by omega
    have lob : lo < 4294967296 := by omega
    have hval : wval [lo, hi] = a := by rw [of_words]; omega
    have HSG := Lib.hid hsg
    have HV := Lib.hid hval
    clear hsg hval
    have b0 : Below w.heap.size w ((w.alloc (.cells #[.bool false, .slice none 0 0, .int .i64 0] 37)).alloc (.cells #[.int .u32 (lo : Int), .int .u32 (hi : Int)] 130)) := ext_alloc (ext_alloc (Below.refl _ _) _) _
    have r0 := (RowD.new_ w [.bool false, .slice none 0 0, .int .i64 0] 37).below ((Below.refl (w.heap.size + 1) _).alloc (by simp) (.cells #[.int .u32 (lo : Int), .int .u32 (hi : Int)] 130)) (by omega)
    have c0 : CellsAt ((w.alloc (.cells #[.bool false, .slice none 0 0, .int .i64 0] 37)).alloc (.cells #[.int .u32 (lo : Int), .int .u32 (hi : Int)] 130)) (w.heap.size + 2) (some ⟨w.heap.size + 1, 0, none⟩) (w32 [lo, hi]) := by
      have h := RowD.new_ (w.alloc (.cells #[.bool false, .slice none 0 0, .int .i64 0] 37)) (w32 [lo, hi]) 130
      rw [show (w.alloc (.cells #[.bool false, .slice none 0 0, .int .i64 0] 37)).heap.size = w.heap.size + 1 by simp] at h
      exact h.cells_ (by omega)
    go_enter Tryd.func46, Tryd.ntmps46
    go_wp2_with fail
    go_at_call 85
    refine (number_any false (some ⟨w.heap.size + 1, 0, none⟩) [lo, hi] 2 0 (w.heap.size + 2) _ (by simp) c0 (by simp) (of_ok lob hib) (by simp) (by omega)).mono ?_
    rintro e w3 ⟨v', rfl, D3, hb3⟩
    obtain ⟨tc, tf, ts, tz⟩ := ext_at (m := w.heap.size + 2) hb3 (by simp) (by simp)
    have r3 := r0.below hb3 (by simp; omega)
    have b3 := b0.trans (hb3.mono (by simp; omega))
    rw [HV.out, HSG.out] at D3
    have D3 : DyR w3 (w.heap.size + 2) w3.heap.size v' (a : Int) 0 := D3.low (by simp)
    obtain ⟨nb3, A3, L3, c3, rfl, _⟩ := D3.form
    have D3' := Lib.hid D3
    have k0 : w3.cell? ⟨w.heap.size, 0, none⟩ = some (.bool false) := r3.cell 0
    have k1 : w3.cell? ⟨w.heap.size, 1, none⟩ = some (.slice none 0 0) := r3.cell 1
    have k2 : w3.cell? ⟨w.heap.size, 2, none⟩ = some (.int .i64 0) := r3.cell 2
    have kf := r3.free
    clear D3 hb3 r0 b0 c0 tc tf
    go_wp2_with fail
    refine bodyPost_ret (res_Of rfl (((r3.set_ 0 _).set_ 1 _).set_ 2 _)) rfl ⟨_, rfl, ?_, ((b3.setCell (by simp) _).setCell (by simp) _).setCell (by simp) _⟩
    exact ((((D3'.out.set_ (by omega) 0 _).set_ (by omega) 1 _).set_ (by omega) 2 _).low (by omega)).more (by simp)
theorem left_w {v : Value} {n k m : Nat} {w : World} (h : WdR w m v n) (hm : m ≤ w.heap.size) (hl : (canon n).length ≤ 100000) (hk : k ≤ 1000000) :
    Calls Tryd.prog 88 #[v, .int .i64 (k : Int)] w fun e w' => ∃ v', e = .returned v' ∧ WdR w' w'.heap.size v' (n * 2 ^ k) ∧ Below w.heap.size w w' := by
  obtain ⟨A, c, rfl, h1, h2, h3⟩ := h
  refine (left_any A (canon n) c k m w hm h3 (canon_ok n) hl hk).mono ?_
  rintro e w' ⟨G, g, rfl, g1, g2, g3, hb⟩
  rw [wval_canon] at g2 g3 ⊢
  exact ⟨_, rfl, ⟨G, g, rfl, g1, g2, g3⟩, hb⟩
theorem plus_w {v v2 : Value} {a b m m2 : Nat} {w : World} (h : WdR w m v a) (h2 : WdR w m2 v2 b) (hm : m ≤ w.heap.size) (hm2 : m2 ≤ w.heap.size) (hl : (canon a).length ≤ 100000) (hl2 : (canon b).length ≤ 100000) :
    Calls Tryd.prog 87 #[v, v2] w fun e w' => ∃ v', e = .returned v' ∧ WdR w' w'.heap.size v' (a + b) ∧ Below w.heap.size w w' := by
  obtain ⟨A, c, rfl, h1, h1', h3⟩ := h
  obtain ⟨A2, c2, rfl, k1, k1', k3⟩ := h2
  refine (plus_any A A2 (canon a) (canon b) c c2 w.heap.size w (Nat.le_refl _) (h3.more hm) (k3.more hm2) (canon_ok a) (canon_ok b) hl hl2).mono ?_
  rintro e w' ⟨G, g, rfl, g1, g2, g3, hb⟩
  rw [wval_canon, wval_canon] at g2 g3 ⊢
  exact ⟨_, rfl, ⟨G, g, rfl, g1, g2, g3⟩, hb⟩
theorem minus_w {v v2 : Value} {a b m m2 : Nat} {w : World} (h : WdR w m v a) (h2 : WdR w m2 v2 b) (hm : m ≤ w.heap.size) (hm2 : m2 ≤ w.heap.size) (hl : (canon a).length ≤ 100000) (hle : b ≤ a) :
    Calls Tryd.prog 98 #[v, v2] w fun e w' => ∃ v', e = .returned v' ∧ WdR w' w'.heap.size v' (a - b) ∧ Below w.heap.size w w' := by
  obtain ⟨A, c, rfl, h1, h1', h3⟩ := h
  obtain ⟨A2, c2, rfl, k1, k1', k3⟩ := h2
  refine (minus_any A A2 (canon a) (canon b) c c2 w.heap.size w (Nat.le_refl _) (h3.more hm) (k3.more hm2) (canon_ok a) (canon_ok b) hl (canon_len_mono hle) (by rw [wval_canon, wval_canon]; exact hle)).mono ?_
  rintro e w' ⟨G, g, rfl, g1, g2, g3, hb⟩
  rw [wval_canon, wval_canon] at g2 g3 ⊢
  exact ⟨_, rfl, ⟨G, g, rfl, g1, g2, g3⟩, hb⟩
theorem less_w {v v2 : Value} {a b m m2 : Nat} {w : World} (h : WdR w m v a) (h2 : WdR w m2 v2 b) (hl : (canon a).length ≤ 100000) (hl2 : (canon b).length ≤ 100000) :
    Calls Tryd.prog 97 #[v, v2] w fun e w' => e = .returned (.bool (decide (a < b))) ∧ Below w.heap.size w w' := by
  obtain ⟨A, c, rfl, h1, h1', h3⟩ := h
  obtain ⟨A2, c2, rfl, k1, k1', k3⟩ := h2
  have := less_any A A2 (canon a) (canon b) c c2 (max m m2) w (h3.more (by omega)) (k3.more (by omega)) (canon_ok a) (canon_ok b) hl hl2
  rw [lessB_canon] at this
  exact this
theorem number_v {neg : Bool} {v : Value} {n d m : Nat} {w : World} (h : WdR w m v n) (hm : m ≤ w.heap.size) (hl : (canon n).length ≤ 100000) (hd : d ≤ 65536) :
    Calls Tryd.prog 85 #[.bool neg, v, .int .i64 (d : Int)] w fun e w' =>
      ∃ v', e = .returned v' ∧ DyR w' w.heap.size w'.heap.size v' (nf (sg neg n) d).1 (nf (sg neg n) d).2 ∧ Below w.heap.size w w' := by
  obtain ⟨A, c, rfl, h1, h1', h3⟩ := h
  exact number_w rfl h3 h1' hm hl hd
theorem res_Add {tmps : Array Value} {w : World} {b : Nat} {v0 v1 v2 : Value} (h2 : tmps.getD 4 undef = .pointer (some ⟨b, 0, none⟩)) (hB : RowD w b [v0, v1, v2] 37) :
    (results Tryd.f61 tmps).run Tryd.prog w = .ok (.agg #[v0, v1, v2]) w := by
  have k0 := hB.cell 0
  have k1 := hB.cell 1
  have k2 := hB.cell 2
  simp at k0 k1 k2
  simp at h2
  simp [results, Tryd.results61, go_sem, h2, k0, k1, k2]
set_option maxRecDepth 100000 in
set_option maxHeartbeats 4000000 in
theorem add_any {v v2 : Value} {x y : Int} {dx dy lo1 lo2 m m2 : Nat} {w : World} (D1 : DyR w lo1 m v x dx) (D2 : DyR w lo2 m2 v2 y dy) (hm : m ≤ w.heap.size) (hm2 : m2 ≤ w.heap.size) (l1 : (canon x.natAbs).length ≤ 50000) (l2 : (canon y.natAbs).length ≤ 50000) :
    Calls Tryd.prog 61 #[v, v2] w fun e w' => ∃ v', e = .returned v' ∧ DyR w' w.heap.size w'.heap.size v' (dySum x dx y dy).1 (dySum x dx y dy).2 ∧ Below w.heap.size w w' := by
  replace D2 := D2.more (Nat.le_max_right m m2)
  replace D1 := D1.more (Nat.le_max_left m m2)
  replace hm : max m m2 ≤ w.heap.size := by omega
  generalize max m m2 = m at D1 D2 hm
  obtain ⟨nb1, A1, L1, c1, rfl, HD1⟩ := D1.form
  obtain ⟨nb2, A2, L2, c2, rfl, HD2⟩ := D2.form
  have b0 : Below w.heap.size w (((w.alloc (.cells #[.bool nb1, .slice A1 L1 c1, .int .i64 (dx : Int)] 37)).alloc (.cells #[.bool nb2, .slice A2 L2 c2, .int .i64 (dy : Int)] 37)).alloc (.cells #[.bool false, .slice none 0 0, .int .i64 0] 37)) := ext_alloc (ext_alloc (ext_alloc (Below.refl _ _) _) _) _
  have D1' := D1.below b0 hm
  have D2' := D2.below b0 hm
  clear D1 D2
  have r2 := RowD.new_ ((w.alloc (.cells #[.bool nb1, .slice A1 L1 c1, .int .i64 (dx : Int)] 37)).alloc (.cells #[.bool nb2, .slice A2 L2 c2, .int .i64 (dy : Int)] 37)) [.bool false, .slice none 0 0, .int .i64 0] 37
  have r1 := (RowD.new_ (w.alloc (.cells #[.bool nb1, .slice A1 L1 c1, .int .i64 (dx : Int)] 37)) [.bool nb2, .slice A2 L2 c2, .int .i64 (dy : Int)] 37).call ((Below.refl _ _).alloc (Nat.le_refl _) (.cells #[.bool false, .slice none 0 0, .int .i64 0] 37))
  have r0 := ((RowD.new_ w [.bool nb1, .slice A1 L1 c1, .int .i64 (dx : Int)] 37).call ((Below.refl _ _).alloc (Nat.le_refl _) (.cells #[.bool nb2, .slice A2 L2 c2, .int .i64 (dy : Int)] 37))).call ((Below.refl _ _).alloc (Nat.le_refl _) (.cells #[.bool false, .slice none 0 0, .int .i64 0] 37))
  rw [show ((w.alloc (.cells #[.bool nb1, .slice A1 L1 c1, .int .i64 (dx : Int)] 37)).alloc (.cells #[.bool nb2, .slice A2 L2 c2, .int .i64 (dy : Int)] 37)).heap.size = w.heap.size + 2 by simp] at r2
  rw [show (w.alloc (.cells #[.bool nb1, .slice A1 L1 c1, .int .i64 (dx : Int)] 37)).heap.size = w.heap.size + 1 by simp] at r1
  go_enter Tryd.func61, Tryd.ntmps61
  go_wp2_with fail
  obtain ⟨W, hW⟩ : ∃ W, W = (((w.alloc (.cells #[.bool nb1, .slice A1 L1 c1, .int .i64 (dx : Int)] 37)).alloc (.cells #[.bool nb2, .slice A2 L2 c2, .int .i64 (dy : Int)] 37)).alloc (.cells #[.bool false, .slice none 0 0, .int .i64 0] 37)) := ⟨_, rfl⟩
  have hWs : W.heap.size = w.heap.size + 3 := by rw [hW]; simp
  rw [← hW]
  rw [← hW] at b0 D1' D2' r0 r1 r2
  clear hW
  have a0 : W.cell? ⟨w.heap.size, 0, none⟩ = some (.bool nb1) := r0.cell 0
  have a1 : W.cell? ⟨w.heap.size, 1, none⟩ = some (.slice A1 L1 c1) := r0.cell 1
  have a2 : W.cell? ⟨w.heap.size, 2, none⟩ = some (.int .i64 (dx : Int)) := r0.cell 2
  have e0 : W.cell? ⟨w.heap.size + 1, 0, none⟩ = some (.bool nb2) := r1.cell 0
  have e1 : W.cell? ⟨w.heap.size + 1, 1, none⟩ = some (.slice A2 L2 c2) := r1.cell 1
  have e2 : W.cell? ⟨w.heap.size + 1, 2, none⟩ = some (.int .i64 (dy : Int)) := r1.cell 2
  have hle : m ≤ w.heap.size + 3 := by omega
  have hle2 : m ≤ w.heap.size + 2 := by omega
  have hz : w.heap.size + 3 ≤ W.heap.size := by omega
  refine wp_region_qtail 4 (w.heap.size + 3) hz (by kernel_rfl) (by kernel_rfl) ?_
  intro _
  simp only [List.take_succ_cons, List.take_zero, List.drop_succ_cons, List.drop_zero]
  repeat (go_big_quiet_step ((first
    | (go_at_call 84; exact qext_call (norm_w (D1'.below (ExtW.is _) hle) (Nat.le_trans hle (ExtW.fits _)) (Nat.le_trans l1 (by omega))))
    | (go_at_call 84; exact qext_call (norm_w (D2'.below (ExtW.is _) hle) (Nat.le_trans hle (ExtW.fits _)) (Nat.le_trans l2 (by omega)))))))
  refine wpQuiet_nil ?_
  intro w2 hw'
  obtain ⟨⟨_, hb2, hz2⟩, rfl⟩ := hw'
  have s0 := r0.below hb2 (by omega)
  have s1 := r1.below hb2 (by omega)
  have s2 := r2.below hb2 (by omega)
  have b2 := b0.trans (hb2.mono (by omega))
  replace D1' := D1'.below hb2 hle
  replace D2' := D2'.below hb2 hle
  clear r0 r1 r2 b0 a0 a1 a2 e0 e1 e2 hWs hz hb2
  have a0 : w2.cell? ⟨w.heap.size, 0, none⟩ = some (.bool nb1) := s0.cell 0
  have a1 : w2.cell? ⟨w.heap.size, 1, none⟩ = some (.slice A1 L1 c1) := s0.cell 1
  have a2 : w2.cell? ⟨w.heap.size, 2, none⟩ = some (.int .i64 (dx : Int)) := s0.cell 2
  have e0 : w2.cell? ⟨w.heap.size + 1, 0, none⟩ = some (.bool nb2) := s1.cell 0
  have e1 : w2.cell? ⟨w.heap.size + 1, 1, none⟩ = some (.slice A2 L2 c2) := s1.cell 1
  have e2 : w2.cell? ⟨w.heap.size + 1, 2, none⟩ = some (.int .i64 (dy : Int)) := s1.cell 2
  have f0 := s0.free
  have f1 := s1.free
  have hd1 := HD1.out.2.2.2.2.2.1
  have hd2 := HD2.out.2.2.2.2.2.1
  obtain ⟨D, hD⟩ : ∃ D : Nat, D = max dx dy := ⟨_, rfl⟩
  have hDD : max (dx : Int) (dy : Int) = (D : Int) := by omega
  have hD6 : D ≤ 65536 := by omega
  obtain ⟨p, hp⟩ : ∃ p : Nat, p = D - dx := ⟨_, rfl⟩
  obtain ⟨q, hq⟩ : ∃ q : Nat, q = D - dy := ⟨_, rfl⟩
  have hpp : IntKind.i64.wrap ((D : Int) - (dx : Int)) = (p : Int) := by rw [IntKind.wrap_i64]; omega
  have hqq : IntKind.i64.wrap ((D : Int) - (dy : Int)) = (q : Int) := by rw [IntKind.wrap_i64]; omega
  have hp6 : p ≤ 65536 := by omega
  have hq6 : q ≤ 65536 := by omega
  have HV := Lib.hid (show dySum x dx y dy = nf (x * 2 ^ p + y * 2 ^ q) D by unfold dySum; rw [← hD, ← hp, ← hq])
  have hp6' : p ≤ 1000000 := by omega
  have hq6' : q ≤ 1000000 := by omega
  clear hD hp hq
  go_wp2_with fail
  obtain ⟨W, hW⟩ : ∃ W, W = (((((w2.setCell ⟨w.heap.size, 0, none⟩ (.bool nb1)).setCell ⟨w.heap.size, 1, none⟩ (.slice A1 L1 c1)).setCell ⟨w.heap.size, 2, none⟩ (.int .i64 (dx : Int))).setCell ⟨w.heap.size + 1, 0, none⟩ (.bool nb2)).setCell ⟨w.heap.size + 1, 1, none⟩ (.slice A2 L2 c2)).setCell ⟨w.heap.size + 1, 2, none⟩ (.int .i64 (dy : Int)) := ⟨_, rfl⟩
  rw [← hW]
  have t0 : RowD W w.heap.size [.bool nb1, .slice A1 L1 c1, .int .i64 (dx : Int)] 37 := by
    rw [hW]
    exact ((((((s0.set_ 0 _).set_ 1 _).set_ 2 _).other_ (by omega) _ _).other_ (by omega) _ _).other_ (by omega) _ _)
  have t1 : RowD W (w.heap.size + 1) [.bool nb2, .slice A2 L2 c2, .int .i64 (dy : Int)] 37 := by
    rw [hW]
    exact ((((((s1.other_ (by omega) _ _).other_ (by omega) _ _).other_ (by omega) _ _).set_ 0 _).set_ 1 _).set_ 2 _)
  have t2 : RowD W (w.heap.size + 2) [.bool false, .slice none 0 0, .int .i64 0] 37 := by
    rw [hW]
    exact ((((((s2.other_ (by omega) _ _).other_ (by omega) _ _).other_ (by omega) _ _).other_ (by omega) _ _).other_ (by omega) _ _).other_ (by omega) _ _)
  have b0 : Below w.heap.size w W := by
    rw [hW]
    exact (((((b2.setCell (by simp) _).setCell (by simp) _).setCell (by simp) _).setCell (by simp) _).setCell (by simp) _).setCell (by simp) _
  have hWs : w.heap.size + 3 ≤ W.heap.size := by rw [hW]; simpa using hz2
  have bW : Below w.heap.size w2 W := by
    rw [hW]
    exact ((((((Below.refl _ w2).setCell (by simp) _).setCell (by simp) _).setCell (by simp) _).setCell (by simp) _).setCell (by simp) _).setCell (by simp) _
  have X1 : WdR W m (.slice A1 L1 c1) x.natAbs := D1'.words.below bW hm
  have X2 : WdR W m (.slice A2 L2 c2) y.natAbs := D2'.words.below bW hm
  clear hW bW s0 s1 s2 b2 a0 a1 a2 e0 e1 e2 f0 f1 D1' D2'
  have a0 : W.cell? ⟨w.heap.size, 0, none⟩ = some (.bool nb1) := t0.cell 0
  have a1 : W.cell? ⟨w.heap.size, 1, none⟩ = some (.slice A1 L1 c1) := t0.cell 1
  have a2 : W.cell? ⟨w.heap.size, 2, none⟩ = some (.int .i64 (dx : Int)) := t0.cell 2
  have e0 : W.cell? ⟨w.heap.size + 1, 0, none⟩ = some (.bool nb2) := t1.cell 0
  have e1 : W.cell? ⟨w.heap.size + 1, 1, none⟩ = some (.slice A2 L2 c2) := t1.cell 1
  have e2 : W.cell? ⟨w.heap.size + 1, 2, none⟩ = some (.int .i64 (dy : Int)) := t1.cell 2
  have hk : SK W (w.heap.size + 2) (w.heap.size + 2) W := SK.refl (by omega) ⟨_, _, _, t2⟩
  go_cut [6, 7] (fun s6 s7 wx => ∃ A6 L6 c6 A7 L7 c7, s6 = .slice A6 L6 c6 ∧ s7 = .slice A7 L7 c7 ∧ WdR wx wx.heap.size (.slice A6 L6 c6) (x.natAbs * 2 ^ p) ∧ WdR wx wx.heap.size (.slice A7 L7 c7) (y.natAbs * 2 ^ q) ∧ SK W (w.heap.size + 2) (w.heap.size + 2) wx)
  case first =>
    go_region_held3 (fun w' => (∀ b o, b < w.heap.size + 2 → w'.cell? ⟨b, o, none⟩ = W.cell? ⟨b, o, none⟩) ∧ SK W (w.heap.size + 2) (w.heap.size + 2) w')
      (first
      | (refine SK.all ?_
         first
           | assumption
           | exact hk
           | exact hk.drew
           | exact ((SK.set (by assumption) (by omega) _ _).set (by omega) _ _).set (by omega) _ _))
      (first
        | (go_at_call_of 88 (Value.slice A1 L1 c1); refine (left_w (X1.below (SK.is (m := w.heap.size + 2) (r := w.heap.size + 2) (by first | exact hk | exact hk.drew | assumption)) hle2) ?_ ?_ hp6').mono ?_; exact (Nat.le_trans hle2 (SK.fits (m := w.heap.size + 2) (r := w.heap.size + 2) (by first | exact hk | exact hk.drew | assumption))); exact (by omega); (rintro e w5 ⟨v5, rfl, Y1, hb5⟩; have hk5 := SK.call (W := W) (m := w.heap.size + 2) (r := w.heap.size + 2) (by first | exact hk | exact hk.drew | assumption) hb5; obtain ⟨A5, L5, c5, rfl⟩ := Y1.form))
        | (go_at_call_of 88 (Value.slice A2 L2 c2); refine (left_w (X2.below (SK.is (m := w.heap.size + 2) (r := w.heap.size + 2) (by first | exact hk | exact hk.drew | assumption)) hle2) ?_ ?_ hq6').mono ?_; exact (Nat.le_trans hle2 (SK.fits (m := w.heap.size + 2) (r := w.heap.size + 2) (by first | exact hk | exact hk.drew | assumption))); exact (by omega); (rintro e w4 ⟨v4, rfl, Y2, hb4⟩; have hk4 := SK.call (W := W) (m := w.heap.size + 2) (r := w.heap.size + 2) (by first | exact hk | exact hk.drew | assumption) hb4; obtain ⟨A4, L4, c4, rfl⟩ := Y2.form)))
    all_goals (go_wp2_with fail; go_meet; exact ⟨A5, L5, c5, A4, L4, c4, rfl, rfl, (Y1.below hb4 (Nat.le_refl _)).more hb4.size, Y2, hk4⟩)
  case rest =>
    obtain ⟨A6, L6, c6, A7, L7, c7, rfl, rfl, Y1, Y2, hkx⟩ := hcut
    have g0 : wc.cell? ⟨w.heap.size, 0, none⟩ = some (.bool nb1) := (hkx.all.1 _ _ (by omega)).trans a0
    have g1 : wc.cell? ⟨w.heap.size + 1, 0, none⟩ = some (.bool nb2) := (hkx.all.1 _ _ (by omega)).trans e0
    obtain ⟨a, ha⟩ : ∃ a, a = x.natAbs * 2 ^ p := ⟨_, rfl⟩
    obtain ⟨b, hb⟩ : ∃ b, b = y.natAbs * 2 ^ q := ⟨_, rfl⟩
    have hx := sg_mul x p
    have hy := sg_mul y q
    rw [← HD1.out.1, ← ha] at hx
    rw [← HD2.out.1, ← hb] at hy
    have hla : (canon a).length ≤ 60000 := by
      have := canon_len_shift x.natAbs p
      rw [← ha] at this
      omega
    have hlb : (canon b).length ≤ 60000 := by
      have := canon_len_shift y.natAbs q
      rw [← hb] at this
      omega
    rw [← ha] at Y1
    rw [← hb] at Y2
    have HX := Lib.hid hx
    have HY := Lib.hid hy
    clear ha hb hx hy X1 X2 hle hle2
    by_cases hn : nb1 = nb2
    · as_aux_lemma =>
      subst hn
      have hlen : (canon (a + b)).length ≤ 100000 := by have := canon_len_add a b; omega
      have hval : nf (sg nb1 (a + b)) D = dySum x dx y dy := by rw [ad_same, HX.out, HY.out, HV.out]
      have HVAL := Lib.hid hval
      clear hval
      go_wp2_with fail
      obtain ⟨wv, hwv⟩ : ∃ wv, wv = wc := ⟨_, rfl⟩
      rw [← hwv]
      rw [← hwv] at Y1 Y2 hkx g0 g1
      have hkv := hkx
      clear hwv hkx
      go_region_held3 (fun w' => (∀ b o, b < w.heap.size + 2 → w'.cell? ⟨b, o, none⟩ = W.cell? ⟨b, o, none⟩) ∧ SK W (w.heap.size + 2) (w.heap.size + 2) w')
        (first
          | (refine SK.all ?_
             first
               | assumption
               | exact hkv
               | exact hkv.drew
               | exact ((SK.set (by assumption) (by omega) _ _).set (by omega) _ _).set (by omega) _ _))
        (first
          | (go_at_call 87; refine (plus_w (Y1.below (Below.refl _ wv).drew (Nat.le_refl _)) (Y2.below (Below.refl _ wv).drew (Nat.le_refl _)) (Nat.le_refl _) (Nat.le_refl _) (by omega) (by omega)).mono ?_; (rintro e w5 ⟨v5, rfl, D5, hb5⟩; have hk5 := SK.call (W := W) (m := w.heap.size + 2) (r := w.heap.size + 2) (by first | exact hkv.drew | assumption) hb5; have hf5 := hk5.lt; obtain ⟨A5, L5, c5, rfl⟩ := D5.form))
          | (go_at_call 85; refine (number_v D5 (Nat.le_refl _) hlen hD6).mono ?_; (rintro e w6 ⟨v6, rfl, D6, hb6⟩; have hk6 := SK.call hk5 hb6; have hf6 := hk6.lt; rw [HVAL.out] at D6; obtain ⟨nb6, A9, L9, c9, rfl, _⟩ := D6.form; obtain ⟨z0, z1, z2, rz, k0, k1, k2, kf⟩ := SK.cells hk6)))
      go_wp2_with fail
      refine bodyPost_ret (res_Add rfl (((rz.set_ 0 _).set_ 1 _).set_ 2 _)) rfl ⟨_, rfl, ?_, (((b0.trans (hk6.is.mono (by omega))).setCell (by simp; omega) _).setCell (by simp; omega) _).setCell (by simp; omega) _⟩
      exact ((((D6.set_ (by omega) 0 _).set_ (by omega) 1 _).set_ (by omega) 2 _).low (by omega)).more (by simp)
    · have hne : (nb1 == nb2) = false := by simpa using hn
      have HN := Lib.hid hn
      clear hn
      go_wp2_with fail
      go_at_call 97
      refine (less_w Y1 Y2 (by omega) (by omega)).mono ?_
      rintro e w4 ⟨rfl, hb4⟩
      have hkv := hkx.call hb4
      have g0' : w4.cell? ⟨w.heap.size, 0, none⟩ = some (.bool nb1) := (hkv.all.1 _ _ (by omega)).trans a0
      have g1' : w4.cell? ⟨w.heap.size + 1, 0, none⟩ = some (.bool nb2) := (hkv.all.1 _ _ (by omega)).trans e0
      replace Y1 := (Y1.below hb4 (Nat.le_refl _)).more hb4.size
      replace Y2 := (Y2.below hb4 (Nat.le_refl _)).more hb4.size
      clear hkx hb4 g0 g1
      obtain ⟨wv, hwv⟩ : ∃ wv, wv = w4 := ⟨_, rfl⟩
      rw [← hwv]
      rw [← hwv] at Y1 Y2 hkv g0' g1'
      clear hwv
      by_cases hlt : a < b
      · as_aux_lemma =>
        have hlen : (canon (b - a)).length ≤ 100000 := Nat.le_trans (canon_len_mono (Nat.sub_le _ _)) (by omega)
        have hval : nf (sg nb2 (b - a)) D = dySum x dx y dy := by rw [ad_less HN.out hlt, HX.out, HY.out, HV.out]
        have HVAL := Lib.hid hval
        rw [decide_eq_true hlt]
        have hle : a ≤ b := by omega
        clear hval hlt
        go_wp2_with fail
        go_region_held3 (fun w' => (∀ b o, b < w.heap.size + 2 → w'.cell? ⟨b, o, none⟩ = W.cell? ⟨b, o, none⟩) ∧ SK W (w.heap.size + 2) (w.heap.size + 2) w')
          (first
            | (refine SK.all ?_
               first
                 | assumption
                 | exact hkv
                 | exact hkv.drew
                 | exact ((SK.set (by assumption) (by omega) _ _).set (by omega) _ _).set (by omega) _ _))
          (first
            | (go_at_call 98; refine (minus_w (Y2.below (Below.refl _ wv).drew (Nat.le_refl _)) (Y1.below (Below.refl _ wv).drew (Nat.le_refl _)) (Nat.le_refl _) (Nat.le_refl _) (by omega) hle).mono ?_; (rintro e w5 ⟨v5, rfl, D5, hb5⟩; have hk5 := SK.call (W := W) (m := w.heap.size + 2) (r := w.heap.size + 2) (by first | exact hkv.drew | assumption) hb5; have hf5 := hk5.lt; obtain ⟨A5, L5, c5, rfl⟩ := D5.form))
            | (go_at_call 85; refine (number_v D5 (Nat.le_refl _) hlen hD6).mono ?_; (rintro e w6 ⟨v6, rfl, D6, hb6⟩; have hk6 := SK.call hk5 hb6; have hf6 := hk6.lt; rw [HVAL.out] at D6; obtain ⟨nb6, A9, L9, c9, rfl, _⟩ := D6.form; obtain ⟨z0, z1, z2, rz, k0, k1, k2, kf⟩ := SK.cells hk6)))
        go_wp2_with fail
        refine bodyPost_ret (res_Add rfl (((rz.set_ 0 _).set_ 1 _).set_ 2 _)) rfl ⟨_, rfl, ?_, (((b0.trans (hk6.is.mono (by omega))).setCell (by simp; omega) _).setCell (by simp; omega) _).setCell (by simp; omega) _⟩
        exact ((((D6.set_ (by omega) 0 _).set_ (by omega) 1 _).set_ (by omega) 2 _).low (by omega)).more (by simp)
      · as_aux_lemma =>
        have hlen : (canon (a - b)).length ≤ 100000 := Nat.le_trans (canon_len_mono (Nat.sub_le _ _)) (by omega)
        have hval : nf (sg nb1 (a - b)) D = dySum x dx y dy := by rw [ad_more HN.out (by omega), HX.out, HY.out, HV.out]
        have HVAL := Lib.hid hval
        rw [decide_eq_false hlt]
        have hle : b ≤ a := by omega
        clear hval hlt
        go_wp2_with fail
        go_region_held3 (fun w' => (∀ b o, b < w.heap.size + 2 → w'.cell? ⟨b, o, none⟩ = W.cell? ⟨b, o, none⟩) ∧ SK W (w.heap.size + 2) (w.heap.size + 2) w')
          (first
            | (refine SK.all ?_
               first
                 | assumption
                 | exact hkv
                 | exact hkv.drew
                 | exact ((SK.set (by assumption) (by omega) _ _).set (by omega) _ _).set (by omega) _ _))
          (first
            | (go_at_call 98; refine (minus_w (Y1.below (Below.refl _ wv).drew (Nat.le_refl _)) (Y2.below (Below.refl _ wv).drew (Nat.le_refl _)) (Nat.le_refl _) (Nat.le_refl _) (by omega) hle).mono ?_; (rintro e w5 ⟨v5, rfl, D5, hb5⟩; have hk5 := SK.call (W := W) (m := w.heap.size + 2) (r := w.heap.size + 2) (by first | exact hkv.drew | assumption) hb5; have hf5 := hk5.lt; obtain ⟨A5, L5, c5, rfl⟩ := D5.form))
            | (go_at_call 85; refine (number_v D5 (Nat.le_refl _) hlen hD6).mono ?_; (rintro e w6 ⟨v6, rfl, D6, hb6⟩; have hk6 := SK.call hk5 hb6; have hf6 := hk6.lt; rw [HVAL.out] at D6; obtain ⟨nb6, A9, L9, c9, rfl, _⟩ := D6.form; obtain ⟨z0, z1, z2, rz, k0, k1, k2, kf⟩ := SK.cells hk6)))
        go_wp2_with fail
        refine bodyPost_ret (res_Add rfl (((rz.set_ 0 _).set_ 1 _).set_ 2 _)) rfl ⟨_, rfl, ?_, (((b0.trans (hk6.is.mono (by omega))).setCell (by simp; omega) _).setCell (by simp; omega) _).setCell (by simp; omega) _⟩
        exact ((((D6.set_ (by omega) 0 _).set_ (by omega) 1 _).set_ (by omega) 2 _).low (by omega)).more (by simp)

theorem res_Sub {tmps : Array Value} {w : World} {b : Nat} {v0 v1 v2 : Value} (h2 : tmps.getD 4 undef = .pointer (some ⟨b, 0, none⟩)) (hB : RowD w b [v0, v1, v2] 37) :
    (results Tryd.f48 tmps).run Tryd.prog w = .ok (.agg #[v0, v1, v2]) w := by
  have k0 := hB.cell 0
  have k1 := hB.cell 1
  have k2 := hB.cell 2
  simp at k0 k1 k2
  simp at h2
  simp [results, Tryd.results48, go_sem, h2, k0, k1, k2]
set_option maxRecDepth 100000 in
set_option maxHeartbeats 4000000 in
theorem sub_any {v v2 : Value} {x y : Int} {dx dy lo1 lo2 m : Nat} {w : World} (D1 : DyR w lo1 m v x dx) (D2 : DyR w lo2 m v2 y dy) (hm : m ≤ w.heap.size) (l1 : (canon x.natAbs).length ≤ 50000) (l2 : (canon y.natAbs).length ≤ 50000) :
    Calls Tryd.prog 48 #[v, v2] w fun e w' => ∃ v', e = .returned v' ∧ DyR w' w.heap.size w'.heap.size v' (dySum x dx (-y) dy).1 (dySum x dx (-y) dy).2 ∧ Below w.heap.size w w' := by
  obtain ⟨nb1, A1, L1, c1, rfl, HD1⟩ := D1.form
  obtain ⟨nb2, A2, L2, c2, rfl, HD2⟩ := D2.form
  have b0 : Below w.heap.size w (((w.alloc (.cells #[.bool nb1, .slice A1 L1 c1, .int .i64 (dx : Int)] 37)).alloc (.cells #[.bool nb2, .slice A2 L2 c2, .int .i64 (dy : Int)] 37)).alloc (.cells #[.bool false, .slice none 0 0, .int .i64 0] 37)) := ext_alloc (ext_alloc (ext_alloc (Below.refl _ _) _) _) _
  have D1' := D1.below b0 hm
  have D2' := D2.below b0 hm
  clear D1 D2
  have r2 := RowD.new_ ((w.alloc (.cells #[.bool nb1, .slice A1 L1 c1, .int .i64 (dx : Int)] 37)).alloc (.cells #[.bool nb2, .slice A2 L2 c2, .int .i64 (dy : Int)] 37)) [.bool false, .slice none 0 0, .int .i64 0] 37
  have r1 := (RowD.new_ (w.alloc (.cells #[.bool nb1, .slice A1 L1 c1, .int .i64 (dx : Int)] 37)) [.bool nb2, .slice A2 L2 c2, .int .i64 (dy : Int)] 37).call ((Below.refl _ _).alloc (Nat.le_refl _) (.cells #[.bool false, .slice none 0 0, .int .i64 0] 37))
  have r0 := ((RowD.new_ w [.bool nb1, .slice A1 L1 c1, .int .i64 (dx : Int)] 37).call ((Below.refl _ _).alloc (Nat.le_refl _) (.cells #[.bool nb2, .slice A2 L2 c2, .int .i64 (dy : Int)] 37))).call ((Below.refl _ _).alloc (Nat.le_refl _) (.cells #[.bool false, .slice none 0 0, .int .i64 0] 37))
  rw [show ((w.alloc (.cells #[.bool nb1, .slice A1 L1 c1, .int .i64 (dx : Int)] 37)).alloc (.cells #[.bool nb2, .slice A2 L2 c2, .int .i64 (dy : Int)] 37)).heap.size = w.heap.size + 2 by simp] at r2
  rw [show (w.alloc (.cells #[.bool nb1, .slice A1 L1 c1, .int .i64 (dx : Int)] 37)).heap.size = w.heap.size + 1 by simp] at r1
  go_enter Tryd.func48, Tryd.ntmps48
  go_wp2_with fail
  obtain ⟨W, hW⟩ : ∃ W, W = (((w.alloc (.cells #[.bool nb1, .slice A1 L1 c1, .int .i64 (dx : Int)] 37)).alloc (.cells #[.bool nb2, .slice A2 L2 c2, .int .i64 (dy : Int)] 37)).alloc (.cells #[.bool false, .slice none 0 0, .int .i64 0] 37)) := ⟨_, rfl⟩
  have hWs : W.heap.size = w.heap.size + 3 := by rw [hW]; simp
  rw [← hW]
  rw [← hW] at b0 D1' D2' r0 r1 r2
  clear hW
  have a0 : W.cell? ⟨w.heap.size, 0, none⟩ = some (.bool nb1) := r0.cell 0
  have a1 : W.cell? ⟨w.heap.size, 1, none⟩ = some (.slice A1 L1 c1) := r0.cell 1
  have a2 : W.cell? ⟨w.heap.size, 2, none⟩ = some (.int .i64 (dx : Int)) := r0.cell 2
  have e0 : W.cell? ⟨w.heap.size + 1, 0, none⟩ = some (.bool nb2) := r1.cell 0
  have e1 : W.cell? ⟨w.heap.size + 1, 1, none⟩ = some (.slice A2 L2 c2) := r1.cell 1
  have e2 : W.cell? ⟨w.heap.size + 1, 2, none⟩ = some (.int .i64 (dy : Int)) := r1.cell 2
  have hk : SK W (w.heap.size + 2) (w.heap.size + 2) W := SK.refl (by omega) ⟨_, _, _, r2⟩
  have hle : m ≤ w.heap.size + 2 := by omega
  go_region_held3 (fun w' => (∀ b o, b < w.heap.size + 2 → w'.cell? ⟨b, o, none⟩ = W.cell? ⟨b, o, none⟩) ∧ SK W (w.heap.size + 2) (w.heap.size + 2) w')
    (first
      | (refine SK.all ?_
         first
           | assumption
           | exact hk
           | exact hk.drew
           | exact ((SK.set (by assumption) (by omega) _ _).set (by omega) _ _).set (by omega) _ _))
    (first
      | (go_at_call 62; refine (neg_w (D2'.below (SK.is (m := w.heap.size + 2) (r := w.heap.size + 2) (by first | exact hk.drew | assumption)) hle) ?_ ?_).mono ?_; (simp; omega); exact (by omega); (rintro e w5 ⟨v5, rfl, D5, hb5⟩; have hk5 := SK.call (W := W) (m := w.heap.size + 2) (r := w.heap.size + 2) (by first | exact hk.drew | assumption) hb5; have hf5 := hk5.lt; obtain ⟨nb5, A5, L5, c5, rfl, _⟩ := D5.form))
      | (go_at_call 61; refine (add_any (D1'.below (SK.is (m := w.heap.size + 2) (r := w.heap.size + 2) hk5) hle) D5 ?_ ?_ ?_ ?_).mono ?_; exact (by omega); exact (Nat.le_refl _); exact l1; (rw [Int.natAbs_neg]; exact l2); (rintro e w6 ⟨v6, rfl, D6, hb6⟩; have hk6 := SK.call hk5 hb6; have hf6 := hk6.lt; have hlo := hf5; obtain ⟨nb6, A6, L6, c6, rfl, _⟩ := D6.form; obtain ⟨z0, z1, z2, rz, k0, k1, k2, kf⟩ := SK.cells hk6)))
  go_wp2_with fail
  refine bodyPost_ret (res_Sub rfl (((rz.set_ 0 _).set_ 1 _).set_ 2 _)) rfl ⟨_, rfl, ?_, (((b0.trans (hk6.is.mono (by omega))).setCell (by simp; omega) _).setCell (by simp; omega) _).setCell (by simp; omega) _⟩
  exact ((((D6.set_ (by omega) 0 _).set_ (by omega) 1 _).set_ (by omega) 2 _).low (by omega)).more (by simp)
set_option maxRecDepth 100000 in
set_option maxHeartbeats 4000000 in
theorem cmp_any {v v2 : Value} {x y : Int} {dx dy lo1 lo2 m : Nat} {w : World} (D1 : DyR w lo1 m v x dx) (D2 : DyR w lo2 m v2 y dy) (hm : m ≤ w.heap.size) (l1 : (canon x.natAbs).length ≤ 50000) (l2 : (canon y.natAbs).length ≤ 50000) :
    Calls Tryd.prog 16 #[v, v2] w fun e w' => e = .returned (.int .i64 (dyCmp x dx y dy)) ∧ Below w.heap.size w w' := by
  have hlen : (canon (dySum x dx (-y) dy).1.natAbs).length ≤ 100000 := dySum_len l1 (by rw [Int.natAbs_neg]; exact l2) D1.bound.1 D2.bound.1
  obtain ⟨nb1, A1, L1, c1, rfl, HD1⟩ := D1.form
  obtain ⟨nb2, A2, L2, c2, rfl, HD2⟩ := D2.form
  have b0 : Below w.heap.size w ((w.alloc (.cells #[.bool nb1, .slice A1 L1 c1, .int .i64 (dx : Int)] 37)).alloc (.cells #[.bool nb2, .slice A2 L2 c2, .int .i64 (dy : Int)] 37)) := ext_alloc (ext_alloc (Below.refl _ _) _) _
  have D1' := Lib.hid (D1.below b0 hm)
  have D2' := Lib.hid (D2.below b0 hm)
  clear D1 D2
  go_enter Tryd.func16, Tryd.ntmps16
  go_wp2_with fail
  go_at_call 48
  refine (sub_any D1'.out D2'.out (by simp; omega) l1 l2).mono ?_
  rintro e w5 ⟨v5, rfl, D5, hb5⟩
  have D5' := Lib.hid D5
  obtain ⟨nb5, A5, L5, c5, rfl, _⟩ := D5.form
  have b5 := b0.trans (hb5.mono (by simp; omega))
  clear D5 hb5
  go_wp2_with fail
  go_at_call 47
  refine (sign_w D5'.out (Nat.le_refl _) hlen).mono ?_
  rintro e w6 ⟨rfl, hb6⟩
  have b6 := b5.trans (hb6.mono (by have := b5.size; omega))
  go_wp2_with fail
  go_ret
  exact ⟨rfl, b6⟩
theorem res_Min {tmps : Array Value} {w : World} {b : Nat} {v0 v1 v2 : Value} (h2 : tmps.getD 4 undef = .pointer (some ⟨b, 0, none⟩)) (hB : RowD w b [v0, v1, v2] 37) :
    (results Tryd.f64 tmps).run Tryd.prog w = .ok (.agg #[v0, v1, v2]) w := by
  have k0 := hB.cell 0
  have k1 := hB.cell 1
  have k2 := hB.cell 2
  simp at k0 k1 k2
  simp at h2
  simp [results, Tryd.results64, go_sem, h2, k0, k1, k2]
set_option maxRecDepth 100000 in
set_option maxHeartbeats 4000000 in
theorem min_any {v v2 : Value} {x y : Int} {dx dy lo1 lo2 m : Nat} {w : World} (D1 : DyR w lo1 m v x dx) (D2 : DyR w lo2 m v2 y dy) (hm : m ≤ w.heap.size) (l1 : (canon x.natAbs).length ≤ 50000) (l2 : (canon y.natAbs).length ≤ 50000) :
    Calls Tryd.prog 64 #[v, v2] w fun e w' => ∃ v', e = .returned v' ∧ DyR w' w.heap.size w'.heap.size v' (dyMin x dx y dy).1 (dyMin x dx y dy).2 ∧ Below w.heap.size w w' := by
  have HB1 := D1.bound
  have HB2 := D2.bound
  obtain ⟨nb1, A1, L1, c1, rfl, HD1⟩ := D1.form
  obtain ⟨nb2, A2, L2, c2, rfl, HD2⟩ := D2.form
  have b0 : Below w.heap.size w (((w.alloc (.cells #[.bool nb1, .slice A1 L1 c1, .int .i64 (dx : Int)] 37)).alloc (.cells #[.bool nb2, .slice A2 L2 c2, .int .i64 (dy : Int)] 37)).alloc (.cells #[.bool false, .slice none 0 0, .int .i64 0] 37)) := ext_alloc (ext_alloc (ext_alloc (Below.refl _ _) _) _) _
  have D1' := D1.below b0 hm
  have D2' := D2.below b0 hm
  clear D1 D2
  have r2 := RowD.new_ ((w.alloc (.cells #[.bool nb1, .slice A1 L1 c1, .int .i64 (dx : Int)] 37)).alloc (.cells #[.bool nb2, .slice A2 L2 c2, .int .i64 (dy : Int)] 37)) [.bool false, .slice none 0 0, .int .i64 0] 37
  have r1 := (RowD.new_ (w.alloc (.cells #[.bool nb1, .slice A1 L1 c1, .int .i64 (dx : Int)] 37)) [.bool nb2, .slice A2 L2 c2, .int .i64 (dy : Int)] 37).call ((Below.refl _ _).alloc (Nat.le_refl _) (.cells #[.bool false, .slice none 0 0, .int .i64 0] 37))
  have r0 := ((RowD.new_ w [.bool nb1, .slice A1 L1 c1, .int .i64 (dx : Int)] 37).call ((Below.refl _ _).alloc (Nat.le_refl _) (.cells #[.bool nb2, .slice A2 L2 c2, .int .i64 (dy : Int)] 37))).call ((Below.refl _ _).alloc (Nat.le_refl _) (.cells #[.bool false, .slice none 0 0, .int .i64 0] 37))
  rw [show ((w.alloc (.cells #[.bool nb1, .slice A1 L1 c1, .int .i64 (dx : Int)] 37)).alloc (.cells #[.bool nb2, .slice A2 L2 c2, .int .i64 (dy : Int)] 37)).heap.size = w.heap.size + 2 by simp] at r2
  rw [show (w.alloc (.cells #[.bool nb1, .slice A1 L1 c1, .int .i64 (dx : Int)] 37)).heap.size = w.heap.size + 1 by simp] at r1
  go_enter Tryd.func64, Tryd.ntmps64
  go_wp2_with fail
  obtain ⟨W, hW⟩ : ∃ W, W = (((w.alloc (.cells #[.bool nb1, .slice A1 L1 c1, .int .i64 (dx : Int)] 37)).alloc (.cells #[.bool nb2, .slice A2 L2 c2, .int .i64 (dy : Int)] 37)).alloc (.cells #[.bool false, .slice none 0 0, .int .i64 0] 37)) := ⟨_, rfl⟩
  have hWs : W.heap.size = w.heap.size + 3 := by rw [hW]; simp
  rw [← hW]
  rw [← hW] at b0 D1' D2' r0 r1 r2
  clear hW
  have a0 : W.cell? ⟨w.heap.size, 0, none⟩ = some (.bool nb1) := r0.cell 0
  have a1 : W.cell? ⟨w.heap.size, 1, none⟩ = some (.slice A1 L1 c1) := r0.cell 1
  have a2 : W.cell? ⟨w.heap.size, 2, none⟩ = some (.int .i64 (dx : Int)) := r0.cell 2
  have e0 : W.cell? ⟨w.heap.size + 1, 0, none⟩ = some (.bool nb2) := r1.cell 0
  have e1 : W.cell? ⟨w.heap.size + 1, 1, none⟩ = some (.slice A2 L2 c2) := r1.cell 1
  have e2 : W.cell? ⟨w.heap.size + 1, 2, none⟩ = some (.int .i64 (dy : Int)) := r1.cell 2
  go_at_call 16
  refine (cmp_any D1' D2' (by omega) l1 l2).mono ?_
  rintro e w2 ⟨rfl, hb2⟩
  have s0 := r0.call hb2
  have s1 := r1.call hb2
  have s2 := r2.call hb2
  have b2 := b0.trans (hb2.mono (by omega))
  replace D1' := D1'.below hb2 (by omega)
  replace D2' := D2'.below hb2 (by omega)
  have hz2 : w.heap.size + 3 ≤ w2.heap.size := by have := hb2.size; omega
  clear r0 r1 r2 b0 a0 a1 a2 e0 e1 e2 hWs hb2
  have a0 : w2.cell? ⟨w.heap.size, 0, none⟩ = some (.bool nb1) := s0.cell 0
  have a1 : w2.cell? ⟨w.heap.size, 1, none⟩ = some (.slice A1 L1 c1) := s0.cell 1
  have a2 : w2.cell? ⟨w.heap.size, 2, none⟩ = some (.int .i64 (dx : Int)) := s0.cell 2
  have e0 : w2.cell? ⟨w.heap.size + 1, 0, none⟩ = some (.bool nb2) := s1.cell 0
  have e1 : w2.cell? ⟨w.heap.size + 1, 1, none⟩ = some (.slice A2 L2 c2) := s1.cell 1
  have e2 : w2.cell? ⟨w.heap.size + 1, 2, none⟩ = some (.int .i64 (dy : Int)) := s1.cell 2
  have f0 := s0.free
  by_cases hc : 0 < dyCmp x dx y dy
  · as_aux_lemma =>
    have HC := Lib.hid hc
    have hodd := HB2.2
    obtain ⟨cv, hcv⟩ : ∃ cv, cv = dyCmp x dx y dy := ⟨_, rfl⟩
    rw [← hcv] at hc
    rw [← hcv]
    have hcb : decide (0 < cv) = true := decide_eq_true hc
    clear hcv HB1 HB2
    go_wp2_with fail
    go_at_call 61
    obtain ⟨W, hW⟩ : ∃ W, W = ((w2.setCell ⟨w.heap.size, 0, none⟩ (.bool nb2)).setCell ⟨w.heap.size, 1, none⟩ (.slice A2 L2 c2)).setCell ⟨w.heap.size, 2, none⟩ (.int .i64 (dy : Int)) := ⟨_, rfl⟩
    have rz : RowD W (w.heap.size + 2) [.bool false, .slice none 0 0, .int .i64 0] 37 := by
      rw [hW]
      exact ((s2.other_ (by omega) _ _).other_ (by omega) _ _).other_ (by omega) _ _
    have bW : Below w.heap.size w W := by
      rw [hW]
      exact ((b2.setCell (by simp) _).setCell (by simp) _).setCell (by simp) _
    have bX : Below w.heap.size w2 W := by
      rw [hW]
      exact (((Below.refl _ w2).setCell (by simp) _).setCell (by simp) _).setCell (by simp) _
    have hWs : w.heap.size + 3 ≤ W.heap.size := by rw [hW]; simpa using hz2
    rw [← hW]
    clear hW s0 s1 s2 a0 a1 a2 e0 e1 e2 f0 b2
    have D0 : DyR W 0 0 (.agg #[.bool false, .slice none 0 0, .int .i64 0]) 0 0 := DyR.zero_ _ _ _
    have hk : SK W (w.heap.size + 2) (w.heap.size + 2) W := SK.refl (by omega) ⟨_, _, _, rz⟩
    refine (add_any (D2'.below bX hm) D0 (by omega) (by omega) l2 (by simp [canon_zero])).mono ?_
    rintro e w6 ⟨v6, rfl, D6, hb6⟩
    have hk6 := SK.call hk hb6
    rw [dySum_zero hodd] at D6
    have D6' := Lib.hid D6
    obtain ⟨nb6, A6, L6, c6, rfl, _⟩ := D6.form
    have hf6 := hk6.lt
    obtain ⟨z0, z1, z2, rw6, k0, k1, k2, kf⟩ := SK.cells hk6
    have b6 := bW.trans (hb6.mono (by omega))
    clear D6 hb6 hk6 hk rz bW
    go_wp2_with fail
    refine bodyPost_ret (res_Min rfl (((rw6.set_ 0 _).set_ 1 _).set_ 2 _)) rfl ⟨_, rfl, ?_, ((b6.setCell (by simp; omega) _).setCell (by simp; omega) _).setCell (by simp; omega) _⟩
    have HE := ((((D6'.out.set_ (b := w.heap.size + 2) (by omega) 0 (.bool nb6)).set_ (b := w.heap.size + 2) (by omega) 1 (.slice A6 L6 c6)).set_ (b := w.heap.size + 2) (by omega) 2 (.int .i64 (dy : Int))).low (show w.heap.size ≤ W.heap.size by omega))
    have hv : dyMin x dx y dy = (y, dy) := by
      unfold dyMin
      exact if_pos (by have := HC.out; omega)
    rw [hv]
    exact HE.more (by simp)
  · as_aux_lemma =>
    have HC := Lib.hid hc
    have hodd := HB1.2
    obtain ⟨cv, hcv⟩ : ∃ cv, cv = dyCmp x dx y dy := ⟨_, rfl⟩
    rw [← hcv] at hc
    rw [← hcv]
    have hcb : decide (0 < cv) = false := decide_eq_false hc
    clear hcv HB1 HB2
    go_wp2_with fail
    go_at_call 61
    obtain ⟨W, hW⟩ : ∃ W, W = w2 := ⟨_, rfl⟩
    have rz := s2
    have bW := b2
    have hWs := hz2
    rw [← hW]
    rw [← hW] at rz bW hWs D1' D2'
    clear hW s0 s1 s2 a0 a1 a2 e0 e1 e2 f0 b2
    have D0 : DyR W 0 0 (.agg #[.bool false, .slice none 0 0, .int .i64 0]) 0 0 := DyR.zero_ _ _ _
    have hk : SK W (w.heap.size + 2) (w.heap.size + 2) W := SK.refl (by omega) ⟨_, _, _, rz⟩
    refine (add_any D1' D0 (by omega) (by omega) l1 (by simp [canon_zero])).mono ?_
    rintro e w6 ⟨v6, rfl, D6, hb6⟩
    have hk6 := SK.call hk hb6
    rw [dySum_zero hodd] at D6
    have D6' := Lib.hid D6
    obtain ⟨nb6, A6, L6, c6, rfl, _⟩ := D6.form
    have hf6 := hk6.lt
    obtain ⟨z0, z1, z2, rw6, k0, k1, k2, kf⟩ := SK.cells hk6
    have b6 := bW.trans (hb6.mono (by omega))
    clear D6 hb6 hk6 hk rz bW
    go_wp2_with fail
    refine bodyPost_ret (res_Min rfl (((rw6.set_ 0 _).set_ 1 _).set_ 2 _)) rfl ⟨_, rfl, ?_, ((b6.setCell (by simp; omega) _).setCell (by simp; omega) _).setCell (by simp; omega) _⟩
    have HE := ((((D6'.out.set_ (b := w.heap.size + 2) (by omega) 0 (.bool nb6)).set_ (b := w.heap.size + 2) (by omega) 1 (.slice A6 L6 c6)).set_ (b := w.heap.size + 2) (by omega) 2 (.int .i64 (dx : Int))).low (show w.heap.size ≤ W.heap.size by omega))
    have hv : dyMin x dx y dy = (x, dx) := by
      unfold dyMin
      exact if_neg (by have := HC.out; omega)
    rw [hv]
    exact HE.more (by simp)
theorem res_Max {tmps : Array Value} {w : World} {b : Nat} {v0 v1 v2 : Value} (h2 : tmps.getD 4 undef = .pointer (some ⟨b, 0, none⟩)) (hB : RowD w b [v0, v1, v2] 37) :
    (results Tryd.f65 tmps).run Tryd.prog w = .ok (.agg #[v0, v1, v2]) w := by
  have k0 := hB.cell 0
  have k1 := hB.cell 1
  have k2 := hB.cell 2
  simp at k0 k1 k2
  simp at h2
  simp [results, Tryd.results65, go_sem, h2, k0, k1, k2]
set_option maxRecDepth 100000 in
set_option maxHeartbeats 4000000 in
theorem max_any {v v2 : Value} {x y : Int} {dx dy lo1 lo2 m : Nat} {w : World} (D1 : DyR w lo1 m v x dx) (D2 : DyR w lo2 m v2 y dy) (hm : m ≤ w.heap.size) (l1 : (canon x.natAbs).length ≤ 50000) (l2 : (canon y.natAbs).length ≤ 50000) :
    Calls Tryd.prog 65 #[v, v2] w fun e w' => ∃ v', e = .returned v' ∧ DyR w' w.heap.size w'.heap.size v' (dyMax x dx y dy).1 (dyMax x dx y dy).2 ∧ Below w.heap.size w w' := by
  have HB1 := D1.bound
  have HB2 := D2.bound
  obtain ⟨nb1, A1, L1, c1, rfl, HD1⟩ := D1.form
  obtain ⟨nb2, A2, L2, c2, rfl, HD2⟩ := D2.form
  have b0 : Below w.heap.size w (((w.alloc (.cells #[.bool nb1, .slice A1 L1 c1, .int .i64 (dx : Int)] 37)).alloc (.cells #[.bool nb2, .slice A2 L2 c2, .int .i64 (dy : Int)] 37)).alloc (.cells #[.bool false, .slice none 0 0, .int .i64 0] 37)) := ext_alloc (ext_alloc (ext_alloc (Below.refl _ _) _) _) _
  have D1' := D1.below b0 hm
  have D2' := D2.below b0 hm
  clear D1 D2
  have r2 := RowD.new_ ((w.alloc (.cells #[.bool nb1, .slice A1 L1 c1, .int .i64 (dx : Int)] 37)).alloc (.cells #[.bool nb2, .slice A2 L2 c2, .int .i64 (dy : Int)] 37)) [.bool false, .slice none 0 0, .int .i64 0] 37
  have r1 := (RowD.new_ (w.alloc (.cells #[.bool nb1, .slice A1 L1 c1, .int .i64 (dx : Int)] 37)) [.bool nb2, .slice A2 L2 c2, .int .i64 (dy : Int)] 37).call ((Below.refl _ _).alloc (Nat.le_refl _) (.cells #[.bool false, .slice none 0 0, .int .i64 0] 37))
  have r0 := ((RowD.new_ w [.bool nb1, .slice A1 L1 c1, .int .i64 (dx : Int)] 37).call ((Below.refl _ _).alloc (Nat.le_refl _) (.cells #[.bool nb2, .slice A2 L2 c2, .int .i64 (dy : Int)] 37))).call ((Below.refl _ _).alloc (Nat.le_refl _) (.cells #[.bool false, .slice none 0 0, .int .i64 0] 37))
  rw [show ((w.alloc (.cells #[.bool nb1, .slice A1 L1 c1, .int .i64 (dx : Int)] 37)).alloc (.cells #[.bool nb2, .slice A2 L2 c2, .int .i64 (dy : Int)] 37)).heap.size = w.heap.size + 2 by simp] at r2
  rw [show (w.alloc (.cells #[.bool nb1, .slice A1 L1 c1, .int .i64 (dx : Int)] 37)).heap.size = w.heap.size + 1 by simp] at r1
  go_enter Tryd.func65, Tryd.ntmps65
  go_wp2_with fail
  obtain ⟨W, hW⟩ : ∃ W, W = (((w.alloc (.cells #[.bool nb1, .slice A1 L1 c1, .int .i64 (dx : Int)] 37)).alloc (.cells #[.bool nb2, .slice A2 L2 c2, .int .i64 (dy : Int)] 37)).alloc (.cells #[.bool false, .slice none 0 0, .int .i64 0] 37)) := ⟨_, rfl⟩
  have hWs : W.heap.size = w.heap.size + 3 := by rw [hW]; simp
  rw [← hW]
  rw [← hW] at b0 D1' D2' r0 r1 r2
  clear hW
  have a0 : W.cell? ⟨w.heap.size, 0, none⟩ = some (.bool nb1) := r0.cell 0
  have a1 : W.cell? ⟨w.heap.size, 1, none⟩ = some (.slice A1 L1 c1) := r0.cell 1
  have a2 : W.cell? ⟨w.heap.size, 2, none⟩ = some (.int .i64 (dx : Int)) := r0.cell 2
  have e0 : W.cell? ⟨w.heap.size + 1, 0, none⟩ = some (.bool nb2) := r1.cell 0
  have e1 : W.cell? ⟨w.heap.size + 1, 1, none⟩ = some (.slice A2 L2 c2) := r1.cell 1
  have e2 : W.cell? ⟨w.heap.size + 1, 2, none⟩ = some (.int .i64 (dy : Int)) := r1.cell 2
  go_at_call 16
  refine (cmp_any D1' D2' (by omega) l1 l2).mono ?_
  rintro e w2 ⟨rfl, hb2⟩
  have s0 := r0.call hb2
  have s1 := r1.call hb2
  have s2 := r2.call hb2
  have b2 := b0.trans (hb2.mono (by omega))
  replace D1' := D1'.below hb2 (by omega)
  replace D2' := D2'.below hb2 (by omega)
  have hz2 : w.heap.size + 3 ≤ w2.heap.size := by have := hb2.size; omega
  clear r0 r1 r2 b0 a0 a1 a2 e0 e1 e2 hWs hb2
  have a0 : w2.cell? ⟨w.heap.size, 0, none⟩ = some (.bool nb1) := s0.cell 0
  have a1 : w2.cell? ⟨w.heap.size, 1, none⟩ = some (.slice A1 L1 c1) := s0.cell 1
  have a2 : w2.cell? ⟨w.heap.size, 2, none⟩ = some (.int .i64 (dx : Int)) := s0.cell 2
  have e0 : w2.cell? ⟨w.heap.size + 1, 0, none⟩ = some (.bool nb2) := s1.cell 0
  have e1 : w2.cell? ⟨w.heap.size + 1, 1, none⟩ = some (.slice A2 L2 c2) := s1.cell 1
  have e2 : w2.cell? ⟨w.heap.size + 1, 2, none⟩ = some (.int .i64 (dy : Int)) := s1.cell 2
  have f0 := s0.free
  by_cases hc : dyCmp x dx y dy < 0
  · as_aux_lemma =>
    have HC := Lib.hid hc
    have hodd := HB2.2
    obtain ⟨cv, hcv⟩ : ∃ cv, cv = dyCmp x dx y dy := ⟨_, rfl⟩
    rw [← hcv] at hc
    rw [← hcv]
    have hcb : decide (cv < 0) = true := decide_eq_true hc
    clear hcv HB1 HB2
    go_wp2_with fail
    go_at_call 61
    obtain ⟨W, hW⟩ : ∃ W, W = ((w2.setCell ⟨w.heap.size, 0, none⟩ (.bool nb2)).setCell ⟨w.heap.size, 1, none⟩ (.slice A2 L2 c2)).setCell ⟨w.heap.size, 2, none⟩ (.int .i64 (dy : Int)) := ⟨_, rfl⟩
    have rz : RowD W (w.heap.size + 2) [.bool false, .slice none 0 0, .int .i64 0] 37 := by
      rw [hW]
      exact ((s2.other_ (by omega) _ _).other_ (by omega) _ _).other_ (by omega) _ _
    have bW : Below w.heap.size w W := by
      rw [hW]
      exact ((b2.setCell (by simp) _).setCell (by simp) _).setCell (by simp) _
    have bX : Below w.heap.size w2 W := by
      rw [hW]
      exact (((Below.refl _ w2).setCell (by simp) _).setCell (by simp) _).setCell (by simp) _
    have hWs : w.heap.size + 3 ≤ W.heap.size := by rw [hW]; simpa using hz2
    rw [← hW]
    clear hW s0 s1 s2 a0 a1 a2 e0 e1 e2 f0 b2
    have D0 : DyR W 0 0 (.agg #[.bool false, .slice none 0 0, .int .i64 0]) 0 0 := DyR.zero_ _ _ _
    have hk : SK W (w.heap.size + 2) (w.heap.size + 2) W := SK.refl (by omega) ⟨_, _, _, rz⟩
    refine (add_any (D2'.below bX hm) D0 (by omega) (by omega) l2 (by simp [canon_zero])).mono ?_
    rintro e w6 ⟨v6, rfl, D6, hb6⟩
    have hk6 := SK.call hk hb6
    rw [dySum_zero hodd] at D6
    have D6' := Lib.hid D6
    obtain ⟨nb6, A6, L6, c6, rfl, _⟩ := D6.form
    have hf6 := hk6.lt
    obtain ⟨z0, z1, z2, rw6, k0, k1, k2, kf⟩ := SK.cells hk6
    have b6 := bW.trans (hb6.mono (by omega))
    clear D6 hb6 hk6 hk rz bW
    go_wp2_with fail
    refine bodyPost_ret (res_Max rfl (((rw6.set_ 0 _).set_ 1 _).set_ 2 _)) rfl ⟨_, rfl, ?_, ((b6.setCell (by simp; omega) _).setCell (by simp; omega) _).setCell (by simp; omega) _⟩
    have HE := ((((D6'.out.set_ (b := w.heap.size + 2) (by omega) 0 (.bool nb6)).set_ (b := w.heap.size + 2) (by omega) 1 (.slice A6 L6 c6)).set_ (b := w.heap.size + 2) (by omega) 2 (.int .i64 (dy : Int))).low (show w.heap.size ≤ W.heap.size by omega))
    have hv : dyMax x dx y dy = (y, dy) := by
      unfold dyMax
      exact if_pos (by have := HC.out; omega)
    rw [hv]
    exact HE.more (by simp)
  · as_aux_lemma =>
    have HC := Lib.hid hc
    have hodd := HB1.2
    obtain ⟨cv, hcv⟩ : ∃ cv, cv = dyCmp x dx y dy := ⟨_, rfl⟩
    rw [← hcv] at hc
    rw [← hcv]
    have hcb : decide (cv < 0) = false := decide_eq_false hc
    clear hcv HB1 HB2
    go_wp2_with fail
    go_at_call 61
    obtain ⟨W, hW⟩ : ∃ W, W = w2 := ⟨_, rfl⟩
    have rz := s2
    have bW := b2
    have hWs := hz2
    rw [← hW]
    rw [← hW] at rz bW hWs D1' D2'
    clear hW s0 s1 s2 a0 a1 a2 e0 e1 e2 f0 b2
    have D0 : DyR W 0 0 (.agg #[.bool false, .slice none 0 0, .int .i64 0]) 0 0 := DyR.zero_ _ _ _
    have hk : SK W (w.heap.size + 2) (w.heap.size + 2) W := SK.refl (by omega) ⟨_, _, _, rz⟩
    refine (add_any D1' D0 (by omega) (by omega) l1 (by simp [canon_zero])).mono ?_
    rintro e w6 ⟨v6, rfl, D6, hb6⟩
    have hk6 := SK.call hk hb6
    rw [dySum_zero hodd] at D6
    have D6' := Lib.hid D6
    obtain ⟨nb6, A6, L6, c6, rfl, _⟩ := D6.form
    have hf6 := hk6.lt
    obtain ⟨z0, z1, z2, rw6, k0, k1, k2, kf⟩ := SK.cells hk6
    have b6 := bW.trans (hb6.mono (by omega))
    clear D6 hb6 hk6 hk rz bW
    go_wp2_with fail
    refine bodyPost_ret (res_Max rfl (((rw6.set_ 0 _).set_ 1 _).set_ 2 _)) rfl ⟨_, rfl, ?_, ((b6.setCell (by simp; omega) _).setCell (by simp; omega) _).setCell (by simp; omega) _⟩
    have HE := ((((D6'.out.set_ (b := w.heap.size + 2) (by omega) 0 (.bool nb6)).set_ (b := w.heap.size + 2) (by omega) 1 (.slice A6 L6 c6)).set_ (b := w.heap.size + 2) (by omega) 2 (.int .i64 (dx : Int))).low (show w.heap.size ≤ W.heap.size by omega))
    have hv : dyMax x dx y dy = (x, dx) := by
      unfold dyMax
      exact if_neg (by have := HC.out; omega)
    rw [hv]
    exact HE.more (by simp)
theorem res_Shift {tmps : Array Value} {w : World} {b : Nat} {v0 v1 v2 : Value} (h2 : tmps.getD 4 undef = .pointer (some ⟨b, 0, none⟩)) (hB : RowD w b [v0, v1, v2] 37) :
    (results Tryd.f44 tmps).run Tryd.prog w = .ok (.agg #[v0, v1, v2]) w := by
  have k0 := hB.cell 0
  have k1 := hB.cell 1
  have k2 := hB.cell 2
  simp at k0 k1 k2
  simp at h2
  simp [results, Tryd.results44, go_sem, h2, k0, k1, k2]
set_option maxRecDepth 100000 in
set_option maxHeartbeats 4000000 in
theorem dshift_any {v : Value} {x : Int} {d lo m : Nat} {n : Int} {w : World} (D : DyR w lo m v x d) (hm : m ≤ w.heap.size) (hl : (canon x.natAbs).length ≤ 50000) (hd : (d : Int) - max (-65536) (min n 65536) ≤ 65536) :
    Calls Tryd.prog 44 #[v, .int .i64 n] w fun e w' => ∃ v', e = .returned v' ∧ DyR w' w.heap.size w'.heap.size v' (dyShift x d n).1 (dyShift x d n).2 ∧ Below w.heap.size w w' := by
  obtain ⟨nn, hnn⟩ : ∃ nn : Int, max (-65536) (min n 65536) = nn := ⟨_, rfl⟩
  have hb1 : -65536 ≤ nn := by omega
  have hb2 : nn ≤ 65536 := by omega
  rw [hnn] at hd
  by_cases hneg : nn < 0
  · as_aux_lemma =>
    obtain ⟨p, hp⟩ : ∃ p : Nat, p = d + (-nn).toNat := ⟨_, rfl⟩
    have HV := Lib.hid (show dyShift x d n = nf x p by unfold dyShift; rw [hnn, if_pos hneg, ← hp])
    have hpp : (d : Int) - nn = (p : Int) := by omega
    have hp6 : p ≤ 65536 := by omega
    clear hp
    obtain ⟨nb, A, L, c, rfl, HD⟩ := D.form
    have D' := Lib.hid D
    clear D
    have b0 : Below w.heap.size w ((w.alloc (.cells #[.bool nb, .slice A L c, .int .i64 (d : Int)] 37)).alloc (.cells #[.bool false, .slice none 0 0, .int .i64 0] 37)) := ext_alloc (ext_alloc (Below.refl _ _) _) _
    have r0 := (RowD.new_ w [.bool nb, .slice A L c, .int .i64 (d : Int)] 37).call ((Below.refl _ _).alloc (Nat.le_refl _) (.cells #[.bool false, .slice none 0 0, .int .i64 0] 37))
    have r1 := (RowD.new_ (w.alloc (.cells #[.bool nb, .slice A L c, .int .i64 (d : Int)] 37)) [.bool false, .slice none 0 0, .int .i64 0] 37)
    rw [show (w.alloc (.cells #[.bool nb, .slice A L c, .int .i64 (d : Int)] 37)).heap.size = w.heap.size + 1 by simp] at r1
    go_enter Tryd.func44, Tryd.ntmps44
    go_wp2_with fail
    go_at_call 84
    refine (norm_w (D'.out.below b0 hm) (by simp; omega) (by omega)).mono ?_
    rintro e w1 ⟨rfl, hb⟩
    have s0 := r0.below hb (by simp; omega)
    have s1 := r1.below hb (by simp)
    have b1 := b0.trans (hb.mono (by simp; omega))
    have D1 := Lib.hid (D'.out.below b1 hm)
    have hz1 : w.heap.size + 2 ≤ w1.heap.size := by simpa using hb.size
    clear hb r0 r1 b0
    have k0 : w1.cell? ⟨w.heap.size, 0, none⟩ = some (.bool nb) := s0.cell 0
    have k1 : w1.cell? ⟨w.heap.size, 1, none⟩ = some (.slice A L c) := s0.cell 1
    have k2 : w1.cell? ⟨w.heap.size, 2, none⟩ = some (.int .i64 (d : Int)) := s0.cell 2
    have kf := s0.free
    go_wp2_with fail
    go_at_call 85
    obtain ⟨W, hW⟩ : ∃ W, W = ((w1.setCell ⟨w.heap.size, 0, none⟩ (.bool nb)).setCell ⟨w.heap.size, 1, none⟩ (.slice A L c)).setCell ⟨w.heap.size, 2, none⟩ (.int .i64 (d : Int)) := ⟨_, rfl⟩
    have hWs : w.heap.size + 2 ≤ W.heap.size := by rw [hW]; simpa using hz1
    have b2 : Below w.heap.size w W := by rw [hW]; exact ((b1.setCell (by simp) _).setCell (by simp) _).setCell (by simp) _
    have t0 : RowD W w.heap.size [.bool nb, .slice A L c, .int .i64 (d : Int)] 37 := by
      rw [hW]
      exact ((s0.set_ 0 _).set_ 1 _).set_ 2 _
    have t1 : RowD W (w.heap.size + 1) [.bool false, .slice none 0 0, .int .i64 0] 37 := by
      rw [hW]
      exact ((s1.other_ (by omega) _ _).other_ (by omega) _ _).other_ (by omega) _ _
    have X : WdR W m (.slice A L c) x.natAbs := (D'.out.below b2 hm).words
    rw [← hW]
    clear hW s0 s1 b1 k0 k1 k2 kf hz1 D1
    have k0 : W.cell? ⟨w.heap.size, 0, none⟩ = some (.bool nb) := t0.cell 0
    have k1 : W.cell? ⟨w.heap.size, 1, none⟩ = some (.slice A L c) := t0.cell 1
    have k2 : W.cell? ⟨w.heap.size, 2, none⟩ = some (.int .i64 (d : Int)) := t0.cell 2
    refine (number_v X (by omega) (by omega) hp6).mono ?_
    rintro e w3 ⟨v', rfl, D3, hb3⟩
    rw [HD.out.1, sg_back, ← HV.out] at D3
    have b3 := b2.trans (hb3.mono (by omega))
    have u1 := t1.call hb3
    have hu1 := u1.lt
    obtain ⟨nb3, A3, L3, c3, rfl, _⟩ := D3.form
    have D3' := Lib.hid D3
    have q0 : w3.cell? ⟨w.heap.size + 1, 0, none⟩ = some (.bool false) := u1.cell 0
    have q1 : w3.cell? ⟨w.heap.size + 1, 1, none⟩ = some (.slice none 0 0) := u1.cell 1
    have q2 : w3.cell? ⟨w.heap.size + 1, 2, none⟩ = some (.int .i64 0) := u1.cell 2
    have qf := u1.free
    clear D3 hb3 t0 t1 b2 X
    go_wp2_with fail
    refine bodyPost_ret (res_Shift rfl (((u1.set_ 0 _).set_ 1 _).set_ 2 _)) rfl ⟨_, rfl, ?_, ((b3.setCell (by simp) _).setCell (by simp) _).setCell (by simp) _⟩
    exact ((((D3'.out.set_ (by omega) 0 _).set_ (by omega) 1 _).set_ (by omega) 2 _).low (by omega)).more (by simp)
  · as_aux_lemma =>
    obtain ⟨p, hp⟩ : ∃ p : Nat, nn = (p : Int) := ⟨nn.toNat, by omega⟩
    subst hp
    have HV := Lib.hid (show dyShift x d n = nf (x * 2 ^ p) d by unfold dyShift; rw [hnn, if_neg hneg]; rfl)
    have hneg' : ¬ (p : Int) < 0 := by omega
    have hn2 : decide ((p : Int) < 0) = false := decide_eq_false hneg'
    have hp6 : p ≤ 1000000 := by omega
    clear hneg
    obtain ⟨nb, A, L, c, rfl, HD⟩ := D.form
    have D' := Lib.hid D
    clear D
    have b0 : Below w.heap.size w ((w.alloc (.cells #[.bool nb, .slice A L c, .int .i64 (d : Int)] 37)).alloc (.cells #[.bool false, .slice none 0 0, .int .i64 0] 37)) := ext_alloc (ext_alloc (Below.refl _ _) _) _
    have r0 := (RowD.new_ w [.bool nb, .slice A L c, .int .i64 (d : Int)] 37).call ((Below.refl _ _).alloc (Nat.le_refl _) (.cells #[.bool false, .slice none 0 0, .int .i64 0] 37))
    have r1 := (RowD.new_ (w.alloc (.cells #[.bool nb, .slice A L c, .int .i64 (d : Int)] 37)) [.bool false, .slice none 0 0, .int .i64 0] 37)
    rw [show (w.alloc (.cells #[.bool nb, .slice A L c, .int .i64 (d : Int)] 37)).heap.size = w.heap.size + 1 by simp] at r1
    go_enter Tryd.func44, Tryd.ntmps44
    go_wp2_with fail
    go_at_call 84
    refine (norm_w (D'.out.below b0 hm) (by simp; omega) (by omega)).mono ?_
    rintro e w1 ⟨rfl, hb⟩
    have s0 := r0.below hb (by simp; omega)
    have s1 := r1.below hb (by simp)
    have b1 := b0.trans (hb.mono (by simp; omega))
    have D1 := Lib.hid (D'.out.below b1 hm)
    have hz1 : w.heap.size + 2 ≤ w1.heap.size := by simpa using hb.size
    clear hb r0 r1 b0
    have k0 : w1.cell? ⟨w.heap.size, 0, none⟩ = some (.bool nb) := s0.cell 0
    have k1 : w1.cell? ⟨w.heap.size, 1, none⟩ = some (.slice A L c) := s0.cell 1
    have k2 : w1.cell? ⟨w.heap.size, 2, none⟩ = some (.int .i64 (d : Int)) := s0.cell 2
    have kf := s0.free
    have hd6 := HD.out.2.2.2.2.2.1
    have hval : nf (sg nb (x.natAbs * 2 ^ p)) d = dyShift x d n := by rw [HD.out.1, sg_mul, HV.out]
    have HVAL := Lib.hid hval
    have hlen : (canon (x.natAbs * 2 ^ p)).length ≤ 100000 := by
      have := canon_len_shift x.natAbs p
      omega
    clear hval
    go_wp2_with fail
    obtain ⟨W, hW⟩ : ∃ W, W = ((w1.setCell ⟨w.heap.size, 0, none⟩ (.bool nb)).setCell ⟨w.heap.size, 1, none⟩ (.slice A L c)).setCell ⟨w.heap.size, 2, none⟩ (.int .i64 (d : Int)) := ⟨_, rfl⟩
    have hWs : w.heap.size + 2 ≤ W.heap.size := by rw [hW]; simpa using hz1
    have b2 : Below w.heap.size w W := by rw [hW]; exact ((b1.setCell (by simp) _).setCell (by simp) _).setCell (by simp) _
    have t0 : RowD W w.heap.size [.bool nb, .slice A L c, .int .i64 (d : Int)] 37 := by
      rw [hW]
      exact ((s0.set_ 0 _).set_ 1 _).set_ 2 _
    have t1 : RowD W (w.heap.size + 1) [.bool false, .slice none 0 0, .int .i64 0] 37 := by
      rw [hW]
      exact ((s1.other_ (by omega) _ _).other_ (by omega) _ _).other_ (by omega) _ _
    have X : WdR W m (.slice A L c) x.natAbs := (D'.out.below b2 hm).words
    rw [← hW]
    clear hW s0 s1 b1 k0 k1 k2 kf hz1 D1
    have k0 : W.cell? ⟨w.heap.size, 0, none⟩ = some (.bool nb) := t0.cell 0
    have k1 : W.cell? ⟨w.heap.size, 1, none⟩ = some (.slice A L c) := t0.cell 1
    have k2 : W.cell? ⟨w.heap.size, 2, none⟩ = some (.int .i64 (d : Int)) := t0.cell 2
    have hle : m ≤ w.heap.size + 1 := by omega
    have hk : SK W (w.heap.size + 1) (w.heap.size + 1) W := SK.refl (by omega) ⟨_, _, _, t1⟩
    go_region_held3 (fun w' => (∀ b o, b < w.heap.size + 1 → w'.cell? ⟨b, o, none⟩ = W.cell? ⟨b, o, none⟩) ∧ SK W (w.heap.size + 1) (w.heap.size + 1) w')
      (first
      | (refine SK.all ?_
         first
           | assumption
           | exact hk
           | exact hk.drew
           | exact ((SK.set (by assumption) (by omega) _ _).set (by omega) _ _).set (by omega) _ _))
      (first
        | (go_at_call 88; refine (left_w (X.below (Below.refl m W).drew (Nat.le_refl _)) (by simp; omega) (by omega) hp6).mono ?_; (rintro e w5 ⟨v5, rfl, D5, hb5⟩; have hk5 := SK.call hk.drew hb5; have hf5 := hk5.lt; obtain ⟨A5, L5, c5, rfl⟩ := D5.form))
        | (go_at_call 85; refine (number_v D5 (Nat.le_refl _) hlen hd6).mono ?_; (rintro e w6 ⟨v6, rfl, D6, hb6⟩; have hk6 := SK.call hk5 hb6; have hf6 := hk6.lt; rw [HVAL.out] at D6; obtain ⟨nb6, A9, L9, c9, rfl, _⟩ := D6.form; obtain ⟨z0, z1, z2, rz, k0, k1, k2, kf⟩ := SK.cells hk6)))
    go_wp2_with fail
    refine bodyPost_ret (res_Shift rfl (((rz.set_ 0 _).set_ 1 _).set_ 2 _)) rfl ⟨_, rfl, ?_, (((b2.trans (hk6.is.mono (by omega))).setCell (by simp) _).setCell (by simp) _).setCell (by simp) _⟩
    exact ((((D6.set_ (by omega) 0 _).set_ (by omega) 1 _).set_ (by omega) 2 _).low (by omega)).more (by simp)

end Go.Proofs.YtjlocofimlgaoaaDoor
