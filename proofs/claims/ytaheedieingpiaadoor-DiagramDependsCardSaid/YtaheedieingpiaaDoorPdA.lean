/- The program's numbers: trim, Valid, parts, Sign. No conditions. -/
import Derived.Test.YtaheedieingpiaaDoorWd
namespace Go.Proofs.YtaheedieingpiaaDoor
set_option linter.unusedVariables false
set_option linter.unusedSimpArgs false
set_option linter.unusedSectionVars false
open Go.RowKit

set_option maxHeartbeats 1000000 in
theorem ptrim_any (A : Option Addr) (ws : List Nat) (c m : Nat) (w : World) (h : CellsAt w m A (w32 ws)) (hc : ws.length ≤ c) (hl : ws.length ≤ 1000000) :
    Calls Tryd.prog 60 #[.slice A ws.length c] w fun e w' => e = .returned (.slice A (trimL ws).length c) ∧ w = w' := by
  have H := Lib.hid h
  clear h
  go_enter Tryd.func60, Tryd.ntmps60
  go_wp2_with fail
  go_loopw [3] (fun i wr => trRel w ws i wr) (fun i _ => (intOf i).toNat)
  case atStart => exact ⟨ws.length, Nat.le_refl _, rfl, rfl, rfl⟩
  case round =>
    obtain ⟨k, hk, rfl, ht, rfl⟩ := hrel
    have HT := Lib.hid ht
    clear ht
    by_cases h0 : k = 0
    · subst h0
      go_wp2_with fail
      go_ret
      refine ⟨?_, rfl⟩
      rw [trimL_len, ← HT.out]
      rfl
    · obtain ⟨j, rfl⟩ := Nat.exists_eq_succ_of_ne_zero h0
      obtain ⟨b, off, z, rfl, hbm, hbs, hx, hcc⟩ := H.out.w32_ (k := j) (by omega)
      have HX := Lib.hid hx
      clear hx
      by_cases hz : z = 0
      · subst hz
        go_wp2_with fail
        have e1 : trimN ws j = trimN ws ws.length := by
          rw [← HT.out]
          show trimN ws j = if ws[j]?.getD 0 = 0 then trimN ws j else j + 1
          rw [if_pos (by rw [HX.out]; rfl)]
        exact ⟨⟨j, by omega, by go_num, e1, rfl⟩, by simp [intOf]; try omega⟩
      · have hz' : ((z : Int) == 0) = false := by simp; omega
        go_wp2_with fail
        go_ret
        refine ⟨?_, rfl⟩
        have e1 : j + 1 = trimN ws ws.length := by
          rw [← HT.out]
          show j + 1 = if ws[j]?.getD 0 = 0 then trimN ws j else j + 1
          rw [if_neg (by rw [HX.out]; exact hz)]
        rw [trimL_len, ← e1]
        rfl
set_option maxRecDepth 100000 in
set_option maxHeartbeats 2000000 in
theorem pvalid_any (neg : Bool) (A : Option Addr) (n den c m : Nat) (w : World) (hm : m ≤ w.heap.size) (h : CellsAt w m A (w32 (canon n))) (hl : (canon n).length ≤ 100000) (ok : DyOk neg n den) :
    Calls Tryd.prog 59 #[.agg #[.bool neg, .slice A (canon n).length c, .int .i64 (den : Int)]] w fun e w' => e = .returned (.bool true) ∧ Below w.heap.size w w' := by
  by_cases h0 : n = 0
  · obtain ⟨rfl, rfl⟩ := ok.zero h0
    subst h0
    rw [canon_zero]
    clear h hl ok
    go_enter Tryd.func59, Tryd.ntmps59
    go_wp2_with fail
    go_ret
    exact ⟨rfl, (Below.refl _ w).alloc (Nat.le_refl _) _⟩
  · have hp := canon_ne h0
    have ht := canon_top h0
    obtain ⟨b, off, z, rfl, q1, q2, hz, g1⟩ := h.w32_ (k := (canon n).length - 1) (by omega)
    have hz0 : ((z : Int) != 0) = true := by
      rw [hz] at ht
      simp at ht
      simp
      omega
    have g0 : w.cell? ⟨b, off, none⟩ = some (.int .u32 ((n % 4294967296 : Nat) : Int)) := by
      obtain ⟨b', off', z', hA, _, _, hz', g'⟩ := h.w32_ (k := 0) hp
      cases hA
      rw [canon_head h0] at hz'
      cases hz'
      exact g'
    obtain ⟨L, hL⟩ : ∃ L, L = (canon n).length - 1 := ⟨_, rfl⟩
    obtain ⟨x, hx⟩ : ∃ x : Nat, x = n % 4294967296 := ⟨_, rfl⟩
    have hlen : (canon n).length = L + 1 := by omega
    have hd := ok.fine
    have ho := ok.odd
    rw [← hx] at g0
    rw [← hL] at g1
    rw [hlen]
    have hl' : L ≤ 100000 := by omega
    have e0 : ((L : Int) + 1 == 0) = false := by simp; omega
    have hodd : den ≠ 0 → (x : Int) % 2 = 1 := fun hne => by have := ho hne; omega
    clear h hl ok ho ht hz hL hx hlen hp h0
    by_cases hden : den = 0
    · subst hden
      clear hodd hd
      go_enter Tryd.func59, Tryd.ntmps59
      go_wp2_with fail
      go_ret
      exact ⟨rfl, (Below.refl _ w).alloc (Nat.le_refl _) _⟩
    · have ho := hodd hden
      have d0 : ((den : Int) == 0) = false := by simp; omega
      have d1 : decide ((den : Int) ≤ 65536) = true := decide_eq_true (by omega)
      clear hodd hden
      go_enter Tryd.func59, Tryd.ntmps59
      go_wp2_with fail
      go_ret
      exact ⟨rfl, (Below.refl _ w).alloc (Nat.le_refl _) _⟩
set_option maxRecDepth 100000 in
set_option maxHeartbeats 4000000 in
theorem parts_w {v : Value} {x : Int} {d lo m : Nat} {w : World} (D : DyR w lo m v x d) (hm : m ≤ w.heap.size) (hl : (canon x.natAbs).length ≤ 100000) :
    Calls Tryd.prog 55 #[v] w fun e w' => ∃ nb A L c, v = .agg #[.bool nb, .slice A L c, .int .i64 (d : Int)] ∧ e = .returned (.tuple #[.bool nb, .slice A L c, .int .i64 (d : Int)]) ∧ Below w.heap.size w w' := by
  have hok := dy_ok D.bound.1 D.bound.2
  have D0 := Lib.hid D
  obtain ⟨A, c, rfl, h1, h2, h3, h4, h5, h6⟩ := D
  have H3 := Lib.hid h3
  have HOK := Lib.hid hok
  have HL := Lib.hid hl
  clear h3 hok hl h6 h4
  obtain ⟨nb, hnb⟩ : ∃ nb, nb = decide (x < 0) := ⟨_, rfl⟩
  rw [← hnb] at HOK D0 ⊢
  clear hnb
  have b0 : Below w.heap.size w (w.alloc (.cells #[.bool nb, .slice A (canon x.natAbs).length c, .int .i64 (d : Int)] 76)) := ext_alloc (Below.refl _ _) _
  have r0 := RowD.new_ w [.bool nb, .slice A (canon x.natAbs).length c, .int .i64 (d : Int)] 76
  go_enter Tryd.func55, Tryd.ntmps55
  go_wp2_with fail
  go_at_call 59
  refine (pvalid_any nb A x.natAbs d c m _ (by simp; omega) (H3.out.below b0 hm) HL.out HOK.out).mono ?_
  rintro e w1 ⟨rfl, hb⟩
  have s0 := r0.below hb (by simp)
  have b1 := b0.trans (hb.mono (by simp))
  have k0 : w1.cell? ⟨w.heap.size, 0, none⟩ = some (.bool nb) := s0.cell 0
  have k1 : w1.cell? ⟨w.heap.size, 1, none⟩ = some (.slice A (canon x.natAbs).length c) := s0.cell 1
  have k2 : w1.cell? ⟨w.heap.size, 2, none⟩ = some (.int .i64 (d : Int)) := s0.cell 2
  clear hb r0 b0 s0
  go_wp2_with fail
  go_quiet (fail)
  go_wp2_with fail
  refine bodyPost_ret (v := .tuple #[.bool nb, .slice A (canon x.natAbs).length c, .int .i64 (d : Int)]) (by simp [results, Tryd.results55, go_sem]) rfl ⟨nb, A, _, c, rfl, rfl, below_drewN b1 _⟩
set_option maxRecDepth 100000 in
set_option maxHeartbeats 4000000 in
theorem psign_w {v : Value} {x : Int} {d lo m : Nat} {w : World} (D : DyR w lo m v x d) (hm : m ≤ w.heap.size) (hl : (canon x.natAbs).length ≤ 100000) :
    Calls Tryd.prog 50 #[v] w fun e w' => e = .returned (.int .i64 (sgI x)) ∧ Below w.heap.size w w' := by
  obtain ⟨nb, A, L, c, rfl, HD⟩ := D.form
  have D0 := Lib.hid D
  have b0 : Below w.heap.size w (w.alloc (.cells #[.bool nb, .slice A L c, .int .i64 (d : Int)] 76)) := ext_alloc (Below.refl _ _) _
  clear D
  by_cases hx : x = 0
  · have hL : (L : Int) = 0 := by have := HD.out.2.1; rw [hx] at this; simp [canon_zero] at this; omega
    have hLb : ((L : Int) == 0) = true := by rw [hL]; rfl
    have HV := Lib.hid (show sgI x = 0 by unfold sgI; rw [if_pos hx])
    have HL := Lib.hid hL
    clear hL hx
    go_enter Tryd.func50, Tryd.ntmps50
    go_wp2_with fail
    go_at_call 55
    refine (parts_w (D0.out.below b0 hm) (by simp; omega) hl).mono ?_
    rintro e w1 ⟨nb', A', L', c', he, rfl, hb⟩
    cases he
    go_wp2_with fail
    go_ret
    exact ⟨by rw [HV.out]; rfl, b0.trans (hb.mono (by simp))⟩
  · have hL : (L : Int) ≠ 0 := by have := HD.out.2.1; have h2 := canon_ne (n := x.natAbs) (by omega); omega
    have hLb : ((L : Int) == 0) = false := by rw [beq_eq_false_iff_ne]; exact hL
    have hnb := HD.out.1
    cases nb with
    | true =>
      have hx2 : x < 0 := by simpa using hnb.symm
      have HV := Lib.hid (show sgI x = -1 by unfold sgI; rw [if_neg hx, if_pos hx2])
      clear hL hx hnb hx2
      go_enter Tryd.func50, Tryd.ntmps50
      go_wp2_with fail
      go_at_call 55
      refine (parts_w (D0.out.below b0 hm) (by simp; omega) hl).mono ?_
      rintro e w1 ⟨nb', A', L', c', he, rfl, hb⟩
      cases he
      go_wp2_with fail
      go_ret
      exact ⟨by rw [HV.out]; rfl, b0.trans (hb.mono (by simp))⟩
    | false =>
      have hx2 : ¬ x < 0 := by simpa using hnb.symm
      have HV := Lib.hid (show sgI x = 1 by unfold sgI; rw [if_neg hx, if_neg hx2])
      clear hL hx hnb hx2
      go_enter Tryd.func50, Tryd.ntmps50
      go_wp2_with fail
      go_at_call 55
      refine (parts_w (D0.out.below b0 hm) (by simp; omega) hl).mono ?_
      rintro e w1 ⟨nb', A', L', c', he, rfl, hb⟩
      cases he
      go_wp2_with fail
      go_ret
      exact ⟨by rw [HV.out]; rfl, b0.trans (hb.mono (by simp))⟩
end Go.Proofs.YtaheedieingpiaaDoor
