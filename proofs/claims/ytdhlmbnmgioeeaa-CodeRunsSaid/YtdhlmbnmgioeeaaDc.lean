/- The normal form of a number, and the document's number. And more of the kind. No conditions. -/
import Derived.Test.YtdhlmbnmgioeeaaDb
import Derived.Deep.RegionHeld3
import Derived.Deep.DeepCutAuto
/- The normal form of a number, and the document's number. No conditions. -/
namespace Go.Proofs.Ytdhlmbnmgioeeaa
set_option linter.unusedVariables false
set_option linter.unusedSimpArgs false
set_option linter.unusedSectionVars false
open Go.RowKit

/-- m / 2^den without common factors. -/
def nf (m : Int) : Nat → Int × Nat
  | 0 => (m, 0)
  | d + 1 => if m % 2 = 0 then nf (m / 2) d else (m, d + 1)
def sg (neg : Bool) (n : Nat) : Int := if neg = true then -(n : Int) else n
theorem nf_zero (d : Nat) : nf 0 d = (0, 0) := by
  induction d with
  | zero => rfl
  | succ d ih => simp [nf, ih]
theorem nf_le (m : Int) (d : Nat) : (nf m d).2 ≤ d := by
  induction d generalizing m with
  | zero => exact Nat.le_refl _
  | succ d ih =>
    unfold nf
    split
    · have := ih (m / 2); omega
    · exact Nat.le_refl _
theorem nf_odd (m : Int) (d : Nat) : (nf m d).2 ≠ 0 → (nf m d).1 % 2 = 1 := by
  induction d generalizing m with
  | zero => simp [nf]
  | succ d ih =>
    unfold nf
    split
    · exact ih _
    · intro _
      simp
      omega
theorem nf_done {m : Int} {d : Nat} (h : d ≠ 0 → m % 2 = 1) : nf m d = (m, d) := by
  cases d with
  | zero => rfl
  | succ d =>
    have := h (by omega)
    simp [nf, this]
theorem nf_eq (m : Int) (d : Nat) : (nf m d).1 * 2 ^ d = m * 2 ^ (nf m d).2 := by
  induction d generalizing m with
  | zero => rfl
  | succ d ih =>
    unfold nf
    split
    · rename_i h
      rw [Int.pow_succ, ← Int.mul_assoc, ih]
      have : m = m / 2 * 2 := by omega
      rw [Int.mul_assoc, Int.mul_comm (2 ^ _) 2, ← Int.mul_assoc, ← this]
    · rfl
theorem nf_abs_le (m : Int) (d : Nat) : (nf m d).1.natAbs ≤ m.natAbs := by
  induction d generalizing m with
  | zero => exact Nat.le_refl _
  | succ d ih =>
    unfold nf
    split
    · have := ih (m / 2); omega
    · exact Nat.le_refl _
theorem sg_abs (neg : Bool) (n : Nat) : (sg neg n).natAbs = n := by
  unfold sg
  split <;> omega
theorem sg_neg {neg : Bool} {n : Nat} (h : n ≠ 0) : decide (sg neg n < 0) = neg := by
  unfold sg
  cases neg <;> simp <;> omega
theorem sg_back (m : Int) : sg (decide (m < 0)) m.natAbs = m := by
  unfold sg
  by_cases h : m < 0
  · simp [h]; omega
  · simp [h]; omega
theorem nf_step {neg : Bool} {n k den : Nat} (hk : k < den) (h : n / 2 ^ k % 2 = 0) : nf (sg neg (n / 2 ^ k)) (den - k) = nf (sg neg (n / 2 ^ (k + 1))) (den - (k + 1)) := by
  rw [Nat.pow_succ, ← Nat.div_div_eq_div_mul, show den - k = (den - (k + 1)) + 1 by omega]
  generalize n / 2 ^ k = y at *
  show (if sg neg y % 2 = 0 then nf (sg neg y / 2) (den - (k + 1)) else _) = _
  have e1 : sg neg y % 2 = 0 := by unfold sg; split <;> omega
  have e2 : sg neg y / 2 = sg neg (y / 2) := by unfold sg; split <;> omega
  rw [if_pos e1, e2]

theorem canon_len_mono {a b : Nat} (h : a ≤ b) : (canon a).length ≤ (canon b).length := by
  refine canon_len_le (Nat.lt_of_le_of_lt h ?_)
  have := wval_lt (canon_ok b)
  rwa [wval_canon] at this
theorem nat_beq_zero (y : Nat) : (((y : Nat) : Int) == 0) = (y == 0) := by
  by_cases h : y = 0
  · subst h; rfl
  · have h2 : (((y : Nat) : Int) == 0) = false := by rw [beq_eq_false_iff_ne]; omega
    have h3 : (y == 0) = false := by rw [beq_eq_false_iff_ne]; omega
    rw [h2, h3]
theorem nu_bit {a : List Nat} {k x : Nat} (h : wordsOk a) (hx : x < 4294967296) (hg : a[k / 32]?.getD 0 = x) : (bits .and .u32 ((x : Int) / 2 ^ (k % 32)) 1 == 0) = (wval a / 2 ^ k % 2 == 0) := by
  rw [bit_u32 hx, wval_bit h, hg]
  exact nat_beq_zero _
theorem nu_mod {n k : Nat} (h : n % 2 ^ k = 0) (hz : n / 2 ^ k % 2 = 0) : n % 2 ^ (k + 1) = 0 := by
  rw [Nat.pow_succ, Nat.mod_mul, h, hz]
  simp
/-- The value v is the number x / 2^d in its normal form; its words lie in blocks from lo to hi. -/
def DyR (w : World) (lo hi : Nat) (v : Value) (x : Int) (d : Nat) : Prop :=
  ∃ A c, v = .agg #[.bool (decide (x < 0)), .slice A (canon x.natAbs).length c, .int .i64 (d : Int)] ∧ (A = none → c = 0) ∧ (canon x.natAbs).length ≤ c ∧ CellsAt w hi A (w32 (canon x.natAbs)) ∧
    (∀ a, A = some a → lo ≤ a.block) ∧ d ≤ 65536 ∧ (d ≠ 0 → x % 2 = 1)
theorem DyR.zero_ (w : World) (lo hi : Nat) : DyR w lo hi (.agg #[.bool false, .slice none 0 0, .int .i64 0]) 0 0 := by
  refine ⟨none, 0, ?_, fun _ => rfl, ?_, ?_, by simp, by omega, by simp⟩
  · rw [show (0 : Int).natAbs = 0 by rfl, canon_zero]; rfl
  · rw [show (0 : Int).natAbs = 0 by rfl, canon_zero]; exact Nat.le_refl _
  · rw [show (0 : Int).natAbs = 0 by rfl, canon_zero]; exact CellsAt.nil_
def n0Rel (w : World) (i : Value) (wr : World) : Prop := i = .int .i64 0 ∧ w = wr
theorem res_number {tmps : Array Value} {w : World} {b : Nat} {v0 v1 v2 : Value} (h2 : tmps.getD 6 undef = .pointer (some ⟨b, 0, none⟩)) (hB : RowD w b [v0, v1, v2] 75) :
    (results Try.f48 tmps).run Try.prog w = .ok (.agg #[v0, v1, v2]) w := by
  have k0 := hB.cell 0
  have k1 := hB.cell 1
  have k2 := hB.cell 2
  simp at k0 k1 k2
  simp at h2
  simp [results, Try.results48, go_sem, h2, k0, k1, k2]
/-- Where the loop over the zeros stands. -/
def nuRel (n den : Nat) (neg : Bool) (w : World) (i : Value) (wr : World) : Prop :=
  ∃ k : Nat, k ≤ den ∧ k ≤ 32 * (canon n).length ∧ i = .int .i64 (k : Int) ∧ n % 2 ^ k = 0 ∧ nf (sg neg n) den = nf (sg neg (n / 2 ^ k)) (den - k) ∧ w = wr
set_option maxRecDepth 100000 in
set_option maxHeartbeats 8000000 in
theorem number_any (neg : Bool) (A : Option Addr) (ws : List Nat) (c den m : Nat) (w : World) (hm : m ≤ w.heap.size) (h1 : CellsAt w m A (w32 ws)) (hc : ws.length ≤ c) (ha : wordsOk ws) (l1 : ws.length ≤ 100000) (hd : den ≤ 65536) :
    Calls Try.prog 48 #[.bool neg, .slice A ws.length c, .int .i64 (den : Int)] w fun e w' =>
      ∃ v, e = .returned v ∧ DyR w' w.heap.size w'.heap.size v (nf (sg neg (wval ws)) den).1 (nf (sg neg (wval ws)) den).2 ∧ Below w.heap.size w w' := by
  have hcan := trim_canon ha
  have hlen : (canon (wval ws)).length ≤ ws.length := by
    rw [← hcan, trimL_len]
    exact trimN_le _ _
  have HCAN := Lib.hid hcan
  have H1 := Lib.hid h1
  have hct := h1.takeW (trimN ws ws.length)
  rw [show ws.take (trimN ws ws.length) = canon (wval ws) from hcan] at hct
  have HCT := Lib.hid hct
  obtain ⟨n, hn⟩ : ∃ n, n = wval ws := ⟨_, rfl⟩
  rw [← hn] at HCT HCAN hlen ⊢
  have l2 : (canon n).length ≤ 100000 := by omega
  have l3 : (canon n).length ≤ c := by omega
  have l4 : ws.length ≤ 1000000 := by omega
  clear h1 ha hcan hct hn
  have b0 : Below w.heap.size w (w.alloc (.cells #[.bool false, .slice none 0 0, .int .i64 0] 75)) := ext_alloc (Below.refl _ _) _
  have r0 := RowD.new_ w [.bool false, .slice none 0 0, .int .i64 0] 75
  go_enter Try.func48, Try.ntmps48
  go_wp2_with (go_at_call 56; refine (trim_any A ws c m _ (H1.out.below b0 hm) hc l4).mono ?_; rintro e w3 ⟨rfl, rfl⟩)
  rw [HCAN.out]
  by_cases hn0 : n = 0
  · subst hn0
    have hr : nf (sg neg 0) den = (0, 0) := by
      rw [show sg neg 0 = 0 by unfold sg; split <;> rfl]
      exact nf_zero den
    have HR := Lib.hid hr
    clear hr
    rw [canon_zero] at HCT ⊢
    clear l2 l3 hlen
    go_loopw [7] (fun i wr => n0Rel (w.alloc (.cells #[.bool false, .slice none 0 0, .int .i64 0] 75)) i wr) (fun i _ => 0)
    case atStart => exact ⟨rfl, rfl⟩
    case round =>
      obtain ⟨rfl, rfl⟩ := hrel
      have i9 : ¬ (65536 : Int) < (den : Int) := by omega
      by_cases hlt : den = 0
      · subst hlt
        go_wp2_with (go_at_call 57
                     refine (right_any _ [] c 0 m _ (by simp; omega) (HCT.out.below b0 hm) (by simp [wordsOk]) (by simp) (by omega)).mono ?_
                     rintro e w2 ⟨G, g, rfl, hG, hg, hcG, hb2⟩
                     rw [show wval [] / 2 ^ 0 = 0 by rfl, canon_zero]
                     have hsz2 := hb2.size
                     simp at hsz2
                     have hszl : w.heap.size < w2.heap.size := by omega
                     obtain ⟨qc, qf, qs, qz⟩ := ext_at (m := w.heap.size + 1) hb2 (by simp) (by simp)
                     have r4 := r0.below hb2 (by simp)
                     have bb4 := b0.trans (hb2.mono (by simp)))
        refine bodyPost_ret (res_number rfl (((r4.set_ 0 _).set_ 1 _).set_ 2 _)) rfl ⟨_, rfl, ?_, ((bb4.setCell (by simp) _).setCell (by simp) _).setCell (by simp) _⟩
        rw [HR.out]
        exact DyR.zero_ _ _ _
      · have i1 : 0 < den := by omega
        have i2 : (0 : Int) < (den : Int) := by omega
        clear hlt
        go_wp2_with (go_at_call 57
                     refine (right_any _ [] c 0 m _ (by simp; omega) (HCT.out.below b0 hm) (by simp [wordsOk]) (by simp) (by omega)).mono ?_
                     rintro e w2 ⟨G, g, rfl, hG, hg, hcG, hb2⟩
                     rw [show wval [] / 2 ^ 0 = 0 by rfl, canon_zero]
                     have hsz2 := hb2.size
                     simp at hsz2
                     have hszl : w.heap.size < w2.heap.size := by omega
                     obtain ⟨qc, qf, qs, qz⟩ := ext_at (m := w.heap.size + 1) hb2 (by simp) (by simp)
                     have r4 := r0.below hb2 (by simp)
                     have bb4 := b0.trans (hb2.mono (by simp)))
        refine bodyPost_ret (res_number rfl (((r4.set_ 0 _).set_ 1 _).set_ 2 _)) rfl ⟨_, rfl, ?_, ((bb4.setCell (by simp) _).setCell (by simp) _).setCell (by simp) _⟩
        rw [HR.out]
        exact DyR.zero_ _ _ _
  · have HN0 := Lib.hid hn0
    have hn1 := canon_ne hn0
    clear hn0
    go_loopw [7] (fun i wr => nuRel n den neg (w.alloc (.cells #[.bool false, .slice none 0 0, .int .i64 0] 75)) i wr) (fun i _ => den - (intOf i).toNat)
    case atStart => exact ⟨0, Nat.zero_le _, Nat.zero_le _, rfl, Nat.mod_one _, by simp, rfl⟩
    case round =>
      skip
      obtain ⟨k, hk, hkl, rfl, hmod, hnf, rfl⟩ := hrel
      have HNF := Lib.hid hnf
      have HMOD := Lib.hid hmod
      clear hnf hmod
      have i9 : ¬ (65536 : Int) < (den : Int) - (k : Int) := by omega
      by_cases hlt : k < den
      · have i1 : (k : Int) < (den : Int) := by omega
        have hlt2 : k < 32 * (canon n).length := by
          rcases Nat.lt_or_ge k (32 * (canon n).length) with h | h
          · exact h
          · exfalso
            have h2 := wval_lt (canon_ok n)
            rw [wval_canon, show (4294967296 : Nat) = 2 ^ 32 by decide, ← Nat.pow_mul, show 32 * (canon n).length = k by omega] at h2
            have h3 := HMOD.out
            rw [Nat.mod_eq_of_lt h2] at h3
            exact HN0.out h3
        obtain ⟨q, hq⟩ : ∃ q, q = k / 32 := ⟨_, rfl⟩
        have hka : q < (canon n).length := by omega
        obtain ⟨b1, o1, x, rfl, q1, _, hx, g1'⟩ := HCT.out.w32_ hka
        have g1 := (b0.cell (p := ⟨b1, o1 + q, none⟩) (Nat.lt_of_lt_of_le q1 hm)).trans g1'
        have bx := canon_ok n x (List.mem_of_getElem? hx)
        have hbit := rg_bit (canon_ok n) bx (show (canon n)[k / 32]?.getD 0 = x by rw [← hq, hx]; rfl)
        have hbit0 := nu_bit (canon_ok n) bx (show (canon n)[k / 32]?.getD 0 = x by rw [← hq, hx]; rfl)
        rw [wval_canon] at hbit hbit0
        have i2 : (k : Int) < 32 * ((canon n).length : Int) := by omega
        have i3 : (k : Int) / 32 = (q : Int) := by omega
        have i4 : (q : Int) < ((canon n).length : Int) := by omega
        clear hq hx g1' hbit
        by_cases hz : n / 2 ^ k % 2 = 0
        · have hb0 : (bits .and .u32 ((x : Int) / 2 ^ (k % 32)) 1 == 0) = true := by rw [hbit0, hz]; rfl
          have HZ := Lib.hid hz
          clear hbit0 hz
          go_wp2_with fail
          refine ⟨⟨k + 1, by omega, by omega, by go_num, nu_mod HMOD.out HZ.out, HNF.out.trans (nf_step hlt HZ.out), rfl⟩, by simp [intOf]; omega⟩
        · have hb0 : (bits .and .u32 ((x : Int) / 2 ^ (k % 32)) 1 == 0) = false := by rw [hbit0]; simp; omega
          have hodd : den - k ≠ 0 → n / 2 ^ k % 2 = 1 := fun _ => by omega
          have hy0 : n / 2 ^ k ≠ 0 := fun h => by rw [h] at hz; exact hz rfl
          clear hbit0 hz
          obtain ⟨y, hy⟩ : ∃ y, y = n / 2 ^ k := ⟨_, rfl⟩
          rw [← hy] at hodd hy0
          have HRES := Lib.hid (show nf (sg neg n) den = (sg neg y, den - k) by rw [HNF.out, ← hy]; exact nf_done (fun h => by have := hodd h; unfold sg; split <;> omega))
          have HY := Lib.hid hy
          have HODD := Lib.hid hodd
          have HY0 := Lib.hid hy0
          have hp := canon_ne hy0
          have e0 : (((canon y).length : Int) == 0) = false := by rw [beq_eq_false_iff_ne]; omega
          have hyl : (canon y).length ≤ 100000 := by
            refine Nat.le_trans (canon_len_mono ?_) l2
            rw [hy]
            exact Nat.div_le_self _ _
          clear hy hodd hy0 hp
          go_wp2_with (first
            | (go_at_call 57
               refine (right_any _ (canon n) c k m _ (by simp; omega) (HCT.out.below b0 hm) (canon_ok n) l2 (by omega)).mono ?_
               rintro e w2 ⟨G, g, rfl, hG, hg, hcG, hb2⟩
               rw [wval_canon, ← HY.out] at hg hcG ⊢
               have hsz2 := hb2.size
               simp at hsz2
               have hszl : w.heap.size < w2.heap.size := by omega)
            | (at_builtin
               refine app_w rfl _ _ rfl w2.heap.size _ [] (canon y) G g w2.heap.size rfl (OwnW.lit0 (Nat.le_refl _)) rfl hG (hcG.below ((Below.refl w2.heap.size w2).alloc (Nat.le_refl _) _) (Nat.le_refl _)) (by simp; omega) (by simp) ?_
               intro v' w4 hown4 hg4 hb4
               rw [List.nil_append] at hown4
               obtain ⟨A', c', rfl, _, _⟩ := hown4.view
               have hall : Below (w.heap.size + 1) (w.alloc (.cells #[.bool false, .slice none 0 0, .int .i64 0] 75)) w4 := (hb2.mono (by simp)).trans ((((Below.refl (w.heap.size + 1) w2).alloc (by omega) _)).trans (hb4.mono (by omega)))
               have hsz4 := hb4.size
               simp at hsz4
               have hsz5 : w.heap.size < w4.heap.size := by omega
               have r4 := r0.below hall (by simp)
               have bb4 := b0.trans (hall.mono (by simp))
               clear hb2 hb4 hg4
               obtain ⟨qc, qf, qs, qz⟩ := ext_at (m := w.heap.size + 1) hall (by simp) (by simp)))
          have hown5 : OwnW (((w4.setCell ⟨w.heap.size, 0, none⟩ (.bool neg)).setCell ⟨w.heap.size, 1, none⟩ (.slice A' (canon y).length c')).setCell ⟨w.heap.size, 2, none⟩ (.int .i64 ((den : Int) - (k : Int)))) w2.heap.size (.slice A' (canon y).length c') (canon y) := ownsRow_setCell_below (ownsRow_setCell_below (ownsRow_setCell_below hown4 (by simp; omega) _) (by simp; omega) _) (by simp; omega) _
          refine bodyPost_ret (res_number rfl (((r4.set_ 0 _).set_ 1 _).set_ 2 _)) rfl ⟨_, rfl, ?_, ((bb4.setCell (by simp) _).setCell (by simp) _).setCell (by simp) _⟩
          rw [HRES.out]
          obtain ⟨_, hcl, hn', hc'⟩ := hown5.cap_
          refine ⟨A', c', ?_, hn', ?_, ?_, ?_, by show den - k ≤ 65536; omega, ?_⟩
          · rw [sg_abs, sg_neg HY0.out]
            have : (den : Int) - (k : Int) = ((den - k : Nat) : Int) := by omega
            rw [this]
          · rw [sg_abs]; exact hcl
          · rw [sg_abs]; exact hc'
          · intro a ha
            have := (World.ownsRow.lt hown5 a.block (by rw [ha]; rfl)).1
            omega
          · intro h
            have := HODD.out h
            show sg neg y % 2 = 1
            unfold sg
            split <;> omega
      · have hkd : k = den := by omega
        have i1 : ¬ (k : Int) < (den : Int) := by omega
        have hodd : den - k ≠ 0 → n / 2 ^ k % 2 = 1 := fun h => by omega
        have hy0 : n / 2 ^ k ≠ 0 := fun h => by
          have h2 := Nat.div_add_mod n (2 ^ k)
          rw [h, HMOD.out] at h2
          exact HN0.out (by omega)
        clear hkd
        obtain ⟨y, hy⟩ : ∃ y, y = n / 2 ^ k := ⟨_, rfl⟩
        rw [← hy] at hodd hy0
        have HRES := Lib.hid (show nf (sg neg n) den = (sg neg y, den - k) by rw [HNF.out, ← hy]; exact nf_done (fun h => by have := hodd h; unfold sg; split <;> omega))
        have HY := Lib.hid hy
        have HODD := Lib.hid hodd
        have HY0 := Lib.hid hy0
        have hp := canon_ne hy0
        have e0 : (((canon y).length : Int) == 0) = false := by rw [beq_eq_false_iff_ne]; omega
        have hyl : (canon y).length ≤ 100000 := by
          refine Nat.le_trans (canon_len_mono ?_) l2
          rw [hy]
          exact Nat.div_le_self _ _
        clear hy hodd hy0 hp
        go_wp2_with (first
          | (go_at_call 57
             refine (right_any _ (canon n) c k m _ (by simp; omega) (HCT.out.below b0 hm) (canon_ok n) l2 (by omega)).mono ?_
             rintro e w2 ⟨G, g, rfl, hG, hg, hcG, hb2⟩
             rw [wval_canon, ← HY.out] at hg hcG ⊢
             have hsz2 := hb2.size
             simp at hsz2
             have hszl : w.heap.size < w2.heap.size := by omega)
          | (at_builtin
             refine app_w rfl _ _ rfl w2.heap.size _ [] (canon y) G g w2.heap.size rfl (OwnW.lit0 (Nat.le_refl _)) rfl hG (hcG.below ((Below.refl w2.heap.size w2).alloc (Nat.le_refl _) _) (Nat.le_refl _)) (by simp; omega) (by simp) ?_
             intro v' w4 hown4 hg4 hb4
             rw [List.nil_append] at hown4
             obtain ⟨A', c', rfl, _, _⟩ := hown4.view
             have hall : Below (w.heap.size + 1) (w.alloc (.cells #[.bool false, .slice none 0 0, .int .i64 0] 75)) w4 := (hb2.mono (by simp)).trans ((((Below.refl (w.heap.size + 1) w2).alloc (by omega) _)).trans (hb4.mono (by omega)))
             have hsz4 := hb4.size
             simp at hsz4
             have hsz5 : w.heap.size < w4.heap.size := by omega
             have r4 := r0.below hall (by simp)
             have bb4 := b0.trans (hall.mono (by simp))
             clear hb2 hb4 hg4
             obtain ⟨qc, qf, qs, qz⟩ := ext_at (m := w.heap.size + 1) hall (by simp) (by simp)))
        have hown5 : OwnW (((w4.setCell ⟨w.heap.size, 0, none⟩ (.bool neg)).setCell ⟨w.heap.size, 1, none⟩ (.slice A' (canon y).length c')).setCell ⟨w.heap.size, 2, none⟩ (.int .i64 ((den : Int) - (k : Int)))) w2.heap.size (.slice A' (canon y).length c') (canon y) := ownsRow_setCell_below (ownsRow_setCell_below (ownsRow_setCell_below hown4 (by simp; omega) _) (by simp; omega) _) (by simp; omega) _
        refine bodyPost_ret (res_number rfl (((r4.set_ 0 _).set_ 1 _).set_ 2 _)) rfl ⟨_, rfl, ?_, ((bb4.setCell (by simp) _).setCell (by simp) _).setCell (by simp) _⟩
        rw [HRES.out]
        obtain ⟨_, hcl, hn', hc'⟩ := hown5.cap_
        refine ⟨A', c', ?_, hn', ?_, ?_, ?_, by show den - k ≤ 65536; omega, ?_⟩
        · rw [sg_abs, sg_neg HY0.out]
          have : (den : Int) - (k : Int) = ((den - k : Nat) : Int) := by omega
          rw [this]
        · rw [sg_abs]; exact hcl
        · rw [sg_abs]; exact hc'
        · intro a ha
          have := (World.ownsRow.lt hown5 a.block (by rw [ha]; rfl)).1
          omega
        · intro h
          have := HODD.out h
          show sg neg y % 2 = 1
          unfold sg
          split <;> omega
end Go.Proofs.Ytdhlmbnmgioeeaa

/- The document's dyadic numbers as values: Norm, number and Sign in short; Neg and Abs. No conditions. -/
namespace Go.Proofs.Ytdhlmbnmgioeeaa
set_option linter.unusedVariables false
set_option linter.unusedSimpArgs false
set_option linter.unusedSectionVars false
open Go.RowKit

theorem DyR.below {w w' : World} {lo hi B d : Nat} {v : Value} {x : Int} (h : DyR w lo hi v x d) (hb : Below B w w') (hB : hi ≤ B) : DyR w' lo hi v x d := by
  obtain ⟨A, c, e, h1, h2, h3, h4, h5, h6⟩ := h
  exact ⟨A, c, e, h1, h2, h3.below hb hB, h4, h5, h6⟩
theorem DyR.more {w : World} {lo hi hi' d : Nat} {v : Value} {x : Int} (h : DyR w lo hi v x d) (hB : hi ≤ hi') : DyR w lo hi' v x d := by
  obtain ⟨A, c, e, h1, h2, h3, h4, h5, h6⟩ := h
  exact ⟨A, c, e, h1, h2, h3.more hB, h4, h5, h6⟩
theorem DyR.low {w : World} {lo lo' hi d : Nat} {v : Value} {x : Int} (h : DyR w lo hi v x d) (hB : lo' ≤ lo) : DyR w lo' hi v x d := by
  obtain ⟨A, c, e, h1, h2, h3, h4, h5, h6⟩ := h
  exact ⟨A, c, e, h1, h2, h3, fun a ha => Nat.le_trans hB (h4 a ha), h5, h6⟩
theorem CellsAt.setD {w : World} {m : Nat} {A : Option Addr} {xs : List Value} (h : CellsAt w m A xs) {b j : Nat} (u : Value) (hA : ∀ a : Addr, A = some a → a.block ≠ b) : CellsAt (w.setCell ⟨b, j, none⟩ u) m A xs := fun hx => by
  obtain ⟨g, off, rfl, hbm, hbs, hc⟩ := h hx
  refine ⟨g, off, rfl, hbm, by simpa using hbs, fun i u hu => ?_⟩
  have hne : g ≠ b := hA _ rfl
  rw [World.cell?_setCell_other _ _ _ _ (by first | (simp; omega) | simp_all)]
  exact hc i u hu
theorem DyR.set_ {w : World} {lo hi d b : Nat} {v : Value} {x : Int} (h : DyR w lo hi v x d) (hb : b < lo) (j : Nat) (u : Value) : DyR (w.setCell ⟨b, j, none⟩ u) lo hi v x d := by
  obtain ⟨A, c, e, h1, h2, h3, h4, h5, h6⟩ := h
  exact ⟨A, c, e, h1, h2, h3.setD u (fun a ha h0 => by have := h4 a ha; omega), h4, h5, h6⟩
/-- The three parts, with their meaning behind a seal. -/
theorem DyR.form {w : World} {lo hi d : Nat} {v : Value} {x : Int} (h : DyR w lo hi v x d) : ∃ nb A L c, v = .agg #[.bool nb, .slice A L c, .int .i64 (d : Int)] ∧
    Hid (nb = decide (x < 0) ∧ L = (canon x.natAbs).length ∧ (A = none → c = 0) ∧ L ≤ c ∧ CellsAt w hi A (w32 (canon x.natAbs)) ∧ d ≤ 65536 ∧ (d ≠ 0 → x % 2 = 1)) := by
  obtain ⟨A, c, e, h1, h2, h3, h4, h5, h6⟩ := h
  exact ⟨_, A, _, c, e, Lib.hid ⟨rfl, rfl, h1, h2, h3, h5, h6⟩⟩
theorem dy_ok {x : Int} {d : Nat} (h5 : d ≤ 65536) (h6 : d ≠ 0 → x % 2 = 1) : DyOk (decide (x < 0)) x.natAbs d := by
  refine ⟨fun h => ?_, h5, fun h => by have := h6 h; omega⟩
  have hx : x = 0 := by omega
  subst hx
  refine ⟨by simp, ?_⟩
  rcases Nat.eq_zero_or_pos d with h | h
  · exact h
  · have := h6 (by omega)
    omega
theorem nf_id {x : Int} {d : Nat} (h6 : d ≠ 0 → x % 2 = 1) : nf x d = (x, d) := nf_done h6
theorem norm_w {v : Value} {x : Int} {d lo m : Nat} {w : World} (D : DyR w lo m v x d) (hm : m ≤ w.heap.size) (hl : (canon x.natAbs).length ≤ 100000) :
    Calls Try.prog 49 #[v] w fun e w' => e = .returned v ∧ Below w.heap.size w w' := by
  obtain ⟨A, c, rfl, h1, h2, h3, h4, h5, h6⟩ := D
  exact norm_any _ A _ d c m w hm h3 hl (dy_ok h5 h6)
def sgI (x : Int) : Int := if x = 0 then 0 else if x < 0 then -1 else 1
theorem sign_w {v : Value} {x : Int} {d lo m : Nat} {w : World} (D : DyR w lo m v x d) (hm : m ≤ w.heap.size) (hl : (canon x.natAbs).length ≤ 100000) :
    Calls Try.prog 47 #[v] w fun e w' => e = .returned (.int .i64 (sgI x)) ∧ Below w.heap.size w w' := by
  obtain ⟨A, c, rfl, h1, h2, h3, h4, h5, h6⟩ := D
  refine (sign_any _ A _ d c m w hm h3 hl (dy_ok h5 h6)).mono ?_
  rintro e w' ⟨rfl, hb⟩
  refine ⟨?_, hb⟩
  have : sgn (decide (x < 0)) x.natAbs = sgI x := by
    unfold sgn sgI
    by_cases h0 : x = 0
    · subst h0; rfl
    · rw [if_neg (by omega), if_neg h0]
      by_cases h1 : x < 0
      · simp [h1]
      · simp [h1]
  rw [this]
/-- number, for words without leading zeros. -/
theorem number_w {neg : Bool} {A : Option Addr} {L c n d m : Nat} {w : World} (hL : L = (canon n).length) (hc : CellsAt w m A (w32 (canon n))) (hcap : L ≤ c) (hm : m ≤ w.heap.size) (hl : (canon n).length ≤ 100000) (hd : d ≤ 65536) :
    Calls Try.prog 48 #[.bool neg, .slice A L c, .int .i64 (d : Int)] w fun e w' =>
      ∃ v, e = .returned v ∧ DyR w' w.heap.size w'.heap.size v (nf (sg neg n) d).1 (nf (sg neg n) d).2 ∧ Below w.heap.size w w' := by
  subst hL
  have h := number_any neg A (canon n) c d m w hm hc hcap (canon_ok n) hl hd
  rw [wval_canon] at h
  exact h
theorem RowD.other_ {w : World} {b t : Nat} {vs : List Value} (h : RowD w b vs t) {k : Nat} (hk : b ≠ k) (j : Nat) (u : Value) : RowD (w.setCell ⟨k, j, none⟩ u) b vs t := by
  unfold RowD
  rw [heap_setCell_other _ _ _ _ hk]
  exact h
theorem res_Neg {tmps : Array Value} {w : World} {b : Nat} {v0 v1 v2 : Value} (h2 : tmps.getD 2 undef = .pointer (some ⟨b, 0, none⟩)) (hB : RowD w b [v0, v1, v2] 75) :
    (results Try.f39 tmps).run Try.prog w = .ok (.agg #[v0, v1, v2]) w := by
  have k0 := hB.cell 0
  have k1 := hB.cell 1
  have k2 := hB.cell 2
  simp at k0 k1 k2
  simp at h2
  simp [results, Try.results39, go_sem, h2, k0, k1, k2]
set_option maxRecDepth 100000 in
set_option maxHeartbeats 4000000 in
theorem neg_w {v : Value} {x : Int} {d lo m : Nat} {w : World} (D : DyR w lo m v x d) (hm : m ≤ w.heap.size) (hl : (canon x.natAbs).length ≤ 100000) :
    Calls Try.prog 39 #[v] w fun e w' => ∃ v', e = .returned v' ∧ DyR w' w.heap.size w'.heap.size v' (-x) d ∧ Below w.heap.size w w' := by
  obtain ⟨nb, A, L, c, rfl, HD⟩ := D.form
  have D' := Lib.hid D
  clear D
  have b0 : Below w.heap.size w ((w.alloc (.cells #[.bool nb, .slice A L c, .int .i64 (d : Int)] 75)).alloc (.cells #[.bool false, .slice none 0 0, .int .i64 0] 75)) := ext_alloc (ext_alloc (Below.refl _ _) _) _
  have r0 := (RowD.new_ (w.alloc (.cells #[.bool nb, .slice A L c, .int .i64 (d : Int)] 75)) [.bool false, .slice none 0 0, .int .i64 0] 75)
  rw [show (w.alloc (.cells #[.bool nb, .slice A L c, .int .i64 (d : Int)] 75)).heap.size = w.heap.size + 1 by simp] at r0
  go_enter Try.func39, Try.ntmps39
  go_wp2_with fail
  go_at_call 49
  refine (norm_w (D'.out.below b0 hm) (by simp; omega) hl).mono ?_
  rintro e w1 ⟨rfl, hb⟩
  obtain ⟨qc, qf, qs, qz⟩ := ext_at (m := w.heap.size + 2) hb (by simp) (by simp)
  have r1 := r0.below hb (by simp)
  have b1 := b0.trans (hb.mono (by simp; omega))
  clear hb r0 b0
  go_wp2_with fail
  go_at_call 48
  obtain ⟨W, hW⟩ : ∃ W, W = ((w1.setCell ⟨w.heap.size, 0, none⟩ (.bool nb)).setCell ⟨w.heap.size, 1, none⟩ (.slice A L c)).setCell ⟨w.heap.size, 2, none⟩ (.int .i64 (d : Int)) := ⟨_, rfl⟩
  have hWs : w.heap.size + 2 ≤ W.heap.size := by rw [hW]; simp; omega
  have b2 : Below w.heap.size w W := by rw [hW]; exact ((b1.setCell (by simp) _).setCell (by simp) _).setCell (by simp) _
  have r2 : RowD W (w.heap.size + 1) [.bool false, .slice none 0 0, .int .i64 0] 75 := by
    rw [hW]
    exact ((r1.other_ (by omega) _ _).other_ (by omega) _ _).other_ (by omega) _ _
  rw [← hW]
  clear hW qc qf qs qz r1 b1
  refine (number_w (n := x.natAbs) (m := m) HD.out.2.1 (HD.out.2.2.2.2.1.below b2 hm) HD.out.2.2.2.1 (by omega) hl HD.out.2.2.2.2.2.1).mono ?_
  rintro e w3 ⟨v', rfl, D3, hb3⟩
  obtain ⟨tc, tf, ts, tz⟩ := ext_at (m := w.heap.size + 2) hb3 hWs hWs
  have r3 := r2.below hb3 (by omega)
  have b3 := b2.trans (hb3.mono (by omega))
  have hval : nf (sg (!nb) x.natAbs) d = (-x, d) := by
    have e : sg (!nb) x.natAbs = -x := by
      rw [HD.out.1]
      unfold sg
      by_cases h : x < 0
      · simp [h]; omega
      · simp [h]; omega
    rw [e]
    exact nf_id (fun h => by have := HD.out.2.2.2.2.2.2 h; omega)
  rw [hval] at D3
  obtain ⟨nb3, A3, L3, c3, rfl, _⟩ := D3.form
  have D3' := Lib.hid D3
  have k0 : w3.cell? ⟨w.heap.size + 1, 0, none⟩ = some (.bool false) := r3.cell 0
  have k1 : w3.cell? ⟨w.heap.size + 1, 1, none⟩ = some (.slice none 0 0) := r3.cell 1
  have k2 : w3.cell? ⟨w.heap.size + 1, 2, none⟩ = some (.int .i64 0) := r3.cell 2
  have kf := r3.free
  clear D3 hb3 r2 b2 hval tc tf
  go_wp2_with fail
  refine bodyPost_ret (res_Neg rfl (((r3.set_ 0 _).set_ 1 _).set_ 2 _)) rfl ⟨_, rfl, ?_, ((b3.setCell (by simp) _).setCell (by simp) _).setCell (by simp) _⟩
  exact ((((D3'.out.set_ (by omega) 0 _).set_ (by omega) 1 _).set_ (by omega) 2 _).low (by omega)).more (by simp)
theorem res_Abs {tmps : Array Value} {w : World} {b : Nat} {v0 v1 v2 : Value} (h2 : tmps.getD 2 undef = .pointer (some ⟨b, 0, none⟩)) (hB : RowD w b [v0, v1, v2] 75) :
    (results Try.f40 tmps).run Try.prog w = .ok (.agg #[v0, v1, v2]) w := by
  have k0 := hB.cell 0
  have k1 := hB.cell 1
  have k2 := hB.cell 2
  simp at k0 k1 k2
  simp at h2
  simp [results, Try.results40, go_sem, h2, k0, k1, k2]
set_option maxRecDepth 100000 in
set_option maxHeartbeats 4000000 in
theorem abs_w {v : Value} {x : Int} {d lo m : Nat} {w : World} (D : DyR w lo m v x d) (hm : m ≤ w.heap.size) (hl : (canon x.natAbs).length ≤ 100000) :
    Calls Try.prog 40 #[v] w fun e w' => ∃ v', e = .returned v' ∧ DyR w' w.heap.size w'.heap.size v' (((x.natAbs : Nat) : Int)) d ∧ Below w.heap.size w w' := by
  obtain ⟨nb, A, L, c, rfl, HD⟩ := D.form
  have D' := Lib.hid D
  clear D
  have b0 : Below w.heap.size w ((w.alloc (.cells #[.bool nb, .slice A L c, .int .i64 (d : Int)] 75)).alloc (.cells #[.bool false, .slice none 0 0, .int .i64 0] 75)) := ext_alloc (ext_alloc (Below.refl _ _) _) _
  have r0 := (RowD.new_ (w.alloc (.cells #[.bool nb, .slice A L c, .int .i64 (d : Int)] 75)) [.bool false, .slice none 0 0, .int .i64 0] 75)
  rw [show (w.alloc (.cells #[.bool nb, .slice A L c, .int .i64 (d : Int)] 75)).heap.size = w.heap.size + 1 by simp] at r0
  go_enter Try.func40, Try.ntmps40
  go_wp2_with fail
  go_at_call 49
  refine (norm_w (D'.out.below b0 hm) (by simp; omega) hl).mono ?_
  rintro e w1 ⟨rfl, hb⟩
  obtain ⟨qc, qf, qs, qz⟩ := ext_at (m := w.heap.size + 2) hb (by simp) (by simp)
  have r1 := r0.below hb (by simp)
  have b1 := b0.trans (hb.mono (by simp; omega))
  clear hb r0 b0
  go_wp2_with fail
  go_at_call 48
  obtain ⟨W, hW⟩ : ∃ W, W = ((w1.setCell ⟨w.heap.size, 0, none⟩ (.bool nb)).setCell ⟨w.heap.size, 1, none⟩ (.slice A L c)).setCell ⟨w.heap.size, 2, none⟩ (.int .i64 (d : Int)) := ⟨_, rfl⟩
  have hWs : w.heap.size + 2 ≤ W.heap.size := by rw [hW]; simp; omega
  have b2 : Below w.heap.size w W := by rw [hW]; exact ((b1.setCell (by simp) _).setCell (by simp) _).setCell (by simp) _
  have r2 : RowD W (w.heap.size + 1) [.bool false, .slice none 0 0, .int .i64 0] 75 := by
    rw [hW]
    exact ((r1.other_ (by omega) _ _).other_ (by omega) _ _).other_ (by omega) _ _
  rw [← hW]
  clear hW qc qf qs qz r1 b1
  refine (number_w (n := x.natAbs) (m := m) HD.out.2.1 (HD.out.2.2.2.2.1.below b2 hm) HD.out.2.2.2.1 (by omega) hl HD.out.2.2.2.2.2.1).mono ?_
  rintro e w3 ⟨v', rfl, D3, hb3⟩
  obtain ⟨tc, tf, ts, tz⟩ := ext_at (m := w.heap.size + 2) hb3 hWs hWs
  have r3 := r2.below hb3 (by omega)
  have b3 := b2.trans (hb3.mono (by omega))
  have hval : nf (sg false x.natAbs) d = (((x.natAbs : Nat) : Int), d) := by
    exact nf_id (fun h => by have := HD.out.2.2.2.2.2.2 h; unfold sg; simp; omega)
  rw [hval] at D3
  obtain ⟨nb3, A3, L3, c3, rfl, _⟩ := D3.form
  have D3' := Lib.hid D3
  have k0 : w3.cell? ⟨w.heap.size + 1, 0, none⟩ = some (.bool false) := r3.cell 0
  have k1 : w3.cell? ⟨w.heap.size + 1, 1, none⟩ = some (.slice none 0 0) := r3.cell 1
  have k2 : w3.cell? ⟨w.heap.size + 1, 2, none⟩ = some (.int .i64 0) := r3.cell 2
  have kf := r3.free
  clear D3 hb3 r2 b2 hval tc tf
  go_wp2_with fail
  refine bodyPost_ret (res_Abs rfl (((r3.set_ 0 _).set_ 1 _).set_ 2 _)) rfl ⟨_, rfl, ?_, ((b3.setCell (by simp) _).setCell (by simp) _).setCell (by simp) _⟩
  exact ((((D3'.out.set_ (by omega) 0 _).set_ (by omega) 1 _).set_ (by omega) 2 _).low (by omega)).more (by simp)
end Go.Proofs.Ytdhlmbnmgioeeaa

/- The document's dyadic numbers: Of. No conditions. -/
namespace Go.Proofs.Ytdhlmbnmgioeeaa
set_option linter.unusedVariables false
set_option linter.unusedSimpArgs false
set_option linter.unusedSectionVars false
open Go.RowKit

theorem RowD.cells_ {w : World} {b t m : Nat} {vs : List Value} (h : RowD w b vs t) (hm : b < m) : CellsAt w m (some ⟨b, 0, none⟩) vs := fun _ => ⟨b, 0, rfl, hm, h.lt, fun j u hu => by
  have := h.cell j
  rw [Nat.zero_add, this]
  exact hu⟩
theorem of_words {lo hi : Nat} : wval [lo, hi] = lo + 4294967296 * hi := by simp [wval]
theorem of_ok {lo hi : Nat} (h1 : lo < 4294967296) (h2 : hi < 4294967296) : wordsOk [lo, hi] := by
  intro x hx
  simp at hx
  omega
theorem res_Of {tmps : Array Value} {w : World} {b : Nat} {v0 v1 v2 : Value} (h2 : tmps.getD 2 undef = .pointer (some ⟨b, 0, none⟩)) (hB : RowD w b [v0, v1, v2] 75) :
    (results Try.f36 tmps).run Try.prog w = .ok (.agg #[v0, v1, v2]) w := by
  have k0 := hB.cell 0
  have k1 := hB.cell 1
  have k2 := hB.cell 2
  simp at k0 k1 k2
  simp at h2
  simp [results, Try.results36, go_sem, h2, k0, k1, k2]
set_option maxRecDepth 100000 in
set_option maxHeartbeats 4000000 in
theorem of_any (n : Int) (h1 : -9223372036854775808 ≤ n) (h2 : n < 9223372036854775808) (w : World) :
    Calls Try.prog 36 #[.int .i64 n] w fun e w' => ∃ v', e = .returned v' ∧ DyR w' w.heap.size w'.heap.size v' n 0 ∧ Below w.heap.size w w' := by
  by_cases h : n < 0
  · as_aux_lemma =>
    obtain ⟨p, hp⟩ : ∃ p : Nat, -(n + 1) = (p : Int) := ⟨(-(n + 1)).toNat, by omega⟩
    obtain ⟨a, ha⟩ : ∃ a : Nat, (p : Int) + 1 = (a : Int) := ⟨p + 1, by omega⟩
    have hsg : sg true a = n := by unfold sg; simp; omega
    have hpb : p < 9223372036854775808 := by omega
    obtain ⟨lo, hlo⟩ : ∃ lo : Nat, (a : Int) % 4294967296 = (lo : Int) := ⟨(a % 4294967296 : Nat), by omega⟩
    obtain ⟨hi, hhi⟩ : ∃ hi : Nat, (a : Int) / 4294967296 = (hi : Int) := ⟨(a / 4294967296 : Nat), by omega⟩
    have hib : hi < 4294967296 := by omega
    have lob : lo < 4294967296 := by omega
    have hval : wval [lo, hi] = a := by rw [of_words]; omega
    have HSG := Lib.hid hsg
    have HV := Lib.hid hval
    clear hsg hval
    have b0 : Below w.heap.size w ((w.alloc (.cells #[.bool false, .slice none 0 0, .int .i64 0] 75)).alloc (.cells #[.int .u32 (lo : Int), .int .u32 (hi : Int)] 91)) := ext_alloc (ext_alloc (Below.refl _ _) _) _
    have r0 := (RowD.new_ w [.bool false, .slice none 0 0, .int .i64 0] 75).below ((Below.refl (w.heap.size + 1) _).alloc (by simp) (.cells #[.int .u32 (lo : Int), .int .u32 (hi : Int)] 91)) (by omega)
    have c0 : CellsAt ((w.alloc (.cells #[.bool false, .slice none 0 0, .int .i64 0] 75)).alloc (.cells #[.int .u32 (lo : Int), .int .u32 (hi : Int)] 91)) (w.heap.size + 2) (some ⟨w.heap.size + 1, 0, none⟩) (w32 [lo, hi]) := by
      have h := RowD.new_ (w.alloc (.cells #[.bool false, .slice none 0 0, .int .i64 0] 75)) (w32 [lo, hi]) 91
      rw [show (w.alloc (.cells #[.bool false, .slice none 0 0, .int .i64 0] 75)).heap.size = w.heap.size + 1 by simp] at h
      exact h.cells_ (by omega)
    go_enter Try.func36, Try.ntmps36
    go_wp2_with fail
    go_at_call 48
    refine (number_any true (some ⟨w.heap.size + 1, 0, none⟩) [lo, hi] 2 0 (w.heap.size + 2) _ (by simp) c0 (by simp) (of_ok lob hib) (by simp) (by omega)).mono ?_
    rintro e w3 ⟨v', rfl, D3, hb3⟩
    obtain ⟨tc, tf, ts, tz⟩ := ext_at (m := w.heap.size + 2) hb3 (by simp) (by simp)
    have r3 := r0.below hb3 (by simp; omega)
    have b3 := b0.trans (hb3.mono (by simp; omega))
    rw [HV.out, HSG.out] at D3
    have D3 : DyR w3 (w.heap.size + 2) w3.heap.size v' n 0 := D3.low (by simp)
    obtain ⟨nb3, A3, L3, c3, rfl, _⟩ := D3.form
    have D3' := Lib.hid D3
    have k0 : w3.cell? ⟨w.heap.size, 0, none⟩ = some (.bool false) := r3.cell 0
    have k1 : w3.cell? ⟨w.heap.size, 1, none⟩ = some (.slice none 0 0) := r3.cell 1
    have k2 : w3.cell? ⟨w.heap.size, 2, none⟩ = some (.int .i64 0) := r3.cell 2
    have kf := r3.free
    clear D3 hb3 r0 b0 c0 tc tf
    go_wp2_with fail
    refine bodyPost_ret (res_Of rfl (((r3.set_ 0 _).set_ 1 _).set_ 2 _)) rfl ⟨_, rfl, ?_, ((b3.setCell (by simp) _).setCell (by simp) _).setCell (by simp) _⟩
    exact ((((D3'.out.set_ (by omega) 0 _).set_ (by omega) 1 _).set_ (by omega) 2 _).low (by omega)).more (by simp)
  · as_aux_lemma =>
    obtain ⟨a, rfl⟩ : ∃ a : Nat, n = (a : Int) := ⟨n.toNat, by omega⟩
    have hsg : sg false a = (a : Int) := by unfold sg; simp
    obtain ⟨lo, hlo⟩ : ∃ lo : Nat, (a : Int) % 4294967296 = (lo : Int) := ⟨(a % 4294967296 : Nat), by omega⟩
    obtain ⟨hi, hhi⟩ : ∃ hi : Nat, (a : Int) / 4294967296 = (hi : Int) := ⟨(a / 4294967296 : Nat), by omega⟩
    have hib : hi < 4294967296 := by omega
    have lob : lo < 4294967296 := by omega
    have hval : wval [lo, hi] = a := by rw [of_words]; omega
    have HSG := Lib.hid hsg
    have HV := Lib.hid hval
    clear hsg hval
    have b0 : Below w.heap.size w ((w.alloc (.cells #[.bool false, .slice none 0 0, .int .i64 0] 75)).alloc (.cells #[.int .u32 (lo : Int), .int .u32 (hi : Int)] 91)) := ext_alloc (ext_alloc (Below.refl _ _) _) _
    have r0 := (RowD.new_ w [.bool false, .slice none 0 0, .int .i64 0] 75).below ((Below.refl (w.heap.size + 1) _).alloc (by simp) (.cells #[.int .u32 (lo : Int), .int .u32 (hi : Int)] 91)) (by omega)
    have c0 : CellsAt ((w.alloc (.cells #[.bool false, .slice none 0 0, .int .i64 0] 75)).alloc (.cells #[.int .u32 (lo : Int), .int .u32 (hi : Int)] 91)) (w.heap.size + 2) (some ⟨w.heap.size + 1, 0, none⟩) (w32 [lo, hi]) := by
      have h := RowD.new_ (w.alloc (.cells #[.bool false, .slice none 0 0, .int .i64 0] 75)) (w32 [lo, hi]) 91
      rw [show (w.alloc (.cells #[.bool false, .slice none 0 0, .int .i64 0] 75)).heap.size = w.heap.size + 1 by simp] at h
      exact h.cells_ (by omega)
    go_enter Try.func36, Try.ntmps36
    go_wp2_with fail
    go_at_call 48
    refine (number_any false (some ⟨w.heap.size + 1, 0, none⟩) [lo, hi] 2 0 (w.heap.size + 2) _ (by simp) c0 (by simp) (of_ok lob hib) (by simp) (by omega)).mono ?_
    rintro e w3 ⟨v', rfl, D3, hb3⟩
    obtain ⟨tc, tf, ts, tz⟩ := ext_at (m := w.heap.size + 2) hb3 (by simp) (by simp)
    have r3 := r0.below hb3 (by simp; omega)
    have b3 := b0.trans (hb3.mono (by simp; omega))
    rw [HV.out, HSG.out] at D3
    have D3 : DyR w3 (w.heap.size + 2) w3.heap.size v' (a : Int) 0 := D3.low (by simp)
    obtain ⟨nb3, A3, L3, c3, rfl, _⟩ := D3.form
    have D3' := Lib.hid D3
    have k0 : w3.cell? ⟨w.heap.size, 0, none⟩ = some (.bool false) := r3.cell 0
    have k1 : w3.cell? ⟨w.heap.size, 1, none⟩ = some (.slice none 0 0) := r3.cell 1
    have k2 : w3.cell? ⟨w.heap.size, 2, none⟩ = some (.int .i64 0) := r3.cell 2
    have kf := r3.free
    clear D3 hb3 r0 b0 c0 tc tf
    go_wp2_with fail
    refine bodyPost_ret (res_Of rfl (((r3.set_ 0 _).set_ 1 _).set_ 2 _)) rfl ⟨_, rfl, ?_, ((b3.setCell (by simp) _).setCell (by simp) _).setCell (by simp) _⟩
    exact ((((D3'.out.set_ (by omega) 0 _).set_ (by omega) 1 _).set_ (by omega) 2 _).low (by omega)).more (by simp)
end Go.Proofs.Ytdhlmbnmgioeeaa

/- What stands in a statement whose order is open, beside calls that make memory; sizes of numbers. No conditions. -/
namespace Go.Proofs.Ytdhlmbnmgioeeaa
set_option linter.unusedVariables false
set_option linter.unusedSimpArgs false
set_option linter.unusedSectionVars false
open Go.RowKit

/-- Block r is a number's cells, of the call's own. -/
def OwnD (w : World) (r : Nat) : Prop := ∃ v0 v1 v2, RowD w r [v0, v1, v2] 75
/-- The blocks below m as in W; block r a number's cells. -/
structure SK (W : World) (m r : Nat) (w : World) : Prop where
  is : Below m W w
  fits : m ≤ w.heap.size
  own : OwnD w r
theorem SK.refl {w : World} {m r : Nat} (h : m ≤ w.heap.size) (ho : OwnD w r) : SK w m r w := ⟨Below.refl _ _, h, ho⟩
theorem SK.drew {W w : World} {m r : Nat} (h : SK W m r w) : SK W m r w.drew := ⟨h.is.drew, h.fits, h.own⟩
theorem RowD.call {w w' : World} {b t : Nat} {vs : List Value} (h : RowD w b vs t) (hb : Below w.heap.size w w') : RowD w' b vs t := h.below hb h.lt
theorem SK.call {W w w' : World} {m r : Nat} (h : SK W m r w) (hb : Below w.heap.size w w') : SK W m r w' :=
  ⟨h.is.trans (hb.mono h.fits), Nat.le_trans h.fits hb.size, let ⟨_, _, _, hr⟩ := h.own; ⟨_, _, _, hr.call hb⟩⟩
theorem SK.set {W w : World} {m r : Nat} (h : SK W m r w) (hm : m ≤ r) (j : Nat) (u : Value) : SK W m r (w.setCell ⟨r, j, none⟩ u) := by
  refine ⟨h.is.setCell hm u, by simpa using h.fits, ?_⟩
  obtain ⟨v0, v1, v2, hr⟩ := h.own
  have h2 := hr.set_ j u
  rcases j with _ | _ | _ | j
  · exact ⟨_, _, _, h2⟩
  · exact ⟨_, _, _, h2⟩
  · exact ⟨_, _, _, h2⟩
  · exact ⟨_, _, _, h2⟩
theorem SK.lt {W w : World} {m r : Nat} (h : SK W m r w) : r < w.heap.size := let ⟨_, _, _, hr⟩ := h.own; hr.lt
/-- What the walk reads of it. -/
theorem SK.all {W w : World} {m r : Nat} (h : SK W m r w) : (∀ b o, b < m → w.cell? ⟨b, o, none⟩ = W.cell? ⟨b, o, none⟩) ∧ SK W m r w :=
  ⟨fun _ _ hb => h.is.cell (p := ⟨_, _, none⟩) hb, h⟩
/-- The cells of block r, as the walk wants them for a store. -/
theorem SK.cells {W w : World} {m r : Nat} (h : SK W m r w) : ∃ v0 v1 v2, RowD w r [v0, v1, v2] 75 ∧ w.cell? ⟨r, 0, none⟩ = some v0 ∧ w.cell? ⟨r, 1, none⟩ = some v1 ∧ w.cell? ⟨r, 2, none⟩ = some v2 ∧ (∀ o, w.frozen? ⟨r, o, none⟩ = false) := by
  obtain ⟨v0, v1, v2, hr⟩ := h.own
  exact ⟨v0, v1, v2, hr, hr.cell 0, hr.cell 1, hr.cell 2, hr.free⟩

theorem canon_len_add (a b : Nat) : (canon (a + b)).length ≤ max (canon a).length (canon b).length + 1 := by
  refine canon_len_le ?_
  have h1 := wval_lt (canon_ok a)
  have h2 := wval_lt (canon_ok b)
  rw [wval_canon] at h1 h2
  have e1 : 4294967296 ^ (canon a).length ≤ 4294967296 ^ max (canon a).length (canon b).length := Nat.pow_le_pow_right (by decide) (by omega)
  have e2 : 4294967296 ^ (canon b).length ≤ 4294967296 ^ max (canon a).length (canon b).length := Nat.pow_le_pow_right (by decide) (by omega)
  rw [Nat.pow_succ]
  have h0 : 0 < 4294967296 ^ max (canon a).length (canon b).length := Nat.pow_pos (by decide)
  omega
theorem canon_len_shift (a n : Nat) : (canon (a * 2 ^ n)).length ≤ (canon a).length + n / 32 + 1 := by
  refine canon_len_le ?_
  have h1 := wval_lt (canon_ok a)
  rw [wval_canon] at h1
  have e : 2 ^ n ≤ 4294967296 ^ (n / 32 + 1) := by
    rw [show (4294967296 : Nat) = 2 ^ 32 by decide, ← Nat.pow_mul]
    exact Nat.pow_le_pow_right (by decide) (by omega)
  rw [Nat.add_assoc, Nat.pow_add]
  exact Nat.lt_of_lt_of_le (Nat.mul_lt_mul_of_pos_right h1 (Nat.two_pow_pos _)) (Nat.mul_le_mul_left _ e)
end Go.Proofs.Ytdhlmbnmgioeeaa
