/- Valid dyadic numbers: the document's Valid and Norm. And more of the kind. No conditions. -/
import Derived.Test.YtdhlmbnmgioeeaaDa
import Derived.Laws.Bits64b
/- Valid dyadic numbers: the document's Valid and Norm. No conditions. -/
namespace Go.Proofs.Ytdhlmbnmgioeeaa
set_option linter.unusedVariables false
set_option linter.unusedSimpArgs false
set_option linter.unusedSectionVars false
open Go.RowKit

/-- A valid number: its sign, its absolute value times 2^den, den. -/
structure DyOk (neg : Bool) (n : Nat) (den : Nat) : Prop where
  zero : n = 0 → neg = false ∧ den = 0
  fine : den ≤ 65536
  odd : den ≠ 0 → n % 2 = 1
theorem canon_ne {n : Nat} (h : n ≠ 0) : 0 < (canon n).length := by
  rw [canon_pos h]
  simp
theorem canon_head {n : Nat} (h : n ≠ 0) : (canon n)[0]? = some (n % 4294967296) := by
  rw [canon_pos h]
  rfl
theorem canon_top {n : Nat} (h : n ≠ 0) : (canon n)[(canon n).length - 1]?.getD 0 ≠ 0 := by
  induction n using Nat.strongRecOn with
  | _ n ih =>
    rw [canon_pos h]
    by_cases h2 : n / 4294967296 = 0
    · rw [h2, canon_zero]
      simp
      omega
    · have := ih _ (Nat.div_lt_self (by omega) (by decide)) h2
      have hl := canon_ne h2
      rw [show (n % 4294967296 :: canon (n / 4294967296)).length - 1 = ((canon (n / 4294967296)).length - 1) + 1 by simp; omega]
      exact this
set_option maxRecDepth 100000 in
set_option maxHeartbeats 2000000 in
theorem valid_any (neg : Bool) (A : Option Addr) (n den c m : Nat) (w : World) (hm : m ≤ w.heap.size) (h : CellsAt w m A (w32 (canon n))) (hl : (canon n).length ≤ 100000) (ok : DyOk neg n den) :
    Calls Try.prog 58 #[.agg #[.bool neg, .slice A (canon n).length c, .int .i64 (den : Int)]] w fun e w' => e = .returned (.bool true) ∧ Below w.heap.size w w' := by
  by_cases h0 : n = 0
  · obtain ⟨rfl, rfl⟩ := ok.zero h0
    subst h0
    rw [canon_zero]
    clear h hl ok
    go_enter Try.func58, Try.ntmps58
    go_wp2_with fail
    go_ret
    exact ⟨rfl, (Below.refl _ w).alloc (Nat.le_refl _) _⟩
  · have hp := canon_ne h0
    have ht := canon_top h0
    obtain ⟨b, off, z, rfl, q1, q2, hz, g1⟩ := h.w32_ (k := (canon n).length - 1) (by omega)
    have hz0 : ((z : Int) != 0) = true := by
      rw [hz] at ht
      simp at ht
      simp
      omega
    have g0 : w.cell? ⟨b, off, none⟩ = some (.int .u32 ((n % 4294967296 : Nat) : Int)) := by
      obtain ⟨b', off', z', hA, _, _, hz', g'⟩ := h.w32_ (k := 0) hp
      cases hA
      rw [canon_head h0] at hz'
      cases hz'
      exact g'
    obtain ⟨L, hL⟩ : ∃ L, L = (canon n).length - 1 := ⟨_, rfl⟩
    obtain ⟨x, hx⟩ : ∃ x : Nat, x = n % 4294967296 := ⟨_, rfl⟩
    have hlen : (canon n).length = L + 1 := by omega
    have hd := ok.fine
    have ho := ok.odd
    rw [← hx] at g0
    rw [← hL] at g1
    rw [hlen]
    have hl' : L ≤ 100000 := by omega
    have e0 : ((L : Int) + 1 == 0) = false := by simp; omega
    have hodd : den ≠ 0 → (x : Int) % 2 = 1 := fun hne => by have := ho hne; omega
    clear h hl ok ho ht hz hL hx hlen hp h0
    by_cases hden : den = 0
    · subst hden
      clear hodd hd
      go_enter Try.func58, Try.ntmps58
      go_wp2_with fail
      go_ret
      exact ⟨rfl, (Below.refl _ w).alloc (Nat.le_refl _) _⟩
    · have ho := hodd hden
      have d0 : ((den : Int) == 0) = false := by simp; omega
      have d1 : decide ((den : Int) ≤ 65536) = true := decide_eq_true (by omega)
      clear hodd hden
      go_enter Try.func58, Try.ntmps58
      go_wp2_with fail
      go_ret
      exact ⟨rfl, (Below.refl _ w).alloc (Nat.le_refl _) _⟩
end Go.Proofs.Ytdhlmbnmgioeeaa

/- The document's Norm of a valid dyadic number. No conditions. -/
namespace Go.Proofs.Ytdhlmbnmgioeeaa
set_option linter.unusedVariables false
set_option linter.unusedSimpArgs false
set_option linter.unusedSectionVars false
open Go.RowKit

/-- A block that is a variable of the call's own, whole. -/
def RowD (w : World) (b : Nat) (vs : List Value) (t : TypeId) : Prop := w.heap[b]? = some (.cells vs.toArray t (0, 0))
theorem RowD.lt {w : World} {b t : Nat} {vs : List Value} (h : RowD w b vs t) : b < w.heap.size := (Array.getElem?_eq_some_iff.1 h).1
theorem RowD.new_ (w : World) (vs : List Value) (t : TypeId) : RowD (w.alloc (.cells vs.toArray t)) w.heap.size vs t := heap_alloc_new w _
theorem RowD.below {w w' : World} {b B t : Nat} {vs : List Value} (h : RowD w b vs t) (hb : Below B w w') (hB : b < B) : RowD w' b vs t := (hb.block b hB).trans h
theorem RowD.cell {w : World} {b t : Nat} {vs : List Value} (h : RowD w b vs t) (j : Nat) : w.cell? ⟨b, j, none⟩ = vs[j]? := by
  rw [cell_of_row w b j vs.toArray t (0, 0) h]
  simp
theorem RowD.free {w : World} {b t : Nat} {vs : List Value} (h : RowD w b vs t) (j : Nat) : w.frozen? ⟨b, j, none⟩ = false := frozen_of_row w b j vs.toArray t h
theorem RowD.set_ {w : World} {b t : Nat} {vs : List Value} (h : RowD w b vs t) (j : Nat) (u : Value) : RowD (w.setCell ⟨b, j, none⟩ u) b (vs.set j u) t := by
  have := heap_setCell_same w b j vs.toArray t u h
  simpa [RowD] using this
theorem res_norm {tmps : Array Value} {w : World} {b : Nat} {v0 v1 v2 : Value} (h2 : tmps.getD 2 undef = .pointer (some ⟨b, 0, none⟩)) (hB : RowD w b [v0, v1, v2] 75) :
    (results Try.f49 tmps).run Try.prog w = .ok (.agg #[v0, v1, v2]) w := by
  have k0 := hB.cell 0
  have k1 := hB.cell 1
  have k2 := hB.cell 2
  simp at k0 k1 k2
  simp at h2
  simp [results, Try.results49, go_sem, h2, k0, k1, k2]
set_option maxRecDepth 100000 in
set_option maxHeartbeats 2000000 in
theorem norm_any (neg : Bool) (A : Option Addr) (n den c m : Nat) (w : World) (hm : m ≤ w.heap.size) (h : CellsAt w m A (w32 (canon n))) (hl : (canon n).length ≤ 100000) (ok : DyOk neg n den) :
    Calls Try.prog 49 #[.agg #[.bool neg, .slice A (canon n).length c, .int .i64 (den : Int)]] w fun e w' => e = .returned (.agg #[.bool neg, .slice A (canon n).length c, .int .i64 (den : Int)]) ∧ Below w.heap.size w w' := by
  have H := Lib.hid h
  have OK := Lib.hid ok
  have HL := Lib.hid hl
  clear h ok hl
  have b0 : Below w.heap.size w ((w.alloc (.cells #[.bool neg, .slice A (canon n).length c, .int .i64 (den : Int)] 75)).alloc (.cells #[.bool false, .slice none 0 0, .int .i64 0] 75)) := ext_alloc (ext_alloc (Below.refl _ _) _) _
  have r0 := RowD.new_ (w.alloc (.cells #[.bool neg, .slice A (canon n).length c, .int .i64 (den : Int)] 75)) [.bool false, .slice none 0 0, .int .i64 0] 75
  go_enter Try.func49, Try.ntmps49
  go_wp2_with fail
  go_at_call 58
  refine (valid_any neg A n den c m _ (by simp; omega) (H.out.below b0 hm) HL.out OK.out).mono ?_
  rintro e w1 ⟨rfl, hb⟩
  obtain ⟨qc, qf, qs, qz⟩ := ext_at (m := w.heap.size + 2) hb (by simp) (by simp)
  have r1 := r0.below hb (by simp)
  have b1 := b0.trans (hb.mono (by simp; omega))
  have e1 : (w.alloc (.cells #[.bool neg, .slice A (canon n).length c, .int .i64 (den : Int)] 75)).heap.size = w.heap.size + 1 := by simp
  rw [e1] at r1
  clear hb r0 b0 e1
  go_wp2_with fail
  refine bodyPost_ret (res_norm rfl (((r1.set_ 0 _).set_ 1 _).set_ 2 _)) rfl ⟨rfl, ((b1.setCell (by simp) _).setCell (by simp) _).setCell (by simp) _⟩
end Go.Proofs.Ytdhlmbnmgioeeaa

/- The document's Sign of a valid dyadic number. No conditions. -/
namespace Go.Proofs.Ytdhlmbnmgioeeaa
set_option linter.unusedVariables false
set_option linter.unusedSimpArgs false
set_option linter.unusedSectionVars false
open Go.RowKit

def sgn (neg : Bool) (n : Nat) : Int := if n = 0 then 0 else if neg = true then -1 else 1
set_option maxRecDepth 100000 in
set_option maxHeartbeats 2000000 in
theorem sign_any (neg : Bool) (A : Option Addr) (n den c m : Nat) (w : World) (hm : m ≤ w.heap.size) (h : CellsAt w m A (w32 (canon n))) (hl : (canon n).length ≤ 100000) (ok : DyOk neg n den) :
    Calls Try.prog 47 #[.agg #[.bool neg, .slice A (canon n).length c, .int .i64 (den : Int)]] w fun e w' => e = .returned (.int .i64 (sgn neg n)) ∧ Below w.heap.size w w' := by
  have H := Lib.hid h
  have OK := Lib.hid ok
  have HL := Lib.hid hl
  clear h ok hl
  have b0 : Below w.heap.size w (w.alloc (.cells #[.bool neg, .slice A (canon n).length c, .int .i64 (den : Int)] 75)) := ext_alloc (Below.refl _ _) _
  have r0 := RowD.new_ w [.bool neg, .slice A (canon n).length c, .int .i64 (den : Int)] 75
  by_cases h0 : n = 0
  · have SV : sgn neg n = 0 := by simp [sgn, h0]
    have ez : (((canon n).length : Int) == 0) = true := by rw [h0, canon_zero]; rfl
    clear h0
    go_enter Try.func47, Try.ntmps47
    go_wp2_with fail
    go_at_call 49
    refine (norm_any neg A n den c m _ (by simp; omega) (H.out.below b0 hm) HL.out OK.out).mono ?_
    rintro e w1 ⟨rfl, hb⟩
    obtain ⟨qc, qf, qs, qz⟩ := ext_at (m := w.heap.size + 1) hb (by simp) (by simp)
    have b1 := b0.trans (hb.mono (by simp))
    clear hb r0 b0
    go_wp2_with fail
    go_ret
    exact ⟨by rw [SV]; rfl, ((b1.setCell (by simp) _).setCell (by simp) _).setCell (by simp) _⟩
  · have hp := canon_ne h0
    have ez : (((canon n).length : Int) == 0) = false := by rw [beq_eq_false_iff_ne]; omega
    cases neg with
    | true =>
      have SV : sgn true n = -1 := by simp [sgn, h0]
      clear hp h0
      go_enter Try.func47, Try.ntmps47
      go_wp2_with fail
      go_at_call 49
      refine (norm_any true A n den c m _ (by simp; omega) (H.out.below b0 hm) HL.out OK.out).mono ?_
      rintro e w1 ⟨rfl, hb⟩
      obtain ⟨qc, qf, qs, qz⟩ := ext_at (m := w.heap.size + 1) hb (by simp) (by simp)
      have b1 := b0.trans (hb.mono (by simp))
      clear hb r0 b0
      go_wp2_with fail
      go_ret
      exact ⟨by rw [SV]; rfl, ((b1.setCell (by simp) _).setCell (by simp) _).setCell (by simp) _⟩
    | false =>
      have SV : sgn false n = 1 := by simp [sgn, h0]
      clear hp h0
      go_enter Try.func47, Try.ntmps47
      go_wp2_with fail
      go_at_call 49
      refine (norm_any false A n den c m _ (by simp; omega) (H.out.below b0 hm) HL.out OK.out).mono ?_
      rintro e w1 ⟨rfl, hb⟩
      obtain ⟨qc, qf, qs, qz⟩ := ext_at (m := w.heap.size + 1) hb (by simp) (by simp)
      have b1 := b0.trans (hb.mono (by simp))
      clear hb r0 b0
      go_wp2_with fail
      go_ret
      exact ⟨by rw [SV]; rfl, ((b1.setCell (by simp) _).setCell (by simp) _).setCell (by simp) _⟩
end Go.Proofs.Ytdhlmbnmgioeeaa

/- A word that is shifted to the left, and a carry below it: one number. No conditions. -/
namespace Go.Proofs.Ytdhlmbnmgioeeaa
set_option linter.unusedVariables false
set_option linter.unusedSimpArgs false
set_option linter.unusedSectionVars false
open Go.RowKit

theorem or_low {c x s : Nat} (hc : c < 2 ^ s) (hx : x < 4294967296) (hs : s ≤ 32) : bits .or .u64 (c : Int) ((x * 2 ^ s : Nat) : Int) = ((c + x * 2 ^ s : Nat) : Int) := by
  have h32 : 2 ^ s ≤ 2 ^ 32 := Nat.pow_le_pow_right (by decide) hs
  have hp : x * 2 ^ s ≤ 4294967295 * 2 ^ 32 := Nat.mul_le_mul (by omega) h32
  rw [bits_or_u64_nat c (x * 2 ^ s) (by omega) (by omega)]
  have h := Nat.two_pow_add_eq_or_of_lt hc x
  rw [Nat.or_comm, Nat.mul_comm x, ← h, Nat.add_comm]
end Go.Proofs.Ytdhlmbnmgioeeaa

/- A list of words times a power of two (the document's left). No conditions. -/
namespace Go.Proofs.Ytdhlmbnmgioeeaa
set_option linter.unusedVariables false
set_option linter.unusedSimpArgs false
set_option linter.unusedSectionVars false
open Go.RowKit

theorem info_w4 : (Try.prog.info? 91).map (fun i => (i.zero, i.size, i.bytes)) = some (some (.int .u32 0), 1, 4) := by kernel_rfl
theorem wval_zeros (q : Nat) : wval (List.replicate q 0) = 0 := by
  induction q with
  | zero => rfl
  | succ q ih => rw [List.replicate_succ]; simp [wval, ih]
theorem words_zeros (q : Nat) : wordsOk (List.replicate q 0) := fun x hx => by
  have := (List.mem_replicate.1 hx).2
  omega
/-- The shifted word with the carry below it, as two words. -/
theorem lf_word {cy x p : Nat} (hc : cy < p) (hx : x < 4294967296) : (cy + x * p) / 4294967296 < p := by
  have h : x * p ≤ 4294967295 * p := Nat.mul_le_mul_right _ (by omega)
  omega
theorem lf_or {cy x p r : Nat} (hp : p = 2 ^ r) (hc : cy < p) (hx : x < 4294967296) (hr : r ≤ 32) : bits .or .u64 (cy : Int) (IntKind.u64.wrap ((x : Int) * 2 ^ r)) = ((cy + x * p : Nat) : Int) := by
  subst hp
  have h32 : 2 ^ r ≤ 2 ^ 32 := Nat.pow_le_pow_right (by decide) hr
  have hb : x * 2 ^ r ≤ 4294967295 * 2 ^ 32 := Nat.mul_le_mul (by omega) h32
  have e : IntKind.u64.wrap ((x : Int) * 2 ^ r) = ((x * 2 ^ r : Nat) : Int) := by
    have e1 : (x : Int) * 2 ^ r = ((x * 2 ^ r : Nat) : Int) := by simp
    rw [e1]
    have : IntKind.u64.wrap ((x * 2 ^ r : Nat) : Int) = ((x * 2 ^ r : Nat) : Int) % 18446744073709551616 := by simp [IntKind.wrap, IntKind.signed, IntKind.bits]
    rw [this]
    omega
  rw [e]
  exact or_low hc hx hr
theorem lf_step {os a : List Nat} {q k cy x z c' p : Nat} (hol : os.length = q + k) (hx : a[k]?.getD 0 = x) (hv : wval os + 4294967296 ^ (q + k) * cy = wval (a.take k) * (4294967296 ^ q * p)) (hz : z + 4294967296 * c' = cy + x * p) :
    wval (os ++ [z]) + 4294967296 ^ (q + (k + 1)) * c' = wval (a.take (k + 1)) * (4294967296 ^ q * p) := by
  rw [wval_take_succ a, hx, wval_append, hol, Nat.add_mul, ← hv]
  have e1 : wval [z] = z := by simp [wval]
  rw [e1, show q + (k + 1) = (q + k) + 1 by omega, Nat.pow_succ 4294967296 (q + k), Nat.pow_add]
  have e2 : 4294967296 ^ q * 4294967296 ^ k * z + 4294967296 ^ q * 4294967296 ^ k * (4294967296 * c') = 4294967296 ^ q * 4294967296 ^ k * cy + 4294967296 ^ q * 4294967296 ^ k * (x * p) := by
    rw [← Nat.mul_add, hz, Nat.mul_add]
  have e3 : 4294967296 ^ k * x * (4294967296 ^ q * p) = 4294967296 ^ q * 4294967296 ^ k * (x * p) := by
    rw [Nat.mul_comm (4294967296 ^ q) (4294967296 ^ k), Nat.mul_assoc, Nat.mul_assoc]
    congr 1
    rw [← Nat.mul_assoc, ← Nat.mul_assoc, Nat.mul_comm x]
  rw [e3, Nat.mul_assoc (4294967296 ^ q * 4294967296 ^ k)]
  omega
theorem pow_split (n : Nat) : 2 ^ n = 4294967296 ^ (n / 32) * 2 ^ (n % 32) := by
  have h : n = 32 * (n / 32) + n % 32 := by omega
  have e : (4294967296 : Nat) = 2 ^ 32 := by decide
  rw [e, ← Nat.pow_mul, ← Nat.pow_add, ← h]
def lfRel (w : World) (a : List Nat) (q p : Nat) (v cv i : Value) (wr : World) : Prop :=
  ∃ (k : Nat) (os : List Nat) (cy : Nat), k ≤ a.length ∧ i = .int .i64 (k : Int) ∧ cv = .int .u64 (cy : Int) ∧ OwnW wr w.heap.size v os ∧ os.length = q + k ∧ wordsOk os ∧ cy < p ∧
    wval os + 4294967296 ^ (q + k) * cy = wval (a.take k) * (4294967296 ^ q * p) ∧ Below w.heap.size w wr
set_option maxRecDepth 100000 in
set_option maxHeartbeats 8000000 in
theorem left_any (A : Option Addr) (a : List Nat) (c n m : Nat) (w : World) (hm : m ≤ w.heap.size) (h1 : CellsAt w m A (w32 a)) (ha : wordsOk a) (l1 : a.length ≤ 100000) (hn : n ≤ 1000000) :
    Calls Try.prog 52 #[.slice A a.length c, .int .i64 (n : Int)] w fun e w' =>
      ∃ G g, e = .returned (.slice G (canon (wval a * 2 ^ n)).length g) ∧ (G = none → g = 0) ∧ (canon (wval a * 2 ^ n)).length ≤ g ∧ CellsAt w' w'.heap.size G (w32 (canon (wval a * 2 ^ n))) ∧ Below w.heap.size w w' := by
  rw [pow_split n]
  obtain ⟨q, hq⟩ : ∃ q, q = n / 32 := ⟨_, rfl⟩
  obtain ⟨p, hp⟩ : ∃ p, p = 2 ^ (n % 32) := ⟨_, rfl⟩
  have hp0 : 0 < p := by rw [hp]; exact Nat.two_pow_pos _
  have hp32 : p ≤ 2147483648 := by
    rw [hp]
    exact Nat.pow_le_pow_right (n := 2) (by decide) (show n % 32 ≤ 31 by omega)
  rw [← hq, ← hp]
  have HP := Lib.hid hp
  have H1 := Lib.hid h1
  have HA := Lib.hid ha
  have hqi : (n : Int) / 32 = (q : Int) := by omega
  have hq6 : q ≤ 31250 := by omega
  clear h1 ha hp hq
  obtain ⟨i0, hi, hz0, hz1, hz2⟩ := info_parts info_w4
  go_enter Try.func52, Try.ntmps52
  go_wp2_with (with_reducible refine wpList_make_full _ rfl (.tmp 10) (.tmp 10) 73 rfl w.heap.size 91 i0 (.int .u32 0) 1 under_w hi hz0 hz1 .i64 .i64 _ _ q rfl rfl rfl rfl (by rw [hz2]; omega) (by unfold maxLen; omega) (Nat.le_refl _) ?_; intro w2 hown hg)
  have hst := (Below.refl w.heap.size w).grown hg (Nat.le_refl _) (fun k h => by simp at h)
  have hown2 : OwnW w2 w.heap.size (.slice (some ⟨w.heap.size, 0, none⟩) q q) (List.replicate q 0) := by
    have e1 : w32 (List.replicate q 0) = (madeCells (Value.int .u32 0).cells (q * 1)).toList := by
      rw [Nat.mul_one]
      have := toList_madeCells_one (Value.int .u32 0) q
      simp only [w32, List.map_replicate]
      exact this.symm
    unfold OwnW
    rw [e1, List.length_replicate]
    exact hown
  have hsz := hst.size
  clear hown hg hi hz0 hz1 hz2
  go_loopw [5, 6, 14] (fun v cv i wr => lfRel w a q p v cv i wr) (fun _ _ i _ => a.length - (intOf i).toNat)
  case atStart => exact ⟨0, List.replicate q 0, 0, Nat.zero_le _, rfl, rfl, hown2, by simp, words_zeros q, hp0, by simp [wval_zeros, wval], hst⟩
  case round =>
    as_aux_lemma =>
    obtain ⟨k, os, cy, hk, rfl, rfl, hown, hol, hok, hcy, hv, hb⟩ := hrel
    have HO := Lib.hid hown
    have HOL := Lib.hid hol
    have HOK := Lib.hid hok
    have HV := Lib.hid hv
    clear hown hol hok hv hown2 hst
    have hsz := hb.size
    by_cases hlt : k < a.length
    · as_aux_lemma =>
      obtain ⟨b1, o1, x, rfl, q1, _, hx, g1'⟩ := H1.out.w32_ hlt
      have g1 := (hb.cell (p := ⟨b1, o1 + k, none⟩) (Nat.lt_of_lt_of_le q1 hm)).trans g1'
      have bx := HA.out x (List.mem_of_getElem? hx)
      have HX := Lib.hid (show a[k]?.getD 0 = x by rw [hx]; rfl)
      have ka' : (k : Int) < (a.length : Int) := by omega
      clear hx g1'
      obtain ⟨s, hs⟩ : ∃ s : Nat, s = cy + x * p := ⟨_, rfl⟩
      have hor : bits .or .u64 (cy : Int) (IntKind.u64.wrap ((x : Int) * 2 ^ (n % 32))) = (s : Int) := by
        rw [hs]
        exact lf_or HP.out hcy bx (by omega)
      have HC := Lib.hid (lf_word hcy bx)
      rw [← hs] at HC
      obtain ⟨z, hz⟩ : ∃ z : Nat, (s : Int) % 4294967296 = (z : Int) := ⟨(s % 4294967296 : Nat), by omega⟩
      obtain ⟨c', hc'⟩ : ∃ c' : Nat, (s : Int) / 4294967296 = (c' : Int) := ⟨(s / 4294967296 : Nat), by omega⟩
      have HZ := Lib.hid (show z + 4294967296 * c' = cy + x * p by rw [← hs]; omega)
      have hzb : z < 4294967296 := by omega
      have HC2 := Lib.hid (show c' < p by have h := HC.out; omega)
      clear hs HC
      go_wp2_with (at_builtin; refine push_w rfl _ _ rfl w.heap.size _ os z wr.heap.size rfl (HO.out.alloc _) rfl (by simp [go_sem]) (by have := HOL.out; omega) (by simp; omega) ?_; intro v' w3 hown3 hg3 hb3)
      exact ⟨⟨k + 1, os ++ [z], c', by omega, by go_num, rfl, hown3, by rw [List.length_append, HOL.out]; rfl, words_push HOK.out hzb, HC2.out, lf_step HOL.out HX.out HV.out HZ.out, hb.trans ((((Below.refl _ wr).alloc (Nat.le_refl _) _).mono hb.size).trans hb3)⟩, by simp [intOf]; omega⟩
    · as_aux_lemma =>
      have hle : ¬ (k : Int) < (a.length : Int) := by omega
      have hka : a.length ≤ k := by omega
      have hcy32 : cy < 4294967296 := by omega
      have hcym : (cy : Int) % 4294967296 = (cy : Int) := by omega
      obtain ⟨ws, hws⟩ : ∃ ws, ws = os ++ [cy] := ⟨_, rfl⟩
      have hwok : wordsOk ws := by rw [hws]; exact words_push HOK.out hcy32
      have hwl : ws.length = q + k + 1 := by rw [hws, List.length_append, HOL.out]; rfl
      have hwv : wval ws = wval a * (4294967296 ^ q * p) := by
        have hv := HV.out
        rw [List.take_of_length_le hka] at hv
        rw [hws, wval_append, HOL.out, ← hv]
        simp only [wval, Nat.mul_zero, Nat.add_zero]
      have hl6 : ws.length ≤ 1000000 := by omega
      have HWS := Lib.hid hws
      have HWO := Lib.hid hwok
      have HWV := Lib.hid hwv
      clear hws hwok hwv hka hwl hlt
      go_wp2_with (first
        | (go_at_call 56; refine (trim_any G ws g w3.heap.size w3 hGc hgc hl6).mono ?_; rintro e w4 ⟨rfl, rfl⟩)
        | (at_builtin; refine push_w rfl _ _ rfl w.heap.size _ os cy wr.heap.size rfl (HO.out.alloc _) rfl (by simp [go_sem]) (by have := HOL.out; omega) (by simp; omega) ?_; intro v' w3 hown3 hg3 hb3; rw [← HWS.out] at hown3; obtain ⟨G, g, rfl, hGn, hGc⟩ := hown3.view; obtain ⟨_, hgc, _, _⟩ := hown3.cap_))
      go_ret
      have hcan := trim_canon HWO.out
      rw [HWV.out] at hcan
      refine ⟨G, g, by rw [hcan]; rfl, hGn, ?_, ?_, hb.trans ((((Below.refl _ wr).alloc (Nat.le_refl _) _).mono hb.size).trans hb3)⟩
      · rw [← hcan, trimL_len]
        have := trimN_le ws ws.length
        omega
      · rw [← hcan]
        exact hGc.takeW _
end Go.Proofs.Ytdhlmbnmgioeeaa

/- A list of words divided by a power of two (the document's right). No conditions. -/
namespace Go.Proofs.Ytdhlmbnmgioeeaa
set_option linter.unusedVariables false
set_option linter.unusedSimpArgs false
set_option linter.unusedSectionVars false
open Go.RowKit

theorem wval_drop {a : List Nat} (h : wordsOk a) (i : Nat) : wval a / 4294967296 ^ i = wval (a.drop i) := by
  by_cases hi : i ≤ a.length
  · have e := wval_append (a.take i) (a.drop i)
    rw [List.take_append_drop, List.length_take, Nat.min_eq_left hi] at e
    have hl := wval_lt (ws := a.take i) (fun x hx => h x (List.mem_of_mem_take hx))
    rw [List.length_take, Nat.min_eq_left hi] at hl
    rw [e, Nat.add_mul_div_left _ _ (Nat.pow_pos (by decide)), Nat.div_eq_of_lt hl, Nat.zero_add]
  · rw [List.drop_eq_nil_of_le (by omega)]
    have hl := wval_lt h
    refine Nat.div_eq_of_lt (Nat.lt_of_lt_of_le hl (Nat.pow_le_pow_right (by decide) (by omega)))
theorem wval_drop_get {a : List Nat} {i : Nat} : wval (a.drop i) = a[i]?.getD 0 + 4294967296 * wval (a.drop (i + 1)) := by
  by_cases hi : i < a.length
  · rw [List.drop_eq_getElem_cons hi, List.getElem?_eq_getElem hi]
    rfl
  · rw [List.drop_eq_nil_of_le (by omega), List.drop_eq_nil_of_le (by omega), List.getElem?_eq_none (by omega)]
    rfl
theorem pow32 (n : Nat) : 2 ^ n = 4294967296 ^ (n / 32) * 2 ^ (n % 32) := pow_split n
/-- A bit of a list of words. -/
theorem wval_bit {a : List Nat} (h : wordsOk a) (i : Nat) : wval a / 2 ^ i % 2 = (a[i / 32]?.getD 0) / 2 ^ (i % 32) % 2 := by
  rw [pow32 i, ← Nat.div_div_eq_div_mul, wval_drop h, wval_drop_get]
  generalize a[i / 32]?.getD 0 = x
  generalize wval (a.drop (i / 32 + 1)) = y
  have e : (4294967296 : Nat) = 2 ^ (i % 32) * (2 * 2 ^ (31 - i % 32)) := by
    rw [← Nat.pow_succ', ← Nat.pow_add, show i % 32 + (31 - i % 32).succ = 32 by omega]
  rw [show 4294967296 * y = 2 ^ (i % 32) * (2 * (2 ^ (31 - i % 32) * y)) by rw [← Nat.mul_assoc, ← Nat.mul_assoc, Nat.mul_assoc (2 ^ (i % 32)), ← e]]
  rw [Nat.add_mul_div_left _ _ (Nat.two_pow_pos _)]
  omega
/-- Whether something below bit i is not zero. -/
def cutB (v i : Nat) : Bool := decide (v % 2 ^ i ≠ 0)
theorem cutB_zero (v : Nat) : cutB v 0 = false := by simp [cutB, Nat.mod_one]
theorem cutB_succ (v i : Nat) : cutB v (i + 1) = (cutB v i || v / 2 ^ i % 2 == 1) := by
  have e : v % 2 ^ (i + 1) = v % 2 ^ i + 2 ^ i * (v / 2 ^ i % 2) := by
    rw [Nat.pow_succ, Nat.mod_mul]
  have hp := Nat.two_pow_pos i
  unfold cutB
  rw [e]
  rcases Nat.mod_two_eq_zero_or_one (v / 2 ^ i) with h | h
  · rw [h, Nat.mul_zero, Nat.add_zero]
    simp
  · rw [h, Nat.mul_one]
    have : v % 2 ^ i + 2 ^ i ≠ 0 := by omega
    simp [this]
theorem cutB_big {v i j : Nat} (h : v < 2 ^ i) (hj : i ≤ j) : cutB v j = cutB v i := by
  unfold cutB
  rw [Nat.mod_eq_of_lt h, Nat.mod_eq_of_lt (Nat.lt_of_lt_of_le h (Nat.pow_le_pow_right (by decide) hj))]
/-- One word of the quotient. -/
theorem rg_word {x y t r : Nat} (hr : r ≤ 31) : (x + 4294967296 * (y + 4294967296 * t)) / 2 ^ r % 4294967296 = (x + y * 4294967296) / 2 ^ r % 4294967296 := by
  have e : (4294967296 : Nat) = 2 ^ r * 2 ^ (32 - r) := by rw [← Nat.pow_add, show r + (32 - r) = 32 by omega]
  rw [show x + 4294967296 * (y + 4294967296 * t) = (x + y * 4294967296) + 2 ^ r * (4294967296 * (2 ^ (32 - r) * t)) by
    have : 4294967296 * (4294967296 * t) = 2 ^ r * (4294967296 * (2 ^ (32 - r) * t)) := by
      rw [← Nat.mul_assoc, ← Nat.mul_assoc, ← Nat.mul_assoc, Nat.mul_comm (2 ^ r) 4294967296, Nat.mul_assoc 4294967296 (2 ^ r), ← e]
    omega]
  rw [Nat.add_mul_div_left _ _ (Nat.two_pow_pos _)]
  omega
theorem rg_step {a os : List Nat} {n k z : Nat} (h : wordsOk a) (hol : os.length = k) (hv : wval os = wval a / 2 ^ n % 4294967296 ^ k)
    (hz : z = (a[n / 32 + k]?.getD 0 + a[n / 32 + k + 1]?.getD 0 * 4294967296) / 2 ^ (n % 32) % 4294967296) :
    wval (os ++ [z]) = wval a / 2 ^ n % 4294967296 ^ (k + 1) := by
  rw [wval_append, hol, hv, Nat.pow_succ, Nat.mod_mul]
  congr 1
  have e1 : wval [z] = z := by simp [wval]
  have e2 : wval a / 2 ^ n / 4294967296 ^ k = wval (a.drop (n / 32 + k)) / 2 ^ (n % 32) := by
    rw [← wval_drop h, Nat.pow_add, pow32 n]
    simp only [Nat.div_div_eq_div_mul]
    congr 1
    rw [Nat.mul_assoc, Nat.mul_assoc, Nat.mul_comm (2 ^ _)]
  rw [e1, e2, wval_drop_get, wval_drop_get, rg_word (by omega), hz]
theorem rg_end {a os : List Nat} {n k : Nat} (h : wordsOk a) (hk : a.length ≤ n / 32 + k) (hv : wval os = wval a / 2 ^ n % 4294967296 ^ k) : wval os = wval a / 2 ^ n := by
  rw [hv]
  refine Nat.mod_eq_of_lt ?_
  have hl := wval_lt h
  refine (Nat.div_lt_iff_lt_mul (Nat.two_pow_pos _)).2 (Nat.lt_of_lt_of_le hl ?_)
  rw [pow32 n, ← Nat.mul_assoc, ← Nat.pow_add]
  refine Nat.le_trans (Nat.pow_le_pow_right (by decide) (show a.length ≤ k + n / 32 by omega)) (Nat.le_mul_of_pos_right _ (Nat.two_pow_pos _))

theorem bit_u32 {x r : Nat} (hx : x < 4294967296) : bits .and .u32 ((x : Int) / 2 ^ r) 1 = ((x / 2 ^ r % 2 : Nat) : Int) := by
  have e : (x : Int) / 2 ^ r = ((x / 2 ^ r : Nat) : Int) := by simp
  have hl : x / 2 ^ r ≤ x := Nat.div_le_self _ _
  rw [e]
  generalize x / 2 ^ r = y at hl
  have := bits_mask .u32 32 (by decide) (fun n h0 h1 => by rw [IntKind.wrap_u32]; omega) 1 (by decide) (y : Int) (by omega) (by omega)
  rw [show ((2 : Int) ^ 1 - 1) = 1 by decide, show ((2 : Int) ^ 1) = 2 by decide] at this
  rw [this]
  omega
theorem nat_beq_one (y : Nat) : (((y : Nat) : Int) == 1) = (y == 1) := by
  by_cases h : y = 1
  · subst h; rfl
  · have h2 : (((y : Nat) : Int) == 1) = false := by rw [beq_eq_false_iff_ne]; omega
    have h3 : (y == 1) = false := by rw [beq_eq_false_iff_ne]; omega
    rw [h2, h3]
theorem rg_bit {a : List Nat} {k x : Nat} (h : wordsOk a) (hx : x < 4294967296) (hg : a[k / 32]?.getD 0 = x) : (bits .and .u32 ((x : Int) / 2 ^ (k % 32)) 1 == 1) = (wval a / 2 ^ k % 2 == 1) := by
  rw [bit_u32 hx, wval_bit h, hg]
  exact nat_beq_one _
theorem rg_or {x y : Nat} (hx : x < 4294967296) (hy : y < 4294967296) : bits .or .u64 (x : Int) ((y : Int) * 4294967296) = ((x + y * 4294967296 : Nat) : Int) := by
  have := or_low (c := x) (x := y) (s := 32) (by omega) hy (by omega)
  rw [← this]
  simp
def rgRel2 (w : World) (a : List Nat) (n q : Nat) (v i : Value) (wr : World) : Prop :=
  ∃ (k : Nat) (os : List Nat), q + k ≤ a.length ∧ i = .int .i64 ((q + k : Nat) : Int) ∧ OwnW wr w.heap.size v os ∧ os.length = k ∧ wordsOk os ∧ wval os = wval a / 2 ^ n % 4294967296 ^ k ∧ Below w.heap.size w wr
def rgRel (a : List Nat) (n : Nat) (w : World) (cv i : Value) (wr : World) : Prop :=
  ∃ k : Nat, k ≤ n ∧ k ≤ 32 * a.length ∧ i = .int .i64 (k : Int) ∧ cv = .bool (cutB (wval a) k) ∧ w = wr
set_option maxRecDepth 100000 in
set_option maxHeartbeats 8000000 in
theorem right_any (A : Option Addr) (a : List Nat) (c n m : Nat) (w : World) (hm : m ≤ w.heap.size) (h1 : CellsAt w m A (w32 a)) (ha : wordsOk a) (l1 : a.length ≤ 100000) (hn : n ≤ 1000000) :
    Calls Try.prog 57 #[.slice A a.length c, .int .i64 (n : Int)] w fun e w' =>
      ∃ G g, e = .returned (.tuple #[.slice G (canon (wval a / 2 ^ n)).length g, .bool (cutB (wval a) n)]) ∧ (G = none → g = 0) ∧ (canon (wval a / 2 ^ n)).length ≤ g ∧ CellsAt w' w'.heap.size G (w32 (canon (wval a / 2 ^ n))) ∧ Below w.heap.size w w' := by
  have H1 := Lib.hid h1
  have HA := Lib.hid ha
  clear h1 ha
  go_enter Try.func57, Try.ntmps57
  go_wp2_with fail
  go_loopw [6, 7] (fun cv i wr => rgRel a n w cv i wr) (fun _ i _ => n - (intOf i).toNat)
  case atStart => exact ⟨0, Nat.zero_le _, Nat.zero_le _, rfl, by rw [cutB_zero], rfl⟩
  case round =>
    obtain ⟨k, hk, hkl, rfl, rfl, rfl⟩ := hrel
    by_cases hlt : k < n
    · by_cases hlt2 : k < 32 * a.length
      · obtain ⟨q, hq⟩ : ∃ q, q = k / 32 := ⟨_, rfl⟩
        have hka : q < a.length := by omega
        obtain ⟨b1, o1, x, rfl, q1, _, hx, g1⟩ := H1.out.w32_ hka
        have bx := HA.out x (List.mem_of_getElem? hx)
        have HX := Lib.hid (show a[k / 32]?.getD 0 = x by rw [← hq, hx]; rfl)
        have i1 : (k : Int) < (n : Int) := by omega
        have i2 : (k : Int) < 32 * (a.length : Int) := by omega
        have i3 : (k : Int) / 32 = (q : Int) := by omega
        have i4 : (q : Int) < (a.length : Int) := by omega
        clear hq
        clear hx
        obtain ⟨cb, hcb⟩ : ∃ cb, cb = cutB (wval a) k := ⟨_, rfl⟩
        rw [← hcb]
        have HC := Lib.hid hcb
        clear hcb
        cases cb with
        | true =>
          go_wp2_with fail
          have e := cutB_succ (wval a) k
          rw [← HC.out] at e
          exact ⟨⟨k + 1, by omega, by omega, by go_num, by rw [e]; rfl, rfl⟩, by simp [intOf]; omega⟩
        | false =>
          go_wp2_with fail
          have e := cutB_succ (wval a) k
          rw [← HC.out, ← rg_bit HA.out bx HX.out] at e
          exact ⟨⟨k + 1, by omega, by omega, by go_num, by rw [e]; rfl, rfl⟩, by simp [intOf]; omega⟩
      · as_aux_lemma =>
        have hc : cutB (wval a) k = cutB (wval a) n := by
          have hl := wval_lt HA.out
          have e : (4294967296 : Nat) ^ a.length = 2 ^ (32 * a.length) := by
            rw [Nat.pow_mul]
          rw [e, show 32 * a.length = k by omega] at hl
          exact (cutB_big hl hk).symm
        have hz : canon (wval a / 2 ^ n) = [] := by
          have hl := wval_lt HA.out
          have e : (4294967296 : Nat) ^ a.length = 2 ^ (32 * a.length) := by
            rw [Nat.pow_mul]
          rw [e] at hl
          rw [Nat.div_eq_of_lt (Nat.lt_of_lt_of_le hl (Nat.pow_le_pow_right (by decide) (by omega))), canon_zero]
        have i1 : (k : Int) < (n : Int) := by omega
        have i2 : ¬ (k : Int) < 32 * (a.length : Int) := by omega
        have i3 : 32 * (a.length : Int) ≤ (n : Int) := by omega
        rw [hc]
        have HZ := Lib.hid hz
        clear hc hz
        go_wp2_with fail
        exact bodyPost_ret (v := .tuple #[.slice none 0 0, .bool (cutB (wval a) n)]) (by simp [results, Try.results57, go_sem]) rfl ⟨none, 0, by rw [HZ.out]; rfl, fun _ => rfl, by rw [HZ.out]; exact Nat.le_refl _, by rw [HZ.out]; exact CellsAt.nil_, Below.refl _ _⟩
    · have hkn : k = n := by omega
      subst hkn
      have i1 : ¬ (k : Int) < (k : Int) := by omega
      by_cases hlt2 : k < 32 * a.length
      · as_aux_lemma =>
        obtain ⟨q, hq⟩ : ∃ q, q = k / 32 := ⟨_, rfl⟩
        have hql : q < a.length := by omega
        have i3 : ¬ 32 * (a.length : Int) ≤ (k : Int) := by omega
        have i4 : (k : Int) / 32 = (q : Int) := by omega
        have HQ := Lib.hid hq
        clear hlt hlt2 hq hkl hk
        go_wp2_with fail
        go_loopw [8, 9] (fun v i wr => rgRel2 w a k q v i wr) (fun _ i _ => a.length - (intOf i).toNat)
        case atStart => exact ⟨0, [], by omega, by simp, OwnW.nil_ _ _, rfl, by simp [wordsOk], by simp [wval, Nat.mod_one], Below.refl _ _⟩
        case round =>
          as_aux_lemma =>
          obtain ⟨j, os, hj, rfl, hown, hol, hok, hv, hb⟩ := hrel
          have HO := Lib.hid hown
          have HOL := Lib.hid hol
          have HOK := Lib.hid hok
          have HV := Lib.hid hv
          clear hown hol hok hv
          have hsz := hb.size
          obtain ⟨i, hi⟩ : ∃ i, i = q + j := ⟨_, rfl⟩
          rw [← hi]
          have hij : (i : Int) + 1 = ((q + (j + 1) : Nat) : Int) := by omega
          have HIJ := Lib.hid hij
          have HI := Lib.hid hi
          have hjl : j < 1000000 := by omega
          clear hi hij hj
          by_cases hlt : i < a.length
          · obtain ⟨b1, o1, x, rfl, q1, _, hx, g1'⟩ := H1.out.w32_ hlt
            have g1 := (hb.cell (p := ⟨b1, o1 + i, none⟩) (Nat.lt_of_lt_of_le q1 hm)).trans g1'
            have bx := HA.out x (List.mem_of_getElem? hx)
            have HX := Lib.hid (show a[k / 32 + j]?.getD 0 = x by rw [← HQ.out, ← HI.out, hx]; rfl)
            have ka' : (i : Int) < (a.length : Int) := by omega
            clear hx g1'
            by_cases hlt2 : i + 1 < a.length
            · obtain ⟨b2, o2, y, hA2, q2, _, hy, g2'⟩ := H1.out.w32_ hlt2
              cases hA2
              have g2 := (hb.cell (p := ⟨b1, o1 + (i + 1), none⟩) (Nat.lt_of_lt_of_le q1 hm)).trans g2'
              have by' := HA.out y (List.mem_of_getElem? hy)
              have HY := Lib.hid (show a[k / 32 + j + 1]?.getD 0 = y by rw [← HQ.out, ← HI.out, hy]; rfl)
              have kb' : (i : Int) + 1 < (a.length : Int) := by omega
              clear hy g2'
              obtain ⟨z, hzn⟩ : ∃ z : Nat, z = (x + y * 4294967296) / 2 ^ (k % 32) % 4294967296 := ⟨_, rfl⟩
              have hz : (bits .or .u64 (x : Int) ((y : Int) * 4294967296) / 2 ^ (k % 32) % 4294967296) = (z : Int) := by rw [hzn, rg_or bx by']; simp
              have HZ := Lib.hid (show z = (a[k / 32 + j]?.getD 0 + a[k / 32 + j + 1]?.getD 0 * 4294967296) / 2 ^ (k % 32) % 4294967296 by rw [HX.out, HY.out]; exact hzn)
              clear hzn
              have HZB := Lib.hid (show z < 4294967296 by rw [HZ.out]; exact Nat.mod_lt _ (by decide))
              have hj2 : q + (j + 1) ≤ a.length := by have := HIJ.out; omega
              go_wp2_with (at_builtin; refine push_w rfl _ _ rfl w.heap.size _ os z wr.heap.size rfl (HO.out.alloc _) rfl (by simp [go_sem]) (by have := HOL.out; omega) (by simp; omega) ?_; intro v' w3 hown3 hg3 hb3)
              exact ⟨⟨j + 1, os ++ [z], hj2, by rw [← HIJ.out], hown3, by rw [List.length_append, HOL.out]; rfl, words_push HOK.out HZB.out, rg_step HA.out HOL.out HV.out HZ.out, hb.trans ((((Below.refl _ wr).alloc (Nat.le_refl _) _).mono hb.size).trans hb3)⟩, by simp [intOf]; try omega⟩
            · have HY := Lib.hid (show a[k / 32 + j + 1]?.getD 0 = 0 by rw [← HQ.out, ← HI.out, List.getElem?_eq_none (by omega)]; rfl)
              have kb' : ¬ (i : Int) + 1 < (a.length : Int) := by omega
              obtain ⟨z, hzn⟩ : ∃ z : Nat, z = x / 2 ^ (k % 32) % 4294967296 := ⟨_, rfl⟩
              have hz : ((x : Int) / 2 ^ (k % 32) % 4294967296) = (z : Int) := by rw [hzn]; simp
              have HZ := Lib.hid (show z = (a[k / 32 + j]?.getD 0 + a[k / 32 + j + 1]?.getD 0 * 4294967296) / 2 ^ (k % 32) % 4294967296 by rw [HX.out, HY.out, Nat.zero_mul, Nat.add_zero]; exact hzn)
              clear hzn
              have HZB := Lib.hid (show z < 4294967296 by rw [HZ.out]; exact Nat.mod_lt _ (by decide))
              have hj2 : q + (j + 1) ≤ a.length := by have := HIJ.out; omega
              go_wp2_with (at_builtin; refine push_w rfl _ _ rfl w.heap.size _ os z wr.heap.size rfl (HO.out.alloc _) rfl (by simp [go_sem]) (by have := HOL.out; omega) (by simp; omega) ?_; intro v' w3 hown3 hg3 hb3)
              exact ⟨⟨j + 1, os ++ [z], hj2, by rw [← HIJ.out], hown3, by rw [List.length_append, HOL.out]; rfl, words_push HOK.out HZB.out, rg_step HA.out HOL.out HV.out HZ.out, hb.trans ((((Below.refl _ wr).alloc (Nat.le_refl _) _).mono hb.size).trans hb3)⟩, by simp [intOf]; try omega⟩
          · as_aux_lemma =>
            have hle : ¬ (i : Int) < (a.length : Int) := by omega
            have hl6 : os.length ≤ 1000000 := by have := HOL.out; omega
            have HWV := Lib.hid (rg_end (k := j) HA.out (by have := HI.out; have := HQ.out; omega) HV.out)
            obtain ⟨G, g, rfl, hGn, hGc⟩ := HO.out.view
            obtain ⟨_, hgc, _, _⟩ := HO.out.cap_
            have HGC := Lib.hid hGc
            clear hGc
            go_wp2_with (go_at_call 56; refine (trim_any G os g wr.heap.size wr HGC.out hgc hl6).mono ?_; rintro e w3 ⟨rfl, rfl⟩)
            have hcan := trim_canon HOK.out
            rw [HWV.out] at hcan
            refine bodyPost_ret (v := .tuple #[.slice G (trimL os).length g, .bool (cutB (wval a) k)]) (by simp [results, Try.results57, go_sem]) rfl ⟨G, g, by rw [hcan], hGn, ?_, ?_, hb⟩
            · rw [← hcan, trimL_len]
              have := trimN_le os os.length
              omega
            · rw [← hcan]
              exact HGC.out.takeW _
      · as_aux_lemma =>
        have hz : canon (wval a / 2 ^ k) = [] := by
          have hl := wval_lt HA.out
          have e : (4294967296 : Nat) ^ a.length = 2 ^ (32 * a.length) := by
            rw [Nat.pow_mul]
          rw [e] at hl
          rw [Nat.div_eq_of_lt (Nat.lt_of_lt_of_le hl (Nat.pow_le_pow_right (by decide) (by omega))), canon_zero]
        have i3 : 32 * (a.length : Int) ≤ (k : Int) := by omega
        have HZ := Lib.hid hz
        clear hz
        go_wp2_with fail
        exact bodyPost_ret (v := .tuple #[.slice none 0 0, .bool (cutB (wval a) k)]) (by simp [results, Try.results57, go_sem]) rfl ⟨none, 0, by rw [HZ.out]; rfl, fun _ => rfl, by rw [HZ.out]; exact Nat.le_refl _, by rw [HZ.out]; exact CellsAt.nil_, Below.refl _ _⟩
end Go.Proofs.Ytdhlmbnmgioeeaa
