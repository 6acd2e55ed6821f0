/- What the proofs of this claim share, part 6. No conditions. -/
import Derived.Test.YtmdfjbpggbhgnaaDoorKw3
import Derived.Test.YtmdfjbpggbhgnaaDoorKw5
import Derived.Test.YtmdfjbpggbhgnaaDoorKw4
import Derived.Test.YtmdfjbpggbhgnaaDoorRows
import Derived.Laws.AppendOwnNone
import Derived.Laws.OwnMore
import Derived.Laws.Bits64b
import Derived.Deep.RegionHeld3
import Derived.Deep.DeepCutAuto
import Derived.Lib.Hide
set_option maxHeartbeats 8000000
set_option maxRecDepth 100000
set_option linter.unusedVariables false
set_option linter.unusedSimpArgs false
set_option linter.unusedSectionVars false
namespace Go.Proofs.YtmdfjbpggbhgnaaDoor
open Go.RowKit Go.Deep
def w32 (ws : List Nat) : List Value := ws.map fun n : Nat => .int .u32 (n : Int)
theorem w32_len (ws : List Nat) : (w32 ws).length = ws.length := by simp [w32]
theorem CellsAt.w32_ {w : World} {m : Nat} {A : Option Addr} {ws : List Nat} (h : CellsAt w m A (w32 ws)) {k : Nat} (hk : k < ws.length) :
    ∃ b off z, A = some ⟨b, off, none⟩ ∧ b < m ∧ b < w.heap.size ∧ ws[k]? = some z ∧ w.cell? ⟨b, off + k, none⟩ = some (.int .u32 (z : Int)) := by
  obtain ⟨b, off, hA, hbm, hbs, hc⟩ := h (fun h0 => by have := w32_len ws; rw [h0] at this; simp at this; omega)
  exact ⟨b, off, ws[k], hA, hbm, hbs, List.getElem?_eq_getElem hk, hc k _ (by simp [w32, hk])⟩
def wval : List Nat → Nat
  | [] => 0
  | x :: l => x + 4294967296 * wval l
def wordsOk (ws : List Nat) : Prop := ∀ x ∈ ws, x < 4294967296
def trimN (ws : List Nat) : Nat → Nat
  | 0 => 0
  | n + 1 => if ws[n]?.getD 0 = 0 then trimN ws n else n + 1
def trimL (ws : List Nat) : List Nat := ws.take (trimN ws ws.length)
theorem trimN_le (ws : List Nat) (n : Nat) : trimN ws n ≤ n := by
  induction n with
  | zero => exact Nat.le_refl _
  | succ n ih =>
    unfold trimN
    split <;> omega
theorem trimL_len (ws : List Nat) : (trimL ws).length = trimN ws ws.length := by
  have := trimN_le ws ws.length
  simp [trimL]
  omega
theorem wval_append (a b : List Nat) : wval (a ++ b) = wval a + 4294967296 ^ a.length * wval b := by
  induction a with
  | nil => simp [wval]
  | cons x a ih =>
    simp only [List.cons_append, wval, List.length_cons, ih, Nat.pow_succ, Nat.mul_add]
    rw [Nat.add_assoc, Nat.mul_comm (4294967296 ^ a.length) 4294967296, Nat.mul_assoc]
theorem wval_take (ws : List Nat) : ∀ n, n ≤ ws.length → wval (ws.take (trimN ws n)) = wval (ws.take n)
  | 0, _ => rfl
  | n + 1, h => by
    unfold trimN
    split
    · rename_i h0
      rw [wval_take ws n (by omega), List.take_add_one, wval_append]
      have : ws[n]? = some ws[n] := List.getElem?_eq_getElem (by omega)
      rw [this] at h0 ⊢
      simp at h0
      simp [wval, h0]
    · rfl
theorem wval_trim (ws : List Nat) : wval (trimL ws) = wval ws := by
  have := wval_take ws ws.length (Nat.le_refl _)
  rw [List.take_length] at this
  exact this
theorem trim_top (ws : List Nat) : ∀ n, n ≤ ws.length → 0 < trimN ws n → ws[trimN ws n - 1]?.getD 0 ≠ 0
  | 0, _, h => by simp [trimN] at h
  | n + 1, hn, h => by
    unfold trimN at h ⊢
    split at h
    · rename_i h0
      rw [if_pos h0]
      exact trim_top ws n (by omega) h
    · rename_i h0
      rw [if_neg h0]
      simpa using h0
def trRel (w : World) (ws : List Nat) (i : Value) (wr : World) : Prop := ∃ k : Nat, k ≤ ws.length ∧ i = .int .i64 k ∧ trimN ws k = trimN ws ws.length ∧ w = wr
theorem info_w : (Tryd.prog.info? 101).map (fun i => (i.zero, i.size, i.bytes)) = some (some (.int .u32 0), 1, 4) := by kernel_rfl
theorem under_w : Tryd.prog.underlying 57 = some (.slice 101) := by kernel_rfl
def OwnW (w : World) (base : Nat) (v : Value) (xs : List Nat) : Prop := w.ownsRow base 101 1 v xs.length (w32 xs)
theorem OwnW.nil_ (w : World) (base : Nat) : OwnW w base (.slice none 0 0) [] := World.ownsRow_nil w base _ _
theorem OwnW.view {w : World} {base : Nat} {v : Value} {xs : List Nat} (h : OwnW w base v xs) : ∃ A c, v = .slice A xs.length c ∧ (A = none → c = 0) ∧ CellsAt w w.heap.size A (w32 xs) := by
  rcases h.2 with ⟨rfl, h0⟩ | ⟨g, cap, cur, rfl, hb, hg, hn, hm, hs, ht⟩
  · have : xs = [] := List.eq_nil_of_length_eq_zero h0
    subst this
    exact ⟨none, 0, rfl, fun _ => rfl, CellsAt.nil_⟩
  · have hlt := (World.ownsRow.lt h g rfl).2
    refine ⟨some ⟨g, 0, none⟩, cap, rfl, by simp, fun _ => ⟨g, 0, rfl, hlt, hlt, fun j u hu => ?_⟩⟩
    have := World.ownsRow.cells h (g := g) rfl j u hu
    rcases j with _ | j
    · simpa [Addr.add] using this
    · simpa [Addr.add] using this
theorem OwnW.drew {w : World} {base : Nat} {v : Value} {xs : List Nat} (h : OwnW w base v xs) : OwnW w.drew base v xs := h
theorem OwnW.drewN {w : World} {base : Nat} {v : Value} {xs : List Nat} (h : OwnW w base v xs) (n : Nat) : OwnW (w.drewN n) base v xs := by
  induction n generalizing w with
  | zero => exact h
  | succ n ih => exact ih (w := w.drew) h.drew
def canon (n : Nat) : List Nat := if h : n = 0 then [] else n % 4294967296 :: canon (n / 4294967296)
termination_by n
decreasing_by exact Nat.div_lt_self (by omega) (by decide)
theorem canon_zero : canon 0 = [] := by rw [canon]; simp
theorem canon_pos {n : Nat} (h : n ≠ 0) : canon n = n % 4294967296 :: canon (n / 4294967296) := by rw [canon]; simp [h]
theorem canon_ok (n : Nat) : wordsOk (canon n) := by
  induction n using Nat.strongRecOn with
  | _ n ih =>
    by_cases h : n = 0
    · subst h; rw [canon_zero]; intro x hx; cases hx
    · rw [canon_pos h]
      intro x hx
      rcases List.mem_cons.1 hx with rfl | hx
      · omega
      · exact ih _ (Nat.div_lt_self (by omega) (by decide)) x hx
theorem wval_canon (n : Nat) : wval (canon n) = n := by
  induction n using Nat.strongRecOn with
  | _ n ih =>
    by_cases h : n = 0
    · subst h; rw [canon_zero]; rfl
    · rw [canon_pos h]
      simp only [wval]
      rw [ih _ (Nat.div_lt_self (by omega) (by decide))]
      omega
theorem wval_zero {ws : List Nat} (h : wval ws = 0) : ∀ x ∈ ws, x = 0 := by
  induction ws with
  | nil => simp
  | cons x l ih =>
    simp only [wval] at h
    intro y hy
    rcases List.mem_cons.1 hy with rfl | hy
    · omega
    · exact ih (by omega) y hy
theorem canon_wval {ws : List Nat} (h : wordsOk ws) (ht : ws ≠ [] → ws[ws.length - 1]?.getD 0 ≠ 0) : canon (wval ws) = ws := by
  induction ws with
  | nil => exact canon_zero
  | cons x l ih =>
    have hx := h x (by simp)
    have htop := ht (by simp)
    have hl : canon (wval l) = l := ih (fun y hy => h y (by simp [hy])) (fun hne => by
      have hp : 0 < l.length := List.length_pos_iff.2 hne
      have e : (x :: l)[(x :: l).length - 1]? = l[l.length - 1]? := by
        rw [show (x :: l).length - 1 = (l.length - 1) + 1 by simp; omega]
        rfl
      rw [e] at htop
      exact htop)
    have hne : wval (x :: l) ≠ 0 := fun h0 => by
      have hz := wval_zero h0
      apply htop
      have : (x :: l)[(x :: l).length - 1]? = some ((x :: l)[(x :: l).length - 1]'(by simp)) := List.getElem?_eq_getElem _
      rw [this]
      exact hz _ (List.getElem_mem _)
    rw [canon_pos hne]
    simp only [wval]
    rw [show (x + 4294967296 * wval l) % 4294967296 = x by omega, show (x + 4294967296 * wval l) / 4294967296 = wval l by omega, hl]
theorem trim_canon {ws : List Nat} (h : wordsOk ws) : trimL ws = canon (wval ws) := by
  rw [← wval_trim ws]
  refine (canon_wval (fun x hx => h x (List.mem_of_mem_take hx)) (fun hne => ?_)).symm
  have hne : trimL ws ≠ [] := hne
  show (trimL ws)[(trimL ws).length - 1]?.getD 0 ≠ 0
  have hl := trimL_len ws
  have hp : 0 < (trimL ws).length := List.length_pos_iff.2 hne
  have ht := trim_top ws ws.length (Nat.le_refl _) (by omega)
  rw [hl]
  show (ws.take (trimN ws ws.length))[trimN ws ws.length - 1]?.getD 0 ≠ 0
  rw [List.getElem?_take, if_pos (by omega)]
  exact ht
theorem canon_len_le {n k : Nat} (h : n < 4294967296 ^ k) : (canon n).length ≤ k := by
  induction k generalizing n with
  | zero =>
    have : n = 0 := by simpa using h
    subst this
    rw [canon_zero]
    simp
  | succ k ih =>
    by_cases h0 : n = 0
    · subst h0; rw [canon_zero]; simp
    · rw [canon_pos h0]
      have := ih (n := n / 4294967296) (by rw [Nat.pow_succ] at h; exact Nat.div_lt_of_lt_mul (by rw [Nat.mul_comm]; exact h))
      simp
      omega
theorem OwnW.cap_ {w : World} {base n c : Nat} {A : Option Addr} {xs : List Nat} (h : OwnW w base (.slice A n c) xs) : n = xs.length ∧ n ≤ c ∧ (A = none → c = 0) ∧ CellsAt w w.heap.size A (w32 xs) := by
  have h2 := h.2
  obtain ⟨A', c', he, h1, h3⟩ := h.view
  cases he
  refine ⟨rfl, ?_, h1, h3⟩
  rcases h2 with ⟨h0, hn⟩ | ⟨g, cap, cur, h0, hb, hg, hn, hm, hs, ht⟩
  · omega
  · cases h0
    omega
theorem wval_take_succ (a : List Nat) (k : Nat) : wval (a.take (k + 1)) = wval (a.take k) + 4294967296 ^ k * (a[k]?.getD 0) := by
  rw [List.take_add_one, wval_append]
  by_cases h : k < a.length
  · rw [List.getElem?_eq_getElem h, List.length_take, Nat.min_eq_left (by omega)]
    simp [wval]
  · rw [List.getElem?_eq_none (by omega)]
    simp [wval]
theorem pl_step {a b os : List Nat} {k cy x y z c' : Nat} (hol : os.length = k) (hx : a[k]?.getD 0 = x) (hy : b[k]?.getD 0 = y) (hv : wval os + 4294967296 ^ k * cy = wval (a.take k) + wval (b.take k)) (hz : z + 4294967296 * c' = cy + x + y) :
    wval (os ++ [z]) + 4294967296 ^ (k + 1) * c' = wval (a.take (k + 1)) + wval (b.take (k + 1)) := by
  rw [wval_take_succ a, wval_take_succ b, hx, hy, wval_append, hol, Nat.pow_succ, Nat.mul_assoc]
  have e1 : wval [z] = z := by simp [wval]
  rw [e1]
  have e2 : 4294967296 ^ k * z + 4294967296 ^ k * (4294967296 * c') = 4294967296 ^ k * cy + 4294967296 ^ k * x + 4294967296 ^ k * y := by
    rw [← Nat.mul_add, hz, Nat.mul_add, Nat.mul_add]
  omega
theorem words_push {os : List Nat} {z : Nat} (h : wordsOk os) (hz : z < 4294967296) : wordsOk (os ++ [z]) := by
  intro q hq
  rcases List.mem_append.1 hq with hq | hq
  · exact h q hq
  · simp at hq
    omega
theorem CellsAt.takeW {w : World} {m : Nat} {A : Option Addr} {ws : List Nat} (h : CellsAt w m A (w32 ws)) (n : Nat) : CellsAt w m A (w32 (ws.take n)) := fun hx => by
  have e : w32 (ws.take n) = (w32 ws).take n := by simp [w32]
  obtain ⟨b, off, hA, hbm, hbs, hc⟩ := h (fun h0 => hx (by rw [e, h0]; simp))
  refine ⟨b, off, hA, hbm, hbs, fun j u hu => hc j u ?_⟩
  rw [e, List.getElem?_take] at hu
  split at hu
  · exact hu
  · cases hu
def plRel (w : World) (a b : List Nat) (v cv i : Value) (wr : World) : Prop :=
  ∃ (k : Nat) (os : List Nat) (cy : Nat), k ≤ max a.length b.length ∧ i = .int .i64 (k : Int) ∧ cv = .int .u64 (cy : Int) ∧ OwnW wr w.heap.size v os ∧ os.length = k ∧ wordsOk os ∧ cy ≤ 1 ∧
    wval os + 4294967296 ^ k * cy = wval (a.take k) + wval (b.take k) ∧ Below w.heap.size w wr
theorem wval_lt {ws : List Nat} (h : wordsOk ws) : wval ws < 4294967296 ^ ws.length := by
  induction ws with
  | nil => simp [wval]
  | cons x l ih =>
    have h1 := h x (by simp)
    have h2 := ih (fun y hy => h y (by simp [hy]))
    simp only [wval, List.length_cons, Nat.pow_succ]
    omega
theorem wval_split {ws : List Nat} {k x : Nat} (h : ws[k]? = some x) : wval ws = wval (ws.take k) + 4294967296 ^ k * (x + 4294967296 * wval (ws.drop (k + 1))) := by
  have hk := (List.getElem?_eq_some_iff.1 h).1
  have hx := (List.getElem?_eq_some_iff.1 h).2
  have e : ws = ws.take k ++ x :: ws.drop (k + 1) := by
    rw [← hx, ← List.drop_eq_getElem_cons hk, List.take_append_drop]
  have hl : (ws.take k).length = k := by rw [List.length_take]; omega
  conv => lhs; rw [e]
  rw [wval_append, hl]
  rfl
theorem less_side {K T1 T2 x y D : Nat} (h1 : T1 < K) (h : x < y) : T1 + K * (x + D) < T2 + K * (y + D) := by
  have h2 : K * (x + D + 1) ≤ K * (y + D) := Nat.mul_le_mul_left K (by omega)
  rw [Nat.mul_add, Nat.mul_one] at h2
  omega
theorem less_at {a b : List Nat} {k x y : Nat} (oka : wordsOk a) (okb : wordsOk b) (hx : a[k]? = some x) (hy : b[k]? = some y) (hd : a.drop (k + 1) = b.drop (k + 1)) (hne : x ≠ y) : decide (wval a < wval b) = decide (x < y) := by
  have ha := wval_split hx
  have hb := wval_split hy
  have hka := (List.getElem?_eq_some_iff.1 hx).1
  have hkb := (List.getElem?_eq_some_iff.1 hy).1
  have la := wval_lt (ws := a.take k) (fun z hz => oka z (List.mem_of_mem_take hz))
  have lb := wval_lt (ws := b.take k) (fun z hz => okb z (List.mem_of_mem_take hz))
  rw [List.length_take, Nat.min_eq_left (by omega)] at la lb
  rw [hd] at ha
  rcases Nat.lt_or_gt_of_ne hne with h | h
  · have := less_side (T2 := wval (b.take k)) (D := 4294967296 * wval (b.drop (k + 1))) la h
    rw [← ha, ← hb] at this
    rw [decide_eq_true this, decide_eq_true h]
  · have := less_side (T2 := wval (a.take k)) (D := 4294967296 * wval (b.drop (k + 1))) lb h
    rw [← ha, ← hb] at this
    rw [decide_eq_false (by omega), decide_eq_false (by omega)]
def lessB (a b : List Nat) : Bool := if a.length = b.length then decide (wval a < wval b) else decide (a.length < b.length)
def lsRel (w : World) (a b : List Nat) (i : Value) (wr : World) : Prop := ∃ k nq : Nat, k ≤ a.length ∧ i = .int .i64 ((k : Int) - 1) ∧ a.drop k = b.drop k ∧ w.drewN nq = wr
theorem drop_step {a b : List Nat} {k x : Nat} (hx : a[k]? = some x) (hy : b[k]? = some x) (h : a.drop (k + 1) = b.drop (k + 1)) : a.drop k = b.drop k := by
  have hka := (List.getElem?_eq_some_iff.1 hx)
  have hkb := (List.getElem?_eq_some_iff.1 hy)
  rw [List.drop_eq_getElem_cons hka.1, List.drop_eq_getElem_cons hkb.1, hka.2, hkb.2, h]
def miRel (w : World) (a b : List Nat) (v cv i : Value) (wr : World) : Prop :=
  ∃ (k : Nat) (os : List Nat) (br : Nat), k ≤ a.length ∧ i = .int .i64 (k : Int) ∧ cv = .int .i64 (br : Int) ∧ OwnW wr w.heap.size v os ∧ os.length = k ∧ wordsOk os ∧ br ≤ 1 ∧
    wval os + wval (b.take k) = wval (a.take k) + 4294967296 ^ k * br ∧ Below w.heap.size w wr
structure DyOk (neg : Bool) (n : Nat) (den : Nat) : Prop where
  zero : n = 0 → neg = false ∧ den = 0
  fine : den ≤ 65536
  odd : den ≠ 0 → n % 2 = 1
theorem canon_ne {n : Nat} (h : n ≠ 0) : 0 < (canon n).length := by
  rw [canon_pos h]
  simp
theorem canon_head {n : Nat} (h : n ≠ 0) : (canon n)[0]? = some (n % 4294967296) := by
  rw [canon_pos h]
  rfl
theorem canon_top {n : Nat} (h : n ≠ 0) : (canon n)[(canon n).length - 1]?.getD 0 ≠ 0 := by
  induction n using Nat.strongRecOn with
  | _ n ih =>
    rw [canon_pos h]
    by_cases h2 : n / 4294967296 = 0
    · rw [h2, canon_zero]
      simp
      omega
    · have := ih _ (Nat.div_lt_self (by omega) (by decide)) h2
      have hl := canon_ne h2
      rw [show (n % 4294967296 :: canon (n / 4294967296)).length - 1 = ((canon (n / 4294967296)).length - 1) + 1 by simp; omega]
      exact this
def RowD (w : World) (b : Nat) (vs : List Value) (t : TypeId) : Prop := w.heap[b]? = some (.cells vs.toArray t (0, 0))
theorem RowD.lt {w : World} {b t : Nat} {vs : List Value} (h : RowD w b vs t) : b < w.heap.size := (Array.getElem?_eq_some_iff.1 h).1
theorem RowD.new_ (w : World) (vs : List Value) (t : TypeId) : RowD (w.alloc (.cells vs.toArray t)) w.heap.size vs t := heap_alloc_new w _
theorem RowD.below {w w' : World} {b B t : Nat} {vs : List Value} (h : RowD w b vs t) (hb : Below B w w') (hB : b < B) : RowD w' b vs t := (hb.block b hB).trans h
theorem RowD.cell {w : World} {b t : Nat} {vs : List Value} (h : RowD w b vs t) (j : Nat) : w.cell? ⟨b, j, none⟩ = vs[j]? := by
  rw [cell_of_row w b j vs.toArray t (0, 0) h]
  simp
theorem RowD.free {w : World} {b t : Nat} {vs : List Value} (h : RowD w b vs t) (j : Nat) : w.frozen? ⟨b, j, none⟩ = false := frozen_of_row w b j vs.toArray t h
theorem RowD.set_ {w : World} {b t : Nat} {vs : List Value} (h : RowD w b vs t) (j : Nat) (u : Value) : RowD (w.setCell ⟨b, j, none⟩ u) b (vs.set j u) t := by
  have := heap_setCell_same w b j vs.toArray t u h
  simpa [RowD] using this
def sgn (neg : Bool) (n : Nat) : Int := if n = 0 then 0 else if neg = true then -1 else 1
theorem or_low {c x s : Nat} (hc : c < 2 ^ s) (hx : x < 4294967296) (hs : s ≤ 32) : bits .or .u64 (c : Int) ((x * 2 ^ s : Nat) : Int) = ((c + x * 2 ^ s : Nat) : Int) := by
  have h32 : 2 ^ s ≤ 2 ^ 32 := Nat.pow_le_pow_right (by decide) hs
  have hp : x * 2 ^ s ≤ 4294967295 * 2 ^ 32 := Nat.mul_le_mul (by omega) h32
  rw [bits_or_u64_nat c (x * 2 ^ s) (by omega) (by omega)]
  have h := Nat.two_pow_add_eq_or_of_lt hc x
  rw [Nat.or_comm, Nat.mul_comm x, ← h, Nat.add_comm]
theorem info_w4 : (Tryd.prog.info? 101).map (fun i => (i.zero, i.size, i.bytes)) = some (some (.int .u32 0), 1, 4) := by kernel_rfl
theorem wval_zeros (q : Nat) : wval (List.replicate q 0) = 0 := by
  induction q with
  | zero => rfl
  | succ q ih => rw [List.replicate_succ]; simp [wval, ih]
theorem words_zeros (q : Nat) : wordsOk (List.replicate q 0) := fun x hx => by
  have := (List.mem_replicate.1 hx).2
  omega
theorem lf_word {cy x p : Nat} (hc : cy < p) (hx : x < 4294967296) : (cy + x * p) / 4294967296 < p := by
  have h : x * p ≤ 4294967295 * p := Nat.mul_le_mul_right _ (by omega)
  omega
theorem lf_step {os a : List Nat} {q k cy x z c' p : Nat} (hol : os.length = q + k) (hx : a[k]?.getD 0 = x) (hv : wval os + 4294967296 ^ (q + k) * cy = wval (a.take k) * (4294967296 ^ q * p)) (hz : z + 4294967296 * c' = cy + x * p) :
    wval (os ++ [z]) + 4294967296 ^ (q + (k + 1)) * c' = wval (a.take (k + 1)) * (4294967296 ^ q * p) := by
  rw [wval_take_succ a, hx, wval_append, hol, Nat.add_mul, ← hv]
  have e1 : wval [z] = z := by simp [wval]
  rw [e1, show q + (k + 1) = (q + k) + 1 by omega, Nat.pow_succ 4294967296 (q + k), Nat.pow_add]
  have e2 : 4294967296 ^ q * 4294967296 ^ k * z + 4294967296 ^ q * 4294967296 ^ k * (4294967296 * c') = 4294967296 ^ q * 4294967296 ^ k * cy + 4294967296 ^ q * 4294967296 ^ k * (x * p) := by
    rw [← Nat.mul_add, hz, Nat.mul_add]
  have e3 : 4294967296 ^ k * x * (4294967296 ^ q * p) = 4294967296 ^ q * 4294967296 ^ k * (x * p) := by
    rw [Nat.mul_comm (4294967296 ^ q) (4294967296 ^ k), Nat.mul_assoc, Nat.mul_assoc]
    congr 1
    rw [← Nat.mul_assoc, ← Nat.mul_assoc, Nat.mul_comm x]
  rw [e3, Nat.mul_assoc (4294967296 ^ q * 4294967296 ^ k)]
  omega
theorem pow_split (n : Nat) : 2 ^ n = 4294967296 ^ (n / 32) * 2 ^ (n % 32) := by
  have h : n = 32 * (n / 32) + n % 32 := by omega
  have e : (4294967296 : Nat) = 2 ^ 32 := by decide
  rw [e, ← Nat.pow_mul, ← Nat.pow_add, ← h]
def lfRel (w : World) (a : List Nat) (q p : Nat) (v cv i : Value) (wr : World) : Prop :=
  ∃ (k : Nat) (os : List Nat) (cy : Nat), k ≤ a.length ∧ i = .int .i64 (k : Int) ∧ cv = .int .u64 (cy : Int) ∧ OwnW wr w.heap.size v os ∧ os.length = q + k ∧ wordsOk os ∧ cy < p ∧
    wval os + 4294967296 ^ (q + k) * cy = wval (a.take k) * (4294967296 ^ q * p) ∧ Below w.heap.size w wr
theorem wval_drop {a : List Nat} (h : wordsOk a) (i : Nat) : wval a / 4294967296 ^ i = wval (a.drop i) := by
  by_cases hi : i ≤ a.length
  · have e := wval_append (a.take i) (a.drop i)
    rw [List.take_append_drop, List.length_take, Nat.min_eq_left hi] at e
    have hl := wval_lt (ws := a.take i) (fun x hx => h x (List.mem_of_mem_take hx))
    rw [List.length_take, Nat.min_eq_left hi] at hl
    rw [e, Nat.add_mul_div_left _ _ (Nat.pow_pos (by decide)), Nat.div_eq_of_lt hl, Nat.zero_add]
  · rw [List.drop_eq_nil_of_le (by omega)]
    have hl := wval_lt h
    refine Nat.div_eq_of_lt (Nat.lt_of_lt_of_le hl (Nat.pow_le_pow_right (by decide) (by omega)))
theorem wval_drop_get {a : List Nat} {i : Nat} : wval (a.drop i) = a[i]?.getD 0 + 4294967296 * wval (a.drop (i + 1)) := by
  by_cases hi : i < a.length
  · rw [List.drop_eq_getElem_cons hi, List.getElem?_eq_getElem hi]
    rfl
  · rw [List.drop_eq_nil_of_le (by omega), List.drop_eq_nil_of_le (by omega), List.getElem?_eq_none (by omega)]
    rfl
theorem pow32 (n : Nat) : 2 ^ n = 4294967296 ^ (n / 32) * 2 ^ (n % 32) := pow_split n
theorem wval_bit {a : List Nat} (h : wordsOk a) (i : Nat) : wval a / 2 ^ i % 2 = (a[i / 32]?.getD 0) / 2 ^ (i % 32) % 2 := by
  rw [pow32 i, ← Nat.div_div_eq_div_mul, wval_drop h, wval_drop_get]
  generalize a[i / 32]?.getD 0 = x
  generalize wval (a.drop (i / 32 + 1)) = y
  have e : (4294967296 : Nat) = 2 ^ (i % 32) * (2 * 2 ^ (31 - i % 32)) := by
    rw [← Nat.pow_succ', ← Nat.pow_add, show i % 32 + (31 - i % 32).succ = 32 by omega]
  rw [show 4294967296 * y = 2 ^ (i % 32) * (2 * (2 ^ (31 - i % 32) * y)) by rw [← Nat.mul_assoc, ← Nat.mul_assoc, Nat.mul_assoc (2 ^ (i % 32)), ← e]]
  rw [Nat.add_mul_div_left _ _ (Nat.two_pow_pos _)]
  omega
def cutB (v i : Nat) : Bool := decide (v % 2 ^ i ≠ 0)
theorem rg_word {x y t r : Nat} (hr : r ≤ 31) : (x + 4294967296 * (y + 4294967296 * t)) / 2 ^ r % 4294967296 = (x + y * 4294967296) / 2 ^ r % 4294967296 := by
  have e : (4294967296 : Nat) = 2 ^ r * 2 ^ (32 - r) := by rw [← Nat.pow_add, show r + (32 - r) = 32 by omega]
  rw [show x + 4294967296 * (y + 4294967296 * t) = (x + y * 4294967296) + 2 ^ r * (4294967296 * (2 ^ (32 - r) * t)) by
    have : 4294967296 * (4294967296 * t) = 2 ^ r * (4294967296 * (2 ^ (32 - r) * t)) := by
      rw [← Nat.mul_assoc, ← Nat.mul_assoc, ← Nat.mul_assoc, Nat.mul_comm (2 ^ r) 4294967296, Nat.mul_assoc 4294967296 (2 ^ r), ← e]
    omega]
  rw [Nat.add_mul_div_left _ _ (Nat.two_pow_pos _)]
  omega
theorem rg_step {a os : List Nat} {n k z : Nat} (h : wordsOk a) (hol : os.length = k) (hv : wval os = wval a / 2 ^ n % 4294967296 ^ k)
    (hz : z = (a[n / 32 + k]?.getD 0 + a[n / 32 + k + 1]?.getD 0 * 4294967296) / 2 ^ (n % 32) % 4294967296) :
    wval (os ++ [z]) = wval a / 2 ^ n % 4294967296 ^ (k + 1) := by
  rw [wval_append, hol, hv, Nat.pow_succ, Nat.mod_mul]
  congr 1
  have e1 : wval [z] = z := by simp [wval]
  have e2 : wval a / 2 ^ n / 4294967296 ^ k = wval (a.drop (n / 32 + k)) / 2 ^ (n % 32) := by
    rw [← wval_drop h, Nat.pow_add, pow32 n]
    simp only [Nat.div_div_eq_div_mul]
    congr 1
    rw [Nat.mul_assoc, Nat.mul_assoc, Nat.mul_comm (2 ^ _)]
  rw [e1, e2, wval_drop_get, wval_drop_get, rg_word (by omega), hz]
theorem rg_end {a os : List Nat} {n k : Nat} (h : wordsOk a) (hk : a.length ≤ n / 32 + k) (hv : wval os = wval a / 2 ^ n % 4294967296 ^ k) : wval os = wval a / 2 ^ n := by
  rw [hv]
  refine Nat.mod_eq_of_lt ?_
  have hl := wval_lt h
  refine (Nat.div_lt_iff_lt_mul (Nat.two_pow_pos _)).2 (Nat.lt_of_lt_of_le hl ?_)
  rw [pow32 n, ← Nat.mul_assoc, ← Nat.pow_add]
  refine Nat.le_trans (Nat.pow_le_pow_right (by decide) (show a.length ≤ k + n / 32 by omega)) (Nat.le_mul_of_pos_right _ (Nat.two_pow_pos _))
def rgRel2 (w : World) (a : List Nat) (n q : Nat) (v i : Value) (wr : World) : Prop :=
  ∃ (k : Nat) (os : List Nat), q + k ≤ a.length ∧ i = .int .i64 ((q + k : Nat) : Int) ∧ OwnW wr w.heap.size v os ∧ os.length = k ∧ wordsOk os ∧ wval os = wval a / 2 ^ n % 4294967296 ^ k ∧ Below w.heap.size w wr
def rgRel (a : List Nat) (n : Nat) (w : World) (cv i : Value) (wr : World) : Prop :=
  ∃ k : Nat, k ≤ n ∧ k ≤ 32 * a.length ∧ i = .int .i64 (k : Int) ∧ cv = .bool (cutB (wval a) k) ∧ w = wr
def nf (m : Int) : Nat → Int × Nat
  | 0 => (m, 0)
  | d + 1 => if m % 2 = 0 then nf (m / 2) d else (m, d + 1)
def sg (neg : Bool) (n : Nat) : Int := if neg = true then -(n : Int) else n
theorem nf_zero (d : Nat) : nf 0 d = (0, 0) := by
  induction d with
  | zero => rfl
  | succ d ih => simp [nf, ih]
theorem nf_le (m : Int) (d : Nat) : (nf m d).2 ≤ d := by
  induction d generalizing m with
  | zero => exact Nat.le_refl _
  | succ d ih =>
    unfold nf
    split
    · have := ih (m / 2); omega
    · exact Nat.le_refl _
theorem nf_odd (m : Int) (d : Nat) : (nf m d).2 ≠ 0 → (nf m d).1 % 2 = 1 := by
  induction d generalizing m with
  | zero => simp [nf]
  | succ d ih =>
    unfold nf
    split
    · exact ih _
    · intro _
      simp
      omega
theorem nf_done {m : Int} {d : Nat} (h : d ≠ 0 → m % 2 = 1) : nf m d = (m, d) := by
  cases d with
  | zero => rfl
  | succ d =>
    have := h (by omega)
    simp [nf, this]
theorem nf_eq (m : Int) (d : Nat) : (nf m d).1 * 2 ^ d = m * 2 ^ (nf m d).2 := by
  induction d generalizing m with
  | zero => rfl
  | succ d ih =>
    unfold nf
    split
    · rename_i h
      rw [Int.pow_succ, ← Int.mul_assoc, ih]
      have : m = m / 2 * 2 := by omega
      rw [Int.mul_assoc, Int.mul_comm (2 ^ _) 2, ← Int.mul_assoc, ← this]
    · rfl
theorem nf_abs_le (m : Int) (d : Nat) : (nf m d).1.natAbs ≤ m.natAbs := by
  induction d generalizing m with
  | zero => exact Nat.le_refl _
  | succ d ih =>
    unfold nf
    split
    · have := ih (m / 2); omega
    · exact Nat.le_refl _
theorem sg_abs (neg : Bool) (n : Nat) : (sg neg n).natAbs = n := by
  unfold sg
  split <;> omega
theorem sg_neg {neg : Bool} {n : Nat} (h : n ≠ 0) : decide (sg neg n < 0) = neg := by
  unfold sg
  cases neg <;> simp <;> omega
theorem sg_back (m : Int) : sg (decide (m < 0)) m.natAbs = m := by
  unfold sg
  by_cases h : m < 0
  · simp [h]; omega
  · simp [h]; omega
theorem nf_step {neg : Bool} {n k den : Nat} (hk : k < den) (h : n / 2 ^ k % 2 = 0) : nf (sg neg (n / 2 ^ k)) (den - k) = nf (sg neg (n / 2 ^ (k + 1))) (den - (k + 1)) := by
  rw [Nat.pow_succ, ← Nat.div_div_eq_div_mul, show den - k = (den - (k + 1)) + 1 by omega]
  generalize n / 2 ^ k = y at *
  show (if sg neg y % 2 = 0 then nf (sg neg y / 2) (den - (k + 1)) else _) = _
  have e1 : sg neg y % 2 = 0 := by unfold sg; split <;> omega
  have e2 : sg neg y / 2 = sg neg (y / 2) := by unfold sg; split <;> omega
  rw [if_pos e1, e2]
theorem canon_len_mono {a b : Nat} (h : a ≤ b) : (canon a).length ≤ (canon b).length := by
  refine canon_len_le (Nat.lt_of_le_of_lt h ?_)
  have := wval_lt (canon_ok b)
  rwa [wval_canon] at this
def DyR (w : World) (lo hi : Nat) (v : Value) (x : Int) (d : Nat) : Prop :=
  ∃ A c, v = .agg #[.bool (decide (x < 0)), .slice A (canon x.natAbs).length c, .int .i64 (d : Int)] ∧ (A = none → c = 0) ∧ (canon x.natAbs).length ≤ c ∧ CellsAt w hi A (w32 (canon x.natAbs)) ∧
    (∀ a, A = some a → lo ≤ a.block) ∧ d ≤ 65536 ∧ (d ≠ 0 → x % 2 = 1)
theorem DyR.zero_ (w : World) (lo hi : Nat) : DyR w lo hi (.agg #[.bool false, .slice none 0 0, .int .i64 0]) 0 0 := by
  refine ⟨none, 0, ?_, fun _ => rfl, ?_, ?_, by simp, by omega, by simp⟩
  · rw [show (0 : Int).natAbs = 0 by rfl, canon_zero]; rfl
  · rw [show (0 : Int).natAbs = 0 by rfl, canon_zero]; exact Nat.le_refl _
  · rw [show (0 : Int).natAbs = 0 by rfl, canon_zero]; exact CellsAt.nil_
def n0Rel (w : World) (i : Value) (wr : World) : Prop := i = .int .i64 0 ∧ w = wr
def nuRel (n den : Nat) (neg : Bool) (w : World) (i : Value) (wr : World) : Prop :=
  ∃ k : Nat, k ≤ den ∧ k ≤ 32 * (canon n).length ∧ i = .int .i64 (k : Int) ∧ n % 2 ^ k = 0 ∧ nf (sg neg n) den = nf (sg neg (n / 2 ^ k)) (den - k) ∧ w = wr
theorem DyR.below {w w' : World} {lo hi B d : Nat} {v : Value} {x : Int} (h : DyR w lo hi v x d) (hb : Below B w w') (hB : hi ≤ B) : DyR w' lo hi v x d := by
  obtain ⟨A, c, e, h1, h2, h3, h4, h5, h6⟩ := h
  exact ⟨A, c, e, h1, h2, h3.below hb hB, h4, h5, h6⟩
theorem DyR.more {w : World} {lo hi hi' d : Nat} {v : Value} {x : Int} (h : DyR w lo hi v x d) (hB : hi ≤ hi') : DyR w lo hi' v x d := by
  obtain ⟨A, c, e, h1, h2, h3, h4, h5, h6⟩ := h
  exact ⟨A, c, e, h1, h2, h3.more hB, h4, h5, h6⟩
theorem DyR.low {w : World} {lo lo' hi d : Nat} {v : Value} {x : Int} (h : DyR w lo hi v x d) (hB : lo' ≤ lo) : DyR w lo' hi v x d := by
  obtain ⟨A, c, e, h1, h2, h3, h4, h5, h6⟩ := h
  exact ⟨A, c, e, h1, h2, h3, fun a ha => Nat.le_trans hB (h4 a ha), h5, h6⟩
theorem CellsAt.setD {w : World} {m : Nat} {A : Option Addr} {xs : List Value} (h : CellsAt w m A xs) {b j : Nat} (u : Value) (hA : ∀ a : Addr, A = some a → a.block ≠ b) : CellsAt (w.setCell ⟨b, j, none⟩ u) m A xs := fun hx => by
  obtain ⟨g, off, rfl, hbm, hbs, hc⟩ := h hx
  refine ⟨g, off, rfl, hbm, by simpa using hbs, fun i u hu => ?_⟩
  have hne : g ≠ b := hA _ rfl
  rw [World.cell?_setCell_other _ _ _ _ (by first | (simp; omega) | simp_all)]
  exact hc i u hu
theorem DyR.set_ {w : World} {lo hi d b : Nat} {v : Value} {x : Int} (h : DyR w lo hi v x d) (hb : b < lo) (j : Nat) (u : Value) : DyR (w.setCell ⟨b, j, none⟩ u) lo hi v x d := by
  obtain ⟨A, c, e, h1, h2, h3, h4, h5, h6⟩ := h
  exact ⟨A, c, e, h1, h2, h3.setD u (fun a ha h0 => by have := h4 a ha; omega), h4, h5, h6⟩
theorem DyR.form {w : World} {lo hi d : Nat} {v : Value} {x : Int} (h : DyR w lo hi v x d) : ∃ nb A L c, v = .agg #[.bool nb, .slice A L c, .int .i64 (d : Int)] ∧
    Hid (nb = decide (x < 0) ∧ L = (canon x.natAbs).length ∧ (A = none → c = 0) ∧ L ≤ c ∧ CellsAt w hi A (w32 (canon x.natAbs)) ∧ d ≤ 65536 ∧ (d ≠ 0 → x % 2 = 1)) := by
  obtain ⟨A, c, e, h1, h2, h3, h4, h5, h6⟩ := h
  exact ⟨_, A, _, c, e, Lib.hid ⟨rfl, rfl, h1, h2, h3, h5, h6⟩⟩
theorem dy_ok {x : Int} {d : Nat} (h5 : d ≤ 65536) (h6 : d ≠ 0 → x % 2 = 1) : DyOk (decide (x < 0)) x.natAbs d := by
  refine ⟨fun h => ?_, h5, fun h => by have := h6 h; omega⟩
  have hx : x = 0 := by omega
  subst hx
  refine ⟨by simp, ?_⟩
  rcases Nat.eq_zero_or_pos d with h | h
  · exact h
  · have := h6 (by omega)
    omega
def sgI (x : Int) : Int := if x = 0 then 0 else if x < 0 then -1 else 1
theorem RowD.other_ {w : World} {b t : Nat} {vs : List Value} (h : RowD w b vs t) {k : Nat} (hk : b ≠ k) (j : Nat) (u : Value) : RowD (w.setCell ⟨k, j, none⟩ u) b vs t := by
  unfold RowD
  rw [heap_setCell_other _ _ _ _ hk]
  exact h
theorem RowD.cells_ {w : World} {b t m : Nat} {vs : List Value} (h : RowD w b vs t) (hm : b < m) : CellsAt w m (some ⟨b, 0, none⟩) vs := fun _ => ⟨b, 0, rfl, hm, h.lt, fun j u hu => by
  have := h.cell j
  rw [Nat.zero_add, this]
  exact hu⟩
theorem of_words {lo hi : Nat} : wval [lo, hi] = lo + 4294967296 * hi := by simp [wval]
theorem of_ok {lo hi : Nat} (h1 : lo < 4294967296) (h2 : hi < 4294967296) : wordsOk [lo, hi] := by
  intro x hx
  simp at hx
  omega
def OwnD (w : World) (r : Nat) : Prop := ∃ v0 v1 v2, RowD w r [v0, v1, v2] 59
structure SK (W : World) (m r : Nat) (w : World) : Prop where
  is : Below m W w
  fits : m ≤ w.heap.size
  own : OwnD w r
theorem SK.refl {w : World} {m r : Nat} (h : m ≤ w.heap.size) (ho : OwnD w r) : SK w m r w := ⟨Below.refl _ _, h, ho⟩
theorem SK.drew {W w : World} {m r : Nat} (h : SK W m r w) : SK W m r w.drew := ⟨h.is.drew, h.fits, h.own⟩
theorem RowD.call {w w' : World} {b t : Nat} {vs : List Value} (h : RowD w b vs t) (hb : Below w.heap.size w w') : RowD w' b vs t := h.below hb h.lt
theorem SK.call {W w w' : World} {m r : Nat} (h : SK W m r w) (hb : Below w.heap.size w w') : SK W m r w' :=
  ⟨h.is.trans (hb.mono h.fits), Nat.le_trans h.fits hb.size, let ⟨_, _, _, hr⟩ := h.own; ⟨_, _, _, hr.call hb⟩⟩
theorem SK.set {W w : World} {m r : Nat} (h : SK W m r w) (hm : m ≤ r) (j : Nat) (u : Value) : SK W m r (w.setCell ⟨r, j, none⟩ u) := by
  refine ⟨h.is.setCell hm u, by simpa using h.fits, ?_⟩
  obtain ⟨v0, v1, v2, hr⟩ := h.own
  have h2 := hr.set_ j u
  rcases j with _ | _ | _ | j
  · exact ⟨_, _, _, h2⟩
  · exact ⟨_, _, _, h2⟩
  · exact ⟨_, _, _, h2⟩
  · exact ⟨_, _, _, h2⟩
theorem SK.lt {W w : World} {m r : Nat} (h : SK W m r w) : r < w.heap.size := let ⟨_, _, _, hr⟩ := h.own; hr.lt
theorem SK.all {W w : World} {m r : Nat} (h : SK W m r w) : (∀ b o, b < m → w.cell? ⟨b, o, none⟩ = W.cell? ⟨b, o, none⟩) ∧ SK W m r w :=
  ⟨fun _ _ hb => h.is.cell (p := ⟨_, _, none⟩) hb, h⟩
theorem SK.cells {W w : World} {m r : Nat} (h : SK W m r w) : ∃ v0 v1 v2, RowD w r [v0, v1, v2] 59 ∧ w.cell? ⟨r, 0, none⟩ = some v0 ∧ w.cell? ⟨r, 1, none⟩ = some v1 ∧ w.cell? ⟨r, 2, none⟩ = some v2 ∧ (∀ o, w.frozen? ⟨r, o, none⟩ = false) := by
  obtain ⟨v0, v1, v2, hr⟩ := h.own
  exact ⟨v0, v1, v2, hr, hr.cell 0, hr.cell 1, hr.cell 2, hr.free⟩
theorem canon_len_add (a b : Nat) : (canon (a + b)).length ≤ max (canon a).length (canon b).length + 1 := by
  refine canon_len_le ?_
  have h1 := wval_lt (canon_ok a)
  have h2 := wval_lt (canon_ok b)
  rw [wval_canon] at h1 h2
  have e1 : 4294967296 ^ (canon a).length ≤ 4294967296 ^ max (canon a).length (canon b).length := Nat.pow_le_pow_right (by decide) (by omega)
  have e2 : 4294967296 ^ (canon b).length ≤ 4294967296 ^ max (canon a).length (canon b).length := Nat.pow_le_pow_right (by decide) (by omega)
  rw [Nat.pow_succ]
  have h0 : 0 < 4294967296 ^ max (canon a).length (canon b).length := Nat.pow_pos (by decide)
  omega
theorem canon_len_shift (a n : Nat) : (canon (a * 2 ^ n)).length ≤ (canon a).length + n / 32 + 1 := by
  refine canon_len_le ?_
  have h1 := wval_lt (canon_ok a)
  rw [wval_canon] at h1
  have e : 2 ^ n ≤ 4294967296 ^ (n / 32 + 1) := by
    rw [show (4294967296 : Nat) = 2 ^ 32 by decide, ← Nat.pow_mul]
    exact Nat.pow_le_pow_right (by decide) (by omega)
  rw [Nat.add_assoc, Nat.pow_add]
  exact Nat.lt_of_lt_of_le (Nat.mul_lt_mul_of_pos_right h1 (Nat.two_pow_pos _)) (Nat.mul_le_mul_left _ e)
def WdR (w : World) (hi : Nat) (v : Value) (n : Nat) : Prop := ∃ A c, v = .slice A (canon n).length c ∧ (A = none → c = 0) ∧ (canon n).length ≤ c ∧ CellsAt w hi A (w32 (canon n))
theorem WdR.below {w w' : World} {hi B n : Nat} {v : Value} (h : WdR w hi v n) (hb : Below B w w') (hB : hi ≤ B) : WdR w' hi v n := by
  obtain ⟨A, c, e, h1, h2, h3⟩ := h
  exact ⟨A, c, e, h1, h2, h3.below hb hB⟩
theorem WdR.more {w : World} {hi hi' n : Nat} {v : Value} (h : WdR w hi v n) (hB : hi ≤ hi') : WdR w hi' v n := by
  obtain ⟨A, c, e, h1, h2, h3⟩ := h
  exact ⟨A, c, e, h1, h2, h3.more hB⟩
theorem WdR.form {w : World} {hi n : Nat} {v : Value} (h : WdR w hi v n) : ∃ A L c, v = .slice A L c := by
  obtain ⟨A, c, e, _⟩ := h
  exact ⟨A, _, c, e⟩
theorem DyR.words {w : World} {lo hi d : Nat} {nb : Bool} {A : Option Addr} {L c : Nat} {x : Int} (h : DyR w lo hi (.agg #[.bool nb, .slice A L c, .int .i64 (d : Int)]) x d) : WdR w hi (.slice A L c) x.natAbs := by
  obtain ⟨A', c', e, h1, h2, h3, _⟩ := h
  cases e
  exact ⟨_, _, rfl, h1, h2, h3⟩
def dySum (x : Int) (dx : Nat) (y : Int) (dy : Nat) : Int × Nat := nf (x * 2 ^ (max dx dy - dx) + y * 2 ^ (max dx dy - dy)) (max dx dy)
theorem sg_mul (x : Int) (k : Nat) : sg (decide (x < 0)) (x.natAbs * 2 ^ k) = x * 2 ^ k := by
  have e : ((x.natAbs * 2 ^ k : Nat) : Int) = (x.natAbs : Int) * 2 ^ k := by simp
  unfold sg
  by_cases h : x < 0
  · have : (x.natAbs : Int) = -x := by omega
    rw [if_pos (by simpa using h), e, this, Int.neg_mul, Int.neg_neg]
  · have : (x.natAbs : Int) = x := by omega
    rw [if_neg (by simpa using h), e, this]
theorem abs_mul_pow (x : Int) (k : Nat) : (x * 2 ^ k).natAbs = x.natAbs * 2 ^ k := by
  rw [Int.natAbs_mul, Int.natAbs_pow]
  rfl
def dyCmp (x : Int) (dx : Nat) (y : Int) (dy : Nat) : Int := sgI (dySum x dx (-y) dy).1
def dyMin (x : Int) (dx : Nat) (y : Int) (dy : Nat) : Int × Nat := if 0 < dyCmp x dx y dy then (y, dy) else (x, dx)
def dyMax (x : Int) (dx : Nat) (y : Int) (dy : Nat) : Int × Nat := if dyCmp x dx y dy < 0 then (y, dy) else (x, dx)
theorem dyCmp_int (x y : Int) : dyCmp x 0 y 0 = sgI (x - y) := by
  show sgI (x * 2 ^ 0 + -y * 2 ^ 0) = sgI (x - y)
  congr 1
  simp
  omega
theorem DyR.bound {w : World} {lo hi d : Nat} {v : Value} {x : Int} (h : DyR w lo hi v x d) : d ≤ 65536 ∧ (d ≠ 0 → x % 2 = 1) := by
  obtain ⟨A, c, e, h1, h2, h3, h4, h5, h6⟩ := h
  exact ⟨h5, h6⟩
def dyShift (x : Int) (d : Nat) (n : Int) : Int × Nat :=
  if max (-65536) (min n 65536) < 0 then nf x (d + (-(max (-65536) (min n 65536))).toNat) else nf (x * 2 ^ (max (-65536) (min n 65536)).toNat) d
def dyFloor (x : Int) (d den : Nat) : Int × Nat := if d ≤ den then (x, d) else nf (x / 2 ^ (d - den)) den
theorem fl_pos {x : Int} {k : Nat} (h : 0 ≤ x) : sg false (x.natAbs / 2 ^ k) = x / 2 ^ k := by
  obtain ⟨a, rfl⟩ := Int.eq_ofNat_of_zero_le h
  show ((a / 2 ^ k : Nat) : Int) = (a : Int) / 2 ^ k
  simp
theorem fl_neg_cut {x : Int} {k : Nat} (h : x < 0) (hc : cutB x.natAbs k = true) : sg true (x.natAbs / 2 ^ k + 1) = x / 2 ^ k := by
  obtain ⟨a, ha⟩ : ∃ a : Nat, x = -(a : Int) := ⟨x.natAbs, by omega⟩
  subst ha
  rw [show (-(a : Int)).natAbs = a by omega] at hc ⊢
  unfold cutB at hc
  simp only [decide_eq_true_eq] at hc
  have hp := Nat.two_pow_pos k
  have e := Nat.div_add_mod a (2 ^ k)
  have hm := Nat.mod_lt a hp
  show -((a / 2 ^ k + 1 : Nat) : Int) = -(a : Int) / 2 ^ k
  have ec : ((2 ^ k : Nat) : Int) = 2 ^ k := by simp
  rw [← ec]
  generalize 2 ^ k = P at *
  have h1 : -(a : Int) = (P : Int) * (-((a / P + 1 : Nat) : Int)) + ((P - a % P : Nat) : Int) := by
    have e3 : ((P - a % P : Nat) : Int) = (P : Int) - ((a % P : Nat) : Int) := by omega
    have e4 : (a : Int) = (P : Int) * ((a / P : Nat) : Int) + ((a % P : Nat) : Int) := by exact_mod_cast e.symm
    rw [e3]
    generalize a / P = u at *
    generalize a % P = v at *
    rw [e4, Int.mul_neg, show ((u + 1 : Nat) : Int) = (u : Int) + 1 by omega, Int.mul_add]
    omega
  rw [h1, Int.mul_add_ediv_left _ _ (by omega)]
  rw [Int.ediv_eq_zero_of_lt (by omega) (by omega)]
  omega
def itRel (a : List Nat) (w : World) (mv i : Value) (wr : World) : Prop :=
  ∃ k mm : Nat, k ≤ a.length ∧ i = .int .i64 ((k : Int) - 1) ∧ mv = .int .u64 (mm : Int) ∧ mm = wval (a.drop k) ∧ w = wr
theorem it_or {mm x : Nat} (hm : mm < 4294967296) (hx : x < 4294967296) : bits .or .u64 ((mm : Int) * 4294967296) (x : Int) = ((x + 4294967296 * mm : Nat) : Int) := by
  have h := or_low (c := x) (x := mm) (s := 32) (by omega) hm (by omega)
  rw [show x + 4294967296 * mm = x + mm * 2 ^ 32 by omega, ← h]
  have e : ((mm : Int) * 4294967296) = ((mm * 2 ^ 32 : Nat) : Int) := by simp
  rw [e, bits_or_u64_nat _ _ (by omega) (by omega), bits_or_u64_nat _ _ (by omega) (by omega), Nat.or_comm]
end Go.Proofs.YtmdfjbpggbhgnaaDoor
namespace Go.Proofs.YtmdfjbpggbhgnaaDoor
open Go.RowKit
theorem ptrim_any (A : Option Addr) (ws : List Nat) (c m : Nat) (w : World) (h : CellsAt w m A (w32 ws)) (hc : ws.length ≤ c) (hl : ws.length ≤ 1000000) :
    Calls Tryd.prog 57 #[.slice A ws.length c] w fun e w' => e = .returned (.slice A (trimL ws).length c) ∧ w = w' := by
  have H := Lib.hid h
  clear h
  go_enter Tryd.func57, Tryd.ntmps57
  go_wp2_with fail
  go_loopw [3] (fun i wr => trRel w ws i wr) (fun i _ => (intOf i).toNat)
  case atStart => exact ⟨ws.length, Nat.le_refl _, rfl, rfl, rfl⟩
  case round =>
    obtain ⟨k, hk, rfl, ht, rfl⟩ := hrel
    have HT := Lib.hid ht
    clear ht
    by_cases h0 : k = 0
    · subst h0
      go_wp2_with fail
      go_ret
      refine ⟨?_, rfl⟩
      rw [trimL_len, ← HT.out]
      rfl
    · obtain ⟨j, rfl⟩ := Nat.exists_eq_succ_of_ne_zero h0
      obtain ⟨b, off, z, rfl, hbm, hbs, hx, hcc⟩ := H.out.w32_ (k := j) (by omega)
      have HX := Lib.hid hx
      clear hx
      by_cases hz : z = 0
      · subst hz
        go_wp2_with fail
        have e1 : trimN ws j = trimN ws ws.length := by
          rw [← HT.out]
          show trimN ws j = if ws[j]?.getD 0 = 0 then trimN ws j else j + 1
          rw [if_pos (by rw [HX.out]; rfl)]
        exact ⟨⟨j, by omega, by go_num, e1, rfl⟩, by simp [intOf]; try omega⟩
      · have hz' : ((z : Int) == 0) = false := by simp; omega
        go_wp2_with fail
        go_ret
        refine ⟨?_, rfl⟩
        have e1 : j + 1 = trimN ws ws.length := by
          rw [← HT.out]
          show j + 1 = if ws[j]?.getD 0 = 0 then trimN ws j else j + 1
          rw [if_neg (by rw [HX.out]; exact hz)]
        rw [trimL_len, ← e1]
        rfl
theorem pvalid_any (neg : Bool) (A : Option Addr) (n den c m : Nat) (w : World) (hm : m ≤ w.heap.size) (h : CellsAt w m A (w32 (canon n))) (hl : (canon n).length ≤ 100000) (ok : DyOk neg n den) :
    Calls Tryd.prog 28 #[.agg #[.bool neg, .slice A (canon n).length c, .int .i64 (den : Int)]] w fun e w' => e = .returned (.bool true) ∧ Below w.heap.size w w' := by
  by_cases h0 : n = 0
  · obtain ⟨rfl, rfl⟩ := ok.zero h0
    subst h0
    rw [canon_zero]
    clear h hl ok
    go_enter Tryd.func28, Tryd.ntmps28
    go_wp2_with fail
    go_ret
    exact ⟨rfl, (Below.refl _ w).alloc (Nat.le_refl _) _⟩
  · have hp := canon_ne h0
    have ht := canon_top h0
    obtain ⟨b, off, z, rfl, q1, q2, hz, g1⟩ := h.w32_ (k := (canon n).length - 1) (by omega)
    have hz0 : ((z : Int) != 0) = true := by
      rw [hz] at ht
      simp at ht
      simp
      omega
    have g0 : w.cell? ⟨b, off, none⟩ = some (.int .u32 ((n % 4294967296 : Nat) : Int)) := by
      obtain ⟨b', off', z', hA, _, _, hz', g'⟩ := h.w32_ (k := 0) hp
      cases hA
      rw [canon_head h0] at hz'
      cases hz'
      exact g'
    obtain ⟨L, hL⟩ : ∃ L, L = (canon n).length - 1 := ⟨_, rfl⟩
    obtain ⟨x, hx⟩ : ∃ x : Nat, x = n % 4294967296 := ⟨_, rfl⟩
    have hlen : (canon n).length = L + 1 := by omega
    have hd := ok.fine
    have ho := ok.odd
    rw [← hx] at g0
    rw [← hL] at g1
    rw [hlen]
    have hl' : L ≤ 100000 := by omega
    have e0 : ((L : Int) + 1 == 0) = false := by simp; omega
    have hodd : den ≠ 0 → (x : Int) % 2 = 1 := fun hne => by have := ho hne; omega
    clear h hl ok ho ht hz hL hx hlen hp h0
    by_cases hden : den = 0
    · subst hden
      clear hodd hd
      go_enter Tryd.func28, Tryd.ntmps28
      go_wp2_with fail
      go_ret
      exact ⟨rfl, (Below.refl _ w).alloc (Nat.le_refl _) _⟩
    · have ho := hodd hden
      have d0 : ((den : Int) == 0) = false := by simp; omega
      have d1 : decide ((den : Int) ≤ 65536) = true := decide_eq_true (by omega)
      clear hodd hden
      go_enter Tryd.func28, Tryd.ntmps28
      go_wp2_with fail
      go_ret
      exact ⟨rfl, (Below.refl _ w).alloc (Nat.le_refl _) _⟩
theorem parts_w {v : Value} {x : Int} {d lo m : Nat} {w : World} (D : DyR w lo m v x d) (hm : m ≤ w.heap.size) (hl : (canon x.natAbs).length ≤ 100000) :
    Calls Tryd.prog 46 #[v] w fun e w' => ∃ nb A L c, v = .agg #[.bool nb, .slice A L c, .int .i64 (d : Int)] ∧ e = .returned (.tuple #[.bool nb, .slice A L c, .int .i64 (d : Int)]) ∧ Below w.heap.size w w' := by
  have hok := dy_ok D.bound.1 D.bound.2
  have D0 := Lib.hid D
  obtain ⟨A, c, rfl, h1, h2, h3, h4, h5, h6⟩ := D
  have H3 := Lib.hid h3
  have HOK := Lib.hid hok
  have HL := Lib.hid hl
  clear h3 hok hl h6 h4
  obtain ⟨nb, hnb⟩ : ∃ nb, nb = decide (x < 0) := ⟨_, rfl⟩
  rw [← hnb] at HOK D0 ⊢
  clear hnb
  have b0 : Below w.heap.size w (w.alloc (.cells #[.bool nb, .slice A (canon x.natAbs).length c, .int .i64 (d : Int)] 59)) := ext_alloc (Below.refl _ _) _
  have r0 := RowD.new_ w [.bool nb, .slice A (canon x.natAbs).length c, .int .i64 (d : Int)] 59
  go_enter Tryd.func46, Tryd.ntmps46
  go_wp2_with fail
  go_at_call 28
  refine (pvalid_any nb A x.natAbs d c m _ (by simp; omega) (H3.out.below b0 hm) HL.out HOK.out).mono ?_
  rintro e w1 ⟨rfl, hb⟩
  have s0 := r0.below hb (by simp)
  have b1 := b0.trans (hb.mono (by simp))
  have k0 : w1.cell? ⟨w.heap.size, 0, none⟩ = some (.bool nb) := s0.cell 0
  have k1 : w1.cell? ⟨w.heap.size, 1, none⟩ = some (.slice A (canon x.natAbs).length c) := s0.cell 1
  have k2 : w1.cell? ⟨w.heap.size, 2, none⟩ = some (.int .i64 (d : Int)) := s0.cell 2
  clear hb r0 b0 s0
  go_wp2_with fail
  go_quiet (fail)
  go_wp2_with fail
  refine bodyPost_ret (v := .tuple #[.bool nb, .slice A (canon x.natAbs).length c, .int .i64 (d : Int)]) (by simp [results, Tryd.results46, go_sem]) rfl ⟨nb, A, _, c, rfl, rfl, below_drewN b1 _⟩
theorem psign_w {v : Value} {x : Int} {d lo m : Nat} {w : World} (D : DyR w lo m v x d) (hm : m ≤ w.heap.size) (hl : (canon x.natAbs).length ≤ 100000) :
    Calls Tryd.prog 33 #[v] w fun e w' => e = .returned (.int .i64 (sgI x)) ∧ Below w.heap.size w w' := by
  obtain ⟨nb, A, L, c, rfl, HD⟩ := D.form
  have D0 := Lib.hid D
  have b0 : Below w.heap.size w (w.alloc (.cells #[.bool nb, .slice A L c, .int .i64 (d : Int)] 59)) := ext_alloc (Below.refl _ _) _
  clear D
  by_cases hx : x = 0
  · have hL : (L : Int) = 0 := by have := HD.out.2.1; rw [hx] at this; simp [canon_zero] at this; omega
    have hLb : ((L : Int) == 0) = true := by rw [hL]; rfl
    have HV := Lib.hid (show sgI x = 0 by unfold sgI; rw [if_pos hx])
    have HL := Lib.hid hL
    clear hL hx
    go_enter Tryd.func33, Tryd.ntmps33
    go_wp2_with fail
    go_at_call 46
    refine (parts_w (D0.out.below b0 hm) (by simp; omega) hl).mono ?_
    rintro e w1 ⟨nb', A', L', c', he, rfl, hb⟩
    cases he
    go_wp2_with fail
    go_ret
    exact ⟨by rw [HV.out]; rfl, b0.trans (hb.mono (by simp))⟩
  · have hL : (L : Int) ≠ 0 := by have := HD.out.2.1; have h2 := canon_ne (n := x.natAbs) (by omega); omega
    have hLb : ((L : Int) == 0) = false := by rw [beq_eq_false_iff_ne]; exact hL
    have hnb := HD.out.1
    cases nb with
    | true =>
      have hx2 : x < 0 := by simpa using hnb.symm
      have HV := Lib.hid (show sgI x = -1 by unfold sgI; rw [if_neg hx, if_pos hx2])
      clear hL hx hnb hx2
      go_enter Tryd.func33, Tryd.ntmps33
      go_wp2_with fail
      go_at_call 46
      refine (parts_w (D0.out.below b0 hm) (by simp; omega) hl).mono ?_
      rintro e w1 ⟨nb', A', L', c', he, rfl, hb⟩
      cases he
      go_wp2_with fail
      go_ret
      exact ⟨by rw [HV.out]; rfl, b0.trans (hb.mono (by simp))⟩
    | false =>
      have hx2 : ¬ x < 0 := by simpa using hnb.symm
      have HV := Lib.hid (show sgI x = 1 by unfold sgI; rw [if_neg hx, if_neg hx2])
      clear hL hx hnb hx2
      go_enter Tryd.func33, Tryd.ntmps33
      go_wp2_with fail
      go_at_call 46
      refine (parts_w (D0.out.below b0 hm) (by simp; omega) hl).mono ?_
      rintro e w1 ⟨nb', A', L', c', he, rfl, hb⟩
      cases he
      go_wp2_with fail
      go_ret
      exact ⟨by rw [HV.out]; rfl, b0.trans (hb.mono (by simp))⟩
end Go.Proofs.YtmdfjbpggbhgnaaDoor
namespace Go.Proofs.YtmdfjbpggbhgnaaDoor
open Go.RowKit
def tzTab : List Int := [0, 1, 28, 2, 29, 14, 24, 3, 30, 22, 20, 15, 25, 17, 4, 8, 31, 27, 13, 23, 21, 19, 16, 7, 26, 12, 18, 6, 11, 5, 10, 9]
def TabAt (w : World) : Prop := 0 < w.heap.size ∧ ∀ j z, tzTab[j]? = some z → w.cell? ⟨0, j, none⟩ = some (.int .u8 z)
theorem TabAt.below {w w' : World} {B : Nat} (h : TabAt w) (hb : Below B w w') (hB : 0 < B) : TabAt w' :=
  ⟨Nat.lt_of_lt_of_le h.1 hb.size, fun j z hz => (hb.cell (p := ⟨0, j, none⟩) hB).trans (h.2 j z hz)⟩
theorem TabAt.call {w w' : World} (h : TabAt w) (hb : Below w.heap.size w w') : TabAt w' := h.below hb h.1
theorem tz_tab : ∀ k : Nat, k < 32 → tzTab[(2 ^ k * 125613361 % 4294967296) / 134217728]? = some (k : Int) := by decide
theorem low_bit : ∀ (n : Nat) {x : Nat}, 0 < x → x < 2 ^ n → ∃ k, k < n ∧ x % 2 ^ k = 0 ∧ x / 2 ^ k % 2 = 1
  | 0, x, h, h2 => by simp at h2; omega
  | n + 1, x, h, h2 => by
    by_cases hx : x % 2 = 1
    · exact ⟨0, by omega, Nat.mod_one _, by simpa using hx⟩
    · obtain ⟨k, hk, h3, h4⟩ := low_bit n (x := x / 2) (by omega) (by rw [Nat.pow_succ] at h2; omega)
      refine ⟨k + 1, by omega, ?_, ?_⟩
      · rw [Nat.pow_succ', Nat.mod_mul]
        omega
      · rw [Nat.pow_succ', ← Nat.div_div_eq_div_mul]
        exact h4
theorem and_neg {n k x : Nat} (hk : k < n) (hx : x < 2 ^ n) (h1 : x % 2 ^ k = 0) (h2 : x / 2 ^ k % 2 = 1) : x &&& (2 ^ n - x) = 2 ^ k := by
  have hp := Nat.two_pow_pos k
  have e0 := Nat.div_add_mod x (2 ^ k)
  have hx0 : 0 < x := by
    rcases Nat.eq_zero_or_pos x with h | h
    · rw [h] at h2; simp at h2
    · exact h
  have e : 2 ^ n - x = 2 ^ n - ((x - 1) + 1) := by omega
  rw [e]
  apply Nat.eq_of_testBit_eq
  intro i
  rw [Nat.testBit_and, Nat.testBit_two_pow_sub_succ (by omega), Nat.testBit_two_pow]
  have hdiv : ∀ y, y.testBit i = decide (y / 2 ^ i % 2 = 1) := fun y => by rw [Nat.testBit_eq_decide_div_mod_eq]
  rw [hdiv, hdiv]
  rcases Nat.lt_trichotomy i k with hik | hik | hik
  · have hz : x / 2 ^ i % 2 = 0 := by
      have es : 2 ^ k = 2 ^ i * (2 * 2 ^ (k - i - 1)) := by rw [← Nat.pow_succ', ← Nat.pow_add]; congr 1; omega
      have : x = 2 ^ i * (2 * (2 ^ (k - i - 1) * (x / 2 ^ k))) := by
        rw [h1, Nat.add_zero] at e0
        rw [← Nat.mul_assoc 2, ← Nat.mul_assoc, ← es]
        exact e0.symm
      rw [this, Nat.mul_div_cancel_left _ (Nat.two_pow_pos i)]
      omega
    rw [decide_eq_false (show ¬ x / 2 ^ i % 2 = 1 by omega), decide_eq_false (show ¬ k = i by omega)]
    rfl
  · subst hik
    have hq : (x - 1) / 2 ^ i % 2 = 0 := by
      obtain ⟨q, hq1⟩ : ∃ q, x / 2 ^ i = q + 1 := Nat.exists_eq_succ_of_ne_zero (fun h => by rw [h] at h2; simp at h2)
      rw [h1, Nat.add_zero, hq1, Nat.mul_add, Nat.mul_one] at e0
      have hxq : x - 1 = (2 ^ i - 1) + 2 ^ i * q := by
        generalize 2 ^ i * q = r at *
        omega
      rw [hxq, Nat.add_mul_div_left _ _ hp, Nat.div_eq_of_lt (show 2 ^ i - 1 < 2 ^ i by omega), Nat.zero_add]
      omega
    rw [decide_eq_true h2, decide_eq_false (show ¬ (x - 1) / 2 ^ i % 2 = 1 by omega), decide_eq_true hk]
    simp
  · have hq : (x - 1) / 2 ^ i = x / 2 ^ i := by
      have hm : 0 < x % 2 ^ i := by
        rcases Nat.eq_zero_or_pos (x % 2 ^ i) with h | h
        · exfalso
          have es : 2 ^ i = 2 ^ k * (2 * 2 ^ (i - k - 1)) := by rw [← Nat.pow_succ', ← Nat.pow_add]; congr 1; omega
          have e1 := Nat.div_add_mod x (2 ^ i)
          rw [h, Nat.add_zero, es] at e1
          rw [← e1, Nat.mul_assoc, Nat.mul_div_cancel_left _ hp, Nat.mul_assoc] at h2
          omega
        · exact h
      have e1 := Nat.div_add_mod x (2 ^ i)
      have hlt := Nat.mod_lt x (Nat.two_pow_pos i)
      have hxq : x - 1 = (x % 2 ^ i - 1) + 2 ^ i * (x / 2 ^ i) := by omega
      rw [hxq, Nat.add_mul_div_left _ _ (Nat.two_pow_pos i), Nat.div_eq_of_lt (by omega), Nat.zero_add]
    rw [hq, decide_eq_false (show ¬ k = i by omega)]
    by_cases hb : x / 2 ^ i % 2 = 1
    · rw [decide_eq_true hb]; simp
    · rw [decide_eq_false hb]; rfl
theorem bits_and_u32_nat (a b : Nat) (ha : a < 4294967296) (hb : b < 4294967296) : bits .and .u32 (a : Int) (b : Int) = ((a &&& b : Nat) : Int) :=
  (bits_nat .u32 32 (by decide) (fun n h0 h1 => by rw [IntKind.wrap_u32]; omega) a b (by omega) (by omega)).1
theorem tz_any (x k : Nat) (w : World) (hx : x < 4294967296) (hk : k < 32) (h1 : x % 2 ^ k = 0) (h2 : x / 2 ^ k % 2 = 1) (ht : TabAt w) :
    Calls Tryd.prog 67 #[.int .u32 (x : Int)] w fun e w' => e = .returned (.int .i64 (k : Int)) ∧ w = w' := by
  have hx0 : x ≠ 0 := fun h => by rw [h] at h2; simp at h2
  have hxb : ((x : Int) == 0) = false := by rw [beq_eq_false_iff_ne]; omega
  have ha := and_neg (n := 32) hk (by omega) h1 h2
  obtain ⟨p, hp⟩ : ∃ p, p = 2 ^ k := ⟨_, rfl⟩
  have hneg : -(x : Int) % 4294967296 = ((4294967296 - x : Nat) : Int) := by omega
  have hand : bits .and .u32 (x : Int) (-(x : Int) % 4294967296) = (p : Int) := by
    rw [hneg, bits_and_u32_nat x _ hx (by omega), hp]
    exact congrArg _ ha
  obtain ⟨j, hj⟩ : ∃ j, j = (2 ^ k * 125613361 % 4294967296) / 134217728 := ⟨_, rfl⟩
  have hjj : (p : Int) * 125613361 % 4294967296 / 134217728 = (j : Int) := by rw [hj, ← hp]; omega
  have hj0 : j < 32 := by rw [hj]; omega
  have hj32 : (j : Int) < 32 := by omega
  have hc := ht.2 j k (by rw [hj]; exact tz_tab k hk)
  have h0 := ht.1
  have hk32 : (k : Int) < 256 := by omega
  clear h1 h2 ht ha hp hneg hj hk
  go_enter Tryd.func67, Tryd.ntmps67
  go_wp2_with fail
  go_ret
  exact ⟨rfl, rfl⟩
end Go.Proofs.YtmdfjbpggbhgnaaDoor
namespace Go.Proofs.YtmdfjbpggbhgnaaDoor
open Go.RowKit
def TzOf (n z : Nat) : Prop := n % 2 ^ z = 0 ∧ n / 2 ^ z % 2 = 1
theorem pow32_ (k : Nat) : 2 ^ (32 * k) = 4294967296 ^ k := by rw [Nat.pow_mul]
theorem zr_hit {a : List Nat} {k t x : Nat} (h : wordsOk a) (h0 : wval (a.take k) = 0) (hx : a[k]?.getD 0 = x) (ht : t < 32) (h1 : x % 2 ^ t = 0) (h2 : x / 2 ^ t % 2 = 1) : TzOf (wval a) (32 * k + t) := by
  refine ⟨?_, ?_⟩
  · rw [Nat.pow_add, Nat.mod_mul, pow32_, wval_drop h]
    have e1 : wval a % 4294967296 ^ k = 0 := by
      have e := wval_append (a.take k) (a.drop k)
      rw [List.take_append_drop, h0, Nat.zero_add] at e
      by_cases hk : k ≤ a.length
      · rw [List.length_take, Nat.min_eq_left hk] at e
        rw [e]
        exact Nat.mul_mod_right _ _
      · rw [List.drop_eq_nil_of_le (by omega)] at e
        rw [e]
        simp [wval]
    rw [e1, wval_drop_get, hx]
    have es : (4294967296 : Nat) = 2 ^ t * 2 ^ (32 - t) := by rw [← Nat.pow_add, show t + (32 - t) = 32 by omega]
    rw [es, Nat.mul_assoc, Nat.add_mul_mod_self_left, h1]
    simp
  · rw [wval_bit h, show (32 * k + t) / 32 = k by omega, show (32 * k + t) % 32 = t by omega, hx]
    exact h2
theorem tzOf_ne {n z : Nat} (h : TzOf n z) : n ≠ 0 := fun h0 => by
  have := h.2
  rw [h0] at this
  simp at this
def zrRel (a : List Nat) (w : World) (i : Value) (wr : World) : Prop := ∃ k : Nat, k ≤ a.length ∧ i = .int .i64 (k : Int) ∧ wval (a.take k) = 0 ∧ w = wr
theorem zeros_any (A : Option Addr) (n c m : Nat) (w : World) (hm : m ≤ w.heap.size) (h : CellsAt w m A (w32 (canon n))) (hl : (canon n).length ≤ 100000) (ht : TabAt w) :
    Calls Tryd.prog 58 #[.slice A (canon n).length c] w fun e w' => (∃ z : Nat, e = .returned (.int .i64 (z : Int)) ∧ (n = 0 → z = 1099511627776) ∧ (n ≠ 0 → TzOf n z ∧ z ≤ 3200000)) ∧ w = w' := by
  have H := Lib.hid h
  have HT := Lib.hid ht
  clear h ht
  go_enter Tryd.func58, Tryd.ntmps58
  go_wp2_with fail
  go_loopw [7] (fun i wr => zrRel (canon n) w i wr) (fun i _ => (canon n).length - (intOf i).toNat)
  case atStart => exact ⟨0, Nat.zero_le _, rfl, rfl, rfl⟩
  case round =>
    obtain ⟨k, hk, rfl, h0, rfl⟩ := hrel
    have H0 := Lib.hid h0
    clear h0
    by_cases hlt : k < (canon n).length
    · obtain ⟨b1, o1, x, rfl, q1, q2, hx, g1⟩ := H.out.w32_ hlt
      have bx := canon_ok n x (List.mem_of_getElem? hx)
      have HX := Lib.hid (show (canon n)[k]?.getD 0 = x by rw [hx]; rfl)
      have ka' : (k : Int) < ((canon n).length : Int) := by omega
      have HXX := Lib.hid hx
      clear hx
      by_cases hz : x = 0
      · subst hz
        go_wp2_with fail
        refine ⟨⟨k + 1, by omega, by go_num, ?_, rfl⟩, by simp [intOf]; try omega⟩
        rw [wval_take_succ, H0.out, HX.out]
        simp
      · obtain ⟨t, ht, h1, h2⟩ := low_bit 32 (x := x) (by omega) (by omega)
        have hz' : ((x : Int) != 0) = true := by simp; omega
        have H1 := Lib.hid h1
        have H2 := Lib.hid h2
        clear h1 h2
        go_wp2_with (go_at_call 67; refine (tz_any x t w bx ht H1.out H2.out HT.out).mono ?_; rintro e w1 ⟨rfl, rfl⟩)
        go_ret
        have hhit := zr_hit (canon_ok n) H0.out HX.out ht H1.out H2.out
        rw [wval_canon] at hhit
        refine ⟨⟨32 * k + t, ?_, fun hn => absurd hn (tzOf_ne hhit), fun _ => ⟨hhit, by omega⟩⟩, rfl⟩
        have : ((32 * k + t : Nat) : Int) = 32 * (k : Int) + (t : Int) := by omega
        rw [this]
        rfl
    · have hle : ¬ (k : Int) < ((canon n).length : Int) := by omega
      go_wp2_with fail
      go_ret
      refine ⟨⟨1099511627776, rfl, fun _ => rfl, fun hn => ?_⟩, rfl⟩
      exfalso
      have := H0.out
      rw [List.take_of_length_le (by omega), wval_canon] at this
      exact hn this
end Go.Proofs.YtmdfjbpggbhgnaaDoor
namespace Go.Proofs.YtmdfjbpggbhgnaaDoor
open Go.RowKit
theorem at_any (A : Option Addr) (a : List Nat) (c i m : Nat) (w : World) (h : CellsAt w m A (w32 a)) (hi : i ≤ 1000000) (hl : a.length ≤ 1000000) :
    Calls Tryd.prog 68 #[.slice A a.length c, .int .i64 (i : Int)] w fun e w' => e = .returned (.int .u32 ((a[i]?.getD 0 : Nat) : Int)) ∧ w = w' := by
  by_cases hlt : i < a.length
  · obtain ⟨b1, o1, x, rfl, q1, q2, hx, g1⟩ := h.w32_ hlt
    have hil : (i : Int) < (a.length : Int) := by omega
    have HX := Lib.hid (show a[i]?.getD 0 = x by rw [hx]; rfl)
    clear hx h
    go_enter Tryd.func68, Tryd.ntmps68
    go_wp2_with fail
    go_ret
    exact ⟨by rw [HX.out]; rfl, rfl⟩
  · have hil : ¬ (i : Int) < (a.length : Int) := by omega
    have HX := Lib.hid (show a[i]?.getD 0 = 0 by rw [List.getElem?_eq_none (by omega)]; rfl)
    clear h
    go_enter Tryd.func68, Tryd.ntmps68
    go_wp2_with fail
    go_ret
    exact ⟨by first | rfl | (rw [HX.out]; rfl), rfl⟩
theorem under_nat : Tryd.prog.underlying 85 = some (.slice 101) := by kernel_rfl
theorem OwnW.put {w : World} {base g n c : Nat} {xs : List Nat} (h : OwnW w base (.slice (some ⟨g, 0, none⟩) n c) xs) (hn : n = xs.length) (j z : Nat) : OwnW (w.setCell ⟨g, j, none⟩ (.int .u32 (z : Int))) base (.slice (some ⟨g, 0, none⟩) n c) (xs.set j z) := by
  subst hn
  have e : w32 (xs.set j z) = (w32 xs).set j (.int .u32 (z : Int)) := by simp [w32, List.map_set]
  have h2 : w.ownsRow base 101 1 (.slice (some ⟨g, 0, none⟩) xs.length c) xs.length (w32 xs) := h
  have h3 := (World.ownsRow.stored h2 j (.int .u32 (z : Int))).1
  unfold OwnW
  rw [e, List.length_set]
  exact h3
theorem OwnW.cellA {w : World} {base g n c j z : Nat} {xs : List Nat} (h : OwnW w base (.slice (some ⟨g, 0, none⟩) n c) xs) (hz : xs[j]? = some z) : w.cell? ⟨g, j, none⟩ = some (.int .u32 (z : Int)) := by
  obtain ⟨A', c', he, _, hc⟩ := h.view
  cases he
  have hj : j < xs.length := (List.getElem?_eq_some_iff.1 hz).1
  obtain ⟨b, off, z', hA, _, _, hx, hcc⟩ := hc.w32_ hj
  cases hA
  rw [hz] at hx
  cases hx
  simpa using hcc
theorem OwnW.freeA {w : World} {base g n c : Nat} {xs : List Nat} (h : OwnW w base (.slice (some ⟨g, 0, none⟩) n c) xs) (hn : n = xs.length) (j : Nat) : w.frozen? ⟨g, j, none⟩ = false := by
  subst hn
  have h2 : w.ownsRow base 101 1 (.slice (some ⟨g, 0, none⟩) xs.length c) xs.length (w32 xs) := h
  exact World.ownsRow.frozenAt h2 j
theorem made_w {w2 : World} {base g L : Nat} (h : w2.ownsRow base 101 1 (.slice (some ⟨g, 0, none⟩) L L) L (madeCells (Value.int .u32 0).cells (L * 1)).toList) : OwnW w2 base (.slice (some ⟨g, 0, none⟩) L L) (List.replicate L 0) := by
  have e1 : w32 (List.replicate L 0) = (madeCells (Value.int .u32 0).cells (L * 1)).toList := by
    rw [Nat.mul_one]
    have := toList_madeCells_one (Value.int .u32 0) L
    simp only [w32, List.map_replicate]
    exact this.symm
  unfold OwnW
  rw [e1, List.length_replicate]
  exact h
theorem set_rep {os : List Nat} {k L z : Nat} (hl : os.length = k) (hk : k < L) : (os ++ List.replicate (L - k) 0).set k z = (os ++ [z]) ++ List.replicate (L - (k + 1)) 0 := by
  rw [List.set_append_right _ _ (by omega), hl, Nat.sub_self, show L - k = (L - (k + 1)) + 1 by omega, List.replicate_succ, List.set_cons_zero]
  simp
def prRel (w : World) (a : List Nat) (n q g L : Nat) (i : Value) (wr : World) : Prop :=
  ∃ (k : Nat) (os : List Nat), k ≤ L ∧ i = .int .i64 (k : Int) ∧ OwnW wr w.heap.size (.slice (some ⟨g, 0, none⟩) L L) (os ++ List.replicate (L - k) 0) ∧ os.length = k ∧ wordsOk os ∧ wval os = wval a / 2 ^ n % 4294967296 ^ k ∧ Below w.heap.size w wr
theorem pright_any (A : Option Addr) (a : List Nat) (c n m : Nat) (w : World) (hm : m ≤ w.heap.size) (h1 : CellsAt w m A (w32 a)) (ha : wordsOk a) (l1 : a.length ≤ 100000) (hn : n ≤ 1000000) :
    Calls Tryd.prog 59 #[.slice A a.length c, .int .i64 (n : Int)] w fun e w' =>
      ∃ G g, e = .returned (.slice G (canon (wval a / 2 ^ n)).length g) ∧ (G = none → g = 0) ∧ (canon (wval a / 2 ^ n)).length ≤ g ∧ CellsAt w' w'.heap.size G (w32 (canon (wval a / 2 ^ n))) ∧ Below w.heap.size w w' := by
  have H1 := Lib.hid h1
  have HA := Lib.hid ha
  obtain ⟨q, hq⟩ : ∃ q, q = n / 32 := ⟨_, rfl⟩
  have hqi : (n : Int) / 32 = (q : Int) := by omega
  have HQ := Lib.hid hq
  clear h1 ha
  by_cases hbig : a.length ≤ q
  · have hz : canon (wval a / 2 ^ n) = [] := by
      have hl := wval_lt HA.out
      rw [← pow32_] at hl
      rw [Nat.div_eq_of_lt (Nat.lt_of_lt_of_le hl (Nat.pow_le_pow_right (by decide) (by omega))), canon_zero]
    have HZ := Lib.hid hz
    have hbi : (a.length : Int) ≤ (q : Int) := by omega
    clear hz hq
    go_enter Tryd.func59, Tryd.ntmps59
    go_wp2_with fail
    go_ret
    exact ⟨none, 0, by rw [HZ.out]; rfl, fun _ => rfl, by rw [HZ.out]; exact Nat.le_refl _, by rw [HZ.out]; exact CellsAt.nil_, Below.refl _ _⟩
  · obtain ⟨L, hL⟩ : ∃ L, L = a.length - q := ⟨_, rfl⟩
    have hLi : (a.length : Int) - (q : Int) = (L : Int) := by omega
    have hbi : ¬ (a.length : Int) ≤ (q : Int) := by omega
    have hL6 : L ≤ 100000 := by omega
    have HL := Lib.hid hL
    obtain ⟨i0, hi, hz0, hz1, hz2⟩ := info_parts info_w4
    clear hbig hq hL
    go_enter Tryd.func59, Tryd.ntmps59
    go_wp2_with (with_reducible refine wpList_make_full _ rfl (.tmp 22) (.tmp 22) 85 rfl w.heap.size 101 i0 (.int .u32 0) 1 under_nat hi hz0 hz1 .i64 .i64 _ _ L rfl rfl rfl rfl (by rw [hz2]; omega) (by unfold maxLen; omega) (Nat.le_refl _) ?_; intro w2 hown hg)
    have hst := (Below.refl w.heap.size w).grown hg (Nat.le_refl _) (fun k h => by simp at h)
    have hown2 := made_w hown
    obtain ⟨g, hg1⟩ : ∃ g, g = w.heap.size := ⟨_, rfl⟩
    have hgw := Lib.hid hg1
    rw [← hg1]
    rw [show OwnW w2 w.heap.size (.slice (some ⟨w.heap.size, 0, none⟩) L L) (List.replicate L 0) = OwnW w2 w.heap.size (.slice (some ⟨g, 0, none⟩) L L) (List.replicate L 0) by rw [hg1]] at hown2
    clear hown hg hi hz0 hz1 hz2 hg1
    go_loopw [26] (fun i wr => prRel w a n q g L i wr) (fun i _ => L - (intOf i).toNat)
    case atStart => exact ⟨0, [], Nat.zero_le _, rfl, by simpa using hown2, rfl, by simp [wordsOk], by simp [wval, Nat.mod_one], hst⟩
    case round =>
      as_aux_lemma =>
      obtain ⟨k, os, hk, rfl, hown, hol, hok, hv, hb⟩ := hrel
      have HO := Lib.hid hown
      have HOL := Lib.hid hol
      have HOK := Lib.hid hok
      have HV := Lib.hid hv
      have hsz := hb.size
      have hlen := Lib.hid (show L = (os ++ List.replicate (L - k) 0).length by simp; omega)
      clear hown hol hok hv hown2 hst
      by_cases hlt : k < L
      · as_aux_lemma =>
        obtain ⟨u, hu⟩ : ∃ u, u = q + k := ⟨_, rfl⟩
        have hul : u < a.length := by have := HL.out; omega
        obtain ⟨b1, o1, x, rfl, q1, _, hx, g1'⟩ := H1.out.w32_ hul
        have g1 := (hb.cell (p := ⟨b1, o1 + u, none⟩) (Nat.lt_of_lt_of_le q1 hm)).trans g1'
        have bx := HA.out x (List.mem_of_getElem? hx)
        have HX := Lib.hid (show a[n / 32 + k]?.getD 0 = x by rw [← HQ.out, ← hu, hx]; rfl)
        obtain ⟨y, hy⟩ : ∃ y, y = a[u + 1]?.getD 0 := ⟨_, rfl⟩
        have HYU := Lib.hid hy
        have HY := Lib.hid (show a[n / 32 + k + 1]?.getD 0 = y by rw [← HQ.out, ← hu, hy])
        have by' : y < 4294967296 := by
          rw [hy]
          by_cases hyl : u + 1 < a.length
          · rw [List.getElem?_eq_getElem hyl]; exact HA.out _ (List.getElem_mem hyl)
          · rw [List.getElem?_eq_none (by omega)]; decide
        have w1 : IntKind.i64.wrap ((k : Int) + (q : Int)) = (u : Int) := by rw [IntKind.wrap_i64]; omega
        have w2' : IntKind.i64.wrap ((u : Int) + 1) = ((u + 1 : Nat) : Int) := by rw [IntKind.wrap_i64]; omega
        have w3 : IntKind.u64.wrap ((y : Int) * 4294967296) = (y : Int) * 4294967296 := by rw [IntKind.wrap_u64]; omega
        obtain ⟨s, hs⟩ : ∃ s, s = x + 4294967296 * y := ⟨_, rfl⟩
        have hor : bits .or .u64 ((y : Int) * 4294967296) (x : Int) = (s : Int) := by rw [hs]; exact it_or by' bx
        obtain ⟨z, hzn⟩ : ∃ z : Nat, z = (x + y * 4294967296) / 2 ^ (n % 32) % 4294967296 := ⟨_, rfl⟩
        have hz : ((s : Int) / 2 ^ (n % 32) % 4294967296) = (z : Int) := by rw [hzn, hs, Nat.mul_comm 4294967296 y]; simp
        have HZ := Lib.hid (show z = (a[n / 32 + k]?.getD 0 + a[n / 32 + k + 1]?.getD 0 * 4294967296) / 2 ^ (n % 32) % 4294967296 by rw [HX.out, HY.out]; exact hzn)
        have HZB := Lib.hid (show z < 4294967296 by rw [hzn]; exact Nat.mod_lt _ (by decide))
        have hul' : (u : Int) < (a.length : Int) := by omega
        have hkl' : (k : Int) < (L : Int) := by omega
        have hat := fun nq => at_any (some ⟨b1, o1, none⟩) a c (u + 1) m (wr.drewN nq) (H1.out.below (below_drewN hb nq) hm) (by omega) (by omega)
        rw [← hy] at hat
        have HAT := Lib.hid hat
        have f1 : wr.cell? ⟨g, k, none⟩ = some (.int .u32 0) := by
          have := HO.out.cellA (j := k) (z := 0) (by rw [List.getElem?_append_right (by rw [HOL.out]; omega), HOL.out, Nat.sub_self]; rw [List.getElem?_replicate]; simp; omega)
          simpa using this
        have f2 : ∀ j, wr.frozen? ⟨g, j, none⟩ = false := fun j => HO.out.freeA hlen.out j
        clear hy hx hs hzn hu g1' hat
        go_wp2_with fail
        go_quiet ((go_at_call 68; exact quiet_left (HAT.out _)))
        go_wp2_with fail
        refine ⟨⟨k + 1, os ++ [z], by omega, by go_num, ?_, by rw [List.length_append, HOL.out]; rfl, words_push HOK.out HZB.out, rg_step HA.out HOL.out HV.out HZ.out, ?_⟩, by simp [intOf]; omega⟩
        · have h5 := ((HO.out.drewN nq).put hlen.out k z)
          rw [set_rep HOL.out hlt] at h5
          exact h5
        · exact (below_drewN hb nq).setCell (by have := hgw.out; simp; omega) _
      · as_aux_lemma =>
        have hkL : k = L := by omega
        have hle : ¬ (k : Int) < (L : Int) := by omega
        have hO := HO.out
        rw [hkL, Nat.sub_self, List.replicate_zero, List.append_nil] at hO
        have hol := HOL.out.trans hkL
        have hL6' : os.length ≤ 1000000 := by omega
        have HWV := Lib.hid (rg_end (k := k) HA.out (by have := HQ.out; have := HL.out; omega) HV.out)
        have HGC := Lib.hid hO.cap_.2.2.2
        have hcall := ptrim_any (some ⟨g, 0, none⟩) os os.length wr.heap.size wr HGC.out (Nat.le_refl _) hL6'
        rw [hol] at hcall
        have HCALL := Lib.hid hcall
        clear hkL hol hO hcall
        go_wp2_with (go_at_call 57; refine HCALL.out.mono ?_; rintro e w3 ⟨rfl, rfl⟩)
        go_ret
        have hcan := trim_canon HOK.out
        rw [HWV.out] at hcan
        refine ⟨some ⟨g, 0, none⟩, L, by rw [hcan]; rfl, by simp, ?_, ?_, hb⟩
        · rw [← hcan, trimL_len]
          have := trimN_le os os.length
          have := HOL.out
          omega
        · rw [← hcan]
          exact HGC.out.takeW _
end Go.Proofs.YtmdfjbpggbhgnaaDoor
namespace Go.Proofs.YtmdfjbpggbhgnaaDoor
open Go.RowKit
theorem or_low32 {c l r : Nat} (hc : c < 2 ^ r) (hl : l < 4294967296) (hr : r ≤ 32) (hd : l % 2 ^ r = 0) : bits .or .u32 (c : Int) (l : Int) = ((c + l : Nat) : Int) ∧ c + l < 4294967296 := by
  have hp := Nat.two_pow_pos r
  have e0 := Nat.div_add_mod l (2 ^ r)
  rw [hd, Nat.add_zero] at e0
  have h32 : 2 ^ r * 2 ^ (32 - r) = 4294967296 := by rw [← Nat.pow_add, show r + (32 - r) = 32 by omega]
  have hq : l / 2 ^ r < 2 ^ (32 - r) := (Nat.div_lt_iff_lt_mul hp).2 (by rw [Nat.mul_comm]; omega)
  have hs : c + l < 4294967296 := by
    have h1 : 2 ^ r * (l / 2 ^ r + 1) ≤ 2 ^ r * 2 ^ (32 - r) := Nat.mul_le_mul_left _ hq
    rw [h32, Nat.mul_add, e0] at h1
    omega
  refine ⟨?_, hs⟩
  have hc32 : c < 4294967296 := by omega
  rw [(bits_nat .u32 32 (by decide) (fun n h0 h1 => by rw [IntKind.wrap_u32]; omega) c l (by omega) (by omega)).2]
  have h := Nat.two_pow_add_eq_or_of_lt hc (l / 2 ^ r)
  rw [e0] at h
  rw [Nat.or_comm, ← h, Nat.add_comm]
theorem pl_low {x r : Nat} (hr : r ≤ 32) : (x * 2 ^ r) % 4294967296 % 2 ^ r = 0 := by
  have h32 : (4294967296 : Nat) = 2 ^ r * 2 ^ (32 - r) := by rw [← Nat.pow_add, show r + (32 - r) = 32 by omega]
  rw [h32, Nat.mod_mul_right_mod, Nat.mul_mod_left]
theorem two_sets {pre : List Nat} {u m z c' cy : Nat} (hu : pre.length = u) (hm : 0 < m) : ((pre ++ cy :: List.replicate m 0).set u z).set (u + 1) c' = (pre ++ [z]) ++ c' :: List.replicate (m - 1) 0 := by
  subst hu
  obtain ⟨j, rfl⟩ : ∃ j, m = j + 1 := ⟨m - 1, by omega⟩
  simp [List.set_append, List.replicate_succ]
def plfRel (w : World) (a : List Nat) (q p g L : Nat) (i : Value) (wr : World) : Prop :=
  ∃ (k : Nat) (os : List Nat) (cy : Nat), k ≤ a.length ∧ i = .int .i64 (k : Int) ∧ OwnW wr w.heap.size (.slice (some ⟨g, 0, none⟩) L L) (os ++ cy :: List.replicate (a.length - k) 0) ∧ os.length = q + k ∧ wordsOk os ∧ cy < p ∧
    wval os + 4294967296 ^ (q + k) * cy = wval (a.take k) * (4294967296 ^ q * p) ∧ Below w.heap.size w wr
theorem pleft_any (A : Option Addr) (n0 : Nat) (c n m : Nat) (w : World) (hm : m ≤ w.heap.size) (h1 : CellsAt w m A (w32 (canon n0))) (hcc : A = none → c = 0) (hcap : (canon n0).length ≤ c) (l1 : (canon n0).length ≤ 100000) (hn : n ≤ 1000000) :
    Calls Tryd.prog 47 #[.slice A (canon n0).length c, .int .i64 (n : Int)] w fun e w' =>
      ∃ G g, e = .returned (.slice G (canon (n0 * 2 ^ n)).length g) ∧ (G = none → g = 0) ∧ (canon (n0 * 2 ^ n)).length ≤ g ∧ CellsAt w' w'.heap.size G (w32 (canon (n0 * 2 ^ n))) ∧ Below w.heap.size w w' := by
  by_cases hz : n = 0 ∨ (canon n0).length = 0
  · have he : canon (n0 * 2 ^ n) = canon n0 := by
      rcases hz with h | h
      · rw [h]; simp
      · have : n0 = 0 := by
          rcases Nat.eq_zero_or_pos n0 with h2 | h2
          · exact h2
          · have := canon_ne (n := n0) (by omega); omega
        rw [this]; simp
    have HE := Lib.hid he
    have H1 := Lib.hid h1
    clear he h1
    by_cases hn0 : n = 0
    · subst hn0
      clear hz
      go_enter Tryd.func47, Tryd.ntmps47
      go_wp2_with fail
      go_ret
      exact ⟨A, c, by rw [HE.out]; rfl, hcc, by rw [HE.out]; exact hcap, by rw [HE.out]; exact H1.out.more hm, Below.refl _ _⟩
    · have hlz : (((canon n0).length : Nat) : Int) = 0 := by rcases hz with h | h <;> omega
      have hlb : ((((canon n0).length : Nat) : Int) == 0) = true := by rw [hlz]; rfl
      have hnb : ((n : Int) == 0) = false := by rw [beq_eq_false_iff_ne]; omega
      have HLZ := Lib.hid hlz
      clear hz hlz
      go_enter Tryd.func47, Tryd.ntmps47
      go_wp2_with fail
      go_ret
      exact ⟨A, c, by rw [HE.out]; rfl, hcc, by rw [HE.out]; exact hcap, by rw [HE.out]; exact H1.out.more hm, Below.refl _ _⟩
  · obtain ⟨a, ha'⟩ : ∃ a, a = canon n0 := ⟨_, rfl⟩
    have ha : wordsOk a := by rw [ha']; exact canon_ok n0
    have hv0 : wval a = n0 := by rw [ha', wval_canon]
    rw [← ha'] at h1 hcap l1 hz ⊢
    rw [← hv0]
    have hlb : (((a.length : Nat) : Int) == 0) = false := by rw [beq_eq_false_iff_ne]; omega
    have hnb : ((n : Int) == 0) = false := by rw [beq_eq_false_iff_ne]; omega
    clear hv0 ha' hz
    rw [pow_split n]
    obtain ⟨q, hq⟩ : ∃ q, q = n / 32 := ⟨_, rfl⟩
    obtain ⟨p, hp⟩ : ∃ p, p = 2 ^ (n % 32) := ⟨_, rfl⟩
    have hp0 : 0 < p := by rw [hp]; exact Nat.two_pow_pos _
    have hp32 : p ≤ 2147483648 := by
      rw [hp]
      exact Nat.pow_le_pow_right (n := 2) (by decide) (show n % 32 ≤ 31 by omega)
    rw [← hq, ← hp]
    have HP := Lib.hid hp
    have H1 := Lib.hid h1
    have HA := Lib.hid ha
    have hqi : (n : Int) / 32 = (q : Int) := by omega
    have hq6 : q ≤ 31250 := by omega
    obtain ⟨L, hL⟩ : ∃ L, L = a.length + q + 1 := ⟨_, rfl⟩
    have hLi : (a.length : Int) + (q : Int) + 1 = (L : Int) := by omega
    have hL6 : L ≤ 200000 := by omega
    have HL := Lib.hid hL
    obtain ⟨i0, hi, hz0, hz1, hz2⟩ := info_parts info_w4
    clear h1 ha hp hq hL
    go_enter Tryd.func47, Tryd.ntmps47
    go_wp2_with (with_reducible refine wpList_make_full _ rfl (.tmp 28) (.tmp 28) 85 rfl w.heap.size 101 i0 (.int .u32 0) 1 under_nat hi hz0 hz1 .i64 .i64 _ _ L rfl rfl rfl rfl (by rw [hz2]; omega) (by unfold maxLen; omega) (Nat.le_refl _) ?_; intro w2 hown hg)
    have hst := (Below.refl w.heap.size w).grown hg (Nat.le_refl _) (fun k h => by simp at h)
    have hown2 := made_w hown
    obtain ⟨g, hg1⟩ : ∃ g, g = w.heap.size := ⟨_, rfl⟩
    have hgw := Lib.hid hg1
    rw [← hg1]
    rw [show OwnW w2 w.heap.size (.slice (some ⟨w.heap.size, 0, none⟩) L L) (List.replicate L 0) = OwnW w2 w.heap.size (.slice (some ⟨g, 0, none⟩) L L) (List.replicate L 0) by rw [hg1]] at hown2
    have hinit : List.replicate L 0 = List.replicate q 0 ++ 0 :: List.replicate a.length 0 := by
      rw [HL.out, show a.length + q + 1 = q + (a.length + 1) by omega, ← List.replicate_append_replicate, List.replicate_succ]
    rw [hinit] at hown2
    clear hown hg hi hz0 hz1 hz2 hg1 hinit hLi
    go_loopw [32] (fun i wr => plfRel w a q p g L i wr) (fun i _ => a.length - (intOf i).toNat)
    case atStart => exact ⟨0, List.replicate q 0, 0, Nat.zero_le _, rfl, hown2, by simp, words_zeros q, hp0, by simp [wval_zeros, wval], hst⟩
    case round =>
      as_aux_lemma =>
      obtain ⟨k, os, cy, hk, rfl, hown, hol, hok, hcy, hv, hb⟩ := hrel
      have HO := Lib.hid hown
      have HOL := Lib.hid hol
      have HOK := Lib.hid hok
      have HV := Lib.hid hv
      have HCY := Lib.hid hcy
      have hsz := hb.size
      have hlen := Lib.hid (show L = (os ++ cy :: List.replicate (a.length - k) 0).length by have := HL.out; simp; omega)
      clear hown hol hok hv hown2 hst hcy
      by_cases hlt : k < a.length
      · as_aux_lemma =>
        obtain ⟨u, hu⟩ : ∃ u, u = k + q := ⟨_, rfl⟩
        have huu : (k : Int) + (q : Int) = (u : Int) := by omega
        have HU := Lib.hid hu
        have huL : (u : Int) + 1 < (L : Int) := by have := HL.out; omega
        obtain ⟨b1, o1, x, rfl, q1, _, hx, g1'⟩ := H1.out.w32_ hlt
        have g1 := (hb.cell (p := ⟨b1, o1 + k, none⟩) (Nat.lt_of_lt_of_le q1 hm)).trans g1'
        have bx := HA.out x (List.mem_of_getElem? hx)
        have HX := Lib.hid (show a[k]?.getD 0 = x by rw [hx]; rfl)
        have hr31 : n % 32 ≤ 31 := by omega
        obtain ⟨t, ht⟩ : ∃ t, t = x * p := ⟨_, rfl⟩
        have htb : t < 9223372036854775808 := by
          rw [ht]
          have : x * p ≤ 4294967295 * 2147483648 := Nat.mul_le_mul (by omega) hp32
          omega
        have hT : IntKind.u64.wrap ((x : Int) * 2 ^ (n % 32)) = (t : Int) := by
          have e1 : (x : Int) * 2 ^ (n % 32) = ((x * 2 ^ (n % 32) : Nat) : Int) := by simp
          rw [e1, ← HP.out, ← ht, IntKind.wrap_u64]
          omega
        obtain ⟨lw, hlw⟩ : ∃ lw, lw = t % 4294967296 := ⟨_, rfl⟩
        have hlwi : (t : Int) % 4294967296 = (lw : Int) := by omega
        obtain ⟨c', hc'⟩ : ∃ c', c' = t / 4294967296 := ⟨_, rfl⟩
        have hci : (t : Int) / 4294967296 = (c' : Int) := by omega
        have hcb : c' < 4294967296 := by omega
        have hcp := lf_word HCY.out bx
        have hor := or_low32 (c := cy) (l := lw) (r := n % 32) (by rw [← HP.out]; exact HCY.out) (by omega) (by omega) (by rw [hlw, ht, HP.out]; exact pl_low (by omega))
        have hor1 := hor.1
        obtain ⟨z, hzn⟩ : ∃ z, z = cy + lw := ⟨_, rfl⟩
        rw [← hzn] at hor1
        have HZB := Lib.hid (show z < 4294967296 by rw [hzn]; exact hor.2)
        have HZ := Lib.hid (show z + 4294967296 * c' = cy + x * p by rw [hzn, hlw, hc', ← ht]; omega)
        have HCP := Lib.hid (show c' < p by
          have h5 := HZ.out
          have h6 := HZB.out
          have h7 : (cy + x * p) / 4294967296 = c' := by omega
          rw [← h7]
          exact hcp)
        have f1 : wr.cell? ⟨g, u, none⟩ = some (.int .u32 (cy : Int)) := HO.out.cellA (by rw [List.getElem?_append_right (by rw [HOL.out, hu]; omega), HOL.out, hu, show k + q - (q + k) = 0 by omega]; rfl)
        have f2 : ∀ j, wr.frozen? ⟨g, j, none⟩ = false := fun j => HO.out.freeA hlen.out j
        have f3 : wr.cell? ⟨g, u + 1, none⟩ = some (.int .u32 0) := by
          have := HO.out.cellA (j := u + 1) (z := 0) (by
            rw [List.getElem?_append_right (by rw [HOL.out, hu]; omega), HOL.out, hu, show k + q + 1 - (q + k) = 0 + 1 by omega, List.getElem?_cons_succ, List.getElem?_replicate, if_pos (by omega)])
          simpa using this
        have hgne : g < wr.heap.size := (World.ownsRow.lt HO.out g rfl).2
        have hbg : b1 ≠ g := by have := hgw.out; omega
        clear hx g1' ht hlw hc' hcp hor hzn hu
        go_wp2_with fail
        refine ⟨⟨k + 1, os ++ [z], c', by omega, by go_num, ?_, by rw [List.length_append, HOL.out]; rfl, words_push HOK.out HZB.out, HCP.out, lf_step HOL.out HX.out HV.out HZ.out, ?_⟩, by simp [intOf]; omega⟩
        · have h5 := ((HO.out.put hlen.out u z).put (by rw [List.length_set]; exact hlen.out) (u + 1) c')
          rw [two_sets (by rw [HOL.out, HU.out]; omega) (by omega), show a.length - k - 1 = a.length - (k + 1) by omega] at h5
          exact h5
        · exact (hb.setCell (by have := hgw.out; simp; omega) _).setCell (by have := hgw.out; simp; omega) _
      · as_aux_lemma =>
        have hkL : k = a.length := by omega
        have hle : ¬ (k : Int) < (a.length : Int) := by omega
        have hO := HO.out
        rw [hkL, Nat.sub_self, List.replicate_zero] at hO
        obtain ⟨ws, hws⟩ : ∃ ws, ws = os ++ [cy] := ⟨_, rfl⟩
        rw [← hws] at hO
        have hwl : ws.length = L := by rw [hws, List.length_append, HOL.out, HL.out, hkL]; simp; omega
        have hwok : wordsOk ws := by rw [hws]; exact words_push HOK.out (by have := HCY.out; omega)
        have hwv : wval ws = wval a * (4294967296 ^ q * p) := by
          have hv := HV.out
          rw [List.take_of_length_le (by omega)] at hv
          rw [hws, wval_append, HOL.out, ← hv]
          simp only [wval, Nat.mul_zero, Nat.add_zero]
        have hcall := ptrim_any (some ⟨g, 0, none⟩) ws ws.length wr.heap.size wr hO.cap_.2.2.2 (Nat.le_refl _) (by omega)
        have HGC := Lib.hid hO.cap_.2.2.2
        rw [hwl] at hcall
        have HCALL := Lib.hid hcall
        have HWO := Lib.hid hwok
        have HWV := Lib.hid hwv
        have HWL := Lib.hid hwl
        clear hkL hO hws hwl hwok hwv hcall
        go_wp2_with (go_at_call 57; refine HCALL.out.mono ?_; rintro e w3 ⟨rfl, rfl⟩)
        go_ret
        have hcan := trim_canon HWO.out
        rw [HWV.out] at hcan
        refine ⟨some ⟨g, 0, none⟩, L, by rw [hcan]; rfl, by simp, ?_, ?_, hb⟩
        · rw [← hcan, trimL_len]
          have := trimN_le ws ws.length
          have := HWL.out
          omega
        · rw [← hcan]
          exact HGC.out.takeW _
end Go.Proofs.YtmdfjbpggbhgnaaDoor
namespace Go.Proofs.YtmdfjbpggbhgnaaDoor
open Go.RowKit
theorem append_types {P : Program} {t t2 e e2 : TypeId} (ht : P.underlying t = some (.slice e)) (ht2 : P.underlying t2 = some (.slice e2)) (ty : TypeId) (s x : Value) (w : World) :
    (Builtin.append_ #[t, t2] ty #[s, x]).run P w = (Builtin.append_ #[t, t] ty #[s, x]).run P w := by
  cases s with
  | slice base sl sc => simp [Builtin.append_, run_underlying ht, run_underlying ht2]
  | _ => simp [Builtin.append_, run_underlying ht]
theorem app_nat {w : World} {ops : Array Oper} {rest : List Oper} {o : Oper} {a : Act} {Q : Exit → Act → World → Prop} (hgd : o.guard = none) (s x : Operand)
    (ho : o.op = .call { callee := .builtin .append, args := #[s, x], argTypes := #[57, 85] })
    (base : Nat) (v : Value) (xs ys : List Nat) (A : Option Addr) (c m : Nat) (hs : a.eval s = v) (hown : OwnW w base v xs) (hx : a.eval x = .slice A ys.length c) (hn : A = none → c = 0) (hc : CellsAt w m A (w32 ys))
    (hlen : xs.length + ys.length ≤ 1000000) (hbase : base ≤ w.heap.size)
    (h : ∀ v' w', OwnW w' base v' (xs ++ ys) → Below base w w' → wpList Tryd.prog ops Q rest (a.put o.dst v') w') : wpList Tryd.prog ops Q (o :: rest) a w := by
  obtain ⟨i0, hi, hz0, hz1, hz2⟩ := info_parts info_w
  rcases A with _ | ⟨b, off, l⟩
  · have hy : ys = [] := by
      rcases ys with _ | ⟨y, ys⟩
      · rfl
      · obtain ⟨b, off, hA, _⟩ := hc (by simp [w32])
        cases hA
    subst hy
    have hc0 := hn rfl
    subst hc0
    refine wpList_plain hgd fun K hK => ?_
    have hrun := run_append_owned_none (P := Tryd.prog) (w := w) base 57 o.type 101 i0 1 under_w hi v xs.length (w32 xs) hown
    rw [← append_types under_w under_nat] at hrun
    have hx' : a.eval x = .slice none 0 0 := hx
    unfold Oper.wp
    simp only [execOp, ho, resolve, invoke, builtin, Sem.run_bind, Sem.run_pure, Result.andThen_ok, List.map_toArray, List.map_cons, List.map_nil, hs, hx', hrun]
    exact hK _ _ (h v w (by rw [List.append_nil]; exact hown) (Below.refl _ _))
  · have hcell : ∀ j u, (w32 ys)[j]? = some u → w.cell? ((⟨b, off, l⟩ : Addr).add j) = some u := by
      intro j u hu
      obtain ⟨b', off', hA, _, _, hcc⟩ := hc (fun h0 => by rw [h0] at hu; simp at hu)
      cases hA
      have hu' := hcc j u hu
      rcases j with _ | j
      · simpa [Addr.add] using hu'
      · simpa [Addr.add] using hu'
    have hone : ∀ u ∈ w32 ys, u.oneCell' = true := by
      intro u hu
      obtain ⟨z, _, rfl⟩ := List.mem_map.1 hu
      rfl
    obtain ⟨v', w', hr, h2, h3, h4⟩ := run_append_own (P := Tryd.prog) w base 57 o.type 101 i0 (.int .u32 0) 1 4 under_w hi hz0 hz1 hz2 rfl (by decide) v xs.length (w32 xs) hown ⟨b, off, l⟩ ys.length c (w32 ys) (by simp [w32]) hcell hone (by unfold maxLen; omega) (by omega) hbase
    rw [← append_types under_w under_nat] at hr
    refine wpList_plain hgd fun K hK => ?_
    unfold Oper.wp
    simp only [execOp, ho, resolve, invoke, builtin, Sem.run_bind, Sem.run_pure, Result.andThen_ok, List.map_toArray, List.map_cons, List.map_nil, hs, hx, hr]
    refine hK _ _ (h v' w' ?_ ((Below.refl base w).grown h3 hbase (fun g hg => (World.ownsRow.lt hown g hg).1)))
    have e : w32 (xs ++ ys) = w32 xs ++ w32 ys := by simp [w32]
    unfold OwnW
    rw [e, List.length_append]
    exact h2
theorem compare_any (A B : Option Addr) (a b : Nat) (c1 c2 m : Nat) (w : World) (h1 : CellsAt w m A (w32 (canon a))) (h2 : CellsAt w m B (w32 (canon b))) (l1 : (canon a).length ≤ 100000) (l2 : (canon b).length ≤ 100000) :
    Calls Tryd.prog 35 #[.slice A (canon a).length c1, .slice B (canon b).length c2] w fun e w' => e = .returned (.int .i64 (sgI ((a : Int) - (b : Int)))) ∧ Below w.heap.size w w' := by
  have H1 := Lib.hid h1
  have H2 := Lib.hid h2
  clear h1 h2
  by_cases hl : (canon a).length = (canon b).length
  · have HL := Lib.hid hl
    have e1 : (((canon a).length : Int) != ((canon b).length : Int)) = false := by simp; omega
    clear hl
    go_enter Tryd.func35, Tryd.ntmps35
    go_wp2_with fail
    go_loopw [5] (fun i wr => lsRel w (canon a) (canon b) i wr) (fun i _ => (intOf i + 1).toNat)
    case atStart => exact ⟨(canon a).length, 0, Nat.le_refl _, rfl, by rw [List.drop_length, HL.out, List.drop_length], rfl⟩
    case round =>
      as_aux_lemma =>
      obtain ⟨k, nq, hk, rfl, hd, rfl⟩ := hrel
      have HD := Lib.hid hd
      clear hd
      by_cases h0 : k = 0
      · subst h0
        go_wp2_with fail
        go_ret
        refine ⟨?_, below_drewN (Below.refl _ _) _⟩
        have := HD.out
        simp at this
        have hab : a = b := by rw [← wval_canon a, ← wval_canon b, this]
        subst hab
        have : sgI ((a : Int) - (a : Int)) = 0 := by rw [Int.sub_self]; rfl
        rw [this]
        rfl
      · obtain ⟨j, rfl⟩ := Nat.exists_eq_succ_of_ne_zero h0
        obtain ⟨b1, o1, x, rfl, _, _, hx, g1⟩ := H1.out.w32_ (k := j) (by omega)
        obtain ⟨b2, o2, y, rfl, _, _, hy, g2⟩ := H2.out.w32_ (k := j) (by have := HL.out; omega)
        have HX := Lib.hid hx
        have HY := Lib.hid hy
        have hj : ((j.succ : Nat) : Int) - 1 = (j : Int) := by omega
        have hja : (j : Int) < ((canon a).length : Int) := by omega
        have hjb : (j : Int) < ((canon b).length : Int) := by have := HL.out; omega
        rw [hj]
        clear hx hy h0
        by_cases hxy : x = y
        · subst hxy
          have e2 : ((x : Int) != (x : Int)) = false := by simp
          go_wp2_with fail
          go_quiet (fail)
          go_wp2_with fail
          exact ⟨⟨j, _, by omega, by go_num, drop_step HX.out HY.out HD.out, rfl⟩, by simp [intOf]; try omega⟩
        · have e2 : ((x : Int) != (y : Int)) = true := by simp; omega
          have hla := less_at (canon_ok a) (canon_ok b) HX.out HY.out HD.out hxy
          rw [wval_canon, wval_canon] at hla
          by_cases hlt : x < y
          · have e3 : decide ((x : Int) < (y : Int)) = true := decide_eq_true (by omega)
            have hab : a < b := by rw [decide_eq_true hlt] at hla; simpa using hla
            have HV := Lib.hid (show sgI ((a : Int) - (b : Int)) = -1 by unfold sgI; rw [if_neg (by omega), if_pos (by omega)])
            clear hla hab hxy
            go_wp2_with fail
            go_quiet (fail)
            go_wp2_with fail
            go_quiet (fail)
            go_wp2_with fail
            go_ret
            exact ⟨by rw [HV.out]; rfl, by repeat (first | exact Below.refl _ _ | refine ext_drewN ?_ _)⟩
          · have e3 : decide ((x : Int) < (y : Int)) = false := decide_eq_false (by omega)
            have hab : ¬ a < b := by rw [decide_eq_false hlt] at hla; simpa using hla
            have hba : b < a := by
              rcases Nat.lt_or_ge b a with h | h
              · exact h
              · exfalso
                have : a = b := by omega
                subst this
                have := HX.out.symm.trans HY.out
                simp at this
                exact hxy this
            have HV := Lib.hid (show sgI ((a : Int) - (b : Int)) = 1 by unfold sgI; rw [if_neg (by omega), if_neg (by omega)])
            clear hla hab hba hxy
            go_wp2_with fail
            go_quiet (fail)
            go_wp2_with fail
            go_quiet (fail)
            go_wp2_with fail
            go_ret
            exact ⟨by rw [HV.out]; rfl, by repeat (first | exact Below.refl _ _ | refine ext_drewN ?_ _)⟩
  · have e1 : (((canon a).length : Int) != ((canon b).length : Int)) = true := by simp; omega
    by_cases hlt : (canon a).length < (canon b).length
    · have hli : ((canon a).length : Int) < ((canon b).length : Int) := by omega
      have hab : a < b := by
        rcases Nat.lt_or_ge a b with h | h
        · exact h
        · have := canon_len_mono h; omega
      have HV := Lib.hid (show sgI ((a : Int) - (b : Int)) = -1 by unfold sgI; rw [if_neg (by omega), if_pos (by omega)])
      clear hab hl hlt
      go_enter Tryd.func35, Tryd.ntmps35
      go_wp2_with fail
      go_ret
      exact ⟨by rw [HV.out]; rfl, Below.refl _ _⟩
    · have hli : ¬ ((canon a).length : Int) < ((canon b).length : Int) := by omega
      have hab : b < a := by
        rcases Nat.lt_or_ge b a with h | h
        · exact h
        · have := canon_len_mono h; omega
      have HV := Lib.hid (show sgI ((a : Int) - (b : Int)) = 1 by unfold sgI; rw [if_neg (by omega), if_neg (by omega)])
      clear hab hl hlt
      go_enter Tryd.func35, Tryd.ntmps35
      go_wp2_with fail
      go_ret
      exact ⟨by rw [HV.out]; rfl, Below.refl _ _⟩
end Go.Proofs.YtmdfjbpggbhgnaaDoor
namespace Go.Proofs.YtmdfjbpggbhgnaaDoor
open Go.RowKit
theorem ptrim_w {v : Value} {n m : Nat} {w : World} (h : WdR w m v n) (hl : (canon n).length ≤ 1000000) : Calls Tryd.prog 57 #[v] w fun e w' => e = .returned v ∧ w = w' := by
  obtain ⟨A, c, rfl, h1, h2, h3⟩ := h
  have h := ptrim_any A (canon n) c m w h3 h2 hl
  have e : trimL (canon n) = canon n := by rw [trim_canon (canon_ok n), wval_canon]
  rw [e] at h
  exact h
theorem pright_w {v : Value} {n k m : Nat} {w : World} (h : WdR w m v n) (hm : m ≤ w.heap.size) (hl : (canon n).length ≤ 100000) (hk : k ≤ 1000000) :
    Calls Tryd.prog 59 #[v, .int .i64 (k : Int)] w fun e w' => ∃ v', e = .returned v' ∧ WdR w' w'.heap.size v' (n / 2 ^ k) ∧ Below w.heap.size w w' := by
  obtain ⟨A, c, rfl, h1, h2, h3⟩ := h
  refine (pright_any A (canon n) c k m w hm h3 (canon_ok n) hl hk).mono ?_
  rintro e w' ⟨G, g, rfl, g1, g2, g3, hb⟩
  rw [wval_canon] at g2 g3 ⊢
  exact ⟨_, rfl, ⟨G, g, rfl, g1, g2, g3⟩, hb⟩
theorem pleft_w {v : Value} {n k m : Nat} {w : World} (h : WdR w m v n) (hm : m ≤ w.heap.size) (hl : (canon n).length ≤ 100000) (hk : k ≤ 1000000) :
    Calls Tryd.prog 47 #[v, .int .i64 (k : Int)] w fun e w' => ∃ v', e = .returned v' ∧ WdR w' w'.heap.size v' (n * 2 ^ k) ∧ Below w.heap.size w w' := by
  obtain ⟨A, c, rfl, h1, h2, h3⟩ := h
  refine (pleft_any A n c k m w hm h3 h1 h2 hl hk).mono ?_
  rintro e w' ⟨G, g, rfl, g1, g2, g3, hb⟩
  exact ⟨_, rfl, ⟨G, g, rfl, g1, g2, g3⟩, hb⟩
theorem pcompare_w {v v2 : Value} {a b m : Nat} {w : World} (h : WdR w m v a) (h2 : WdR w m v2 b) (hl : (canon a).length ≤ 100000) (hl2 : (canon b).length ≤ 100000) :
    Calls Tryd.prog 35 #[v, v2] w fun e w' => e = .returned (.int .i64 (sgI ((a : Int) - (b : Int)))) ∧ Below w.heap.size w w' := by
  obtain ⟨A, c, rfl, h1, h1', h3⟩ := h
  obtain ⟨A2, c2, rfl, k1, k1', k3⟩ := h2
  exact compare_any A A2 a b c c2 m w h3 k3 hl hl2
theorem zeros_w {v : Value} {n m : Nat} {w : World} (h : WdR w m v n) (hm : m ≤ w.heap.size) (hl : (canon n).length ≤ 100000) (ht : TabAt w) :
    Calls Tryd.prog 58 #[v] w fun e w' => (∃ z : Nat, e = .returned (.int .i64 (z : Int)) ∧ (n = 0 → z = 1099511627776) ∧ (n ≠ 0 → TzOf n z ∧ z ≤ 3200000)) ∧ w = w' := by
  obtain ⟨A, c, rfl, h1, h2, h3⟩ := h
  exact zeros_any A n c m w hm h3 hl ht
theorem nf_upto {neg : Bool} {n den z : Nat} (hz : n % 2 ^ z = 0) : ∀ k, k ≤ z → k ≤ den → nf (sg neg n) den = nf (sg neg (n / 2 ^ k)) (den - k)
  | 0, _, _ => by simp
  | k + 1, h1, h2 => by
    rw [nf_upto hz k (by omega) (by omega), nf_step (by omega) ?_]
    have e := Nat.div_add_mod n (2 ^ z)
    rw [hz, Nat.add_zero] at e
    have es : 2 ^ z = 2 ^ k * (2 * 2 ^ (z - k - 1)) := by rw [← Nat.pow_succ', ← Nat.pow_add]; congr 1; omega
    rw [← e, es, Nat.mul_assoc, Nat.mul_assoc, Nat.mul_div_cancel_left _ (Nat.two_pow_pos k)]
    omega
theorem nf_tz {neg : Bool} {n den z : Nat} (h : TzOf n z) : nf (sg neg n) den = (sg neg (n / 2 ^ (min z den)), den - min z den) := by
  rw [nf_upto h.1 (min z den) (by omega) (by omega)]
  refine nf_done (fun h0 => ?_)
  have : min z den = z := by omega
  rw [this]
  have := h.2
  unfold sg
  split <;> omega
theorem res_presult {tmps : Array Value} {w : World} {b : Nat} {v0 v1 v2 : Value} (h2 : tmps.getD 6 undef = .pointer (some ⟨b, 0, none⟩)) (hB : RowD w b [v0, v1, v2] 59) :
    (results Tryd.f36 tmps).run Tryd.prog w = .ok (.agg #[v0, v1, v2]) w := by
  have k0 := hB.cell 0
  have k1 := hB.cell 1
  have k2 := hB.cell 2
  simp at k0 k1 k2
  simp at h2
  simp [results, Tryd.results36, go_sem, h2, k0, k1, k2]
theorem al_ (u : World) (o : Obj) : Below u.heap.size u (u.alloc o) := (Below.refl _ u).alloc (Nat.le_refl _) o
theorem presult_v {neg : Bool} {v : Value} {n d m : Nat} {w : World} (h : WdR w m v n) (hm : m ≤ w.heap.size) (hl : (canon n).length ≤ 100000) (hd : d ≤ 65536) (ht : TabAt w) :
    Calls Tryd.prog 36 #[.bool neg, v, .int .i64 (d : Int)] w fun e w' =>
      ∃ v', e = .returned v' ∧ DyR w' w.heap.size w'.heap.size v' (nf (sg neg n) d).1 (nf (sg neg n) d).2 ∧ Below w.heap.size w w' := by
  obtain ⟨A0, L0, c0, rfl⟩ := h.form
  have X := Lib.hid h
  have HT := Lib.hid ht
  clear h ht
  have b0 : Below w.heap.size w (w.alloc (.cells #[.bool false, .slice none 0 0, .int .i64 0] 59)) := ext_alloc (Below.refl _ _) _
  have r0 := RowD.new_ w [.bool false, .slice none 0 0, .int .i64 0] 59
  go_enter Tryd.func36, Tryd.ntmps36
  go_wp2_with fail
  go_at_call 57
  refine (ptrim_w (X.out.below b0 hm) (by omega)).mono ?_
  rintro e w3 ⟨rfl, rfl⟩
  go_wp2_with fail
  go_at_call 58
  refine (zeros_w (X.out.below b0 hm) (by simp; omega) (by omega) (HT.out.call (al_ _ _))).mono ?_
  rintro e w3 ⟨⟨z, rfl, hz1, hz2⟩, rfl⟩
  obtain ⟨k, hk⟩ : ∃ k : Nat, k = min z d := ⟨_, rfl⟩
  have hmin : min (z : Int) (d : Int) = (k : Int) := by omega
  have hkd : k ≤ d := by omega
  have hdk : ¬ (65536 : Int) < (d : Int) - (k : Int) := by omega
  have hdk0 : ¬ (65536 : Int) < (d : Int) := by omega
  have hzz : z ≤ 1099511627776 := by
    by_cases h0 : n = 0
    · have := hz1 h0; omega
    · have := (hz2 h0).2; omega
  have hval : n ≠ 0 → nf (sg neg n) d = (sg neg (n / 2 ^ k), d - k) := fun h0 => by rw [hk]; exact nf_tz (hz2 h0).1
  have hn2 : n ≠ 0 → n / 2 ^ k ≠ 0 := fun h0 h1 => by
    have h3 := (hz2 h0).1
    have h4 : n / 2 ^ z = 0 := by
      have hle : 2 ^ k ≤ 2 ^ z := Nat.pow_le_pow_right (by decide) (by omega)
      have := Nat.lt_of_div_eq_zero (Nat.two_pow_pos k) h1
      exact Nat.div_eq_of_lt (Nat.lt_of_lt_of_le this hle)
    have := h3.2
    rw [h4] at this
    simp at this
  have hk0 : n = 0 → k = d := fun h0 => by have := hz1 h0; omega
  have HVAL := Lib.hid hval
  have HN2 := Lib.hid hn2
  have HK0 := Lib.hid hk0
  clear hz1 hz2 hk hval hn2 hk0
  by_cases hk1 : k = 0
  · as_aux_lemma =>
    have hkp : ¬ 0 < k := by omega
    have hkp' : ¬ (0 : Int) < (k : Int) := by omega
    by_cases hn : n = 0
    · as_aux_lemma =>
      obtain ⟨wv, hwv⟩ : ∃ wv, wv = w.alloc (.cells #[.bool false, .slice none 0 0, .int .i64 0] 59) := ⟨_, rfl⟩
      rw [← hwv]
      have rv : RowD wv w.heap.size [.bool false, .slice none 0 0, .int .i64 0] 59 := by rw [hwv]; exact r0
      have bv : Below w.heap.size w wv := by rw [hwv]; exact b0
      have Y0 := X.out.below bv hm
      clear hwv r0 b0
      have HRES := Lib.hid (show nf (sg neg n) d = (0, 0) by rw [hn, show sg neg 0 = 0 by unfold sg; split <;> rfl]; exact nf_zero d)
      have hL : (L0 : Int) = 0 := by
        obtain ⟨A, c, he, _⟩ := Y0
        cases he
        rw [hn, canon_zero]; rfl
      have hLb : ((L0 : Int) == 0) = true := by rw [hL]; rfl
      have HLZ := Lib.hid hL
      subst hk1
      clear hL hn Y0
      have u1 := rv
      have q0 : wv.cell? ⟨w.heap.size, 0, none⟩ = some (.bool false) := u1.cell 0
      have q1 : wv.cell? ⟨w.heap.size, 1, none⟩ = some (.slice none 0 0) := u1.cell 1
      have q2 : wv.cell? ⟨w.heap.size, 2, none⟩ = some (.int .i64 0) := u1.cell 2
      have qf := u1.free
      have hu1 := u1.lt
      go_wp2_with fail
      refine bodyPost_ret (res_presult rfl (((u1.set_ 0 _).set_ 1 _).set_ 2 _)) rfl ⟨_, rfl, ?_, ((bv.setCell (by simp) _).setCell (by simp) _).setCell (by simp) _⟩
      rw [HRES.out]
      exact DyR.zero_ _ _ _
    · as_aux_lemma =>
      obtain ⟨wv, hwv⟩ : ∃ wv, wv = w.alloc (.cells #[.bool false, .slice none 0 0, .int .i64 0] 59) := ⟨_, rfl⟩
      rw [← hwv]
      have rv : RowD wv w.heap.size [.bool false, .slice none 0 0, .int .i64 0] 59 := by rw [hwv]; exact r0
      have bv : Below w.heap.size w wv := by rw [hwv]; exact b0
      have Y0 := X.out.below bv hm
      clear hwv r0 b0
      obtain ⟨y, hy⟩ : ∃ y, y = n / 2 ^ k := ⟨_, rfl⟩
      have HRES := Lib.hid (show nf (sg neg n) d = (sg neg y, d - k) by rw [HVAL.out hn, hy])
      have HODD := Lib.hid (show d - k ≠ 0 → sg neg y % 2 = 1 by
        have h5 := nf_odd (sg neg n) d
        rw [HRES.out] at h5
        exact h5)
      have HY0 := Lib.hid (show y ≠ 0 by rw [hy]; exact HN2.out hn)
      have hyl : (canon y).length ≤ 100000 := Nat.le_trans (canon_len_mono (by rw [hy]; exact Nat.div_le_self _ _)) hl
      have hyp := canon_ne HY0.out
      have e0 : (((canon y).length : Int) == 0) = false := by rw [beq_eq_false_iff_ne]; omega
      have hyn : y = n := by rw [hy, hk1]; simp
      subst hk1
      rw [← hyn] at Y0
      obtain ⟨A5, c5, he5, g1, g2, g3⟩ := Y0
      cases he5
      have G3 := Lib.hid g3
      obtain ⟨hi5, hhi5⟩ : ∃ hi5, hi5 = m := ⟨_, rfl⟩
      rw [← hhi5] at g3
      clear hy hn hyn hhi5
      go_wp2_with (at_builtin
                   refine app_nat rfl _ _ rfl wv.heap.size _ [] (canon y) A0 c0 hi5 rfl (OwnW.nil_ _ _) rfl g1 g3 (by simp; omega) (Nat.le_refl _) ?_
                   intro v' w4 hown4 hb4
                   rw [List.nil_append] at hown4
                   obtain ⟨A', c', rfl, _, _⟩ := hown4.view
                   have u1 := rv.call hb4
                   have bv4 := bv.trans (hb4.mono (by have := bv.size; omega))
                   have hsv := rv.lt
                   have hsz4 := hb4.size
                   clear hb4
                   have q0 : w4.cell? ⟨w.heap.size, 0, none⟩ = some (.bool false) := u1.cell 0
                   have q1 : w4.cell? ⟨w.heap.size, 1, none⟩ = some (.slice none 0 0) := u1.cell 1
                   have q2 : w4.cell? ⟨w.heap.size, 2, none⟩ = some (.int .i64 0) := u1.cell 2
                   have qf := u1.free
                   have hu1 := u1.lt)
      have hown5 : OwnW (((w4.setCell ⟨w.heap.size, 0, none⟩ (.bool neg)).setCell ⟨w.heap.size, 1, none⟩ (.slice A' (canon y).length c')).setCell ⟨w.heap.size, 2, none⟩ (.int .i64 (d : Int))) wv.heap.size (.slice A' (canon y).length c') (canon y) := ownsRow_setCell_below (ownsRow_setCell_below (ownsRow_setCell_below hown4 (by simp; omega) _) (by simp; omega) _) (by simp; omega) _
      refine bodyPost_ret (res_presult rfl (((u1.set_ 0 _).set_ 1 _).set_ 2 _)) rfl ⟨_, rfl, ?_, ((bv4.setCell (by simp) _).setCell (by simp) _).setCell (by simp) _⟩
      rw [HRES.out]
      obtain ⟨_, hcl, hn', hc'⟩ := hown5.cap_
      refine ⟨A', c', ?_, hn', ?_, ?_, ?_, by show d - 0 ≤ 65536; omega, ?_⟩
      · rw [sg_abs, sg_neg HY0.out]
        have : (d : Int) = ((d - 0 : Nat) : Int) := by omega
        rw [this]
      · rw [sg_abs]; exact hcl
      · rw [sg_abs]; exact hc'
      · intro a ha
        have := (World.ownsRow.lt hown5 a.block (by rw [ha]; rfl)).1
        have := bv.size
        omega
      · intro h
        have h5 := HODD.out h
        exact h5
  · have hkp : 0 < k := by omega
    have hkp' : (0 : Int) < (k : Int) := by omega
    by_cases hn : n = 0
    · as_aux_lemma =>
      have HRES := Lib.hid (show nf (sg neg n) d = (0, 0) by rw [hn, show sg neg 0 = 0 by unfold sg; split <;> rfl]; exact nf_zero d)
      have hkd0 := HK0.out hn
      go_wp2_with fail
      go_at_call 59
      refine (pright_w (X.out.below b0 hm) (by simp; omega) hl (by omega)).mono ?_
      rintro e wv ⟨v5, rfl, Y0, hb5⟩
      have rv := r0.call hb5
      have bv := b0.trans (hb5.mono (by simp))
      clear hb5 r0 b0
      rw [hn, Nat.zero_div] at Y0
      obtain ⟨A5, c5, he5, g1, g2, g3⟩ := Y0
      rw [canon_zero] at he5
      subst he5
      clear hn g1 g2 g3
      have u1 := rv
      have q0 : wv.cell? ⟨w.heap.size, 0, none⟩ = some (.bool false) := u1.cell 0
      have q1 : wv.cell? ⟨w.heap.size, 1, none⟩ = some (.slice none 0 0) := u1.cell 1
      have q2 : wv.cell? ⟨w.heap.size, 2, none⟩ = some (.int .i64 0) := u1.cell 2
      have qf := u1.free
      have hu1 := u1.lt
      go_wp2_with fail
      refine bodyPost_ret (res_presult rfl (((u1.set_ 0 _).set_ 1 _).set_ 2 _)) rfl ⟨_, rfl, ?_, ((bv.setCell (by simp) _).setCell (by simp) _).setCell (by simp) _⟩
      rw [HRES.out]
      exact DyR.zero_ _ _ _
    · as_aux_lemma =>
      obtain ⟨y, hy⟩ : ∃ y, y = n / 2 ^ k := ⟨_, rfl⟩
      have HRES := Lib.hid (show nf (sg neg n) d = (sg neg y, d - k) by rw [HVAL.out hn, hy])
      have HODD := Lib.hid (show d - k ≠ 0 → sg neg y % 2 = 1 by
        have h5 := nf_odd (sg neg n) d
        rw [HRES.out] at h5
        exact h5)
      have HY0 := Lib.hid (show y ≠ 0 by rw [hy]; exact HN2.out hn)
      have hyl : (canon y).length ≤ 100000 := Nat.le_trans (canon_len_mono (by rw [hy]; exact Nat.div_le_self _ _)) hl
      have hyp := canon_ne HY0.out
      have e0 : (((canon y).length : Int) == 0) = false := by rw [beq_eq_false_iff_ne]; omega
      clear hn
      go_wp2_with fail
      go_at_call 59
      refine (pright_w (X.out.below b0 hm) (by simp; omega) hl (by omega)).mono ?_
      rintro e wv ⟨v5, rfl, Y0, hb5⟩
      have rv := r0.call hb5
      have bv := b0.trans (hb5.mono (by simp))
      clear hb5 r0 b0
      rw [← hy] at Y0
      obtain ⟨A5, c5, rfl, g1, g2, g3⟩ := Y0
      obtain ⟨hi5, hhi5⟩ : ∃ hi5, hi5 = wv.heap.size := ⟨_, rfl⟩
      rw [← hhi5] at g3
      clear hy hhi5
      go_wp2_with (at_builtin
                   refine app_nat rfl _ _ rfl wv.heap.size _ [] (canon y) A5 c5 hi5 rfl (OwnW.nil_ _ _) rfl g1 g3 (by simp; omega) (Nat.le_refl _) ?_
                   intro v' w4 hown4 hb4
                   rw [List.nil_append] at hown4
                   obtain ⟨A', c', rfl, _, _⟩ := hown4.view
                   have u1 := rv.call hb4
                   have bv4 := bv.trans (hb4.mono (by have := bv.size; omega))
                   have hsv := rv.lt
                   have hsz4 := hb4.size
                   clear hb4
                   have q0 : w4.cell? ⟨w.heap.size, 0, none⟩ = some (.bool false) := u1.cell 0
                   have q1 : w4.cell? ⟨w.heap.size, 1, none⟩ = some (.slice none 0 0) := u1.cell 1
                   have q2 : w4.cell? ⟨w.heap.size, 2, none⟩ = some (.int .i64 0) := u1.cell 2
                   have qf := u1.free
                   have hu1 := u1.lt)
      have hown5 : OwnW (((w4.setCell ⟨w.heap.size, 0, none⟩ (.bool neg)).setCell ⟨w.heap.size, 1, none⟩ (.slice A' (canon y).length c')).setCell ⟨w.heap.size, 2, none⟩ (.int .i64 ((d : Int) - (k : Int)))) wv.heap.size (.slice A' (canon y).length c') (canon y) := ownsRow_setCell_below (ownsRow_setCell_below (ownsRow_setCell_below hown4 (by simp; omega) _) (by simp; omega) _) (by simp; omega) _
      refine bodyPost_ret (res_presult rfl (((u1.set_ 0 _).set_ 1 _).set_ 2 _)) rfl ⟨_, rfl, ?_, ((bv4.setCell (by simp) _).setCell (by simp) _).setCell (by simp) _⟩
      rw [HRES.out]
      obtain ⟨_, hcl, hn', hc'⟩ := hown5.cap_
      refine ⟨A', c', ?_, hn', ?_, ?_, ?_, by show d - k ≤ 65536; omega, ?_⟩
      · rw [sg_abs, sg_neg HY0.out]
        have : ((d : Int) - (k : Int)) = ((d - k : Nat) : Int) := by omega
        rw [this]
      · rw [sg_abs]; exact hcl
      · rw [sg_abs]; exact hc'
      · intro a ha
        have := (World.ownsRow.lt hown5 a.block (by rw [ha]; rfl)).1
        have := bv.size
        omega
      · intro h
        have h5 := HODD.out h
        exact h5
end Go.Proofs.YtmdfjbpggbhgnaaDoor
namespace Go.Proofs.YtmdfjbpggbhgnaaDoor
open Go.RowKit
theorem nf_mul (m : Int) : ∀ (k d : Nat), nf (m * 2 ^ k) d = if k ≤ d then nf m (d - k) else (m * 2 ^ (k - d), 0)
  | 0, d => by simp
  | k + 1, 0 => rfl
  | k + 1, d + 1 => by
    have e1 : m * 2 ^ (k + 1) = 2 * (m * 2 ^ k) := by rw [Int.pow_succ, ← Int.mul_assoc, Int.mul_comm]
    have h : nf (m * 2 ^ (k + 1)) (d + 1) = nf (m * 2 ^ k) d := by
      rw [e1]
      show (if (2 * (m * 2 ^ k)) % 2 = 0 then nf (2 * (m * 2 ^ k) / 2) d else _) = _
      rw [if_pos (by omega), show 2 * (m * 2 ^ k) / 2 = m * 2 ^ k by omega]
    rw [h, nf_mul m k d]
    by_cases hk : k ≤ d
    · rw [if_pos hk, if_pos (by omega), show d + 1 - (k + 1) = d - k by omega]
    · rw [if_neg hk, if_neg (by omega), show k + 1 - (d + 1) = k - d by omega]
theorem ofUint_any (u : Nat) (w : World) (hu : u < 18446744073709551616) :
    Calls Tryd.prog 37 #[.int .u64 (u : Int)] w fun e w' => ∃ v', e = .returned v' ∧ WdR w' w'.heap.size v' u ∧ Below w.heap.size w w' := by
  obtain ⟨lo, hlo⟩ : ∃ lo : Nat, (u : Int) % 4294967296 = (lo : Int) := ⟨(u % 4294967296 : Nat), by omega⟩
  obtain ⟨hi, hhi⟩ : ∃ hi : Nat, (u : Int) / 4294967296 = (hi : Int) := ⟨(u / 4294967296 : Nat), by omega⟩
  have hib : hi < 4294967296 := by omega
  have lob : lo < 4294967296 := by omega
  have hval : wval [lo, hi] = u := by rw [of_words]; omega
  have HV := Lib.hid hval
  have c0 : CellsAt (w.alloc (.cells #[.int .u32 (lo : Int), .int .u32 (hi : Int)] 101)) (w.heap.size + 1) (some ⟨w.heap.size, 0, none⟩) (w32 [lo, hi]) :=
    (RowD.new_ w (w32 [lo, hi]) 101).cells_ (by omega)
  have C0 := Lib.hid c0
  clear hval c0
  go_enter Tryd.func37, Tryd.ntmps37
  go_wp2_with fail
  go_at_call 57
  refine (ptrim_any (some ⟨w.heap.size, 0, none⟩) [lo, hi] 2 (w.heap.size + 1) _ C0.out (by simp) (by simp)).mono ?_
  rintro e w3 ⟨rfl, rfl⟩
  go_wp2_with fail
  go_ret
  have hcan := trim_canon (of_ok lob hib)
  rw [HV.out] at hcan
  refine ⟨_, rfl, ⟨some ⟨w.heap.size, 0, none⟩, 2, by rw [hcan]; rfl, by simp, ?_, ?_⟩, al_ _ _⟩
  · rw [← hcan, trimL_len]
    exact trimN_le _ _
  · rw [← hcan]
    exact (C0.out.takeW _).more (by simp)
theorem res_pOf {tmps : Array Value} {w : World} {b : Nat} {v0 v1 v2 : Value} (h2 : tmps.getD 2 undef = .pointer (some ⟨b, 0, none⟩)) (hB : RowD w b [v0, v1, v2] 59) :
    (results Tryd.f15 tmps).run Tryd.prog w = .ok (.agg #[v0, v1, v2]) w := by
  have k0 := hB.cell 0
  have k1 := hB.cell 1
  have k2 := hB.cell 2
  simp at k0 k1 k2
  simp at h2
  simp [results, Tryd.results15, go_sem, h2, k0, k1, k2]
theorem pof_any (n : Int) (h1 : -9223372036854775808 ≤ n) (h2 : n < 9223372036854775808) (w : World) (ht : TabAt w) :
    Calls Tryd.prog 15 #[.int .i64 n] w fun e w' => ∃ v', e = .returned v' ∧ DyR w' w.heap.size w'.heap.size v' n 0 ∧ Below w.heap.size w w' := by
  by_cases h : n < 0
  · as_aux_lemma =>
    obtain ⟨u, hu⟩ : ∃ u : Nat, -n = (u : Int) := ⟨(-n).toNat, by omega⟩
    obtain ⟨vv, hvv⟩ : ∃ vv : Nat, n + 18446744073709551616 = (vv : Int) := ⟨(n + 18446744073709551616).toNat, by omega⟩
    have hu1 : IntKind.u64.wrap n = (vv : Int) := by rw [IntKind.wrap_u64]; omega
    have hu2 : IntKind.u64.wrap (-(vv : Int)) = (u : Int) := by rw [IntKind.wrap_u64]; omega
    have hsg : sg true u = n := by unfold sg; simp; omega
    have hub : u < 18446744073709551616 := by omega
    have hcl : (canon u).length ≤ 2 := canon_len_le (by omega)
    have HSG := Lib.hid hsg
    have HT := Lib.hid ht
    clear hsg ht hvv hu
    have b0 : Below w.heap.size w (w.alloc (.cells #[.bool false, .slice none 0 0, .int .i64 0] 59)) := ext_alloc (Below.refl _ _) _
    have r0 := RowD.new_ w [.bool false, .slice none 0 0, .int .i64 0] 59
    go_enter Tryd.func15, Tryd.ntmps15
    go_wp2_with fail
    go_at_call 37
    refine (ofUint_any u _ hub).mono ?_
    rintro e w1 ⟨v1, rfl, Y, hb1⟩
    have r1 := r0.call hb1
    have b1 := b0.trans (hb1.mono (by simp))
    have hw1 := r1.lt
    have HT1 := HT.out.below b1 HT.out.1
    obtain ⟨A1, L1, c1, rfl⟩ := Y.form
    have Y' := Lib.hid Y
    clear hb1 r0 b0 Y
    go_wp2_with fail
    go_at_call 36
    refine (presult_v (d := 0) Y'.out (Nat.le_refl _) (by omega) (by omega) HT1).mono ?_
    rintro e w3 ⟨v', rfl, D3, hb3⟩
    rw [HSG.out] at D3
    have D3 : DyR w3 (w.heap.size + 1) w3.heap.size v' n 0 := D3.low (by omega)
    have u1 := r1.call hb3
    have bv := b1.trans (hb3.mono (by have := b1.size; omega))
    obtain ⟨nb3, A3, L3, c3, rfl, _⟩ := D3.form
    have D3' := Lib.hid D3
    clear D3 hb3 r1 b1
    have q0 : w3.cell? ⟨w.heap.size, 0, none⟩ = some (.bool false) := u1.cell 0
    have q1 : w3.cell? ⟨w.heap.size, 1, none⟩ = some (.slice none 0 0) := u1.cell 1
    have q2 : w3.cell? ⟨w.heap.size, 2, none⟩ = some (.int .i64 0) := u1.cell 2
    have qf := u1.free
    have hu1 := u1.lt
    go_wp2_with fail
    refine bodyPost_ret (res_pOf rfl (((u1.set_ 0 _).set_ 1 _).set_ 2 _)) rfl ⟨_, rfl, ?_, ((bv.setCell (by simp) _).setCell (by simp) _).setCell (by simp) _⟩
    exact ((((D3'.out.set_ (by omega) 0 _).set_ (by omega) 1 _).set_ (by omega) 2 _).low (by omega)).more (by simp)
  · as_aux_lemma =>
    obtain ⟨u, rfl⟩ : ∃ u : Nat, n = (u : Int) := ⟨n.toNat, by omega⟩
    have hsg : sg false u = (u : Int) := by unfold sg; simp
    have hub : u < 18446744073709551616 := by omega
    have hcl : (canon u).length ≤ 2 := canon_len_le (by omega)
    have HSG := Lib.hid hsg
    have HT := Lib.hid ht
    clear hsg ht
    have b0 : Below w.heap.size w (w.alloc (.cells #[.bool false, .slice none 0 0, .int .i64 0] 59)) := ext_alloc (Below.refl _ _) _
    have r0 := RowD.new_ w [.bool false, .slice none 0 0, .int .i64 0] 59
    go_enter Tryd.func15, Tryd.ntmps15
    go_wp2_with fail
    go_at_call 37
    refine (ofUint_any u _ hub).mono ?_
    rintro e w1 ⟨v1, rfl, Y, hb1⟩
    have r1 := r0.call hb1
    have b1 := b0.trans (hb1.mono (by simp))
    have hw1 := r1.lt
    have HT1 := HT.out.below b1 HT.out.1
    obtain ⟨A1, L1, c1, rfl⟩ := Y.form
    have Y' := Lib.hid Y
    clear hb1 r0 b0 Y
    go_wp2_with fail
    go_at_call 36
    refine (presult_v (d := 0) Y'.out (Nat.le_refl _) (by omega) (by omega) HT1).mono ?_
    rintro e w3 ⟨v', rfl, D3, hb3⟩
    rw [HSG.out] at D3
    have D3 : DyR w3 (w.heap.size + 1) w3.heap.size v' (u : Int) 0 := D3.low (by omega)
    have u1 := r1.call hb3
    have bv := b1.trans (hb3.mono (by have := b1.size; omega))
    obtain ⟨nb3, A3, L3, c3, rfl, _⟩ := D3.form
    have D3' := Lib.hid D3
    clear D3 hb3 r1 b1
    have q0 : w3.cell? ⟨w.heap.size, 0, none⟩ = some (.bool false) := u1.cell 0
    have q1 : w3.cell? ⟨w.heap.size, 1, none⟩ = some (.slice none 0 0) := u1.cell 1
    have q2 : w3.cell? ⟨w.heap.size, 2, none⟩ = some (.int .i64 0) := u1.cell 2
    have qf := u1.free
    have hu1 := u1.lt
    go_wp2_with fail
    refine bodyPost_ret (res_pOf rfl (((u1.set_ 0 _).set_ 1 _).set_ 2 _)) rfl ⟨_, rfl, ?_, ((bv.setCell (by simp) _).setCell (by simp) _).setCell (by simp) _⟩
    exact ((((D3'.out.set_ (by omega) 0 _).set_ (by omega) 1 _).set_ (by omega) 2 _).low (by omega)).more (by simp)
end Go.Proofs.YtmdfjbpggbhgnaaDoor
namespace Go.Proofs.YtmdfjbpggbhgnaaDoor
open Go.RowKit
theorem res_pShift {tmps : Array Value} {w : World} {b : Nat} {v0 v1 v2 : Value} (h2 : tmps.getD 4 undef = .pointer (some ⟨b, 0, none⟩)) (hB : RowD w b [v0, v1, v2] 59) :
    (results Tryd.f30 tmps).run Tryd.prog w = .ok (.agg #[v0, v1, v2]) w := by
  have k0 := hB.cell 0
  have k1 := hB.cell 1
  have k2 := hB.cell 2
  simp at k0 k1 k2
  simp at h2
  simp [results, Tryd.results30, go_sem, h2, k0, k1, k2]
theorem pshift_any {v : Value} {x : Int} {d lo m : Nat} {n : Int} {w : World} (D : DyR w lo m v x d) (hm : m ≤ w.heap.size) (hl : (canon x.natAbs).length ≤ 50000) (hd : (d : Int) - max (-65536) (min n 65536) ≤ 65536) (ht : TabAt w) :
    Calls Tryd.prog 30 #[v, .int .i64 n] w fun e w' => ∃ v', e = .returned v' ∧ DyR w' w.heap.size w'.heap.size v' (dyShift x d n).1 (dyShift x d n).2 ∧ Below w.heap.size w w' := by
  obtain ⟨nn, hnn⟩ : ∃ nn : Int, max (-65536) (min n 65536) = nn := ⟨_, rfl⟩
  have hb1 : -65536 ≤ nn := by omega
  have hb2 : nn ≤ 65536 := by omega
  rw [hnn] at hd
  have hdd := D.bound.1
  by_cases hneg : (d : Int) - nn < 0
  · as_aux_lemma =>
    obtain ⟨p, hp⟩ : ∃ p : Nat, -((d : Int) - nn) = (p : Int) := ⟨(nn - d).toNat, by omega⟩
    have HV := Lib.hid (show dyShift x d n = (x * 2 ^ p, 0) by
      unfold dyShift
      rw [hnn, if_neg (by omega)]
      rw [nf_mul, if_neg (by omega)]
      congr 3
      omega)
    have hp6 : p ≤ 1000000 := by omega
    have hlen : (canon (x.natAbs * 2 ^ p)).length ≤ 100000 := by
      have := canon_len_shift x.natAbs p
      omega
    have hpn : (d : Int) - nn < 0 := by omega
    obtain ⟨nb, A, L, c, rfl, HD⟩ := D.form
    have hd6 := D.bound.1
    have D' := Lib.hid D
    have HT := Lib.hid ht
    have HN := Lib.hid hnn
    have b0 : Below w.heap.size w ((w.alloc (.cells #[.bool nb, .slice A L c, .int .i64 (d : Int)] 59)).alloc (.cells #[.bool false, .slice none 0 0, .int .i64 0] 59)) := ext_alloc (ext_alloc (Below.refl _ _) _) _
    have r0 := RowD.new_ (w.alloc (.cells #[.bool nb, .slice A L c, .int .i64 (d : Int)] 59)) [.bool false, .slice none 0 0, .int .i64 0] 59
    rw [show (w.alloc (.cells #[.bool nb, .slice A L c, .int .i64 (d : Int)] 59)).heap.size = w.heap.size + 1 by simp] at r0
    clear D ht
    go_enter Tryd.func30, Tryd.ntmps30
    go_wp2_with fail
    go_at_call 46
    refine (parts_w (D'.out.below b0 hm) (by simp; omega) (by omega)).mono ?_
    rintro e w1 ⟨nb', A', L', c', he, rfl, hb1⟩
    cases he
    have r1 := r0.call hb1
    have b1 := b0.trans (hb1.mono (by simp; omega))
    have hw1 := r1.lt
    have HT1 := HT.out.below b1 HT.out.1
    have X1 := (D'.out.below b1 hm).words
    clear hb1 r0 b0
    go_wp2_with fail
    go_at_call 47
    refine (pleft_w X1 (by omega) (by omega) hp6).mono ?_
    rintro e w2 ⟨v2, rfl, Y, hb2⟩
    have r2 := r1.call hb2
    have b2 := b1.trans (hb2.mono (by omega))
    have HT2 := HT1.call hb2
    obtain ⟨A2, L2, c2, rfl⟩ := Y.form
    have hw2 := r2.lt
    clear hb2 r1 b1 HT1 X1
    go_wp2_with fail
    go_at_call 36
    refine (presult_v (d := 0) Y (Nat.le_refl _) hlen (by omega) HT2).mono ?_
    rintro e w3 ⟨v', rfl, D3, hb3⟩
    rw [show nf (sg nb (x.natAbs * 2 ^ p)) 0 = dyShift x d n by rw [HD.out.1, sg_mul, HV.out]; rfl] at D3
    have r1 := r2
    have b1 := b2
    clear r2 b2
    have u1 := r1.call hb3
    have bv := b1.trans (hb3.mono (by have := b1.size; omega))
    obtain ⟨nb3, A3, L3, c3, rfl, _⟩ := D3.form
    have D3' := Lib.hid D3
    clear D3 hb3 r1 b1
    have q0 : w3.cell? ⟨w.heap.size + 1, 0, none⟩ = some (.bool false) := u1.cell 0
    have q1 : w3.cell? ⟨w.heap.size + 1, 1, none⟩ = some (.slice none 0 0) := u1.cell 1
    have q2 : w3.cell? ⟨w.heap.size + 1, 2, none⟩ = some (.int .i64 0) := u1.cell 2
    have qf := u1.free
    have hu1 := u1.lt
    go_wp2_with fail
    refine bodyPost_ret (res_pShift rfl (((u1.set_ 0 _).set_ 1 _).set_ 2 _)) rfl ⟨_, rfl, ?_, ((bv.setCell (by simp) _).setCell (by simp) _).setCell (by simp) _⟩
    exact ((((D3'.out.set_ (by omega) 0 _).set_ (by omega) 1 _).set_ (by omega) 2 _).low (by omega)).more (by simp)
  · as_aux_lemma =>
    obtain ⟨p, hp⟩ : ∃ p : Nat, (d : Int) - nn = (p : Int) := ⟨(d - nn).toNat, by omega⟩
    have HV := Lib.hid (show dyShift x d n = nf x p by
      unfold dyShift
      rw [hnn]
      by_cases h0 : nn < 0
      · rw [if_pos h0]
        congr 1
        omega
      · rw [if_neg h0, nf_mul, if_pos (by omega)]
        congr 1
        omega)
    have hp6 : p ≤ 65536 := by omega
    have hpn : ¬ (d : Int) - nn < 0 := by omega
    obtain ⟨nb, A, L, c, rfl, HD⟩ := D.form
    have hd6 := D.bound.1
    have D' := Lib.hid D
    have HT := Lib.hid ht
    have HN := Lib.hid hnn
    have b0 : Below w.heap.size w ((w.alloc (.cells #[.bool nb, .slice A L c, .int .i64 (d : Int)] 59)).alloc (.cells #[.bool false, .slice none 0 0, .int .i64 0] 59)) := ext_alloc (ext_alloc (Below.refl _ _) _) _
    have r0 := RowD.new_ (w.alloc (.cells #[.bool nb, .slice A L c, .int .i64 (d : Int)] 59)) [.bool false, .slice none 0 0, .int .i64 0] 59
    rw [show (w.alloc (.cells #[.bool nb, .slice A L c, .int .i64 (d : Int)] 59)).heap.size = w.heap.size + 1 by simp] at r0
    clear D ht
    go_enter Tryd.func30, Tryd.ntmps30
    go_wp2_with fail
    go_at_call 46
    refine (parts_w (D'.out.below b0 hm) (by simp; omega) (by omega)).mono ?_
    rintro e w1 ⟨nb', A', L', c', he, rfl, hb1⟩
    cases he
    have r1 := r0.call hb1
    have b1 := b0.trans (hb1.mono (by simp; omega))
    have hw1 := r1.lt
    have HT1 := HT.out.below b1 HT.out.1
    have X1 := (D'.out.below b1 hm).words
    clear hb1 r0 b0
    go_wp2_with fail
    go_at_call 36
    refine (presult_v (d := p) X1 (by omega) (by omega) hp6 HT1).mono ?_
    rintro e w3 ⟨v', rfl, D3, hb3⟩
    rw [show nf (sg nb x.natAbs) p = dyShift x d n by rw [HD.out.1, sg_back, HV.out]] at D3
    have u1 := r1.call hb3
    have bv := b1.trans (hb3.mono (by have := b1.size; omega))
    obtain ⟨nb3, A3, L3, c3, rfl, _⟩ := D3.form
    have D3' := Lib.hid D3
    clear D3 hb3 r1 b1
    have q0 : w3.cell? ⟨w.heap.size + 1, 0, none⟩ = some (.bool false) := u1.cell 0
    have q1 : w3.cell? ⟨w.heap.size + 1, 1, none⟩ = some (.slice none 0 0) := u1.cell 1
    have q2 : w3.cell? ⟨w.heap.size + 1, 2, none⟩ = some (.int .i64 0) := u1.cell 2
    have qf := u1.free
    have hu1 := u1.lt
    go_wp2_with fail
    refine bodyPost_ret (res_pShift rfl (((u1.set_ 0 _).set_ 1 _).set_ 2 _)) rfl ⟨_, rfl, ?_, ((bv.setCell (by simp) _).setCell (by simp) _).setCell (by simp) _⟩
    exact ((((D3'.out.set_ (by omega) 0 _).set_ (by omega) 1 _).set_ (by omega) 2 _).low (by omega)).more (by simp)
end Go.Proofs.YtmdfjbpggbhgnaaDoor
namespace Go.Proofs.YtmdfjbpggbhgnaaDoor
open Go.RowKit
theorem add32_any (x y c : Nat) (w : World) (hx : x < 4294967296) (hy : y < 4294967296) (hc : c ≤ 1) :
    Calls Tryd.prog 69 #[.int .u32 (x : Int), .int .u32 (y : Int), .int .u32 (c : Int)] w fun e w' => e = .returned (.tuple #[.int .u32 (((x + y + c) % 4294967296 : Nat) : Int), .int .u32 (((x + y + c) / 4294967296 : Nat) : Int)]) ∧ w = w' := by
  have h1 : (x : Int) % 18446744073709551616 = (x : Int) := by omega
  have h2 : (y : Int) % 18446744073709551616 = (y : Int) := by omega
  have h3 : (c : Int) % 18446744073709551616 = (c : Int) := by omega
  obtain ⟨s, hs⟩ : ∃ s : Nat, (x : Int) + (y : Int) + (c : Int) = (s : Int) := ⟨x + y + c, by omega⟩
  have hs2 : x + y + c = s := by omega
  have hsb : s < 8589934592 := by omega
  rw [hs2]
  go_enter Tryd.func69, Tryd.ntmps69
  go_wp2_with fail
  refine bodyPost_ret (v := .tuple #[.int .u32 ((s % 4294967296 : Nat) : Int), .int .u32 ((s / 4294967296 : Nat) : Int)]) ?_ rfl ⟨rfl, rfl⟩
  simp [results, Tryd.results69, go_sem]
def paRel (w : World) (a b : List Nat) (g L : Nat) (cv i : Value) (wr : World) : Prop :=
  ∃ (k : Nat) (os : List Nat) (cy : Nat), k ≤ L ∧ i = .int .i64 (k : Int) ∧ cv = .int .u32 (cy : Int) ∧ OwnW wr w.heap.size (.slice (some ⟨g, 0, none⟩) L L) (os ++ List.replicate (L - k) 0) ∧ os.length = k ∧ wordsOk os ∧ cy ≤ 1 ∧
    wval os + 4294967296 ^ k * cy = wval (a.take k) + wval (b.take k) ∧ Below w.heap.size w wr
theorem pa_end {a b os : List Nat} {L cy : Nat} (ha : wordsOk a) (hb : wordsOk b) (hL : L = max a.length b.length + 1) (hol : os.length = L) (hv : wval os + 4294967296 ^ L * cy = wval (a.take L) + wval (b.take L)) : wval os = wval a + wval b := by
  rw [List.take_of_length_le (by omega), List.take_of_length_le (by omega)] at hv
  have h1 := wval_lt ha
  have h2 := wval_lt hb
  have p1 : 4294967296 ^ a.length ≤ 4294967296 ^ (max a.length b.length) := Nat.pow_le_pow_right (by decide) (by omega)
  have p2 : 4294967296 ^ b.length ≤ 4294967296 ^ (max a.length b.length) := Nat.pow_le_pow_right (by decide) (by omega)
  have p3 : 4294967296 ^ L = 4294967296 * 4294967296 ^ (max a.length b.length) := by rw [hL, Nat.pow_succ, Nat.mul_comm]
  rcases Nat.eq_zero_or_pos cy with h | h
  · rw [h] at hv; omega
  · have : 4294967296 ^ L * 1 ≤ 4294967296 ^ L * cy := Nat.mul_le_mul_left _ h
    omega
theorem padd_any (A B : Option Addr) (a b : List Nat) (c1 c2 m : Nat) (w : World) (hm : m ≤ w.heap.size) (h1 : CellsAt w m A (w32 a)) (h2 : CellsAt w m B (w32 b)) (ha : wordsOk a) (hb : wordsOk b) (l1 : a.length ≤ 90000) (l2 : b.length ≤ 90000) :
    Calls Tryd.prog 60 #[.slice A a.length c1, .slice B b.length c2] w fun e w' =>
      ∃ G g, e = .returned (.slice G (canon (wval a + wval b)).length g) ∧ (G = none → g = 0) ∧ (canon (wval a + wval b)).length ≤ g ∧ CellsAt w' w'.heap.size G (w32 (canon (wval a + wval b))) ∧ Below w.heap.size w w' := by
  have H1 := Lib.hid h1
  have H2 := Lib.hid h2
  have HA := Lib.hid ha
  have HB := Lib.hid hb
  obtain ⟨L, hL⟩ : ∃ L, L = max a.length b.length + 1 := ⟨_, rfl⟩
  have hLi : max (a.length : Int) (b.length : Int) + 1 = (L : Int) := by omega
  have hL6 : L ≤ 100000 := by omega
  have HL := Lib.hid hL
  obtain ⟨i0, hi, hz0, hz1, hz2⟩ := info_parts info_w4
  clear h1 h2 ha hb hL
  go_enter Tryd.func60, Tryd.ntmps60
  go_wp2_with (with_reducible refine wpList_make_full _ rfl (.tmp 13) (.tmp 13) 85 rfl w.heap.size 101 i0 (.int .u32 0) 1 under_nat hi hz0 hz1 .i64 .i64 _ _ L rfl rfl rfl rfl (by rw [hz2]; omega) (by unfold maxLen; omega) (Nat.le_refl _) ?_; intro w2 hown hg)
  have hst := (Below.refl w.heap.size w).grown hg (Nat.le_refl _) (fun k h => by simp at h)
  have hown2 := made_w hown
  obtain ⟨g, hg1⟩ : ∃ g, g = w.heap.size := ⟨_, rfl⟩
  have hgw := Lib.hid hg1
  rw [← hg1]
  rw [show OwnW w2 w.heap.size (.slice (some ⟨w.heap.size, 0, none⟩) L L) (List.replicate L 0) = OwnW w2 w.heap.size (.slice (some ⟨g, 0, none⟩) L L) (List.replicate L 0) by rw [hg1]] at hown2
  clear hown hg hi hz0 hz1 hz2 hg1
  go_loopw [6, 17] (fun cv i wr => paRel w a b g L cv i wr) (fun _ i _ => L - (intOf i).toNat)
  case atStart => exact ⟨0, [], 0, Nat.zero_le _, rfl, rfl, by simpa using hown2, rfl, by simp [wordsOk], by omega, by simp [wval], hst⟩
  case round =>
    obtain ⟨k, os, cy, hk, rfl, rfl, hown, hol, hok, hcy, hv, hb⟩ := hrel
    have HO := Lib.hid hown
    have HOL := Lib.hid hol
    have HOK := Lib.hid hok
    have HV := Lib.hid hv
    have hsz := hb.size
    have hlen := Lib.hid (show L = (os ++ List.replicate (L - k) 0).length by simp; omega)
    clear hown hol hok hv hown2 hst
    by_cases hlt : k < L
    · obtain ⟨x, hx⟩ : ∃ x, x = a[k]?.getD 0 := ⟨_, rfl⟩
      obtain ⟨y, hy⟩ : ∃ y, y = b[k]?.getD 0 := ⟨_, rfl⟩
      have bx : x < 4294967296 := by
        rw [hx]
        by_cases h : k < a.length
        · rw [List.getElem?_eq_getElem h]; exact HA.out _ (List.getElem_mem h)
        · rw [List.getElem?_eq_none (by omega)]; decide
      have by' : y < 4294967296 := by
        rw [hy]
        by_cases h : k < b.length
        · rw [List.getElem?_eq_getElem h]; exact HB.out _ (List.getElem_mem h)
        · rw [List.getElem?_eq_none (by omega)]; decide
      have hat1 := at_any A a c1 k m wr (H1.out.below hb hm) (by omega) (by omega)
      have hat2 := at_any B b c2 k m wr (H2.out.below hb hm) (by omega) (by omega)
      rw [← hx] at hat1
      rw [← hy] at hat2
      have hadd := add32_any x y cy wr bx by' hcy
      obtain ⟨z, hz⟩ : ∃ z, z = (x + y + cy) % 4294967296 := ⟨_, rfl⟩
      obtain ⟨c', hc'⟩ : ∃ c', c' = (x + y + cy) / 4294967296 := ⟨_, rfl⟩
      rw [← hz, ← hc'] at hadd
      have HZ := Lib.hid (show z + 4294967296 * c' = cy + x + y by omega)
      have HZB := Lib.hid (show z < 4294967296 by omega)
      have HCB := Lib.hid (show c' ≤ 1 by omega)
      have HAT1 := Lib.hid hat1
      have HAT2 := Lib.hid hat2
      have HADD := Lib.hid hadd
      have HX := Lib.hid hx.symm
      have HY := Lib.hid hy.symm
      have hkl' : (k : Int) < (L : Int) := by omega
      have f1 : wr.cell? ⟨g, k, none⟩ = some (.int .u32 0) := by
        have := HO.out.cellA (j := k) (z := 0) (by rw [List.getElem?_append_right (by rw [HOL.out]; omega), HOL.out, Nat.sub_self]; rw [List.getElem?_replicate]; simp; omega)
        simpa using this
      have f2 : ∀ j, wr.frozen? ⟨g, j, none⟩ = false := fun j => HO.out.freeA hlen.out j
      clear hx hy hz hc' hat1 hat2 hadd
      go_wp2_with fail
      go_at_call 68
      refine HAT1.out.mono ?_
      rintro e wq ⟨rfl, rfl⟩
      go_wp2_with fail
      go_at_call 68
      refine HAT2.out.mono ?_
      rintro e wq ⟨rfl, rfl⟩
      go_wp2_with fail
      go_at_call 69
      refine HADD.out.mono ?_
      rintro e wq ⟨rfl, rfl⟩
      go_wp2_with fail
      refine ⟨⟨k + 1, os ++ [z], c', by omega, by go_num, rfl, ?_, by rw [List.length_append, HOL.out]; rfl, words_push HOK.out HZB.out, HCB.out, pl_step HOL.out HX.out HY.out HV.out HZ.out, hb.setCell (by have := hgw.out; simp; omega) _⟩, by simp [intOf]; omega⟩
      have h5 := HO.out.put hlen.out k z
      rw [set_rep HOL.out hlt] at h5
      exact h5
    · have hkL : k = L := by omega
      have hle : ¬ (k : Int) < (L : Int) := by omega
      have hO := HO.out
      rw [hkL, Nat.sub_self, List.replicate_zero, List.append_nil] at hO
      have hol := HOL.out.trans hkL
      have hL6' : os.length ≤ 1000000 := by omega
      have HWV := Lib.hid (pa_end HA.out HB.out HL.out hol (by have := HV.out; rw [hkL] at this; exact this))
      have HGC := Lib.hid hO.cap_.2.2.2
      have hcall := ptrim_any (some ⟨g, 0, none⟩) os os.length wr.heap.size wr HGC.out (Nat.le_refl _) hL6'
      rw [hol] at hcall
      have HCALL := Lib.hid hcall
      clear hkL hol hO hcall
      go_wp2_with (go_at_call 57; refine HCALL.out.mono ?_; rintro e w3 ⟨rfl, rfl⟩)
      go_ret
      have hcan := trim_canon HOK.out
      rw [HWV.out] at hcan
      refine ⟨some ⟨g, 0, none⟩, L, by rw [hcan]; rfl, by simp, ?_, ?_, hb⟩
      · rw [← hcan, trimL_len]
        have := trimN_le os os.length
        have := HOL.out
        omega
      · rw [← hcan]
        exact HGC.out.takeW _
end Go.Proofs.YtmdfjbpggbhgnaaDoor
namespace Go.Proofs.YtmdfjbpggbhgnaaDoor
open Go.RowKit
def puRel (w : World) (a : List Nat) (u i : Value) (wr : World) : Prop := ∃ k : Nat, k ≤ a.length ∧ i = .int .i64 ((k : Int) - 1) ∧ u = .int .u64 (wval (a.drop k) : Int) ∧ w = wr
theorem puint_any (A : Option Addr) (a : List Nat) (c m : Nat) (w : World) (h : CellsAt w m A (w32 a)) (ha : wordsOk a) (hl : a.length ≤ 2) :
    Calls Tryd.prog 61 #[.slice A a.length c] w fun e w' => e = .returned (.int .u64 (wval a : Int)) ∧ w = w' := by
  have H := Lib.hid h
  have HA := Lib.hid ha
  clear h ha
  go_enter Tryd.func61, Tryd.ntmps61
  go_wp2_with fail
  go_loopw [3, 4] (fun u i wr => puRel w a u i wr) (fun _ i _ => (intOf i + 1).toNat)
  case atStart => exact ⟨a.length, Nat.le_refl _, by go_num, by simp [wval], rfl⟩
  case round =>
    obtain ⟨k, hk, rfl, rfl, rfl⟩ := hrel
    by_cases hk0 : k = 0
    · subst hk0
      have e : ((0 : Nat) : Int) - 1 = -1 := rfl
      rw [e, List.drop_zero]
      go_wp2_with fail
      go_ret
      exact ⟨rfl, rfl⟩
    · obtain ⟨j, rfl⟩ : ∃ j, k = j + 1 := ⟨k - 1, by omega⟩
      have e : ((j + 1 : Nat) : Int) - 1 = (j : Int) := by omega
      rw [e]
      have hj : j < a.length := by omega
      obtain ⟨b1, o1, x, rfl, q1, _, hx, g1⟩ := H.out.w32_ hj
      have bx := HA.out x (List.mem_of_getElem? hx)
      obtain ⟨mm, hm⟩ : ∃ mm, mm = wval (a.drop (j + 1)) := ⟨_, rfl⟩
      have bm : mm < 4294967296 := by
        have h1 := wval_lt (ws := a.drop (j + 1)) (fun z hz => HA.out z (List.mem_of_mem_drop hz))
        have h2 : (a.drop (j + 1)).length ≤ 1 := by simp; omega
        have h3 : 4294967296 ^ (a.drop (j + 1)).length ≤ 4294967296 ^ 1 := Nat.pow_le_pow_right (by decide) h2
        omega
      have hd : wval (a.drop j) = x + 4294967296 * mm := by
        rw [hm, List.drop_eq_getElem_cons hj]
        have : a[j] = x := by rw [List.getElem?_eq_getElem hj] at hx; simpa using hx
        rw [this]
        rfl
      rw [← hm]
      have HD := Lib.hid hd
      have w3 : IntKind.u64.wrap ((mm : Int) * 4294967296) = (mm : Int) * 4294967296 := by rw [IntKind.wrap_u64]; omega
      obtain ⟨s, hs⟩ : ∃ s, s = x + 4294967296 * mm := ⟨_, rfl⟩
      have hor : bits .or .u64 ((mm : Int) * 4294967296) (x : Int) = (s : Int) := by rw [hs]; exact it_or bm bx
      have HS := Lib.hid hs
      have hji : (j : Int) < (a.length : Int) := by omega
      clear hx hm hd hs hk0 e
      go_wp2_with fail
      exact ⟨⟨j, by omega, by go_num, by rw [HD.out, ← HS.out], rfl⟩, by simp [intOf]⟩
end Go.Proofs.YtmdfjbpggbhgnaaDoor
namespace Go.Proofs.YtmdfjbpggbhgnaaDoor
open Go.RowKit
def i64In (x : Int) : Bool := decide (-9223372036854775808 ≤ x ∧ x < 9223372036854775808)
def i64V (x : Int) : Int := if i64In x = true then x else 0
theorem i64_no {x : Int} (h : ¬ (-9223372036854775808 ≤ x ∧ x < 9223372036854775808)) : i64In x = false ∧ i64V x = 0 := by
  have h1 : i64In x = false := decide_eq_false h
  exact ⟨h1, by unfold i64V; rw [h1]; rfl⟩
theorem i64_yes {x : Int} (h : -9223372036854775808 ≤ x ∧ x < 9223372036854775808) : i64In x = true ∧ i64V x = x := by
  have h1 : i64In x = true := decide_eq_true h
  exact ⟨h1, by unfold i64V; rw [h1]; rfl⟩
theorem pint_any {v : Value} {x : Int} {d lo m : Nat} {w : World} (D : DyR w lo m v x d) (hd0 : d = 0) (hm : m ≤ w.heap.size) (hl : (canon x.natAbs).length ≤ 50000) :
    Calls Tryd.prog 39 #[v] w fun e w' => e = .returned (.tuple #[.int .i64 (i64V x), .bool (i64In x)]) ∧ Below w.heap.size w w' := by
  obtain ⟨nb, A, L, c, rfl, HD⟩ := D.form
  have D' := Lib.hid D
  have b0 : Below w.heap.size w (w.alloc (.cells #[.bool nb, .slice A L c, .int .i64 (d : Int)] 59)) := ext_alloc (Below.refl _ _) _
  have hL : L = (canon x.natAbs).length := HD.out.2.1
  have HNB := Lib.hid HD.out.1
  have HL := Lib.hid hL
  have hdi : decide ((0 : Int) < (d : Int)) = false := decide_eq_false (by omega)
  have hdz : ¬ (0 : Int) < (d : Int) := by omega
  clear D hd0 hL
  go_enter Tryd.func39, Tryd.ntmps39
  go_wp2_with fail
  go_at_call 46
  refine (parts_w (D'.out.below b0 hm) (by simp; omega) (by omega)).mono ?_
  rintro e w1 ⟨nb', A', L', c', he, rfl, hb1⟩
  cases he
  have hL := HL.out
  have b1 := b0.trans (hb1.mono (by simp))
  have X := HD.out.2.2.2.2.1.below b1 hm
  obtain ⟨n, hn⟩ : ∃ n, n = x.natAbs := ⟨_, rfl⟩
  rw [← hn] at hL HL hl X
  have HX := Lib.hid X
  have HN := Lib.hid hn
  have HB := Lib.hid b1
  clear X hn HD D' b0 hb1 b1
  by_cases hbig : 2 < L
  · have hx : ¬ (-9223372036854775808 ≤ x ∧ x < 9223372036854775808) := by
      intro h
      have : (canon n).length ≤ 2 := canon_len_le (by have := HN.out; omega)
      omega
    have HV := Lib.hid (i64_no hx)
    have hbi : (2 : Int) < (L : Int) := by omega
    clear hx hL
    go_wp2_with fail
    exact bodyPost_ret (v := .tuple #[.int .i64 0, .bool false]) (by simp [results, Tryd.results39, go_sem]) rfl ⟨by rw [HV.out.1, HV.out.2], HB.out⟩
  · have hbi : decide ((2 : Int) < (L : Int)) = false := decide_eq_false (by omega)
    have hpu := puint_any A (canon n) c m w1 HX.out (canon_ok n) (by omega)
    rw [← hL, wval_canon] at hpu
    have hn64 : n < 18446744073709551616 := by
      have h1 := wval_lt (canon_ok n)
      rw [wval_canon] at h1
      have h3 : 4294967296 ^ (canon n).length ≤ 4294967296 ^ 2 := Nat.pow_le_pow_right (by decide) (by omega)
      omega
    have HPU := Lib.hid hpu
    have hbn : ¬ (2 : Int) < (L : Int) := by omega
    have hbl : (L : Int) ≤ 2 := by omega
    clear hpu hL hbig
    go_wp2_with fail
    go_at_call 61
    refine HPU.out.mono ?_
    rintro e wq ⟨rfl, rfl⟩
    cases nb with
    | true =>
      have hx : x < 0 := by simpa using HNB.out.symm
      by_cases h63 : n ≤ 9223372036854775808
      · have HV := Lib.hid (i64_yes (x := x) (by have := HN.out; omega))
        have hd : decide ((n : Int) ≤ 9223372036854775808) = true := decide_eq_true (by omega)
        have hxe : x = -(n : Int) := by have := HN.out; omega
        have hmp : (1 : Int) ≤ (n : Int) := by omega
        have HXE := Lib.hid hxe
        clear hx hxe
        go_wp2_with fail
        exact bodyPost_ret (v := .tuple #[.int .i64 x, .bool true]) (by simp [results, Tryd.results39, go_sem]; rw [HXE.out]; first | (rw [IntKind.wrap_u64]; unfold wrap64; omega) | (show IntKind.i64.wrap _ = _; rw [IntKind.wrap_u64, IntKind.wrap_i64]; omega)) rfl ⟨by rw [HV.out.1, HV.out.2], HB.out⟩
      · have HV := Lib.hid (i64_no (x := x) (by have := HN.out; omega))
        have hd : decide ((n : Int) ≤ 9223372036854775808) = false := decide_eq_false (by omega)
        clear hx
        go_wp2_with fail
        exact bodyPost_ret (v := .tuple #[.int .i64 0, .bool false]) (by simp [results, Tryd.results39, go_sem]) rfl ⟨by rw [HV.out.1, HV.out.2], HB.out⟩
    | false =>
      have hx : 0 ≤ x := by simpa using HNB.out.symm
      by_cases h63 : n < 9223372036854775808
      · have HV := Lib.hid (i64_yes (x := x) (by have := HN.out; omega))
        have hd : decide ((n : Int) < 9223372036854775808) = true := decide_eq_true (by omega)
        have hxe : x = (n : Int) := by have := HN.out; omega
        have HXE := Lib.hid hxe
        clear hx hxe
        go_wp2_with fail
        exact bodyPost_ret (v := .tuple #[.int .i64 x, .bool true]) (by simp [results, Tryd.results39, go_sem]; rw [HXE.out]) rfl ⟨by rw [HV.out.1, HV.out.2], HB.out⟩
      · have HV := Lib.hid (i64_no (x := x) (by have := HN.out; omega))
        have hd : decide ((n : Int) < 9223372036854775808) = false := decide_eq_false (by omega)
        clear hx
        go_wp2_with fail
        exact bodyPost_ret (v := .tuple #[.int .i64 0, .bool false]) (by simp [results, Tryd.results39, go_sem]) rfl ⟨by rw [HV.out.1, HV.out.2], HB.out⟩
end Go.Proofs.YtmdfjbpggbhgnaaDoor
namespace Go.Proofs.YtmdfjbpggbhgnaaDoor
open Go.RowKit
theorem padd_w {v v2 : Value} {a b m : Nat} {w : World} (h : WdR w m v a) (h2 : WdR w m v2 b) (hm : m ≤ w.heap.size) (l1 : (canon a).length ≤ 90000) (l2 : (canon b).length ≤ 90000) :
    Calls Tryd.prog 60 #[v, v2] w fun e w' => ∃ v', e = .returned v' ∧ WdR w' w'.heap.size v' (a + b) ∧ Below w.heap.size w w' := by
  obtain ⟨A, c, rfl, _, _, h3⟩ := h
  obtain ⟨B, c', rfl, _, _, h4⟩ := h2
  have hc := padd_any A B (canon a) (canon b) c c' m w hm h3 h4 (canon_ok a) (canon_ok b) l1 l2
  rw [wval_canon, wval_canon] at hc
  refine hc.mono ?_
  rintro e w' ⟨G, g, rfl, hG, hg, hC, hb⟩
  exact ⟨_, rfl, ⟨G, g, rfl, hG, hg, hC⟩, hb⟩
theorem fl_odd {x : Int} {k : Nat} (hx : x % 2 = 1) (hk : 0 < k) : cutB x.natAbs k = true := by
  unfold cutB
  refine decide_eq_true ?_
  intro h0
  obtain ⟨j, rfl⟩ : ∃ j, k = j + 1 := ⟨k - 1, by omega⟩
  have h1 : 2 ∣ x.natAbs := Nat.dvd_trans ⟨2 ^ j, by rw [Nat.pow_succ, Nat.mul_comm]⟩ (Nat.dvd_of_mod_eq_zero h0)
  omega
theorem canon_one1 : canon 1 = [1] := by rw [canon_pos (by decide), show 1 / 4294967296 = 0 by decide, canon_zero]
theorem canon_one_len : (canon 1).length = 1 := by rw [canon_one1]; rfl
theorem one_words (w : World) : WdR (w.alloc (.cells #[.int .u32 1] 101)) (w.heap.size + 1) (.slice (some ⟨w.heap.size, 0, none⟩) 1 1) 1 :=
  ⟨some ⟨w.heap.size, 0, none⟩, 1, by rw [canon_one1]; rfl, by simp, by rw [canon_one1]; decide, by
    rw [canon_one1]
    exact (RowD.new_ w [.int .u32 1] 101).cells_ (Nat.lt_succ_self _)⟩
theorem res_pFloor {tmps : Array Value} {w : World} {b : Nat} {v0 v1 v2 v5 : Value} (h2 : tmps.getD 4 undef = .pointer (some ⟨b, 0, none⟩)) (h5 : tmps.getD 5 undef = v5) (hB : RowD w b [v0, v1, v2] 59) :
    (results Tryd.f38 tmps).run Tryd.prog w = .ok (.tuple #[.agg #[v0, v1, v2], v5]) w := by
  have k0 := hB.cell 0
  have k1 := hB.cell 1
  have k2 := hB.cell 2
  simp at k0 k1 k2
  simp at h2 h5
  simp [results, Tryd.results38, go_sem, h2, h5, k0, k1, k2]
theorem pfloor_any {v : Value} {x : Int} {d lo m den : Nat} {w : World} (D : DyR w lo m v x d) (hm : m ≤ w.heap.size) (hl : (canon x.natAbs).length ≤ 50000) (hden : den ≤ 65536) (ht : TabAt w) :
    Calls Tryd.prog 38 #[v, .int .i64 (den : Int)] w fun e w' => ∃ v', e = .returned (.tuple #[v', .nilIface]) ∧ DyR w' w.heap.size w'.heap.size v' (dyFloor x d den).1 (dyFloor x d den).2 ∧ Below w.heap.size w w' := by
  have n1 : decide ((den : Int) < 0) = false := decide_eq_false (by omega)
  have n2 : decide ((65536 : Int) < (den : Int)) = false := decide_eq_false (by omega)
  have n3 : ¬ (den : Int) < 0 := by omega
  have n4 : ¬ (65536 : Int) < (den : Int) := by omega
  have hdr := D.bound
  have hd6 := hdr.1
  have HDR := Lib.hid hdr.2
  clear hdr
  by_cases hle : d ≤ den
  · as_aux_lemma =>
    have HV := Lib.hid (show dyFloor x d den = (x, d) from if_pos hle)
    have n5 : (d : Int) ≤ (den : Int) := by omega
    obtain ⟨nb, A, L, c, rfl, HD⟩ := D.form
    have D' := Lib.hid D
    have HT := Lib.hid ht
    clear D ht
    have b0 : Below w.heap.size w ((w.alloc (.cells #[.bool nb, .slice A L c, .int .i64 (d : Int)] 59)).alloc (.cells #[.bool false, .slice none 0 0, .int .i64 0] 59)) := ext_alloc (ext_alloc (Below.refl _ _) _) _
    have r0 := RowD.new_ (w.alloc (.cells #[.bool nb, .slice A L c, .int .i64 (d : Int)] 59)) [.bool false, .slice none 0 0, .int .i64 0] 59
    rw [show (w.alloc (.cells #[.bool nb, .slice A L c, .int .i64 (d : Int)] 59)).heap.size = w.heap.size + 1 by simp] at r0
    go_enter Tryd.func38, Tryd.ntmps38
    go_wp2_with fail
    go_at_call 46
    refine (parts_w (D'.out.below b0 hm) (by simp; omega) (by omega)).mono ?_
    rintro e w1 ⟨nb', A', L', c', he, rfl, hb1⟩
    cases he
    have r1 := r0.call hb1
    have b1 := b0.trans (hb1.mono (by simp; omega))
    have hw1 := r1.lt
    have HT1 := HT.out.below b1 HT.out.1
    have X1 := (D'.out.below b1 hm).words
    clear hb1 r0 b0
    go_wp2_with fail
    go_at_call 36
    refine (presult_v (d := d) X1 (by omega) (by omega) hd6 HT1).mono ?_
    rintro e w3 ⟨v', rfl, D3, hb3⟩
    rw [HD.out.1, sg_back, nf_done HDR.out, ← HV.out] at D3
    have u1 := r1.call hb3
    have bv := b1.trans (hb3.mono (by have := b1.size; omega))
    obtain ⟨nb3, A3, L3, c3, rfl, _⟩ := D3.form
    have D3' := Lib.hid D3
    clear D3 hb3 r1 b1
    have q0 : w3.cell? ⟨w.heap.size + 1, 0, none⟩ = some (.bool false) := u1.cell 0
    have q1 : w3.cell? ⟨w.heap.size + 1, 1, none⟩ = some (.slice none 0 0) := u1.cell 1
    have q2 : w3.cell? ⟨w.heap.size + 1, 2, none⟩ = some (.int .i64 0) := u1.cell 2
    have qf := u1.free
    have hu1 := u1.lt
    go_wp2_with fail
    refine bodyPost_ret (res_pFloor rfl rfl (((u1.set_ 0 _).set_ 1 _).set_ 2 _)) rfl ⟨_, rfl, ?_, ((bv.setCell (by simp) _).setCell (by simp) _).setCell (by simp) _⟩
    exact ((((D3'.out.set_ (by omega) 0 _).set_ (by omega) 1 _).set_ (by omega) 2 _).low (by omega)).more (by simp)
  · as_aux_lemma =>
    have n5 : ¬ (d : Int) ≤ (den : Int) := by omega
    obtain ⟨k, hk⟩ : ∃ k : Nat, k = d - den := ⟨_, rfl⟩
    have HV := Lib.hid (show dyFloor x d den = nf (x / 2 ^ k) den by rw [hk]; exact if_neg hle)
    have n6 : (d : Int) - (den : Int) = (k : Int) := by omega
    have hk6 : k ≤ 1000000 := by omega
    have HC := Lib.hid (fl_odd (x := x) (k := k) (HDR.out (by omega)) (by omega))
    have hln : (canon (x.natAbs / 2 ^ k)).length ≤ 50000 := Nat.le_trans (canon_len_mono (Nat.div_le_self _ _)) hl
    have hln1 : (canon (x.natAbs / 2 ^ k + 1)).length ≤ 100000 := by
      have h1 := canon_len_add (x.natAbs / 2 ^ k) 1
      have h2 := canon_one_len
      omega
    clear hk
    obtain ⟨nb, A, L, c, rfl, HD⟩ := D.form
    have D' := Lib.hid D
    have HT := Lib.hid ht
    clear D ht
    have b0 : Below w.heap.size w ((w.alloc (.cells #[.bool nb, .slice A L c, .int .i64 (d : Int)] 59)).alloc (.cells #[.bool false, .slice none 0 0, .int .i64 0] 59)) := ext_alloc (ext_alloc (Below.refl _ _) _) _
    have r0 := RowD.new_ (w.alloc (.cells #[.bool nb, .slice A L c, .int .i64 (d : Int)] 59)) [.bool false, .slice none 0 0, .int .i64 0] 59
    rw [show (w.alloc (.cells #[.bool nb, .slice A L c, .int .i64 (d : Int)] 59)).heap.size = w.heap.size + 1 by simp] at r0
    go_enter Tryd.func38, Tryd.ntmps38
    go_wp2_with fail
    go_at_call 46
    refine (parts_w (D'.out.below b0 hm) (by simp; omega) (by omega)).mono ?_
    rintro e w1 ⟨nb', A', L', c', he, rfl, hb1⟩
    cases he
    have r1 := r0.call hb1
    have b1 := b0.trans (hb1.mono (by simp; omega))
    have hw1 := r1.lt
    have HT1 := HT.out.below b1 HT.out.1
    have X1 := (D'.out.below b1 hm).words
    clear hb1 r0 b0
    go_wp2_with fail
    go_at_call 59
    refine (pright_w X1 (by omega) (by omega) hk6).mono ?_
    rintro e w2 ⟨v2, rfl, Y, hb2⟩
    have r2 := r1.call hb2
    have b2 := b1.trans (hb2.mono (by have := b1.size; omega))
    have HT2 := HT1.call hb2
    obtain ⟨A2, L2, c2, rfl⟩ := Y.form
    have hw2 := r2.lt
    clear hb2 r1 b1 HT1
    have hnb := HD.out.1
    cases nb with
    | false =>
      as_aux_lemma =>
      have hx : 0 ≤ x := by simpa using hnb.symm
      have HX := Lib.hid hx
      clear hnb hx
      go_wp2_with fail
      go_at_call 36
      refine (presult_v (d := den) Y (Nat.le_refl _) (by omega) hden HT2).mono ?_
      rintro e w3 ⟨v', rfl, D3, hb3⟩
      rw [fl_pos HX.out, ← HV.out] at D3
      have u1 := r2.call hb3
      have bv := b2.trans (hb3.mono (by have := b2.size; omega))
      obtain ⟨nb3, A3, L3, c3, rfl, _⟩ := D3.form
      have D3' := Lib.hid D3
      clear D3 hb3 r2 b2
      have q0 : w3.cell? ⟨w.heap.size + 1, 0, none⟩ = some (.bool false) := u1.cell 0
      have q1 : w3.cell? ⟨w.heap.size + 1, 1, none⟩ = some (.slice none 0 0) := u1.cell 1
      have q2 : w3.cell? ⟨w.heap.size + 1, 2, none⟩ = some (.int .i64 0) := u1.cell 2
      have qf := u1.free
      have hu1 := u1.lt
      go_wp2_with fail
      refine bodyPost_ret (res_pFloor rfl rfl (((u1.set_ 0 _).set_ 1 _).set_ 2 _)) rfl ⟨_, rfl, ?_, ((bv.setCell (by simp) _).setCell (by simp) _).setCell (by simp) _⟩
      exact ((((D3'.out.set_ (by omega) 0 _).set_ (by omega) 1 _).set_ (by omega) 2 _).low (by omega)).more (by simp)
    | true =>
      as_aux_lemma =>
      have hx : x < 0 := by simpa using hnb.symm
      have HX := Lib.hid hx
      clear hnb hx
      have BA := al_ w2 (.cells #[.int .u32 1] 101)
      have r4 := r2.call BA
      have b4 := b2.trans (BA.mono (by have := b2.size; omega))
      have HT4 := HT2.call BA
      have Y4 := (Y.below BA (Nat.le_refl _)).more (show w2.heap.size ≤ w2.heap.size + 1 by omega)
      have O4 := one_words w2
      clear BA Y r2 b2 HT2
      go_wp2_with fail
      go_at_call 60
      refine (padd_w Y4 O4 (by simp) (by omega) (by rw [canon_one_len]; decide)).mono ?_
      rintro e w5 ⟨v5, rfl, Z, hb5⟩
      have r5 := r4.call hb5
      have b5 := b4.trans (hb5.mono (by have := b4.size; omega))
      have HT5 := HT4.call hb5
      obtain ⟨A5, L5, c5, rfl⟩ := Z.form
      have hw5 := r5.lt
      clear hb5 r4 b4 HT4
      go_wp2_with fail
      go_at_call 36
      refine (presult_v (d := den) Z (Nat.le_refl _) (by omega) hden HT5).mono ?_
      rintro e w3 ⟨v', rfl, D3, hb3⟩
      rw [fl_neg_cut HX.out HC.out, ← HV.out] at D3
      have u1 := r5.call hb3
      have bv := b5.trans (hb3.mono (by have := b5.size; omega))
      obtain ⟨nb3, A3, L3, c3, rfl, _⟩ := D3.form
      have D3' := Lib.hid D3
      clear D3 hb3 r5 b5
      have q0 : w3.cell? ⟨w.heap.size + 1, 0, none⟩ = some (.bool false) := u1.cell 0
      have q1 : w3.cell? ⟨w.heap.size + 1, 1, none⟩ = some (.slice none 0 0) := u1.cell 1
      have q2 : w3.cell? ⟨w.heap.size + 1, 2, none⟩ = some (.int .i64 0) := u1.cell 2
      have qf := u1.free
      have hu1 := u1.lt
      go_wp2_with fail
      refine bodyPost_ret (res_pFloor rfl rfl (((u1.set_ 0 _).set_ 1 _).set_ 2 _)) rfl ⟨_, rfl, ?_, ((bv.setCell (by simp) _).setCell (by simp) _).setCell (by simp) _⟩
      exact ((((D3'.out.set_ (by omega) 0 _).set_ (by omega) 1 _).set_ (by omega) 2 _).low (by omega)).more (by simp)
end Go.Proofs.YtmdfjbpggbhgnaaDoor
namespace Go.Proofs.YtmdfjbpggbhgnaaDoor
open Go.RowKit
def PartQ (P : Program) (ops : Array Oper) (Q : Exit → Act → World → Prop) (rest : List Oper) : Exit → Act → World → Prop
  | .normal, a, w => wpList P ops Q rest a w
  | e, a, w => Q e a w
section
variable {P : Program} {md : Region.Mode} {Q : Exit → Act → World → Prop}
theorem wpAny_more {ops : Array Oper} : ∀ (f : Nat) (listed : Array Bool) (a : Act) (w : World), wpAny P md ops Q f listed a w → wpAny P md ops Q (f + 1) listed a w
  | 0, listed, a, w, h => ⟨fun _ => h.2, by rw [h.1]; intro i hi; cases hi⟩
  | f + 1, listed, a, w, h => ⟨h.1, fun i hi => wpOp_mono (fun a' w' h' => wpAny_more f _ a' w' h') (h.2 i hi)⟩
theorem wpAny_plus {ops : Array Oper} {g : Nat} {listed : Array Bool} {a : Act} {w : World} (h : wpAny P md ops Q g listed a w) : ∀ f, wpAny P md ops Q (f + g) listed a w
  | 0 => by rw [Nat.zero_add]; exact h
  | f + 1 => by rw [show f + 1 + g = (f + g) + 1 by omega]; exact wpAny_more _ _ _ _ (wpAny_plus h f)
def backB (md : Region.Mode) (ops : Array Oper) (n : Nat) : Bool := (List.range n).all fun i => match ops[i]? with
  | none => false
  | some o => (o.after.all fun e => !Region.binds md e || decide (e.on < i)) && (match o.guard with | none => true | some (g, _) => decide (g < n))
def headDone (N n : Nat) : Array Bool := ((List.range N).map fun j => decide (j < n)).toArray
def partB (md : Region.Mode) (ops : Array Oper) (n : Nat) : Bool :=
  decide (n < ops.size) && Region.sinkB md ops n && Region.chainB md ops n && backB md ops n && Region.seqB md ops (ops.size - n) n (headDone ops.size n)
theorem backB_at {ops : Array Oper} {n i : Nat} {o : Oper} (h : backB md ops n = true) (hi : i < n) (ho : ops[i]? = some o) :
    (∀ e ∈ o.after, Region.binds md e = true → e.on < i) ∧ (∀ g b, o.guard = some (g, b) → g < n) := by
  have h1 := List.all_eq_true.1 h i (List.mem_range.2 hi)
  simp only [ho, Bool.and_eq_true, Array.all_eq_true_iff_forall_mem, Bool.or_eq_true, Bool.not_eq_true', decide_eq_true_eq] at h1
  refine ⟨fun e he hb => ?_, fun g b hg => ?_⟩
  · rcases h1.1 e he with h2 | h2
    · rw [h2] at hb; cases hb
    · exact h2
  · have h2 := h1.2
    rw [hg] at h2
    simpa using h2
theorem getD_two {listed : Array Bool} {i : Nat} (hi : i < listed.size) : listed.getD i true = listed.getD i false := by simp [hi]
section
variable {l : List Oper} {n : Nat} {listed listed' : Array Bool}
theorem take_at (hn : n < l.toArray.size) {i : Nat} (hi : i < n) : (l.take n).toArray[i]? = l.toArray[i]? := by
  simp [List.getElem?_take, hi]
theorem ready_part (hb : backB md l.toArray n = true) (hn : n < l.toArray.size) (hs : listed.size = l.toArray.size) (hs' : listed'.size = n) (he : ∀ i, i < n → listed'.getD i false = listed.getD i false) {i : Nat} (hi : i < n) :
    i ∈ Region.ready md (l.take n).toArray listed' ↔ i ∈ Region.ready md l.toArray listed := by
  rw [mem_ready, mem_ready, take_at hn hi, getD_two (by omega), getD_two (by omega), he i hi]
  refine and_congr_right fun _ => exists_congr fun o => and_congr_right fun ho => ?_
  have hk := (backB_at hb hi ho).1
  refine forall_congr' fun e => forall_congr' fun hm => forall_congr' fun hbd => ?_
  rw [he e.on (by have := hk e hm hbd; omega)]
theorem ready_lt {i : Nat} (h : i ∈ Region.ready md (l.take n).toArray listed') : i < n := by
  obtain ⟨_, o, ho, _⟩ := mem_ready.1 h
  have := (Array.getElem?_eq_some_iff.1 ho).1
  simp at this
  omega
theorem all_listed (hb : backB md l.toArray n = true) (hn : n < l.toArray.size) (hs' : listed'.size = n) (hr : Region.ready md (l.take n).toArray listed' = []) : ∀ i, i < n → listed'.getD i false = true := by
  intro i
  induction i using Nat.strongRecOn with
  | _ i ih =>
    intro hi
    cases hl : listed'.getD i false with
    | true => rfl
    | false =>
      exfalso
      have ho : l.toArray[i]? = some (l.toArray[i]'(by omega)) := Array.getElem?_eq_getElem (by omega)
      have hk := (backB_at hb hi ho).1
      have : i ∈ Region.ready md (l.take n).toArray listed' := mem_ready.2 ⟨by rw [getD_two (by omega)]; exact hl, _, (take_at hn hi).trans ho, fun e he hbd => ih e.on (hk e he hbd) (by have := hk e he hbd; omega)⟩
      rw [hr] at this
      cases this
theorem head_is (inv : HeadInv md l.toArray n listed) (hn : n < l.toArray.size) (h : ∀ i, i < n → listed.getD i false = true) : listed = headDone l.toArray.size n := by
  refine Array.ext (by rw [inv.size]; simp [headDone]) fun i h1 h2 => ?_
  have hi : i < l.toArray.size := by rw [← inv.size]; exact h1
  have e : (headDone l.toArray.size n)[i] = decide (i < n) := by simp [headDone]
  rw [e]
  by_cases hin : i < n
  · have := h i hin
    rw [decide_eq_true hin]
    simpa [h1] using this
  · have := inv.tail i (by omega) hi
    rw [decide_eq_false hin]
    simpa [h1] using this
theorem letsOut_part {rest : List Oper} {ops : Array Oper} (h : LetsOut (PartQ P ops Q rest)) : LetsOut Q := h
theorem wp_part {o : Oper} {rest : List Oper} {ops : Array Oper} {a : Act} {w : World} {K K' : Act → World → Prop} (hK : ∀ a w, K a w → K' a w) (h : o.wp P a w K (PartQ P ops Q rest)) : o.wp P a w K' Q := by
  unfold Oper.wp at *
  generalize (execOp a.eval o).run P w = r at *
  cases r with
  | ok n w' =>
    cases n <;> simp only [Oper.upon] at h ⊢ <;>
      first
        | exact hK _ _ h
        | exact Calls.mono h (fun e w'' he => by cases e <;> first | exact hK _ _ he | exact he)
        | exact Rows.mono h (fun _ _ he => hK _ _ he)
  | halt x w' => cases x <;> simp only [Oper.upon] at h ⊢ <;> exact h
theorem wanted_part (hb : backB md l.toArray n = true) (hn : n < l.toArray.size) {i : Nat} {o : Oper} (hi : i < n) (ho : l.toArray[i]? = some o) (tmps : Array Value) :
    Region.wanted o (yielded (l.take n).toArray tmps) = Region.wanted o (yielded l.toArray tmps) := by
  have hg := (backB_at hb hi ho).2
  unfold Region.wanted
  cases h : o.guard with
  | none => rfl
  | some gw =>
    obtain ⟨g, b⟩ := gw
    have e : yielded (l.take n).toArray tmps g = yielded l.toArray tmps g := by
      unfold yielded
      rw [take_at hn (hg g b h)]
    simp only [e]
theorem wpOp_part (hb : backB md l.toArray n = true) (hn : n < l.toArray.size) {i : Nat} (hi : i < n) {rest : List Oper} {a : Act} {w : World} {K K' : Act → World → Prop} (hK : ∀ a w, K a w → K' a w)
    (h : wpOp P (l.take n).toArray (PartQ P l.toArray Q rest) i K a w) : wpOp P l.toArray Q i K' a w := by
  have ho : l.toArray[i]? = some (l.toArray[i]'(by omega)) := Array.getElem?_eq_getElem (by omega)
  unfold wpOp at *
  rw [take_at hn hi] at h
  simp only [ho] at h ⊢
  rw [wanted_part hb hn hi ho] at h
  split
  · rename_i hw
    rw [if_pos hw] at h
    rcases h with h | ⟨h1, h2⟩
    · exact .inl (wp_part hK h)
    · exact .inr ⟨h1, letsOut_part h2⟩
  · rename_i hw
    rw [if_neg hw] at h
    exact hK _ _ h
theorem wpAny_part (hB : partB md l.toArray n = true) : ∀ (f : Nat) (listed listed' : Array Bool) (a : Act) (w : World), HeadInv md l.toArray n listed → listed'.size = n → (∀ i, i < n → listed'.getD i false = listed.getD i false) →
    wpAny P md (l.take n).toArray (PartQ P l.toArray Q (l.drop n)) f listed' a w → wpAny P md l.toArray Q (f + (l.toArray.size - n)) listed a w := by
  simp only [partB, Bool.and_eq_true, decide_eq_true_eq] at hB
  obtain ⟨⟨⟨⟨hn, hs⟩, hc⟩, hb⟩, hq⟩ := hB
  have hend : ∀ (listed listed' : Array Bool) (a : Act) (w : World), HeadInv md l.toArray n listed → listed'.size = n → (∀ i, i < n → listed'.getD i false = listed.getD i false) → Region.ready md (l.take n).toArray listed' = [] →
      wpList P l.toArray Q (l.drop n) a w → wpAny P md l.toArray Q (l.toArray.size - n) listed a w := fun listed listed' a w inv hs' he hr h => by
    have hall := all_listed hb hn hs' hr
    have hl := head_is inv hn (fun i hi => by rw [← he i hi]; exact hall i hi)
    rw [hl]
    have := wpAny_of_seq (md := md) (Q' := Q) (P := P) (l.drop n) n (headDone l.toArray.size n) a w (fun j => by simp [List.getElem?_drop]) (by
      rw [show (l.drop n).length = l.toArray.size - n by simp]; exact hq) h
    rwa [show (l.drop n).length = l.toArray.size - n by simp] at this
  intro f
  induction f with
  | zero =>
    intro listed listed' a w inv hs' he h
    rw [Nat.zero_add]
    exact hend listed listed' a w inv hs' he h.1 h.2
  | succ f ih =>
    intro listed listed' a w inv hs' he h
    by_cases hr : Region.ready md (l.take n).toArray listed' = []
    · exact wpAny_plus (hend listed listed' a w inv hs' he hr (h.1 hr)) _
    · obtain ⟨i0, hi0⟩ := List.exists_mem_of_ne_nil _ hr
      have hin0 := ready_lt hi0
      have hr0 := (ready_part hb hn inv.size hs' he hin0).1 hi0
      have hun0 := (mem_ready.1 hr0).1
      rw [show f + 1 + (l.toArray.size - n) = (f + (l.toArray.size - n)) + 1 by omega]
      refine ⟨fun h0 => (by rw [h0] at hr0; cases hr0), fun i hi => ?_⟩
      have hin : i < n := Nat.lt_of_not_le fun hle => tail_waits hs hc hn inv _ i0 rfl hin0 hun0 i hle hi
      refine wpOp_part hb hn hin (fun a' w' h' => ?_) (h.2 i ((ready_part hb hn inv.size hs' he hin).2 hi))
      refine ih _ _ a' w' (inv.set hi hin) (by simp [hs']) (fun j hj => ?_) h'
      by_cases hij : i = j
      · subst hij
        rw [Array.getD_eq_getD_getElem?, Array.getD_eq_getD_getElem?, Array.getElem?_setIfInBounds_self_of_lt (by omega), Array.getElem?_setIfInBounds_self_of_lt (by rw [inv.size]; omega)]
      · rw [getD_set_ne false hij, getD_set_ne false hij]
        exact he j hj
theorem wp_region_part {id : Nat} {a : Act} {w : World} (n : Nat) (hm : P.follows .mixedOrders = true) (hB : partB .any l.toArray n = true)
    (h : wpAny P .any (l.take n).toArray (PartQ P l.toArray Q (l.drop n)) n (Array.replicate n false) a w.drew) : (Code.region id l.toArray true).wp P Q a w := by
  have hB0 := hB
  simp only [partB, Bool.and_eq_true, decide_eq_true_eq] at hB0
  have hn := hB0.1.1.1.1
  refine wp_region_any hm ?_
  have inv0 : HeadInv .any l.toArray n (Array.replicate l.toArray.size false) :=
    ⟨by simp, fun j oj _ hl => (by rw [getD_replicate_false] at hl; cases hl), fun t _ ht => getD_in (by simpa using ht) (getD_replicate_false _ _)⟩
  have := wpAny_part hB n (Array.replicate l.toArray.size false) (Array.replicate n false) a w.drew inv0 (by simp) (fun i _ => by rw [getD_replicate_false, getD_replicate_false]) h
  rwa [show n + (l.toArray.size - n) = l.toArray.size by omega] at this
end
/- A statement whose order is left open, walked by hand, under a condition S on the world. -/
end
end Go.Proofs.YtmdfjbpggbhgnaaDoor
