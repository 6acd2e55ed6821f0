/- What the proofs of this claim share, part 9. No conditions. -/
import Derived.Test.YtfooonellkgaeaaDoorKe7
import Derived.Test.YtfooonellkgaeaaDoorKe8
import Derived.Test.YtfooonellkgaeaaDoorRows
import Derived.Laws.AppendOwnNone
import Derived.Laws.OwnMore
import Derived.Laws.Bits64b
import Derived.Deep.RegionHeld3
import Derived.Deep.DeepCutAuto
set_option maxHeartbeats 8000000
set_option maxRecDepth 100000
set_option linter.unusedVariables false
set_option linter.unusedSimpArgs false
set_option linter.unusedSectionVars false
namespace Go.Proofs.YtfooonellkgaeaaDoor
open Go.RowKit Go.Deep
def w32 (ws : List Nat) : List Value := ws.map fun n : Nat => .int .u32 (n : Int)
theorem w32_len (ws : List Nat) : (w32 ws).length = ws.length := by simp [w32]
theorem CellsAt.w32_ {w : World} {m : Nat} {A : Option Addr} {ws : List Nat} (h : CellsAt w m A (w32 ws)) {k : Nat} (hk : k < ws.length) :
    ∃ b off z, A = some ⟨b, off, none⟩ ∧ b < m ∧ b < w.heap.size ∧ ws[k]? = some z ∧ w.cell? ⟨b, off + k, none⟩ = some (.int .u32 (z : Int)) := by
  obtain ⟨b, off, hA, hbm, hbs, hc⟩ := h (fun h0 => by have := w32_len ws; rw [h0] at this; simp at this; omega)
  exact ⟨b, off, ws[k], hA, hbm, hbs, List.getElem?_eq_getElem hk, hc k _ (by simp [w32, hk])⟩
def wval : List Nat → Nat
  | [] => 0
  | x :: l => x + 4294967296 * wval l
def wordsOk (ws : List Nat) : Prop := ∀ x ∈ ws, x < 4294967296
def trimN (ws : List Nat) : Nat → Nat
  | 0 => 0
  | n + 1 => if ws[n]?.getD 0 = 0 then trimN ws n else n + 1
def trimL (ws : List Nat) : List Nat := ws.take (trimN ws ws.length)
theorem trimN_le (ws : List Nat) (n : Nat) : trimN ws n ≤ n := by
  induction n with
  | zero => exact Nat.le_refl _
  | succ n ih =>
    unfold trimN
    split <;> omega
theorem trimL_len (ws : List Nat) : (trimL ws).length = trimN ws ws.length := by
  have := trimN_le ws ws.length
  simp [trimL]
  omega
theorem wval_append (a b : List Nat) : wval (a ++ b) = wval a + 4294967296 ^ a.length * wval b := by
  induction a with
  | nil => simp [wval]
  | cons x a ih =>
    simp only [List.cons_append, wval, List.length_cons, ih, Nat.pow_succ, Nat.mul_add]
    rw [Nat.add_assoc, Nat.mul_comm (4294967296 ^ a.length) 4294967296, Nat.mul_assoc]
theorem wval_take (ws : List Nat) : ∀ n, n ≤ ws.length → wval (ws.take (trimN ws n)) = wval (ws.take n)
  | 0, _ => rfl
  | n + 1, h => by
    unfold trimN
    split
    · rename_i h0
      rw [wval_take ws n (by omega), List.take_add_one, wval_append]
      have : ws[n]? = some ws[n] := List.getElem?_eq_getElem (by omega)
      rw [this] at h0 ⊢
      simp at h0
      simp [wval, h0]
    · rfl
theorem wval_trim (ws : List Nat) : wval (trimL ws) = wval ws := by
  have := wval_take ws ws.length (Nat.le_refl _)
  rw [List.take_length] at this
  exact this
theorem trim_top (ws : List Nat) : ∀ n, n ≤ ws.length → 0 < trimN ws n → ws[trimN ws n - 1]?.getD 0 ≠ 0
  | 0, _, h => by simp [trimN] at h
  | n + 1, hn, h => by
    unfold trimN at h ⊢
    split at h
    · rename_i h0
      rw [if_pos h0]
      exact trim_top ws n (by omega) h
    · rename_i h0
      rw [if_neg h0]
      simpa using h0
def trRel (w : World) (ws : List Nat) (i : Value) (wr : World) : Prop := ∃ k : Nat, k ≤ ws.length ∧ i = .int .i64 k ∧ trimN ws k = trimN ws ws.length ∧ w = wr
theorem info_w : (Tryd.prog.info? 82).map (fun i => (i.zero, i.size, i.bytes)) = some (some (.int .u32 0), 1, 4) := by kernel_rfl
theorem under_w : Tryd.prog.underlying 25 = some (.slice 82) := by kernel_rfl
def OwnW (w : World) (base : Nat) (v : Value) (xs : List Nat) : Prop := w.ownsRow base 82 1 v xs.length (w32 xs)
theorem OwnW.nil_ (w : World) (base : Nat) : OwnW w base (.slice none 0 0) [] := World.ownsRow_nil w base _ _
theorem OwnW.view {w : World} {base : Nat} {v : Value} {xs : List Nat} (h : OwnW w base v xs) : ∃ A c, v = .slice A xs.length c ∧ (A = none → c = 0) ∧ CellsAt w w.heap.size A (w32 xs) := by
  rcases h.2 with ⟨rfl, h0⟩ | ⟨g, cap, cur, rfl, hb, hg, hn, hm, hs, ht⟩
  · have : xs = [] := List.eq_nil_of_length_eq_zero h0
    subst this
    exact ⟨none, 0, rfl, fun _ => rfl, CellsAt.nil_⟩
  · have hlt := (World.ownsRow.lt h g rfl).2
    refine ⟨some ⟨g, 0, none⟩, cap, rfl, by simp, fun _ => ⟨g, 0, rfl, hlt, hlt, fun j u hu => ?_⟩⟩
    have := World.ownsRow.cells h (g := g) rfl j u hu
    rcases j with _ | j
    · simpa [Addr.add] using this
    · simpa [Addr.add] using this
theorem OwnW.drew {w : World} {base : Nat} {v : Value} {xs : List Nat} (h : OwnW w base v xs) : OwnW w.drew base v xs := h
theorem OwnW.drewN {w : World} {base : Nat} {v : Value} {xs : List Nat} (h : OwnW w base v xs) (n : Nat) : OwnW (w.drewN n) base v xs := by
  induction n generalizing w with
  | zero => exact h
  | succ n ih => exact ih (w := w.drew) h.drew
def canon (n : Nat) : List Nat := if h : n = 0 then [] else n % 4294967296 :: canon (n / 4294967296)
termination_by n
decreasing_by exact Nat.div_lt_self (by omega) (by decide)
theorem canon_zero : canon 0 = [] := by rw [canon]; simp
theorem canon_pos {n : Nat} (h : n ≠ 0) : canon n = n % 4294967296 :: canon (n / 4294967296) := by rw [canon]; simp [h]
theorem canon_ok (n : Nat) : wordsOk (canon n) := by
  induction n using Nat.strongRecOn with
  | _ n ih =>
    by_cases h : n = 0
    · subst h; rw [canon_zero]; intro x hx; cases hx
    · rw [canon_pos h]
      intro x hx
      rcases List.mem_cons.1 hx with rfl | hx
      · omega
      · exact ih _ (Nat.div_lt_self (by omega) (by decide)) x hx
theorem wval_canon (n : Nat) : wval (canon n) = n := by
  induction n using Nat.strongRecOn with
  | _ n ih =>
    by_cases h : n = 0
    · subst h; rw [canon_zero]; rfl
    · rw [canon_pos h]
      simp only [wval]
      rw [ih _ (Nat.div_lt_self (by omega) (by decide))]
      omega
theorem wval_zero {ws : List Nat} (h : wval ws = 0) : ∀ x ∈ ws, x = 0 := by
  induction ws with
  | nil => simp
  | cons x l ih =>
    simp only [wval] at h
    intro y hy
    rcases List.mem_cons.1 hy with rfl | hy
    · omega
    · exact ih (by omega) y hy
theorem canon_wval {ws : List Nat} (h : wordsOk ws) (ht : ws ≠ [] → ws[ws.length - 1]?.getD 0 ≠ 0) : canon (wval ws) = ws := by
  induction ws with
  | nil => exact canon_zero
  | cons x l ih =>
    have hx := h x (by simp)
    have htop := ht (by simp)
    have hl : canon (wval l) = l := ih (fun y hy => h y (by simp [hy])) (fun hne => by
      have hp : 0 < l.length := List.length_pos_iff.2 hne
      have e : (x :: l)[(x :: l).length - 1]? = l[l.length - 1]? := by
        rw [show (x :: l).length - 1 = (l.length - 1) + 1 by simp; omega]
        rfl
      rw [e] at htop
      exact htop)
    have hne : wval (x :: l) ≠ 0 := fun h0 => by
      have hz := wval_zero h0
      apply htop
      have : (x :: l)[(x :: l).length - 1]? = some ((x :: l)[(x :: l).length - 1]'(by simp)) := List.getElem?_eq_getElem _
      rw [this]
      exact hz _ (List.getElem_mem _)
    rw [canon_pos hne]
    simp only [wval]
    rw [show (x + 4294967296 * wval l) % 4294967296 = x by omega, show (x + 4294967296 * wval l) / 4294967296 = wval l by omega, hl]
theorem trim_canon {ws : List Nat} (h : wordsOk ws) : trimL ws = canon (wval ws) := by
  rw [← wval_trim ws]
  refine (canon_wval (fun x hx => h x (List.mem_of_mem_take hx)) (fun hne => ?_)).symm
  have hne : trimL ws ≠ [] := hne
  show (trimL ws)[(trimL ws).length - 1]?.getD 0 ≠ 0
  have hl := trimL_len ws
  have hp : 0 < (trimL ws).length := List.length_pos_iff.2 hne
  have ht := trim_top ws ws.length (Nat.le_refl _) (by omega)
  rw [hl]
  show (ws.take (trimN ws ws.length))[trimN ws ws.length - 1]?.getD 0 ≠ 0
  rw [List.getElem?_take, if_pos (by omega)]
  exact ht
theorem canon_len_le {n k : Nat} (h : n < 4294967296 ^ k) : (canon n).length ≤ k := by
  induction k generalizing n with
  | zero =>
    have : n = 0 := by simpa using h
    subst this
    rw [canon_zero]
    simp
  | succ k ih =>
    by_cases h0 : n = 0
    · subst h0; rw [canon_zero]; simp
    · rw [canon_pos h0]
      have := ih (n := n / 4294967296) (by rw [Nat.pow_succ] at h; exact Nat.div_lt_of_lt_mul (by rw [Nat.mul_comm]; exact h))
      simp
      omega
theorem OwnW.cap_ {w : World} {base n c : Nat} {A : Option Addr} {xs : List Nat} (h : OwnW w base (.slice A n c) xs) : n = xs.length ∧ n ≤ c ∧ (A = none → c = 0) ∧ CellsAt w w.heap.size A (w32 xs) := by
  have h2 := h.2
  obtain ⟨A', c', he, h1, h3⟩ := h.view
  cases he
  refine ⟨rfl, ?_, h1, h3⟩
  rcases h2 with ⟨h0, hn⟩ | ⟨g, cap, cur, h0, hb, hg, hn, hm, hs, ht⟩
  · omega
  · cases h0
    omega
theorem wval_take_succ (a : List Nat) (k : Nat) : wval (a.take (k + 1)) = wval (a.take k) + 4294967296 ^ k * (a[k]?.getD 0) := by
  rw [List.take_add_one, wval_append]
  by_cases h : k < a.length
  · rw [List.getElem?_eq_getElem h, List.length_take, Nat.min_eq_left (by omega)]
    simp [wval]
  · rw [List.getElem?_eq_none (by omega)]
    simp [wval]
theorem words_push {os : List Nat} {z : Nat} (h : wordsOk os) (hz : z < 4294967296) : wordsOk (os ++ [z]) := by
  intro q hq
  rcases List.mem_append.1 hq with hq | hq
  · exact h q hq
  · simp at hq
    omega
theorem CellsAt.takeW {w : World} {m : Nat} {A : Option Addr} {ws : List Nat} (h : CellsAt w m A (w32 ws)) (n : Nat) : CellsAt w m A (w32 (ws.take n)) := fun hx => by
  have e : w32 (ws.take n) = (w32 ws).take n := by simp [w32]
  obtain ⟨b, off, hA, hbm, hbs, hc⟩ := h (fun h0 => hx (by rw [e, h0]; simp))
  refine ⟨b, off, hA, hbm, hbs, fun j u hu => hc j u ?_⟩
  rw [e, List.getElem?_take] at hu
  split at hu
  · exact hu
  · cases hu
def plRel (w : World) (a b : List Nat) (v cv i : Value) (wr : World) : Prop :=
  ∃ (k : Nat) (os : List Nat) (cy : Nat), k ≤ max a.length b.length ∧ i = .int .i64 (k : Int) ∧ cv = .int .u64 (cy : Int) ∧ OwnW wr w.heap.size v os ∧ os.length = k ∧ wordsOk os ∧ cy ≤ 1 ∧
    wval os + 4294967296 ^ k * cy = wval (a.take k) + wval (b.take k) ∧ Below w.heap.size w wr
theorem wval_lt {ws : List Nat} (h : wordsOk ws) : wval ws < 4294967296 ^ ws.length := by
  induction ws with
  | nil => simp [wval]
  | cons x l ih =>
    have h1 := h x (by simp)
    have h2 := ih (fun y hy => h y (by simp [hy]))
    simp only [wval, List.length_cons, Nat.pow_succ]
    omega
theorem wval_split {ws : List Nat} {k x : Nat} (h : ws[k]? = some x) : wval ws = wval (ws.take k) + 4294967296 ^ k * (x + 4294967296 * wval (ws.drop (k + 1))) := by
  have hk := (List.getElem?_eq_some_iff.1 h).1
  have hx := (List.getElem?_eq_some_iff.1 h).2
  have e : ws = ws.take k ++ x :: ws.drop (k + 1) := by
    rw [← hx, ← List.drop_eq_getElem_cons hk, List.take_append_drop]
  have hl : (ws.take k).length = k := by rw [List.length_take]; omega
  conv => lhs; rw [e]
  rw [wval_append, hl]
  rfl
theorem less_side {K T1 T2 x y D : Nat} (h1 : T1 < K) (h : x < y) : T1 + K * (x + D) < T2 + K * (y + D) := by
  have h2 : K * (x + D + 1) ≤ K * (y + D) := Nat.mul_le_mul_left K (by omega)
  rw [Nat.mul_add, Nat.mul_one] at h2
  omega
theorem less_at {a b : List Nat} {k x y : Nat} (oka : wordsOk a) (okb : wordsOk b) (hx : a[k]? = some x) (hy : b[k]? = some y) (hd : a.drop (k + 1) = b.drop (k + 1)) (hne : x ≠ y) : decide (wval a < wval b) = decide (x < y) := by
  have ha := wval_split hx
  have hb := wval_split hy
  have hka := (List.getElem?_eq_some_iff.1 hx).1
  have hkb := (List.getElem?_eq_some_iff.1 hy).1
  have la := wval_lt (ws := a.take k) (fun z hz => oka z (List.mem_of_mem_take hz))
  have lb := wval_lt (ws := b.take k) (fun z hz => okb z (List.mem_of_mem_take hz))
  rw [List.length_take, Nat.min_eq_left (by omega)] at la lb
  rw [hd] at ha
  rcases Nat.lt_or_gt_of_ne hne with h | h
  · have := less_side (T2 := wval (b.take k)) (D := 4294967296 * wval (b.drop (k + 1))) la h
    rw [← ha, ← hb] at this
    rw [decide_eq_true this, decide_eq_true h]
  · have := less_side (T2 := wval (a.take k)) (D := 4294967296 * wval (b.drop (k + 1))) lb h
    rw [← ha, ← hb] at this
    rw [decide_eq_false (by omega), decide_eq_false (by omega)]
def lessB (a b : List Nat) : Bool := if a.length = b.length then decide (wval a < wval b) else decide (a.length < b.length)
def lsRel (w : World) (a b : List Nat) (i : Value) (wr : World) : Prop := ∃ k nq : Nat, k ≤ a.length ∧ i = .int .i64 ((k : Int) - 1) ∧ a.drop k = b.drop k ∧ w.drewN nq = wr
theorem drop_step {a b : List Nat} {k x : Nat} (hx : a[k]? = some x) (hy : b[k]? = some x) (h : a.drop (k + 1) = b.drop (k + 1)) : a.drop k = b.drop k := by
  have hka := (List.getElem?_eq_some_iff.1 hx)
  have hkb := (List.getElem?_eq_some_iff.1 hy)
  rw [List.drop_eq_getElem_cons hka.1, List.drop_eq_getElem_cons hkb.1, hka.2, hkb.2, h]
def miRel (w : World) (a b : List Nat) (v cv i : Value) (wr : World) : Prop :=
  ∃ (k : Nat) (os : List Nat) (br : Nat), k ≤ a.length ∧ i = .int .i64 (k : Int) ∧ cv = .int .i64 (br : Int) ∧ OwnW wr w.heap.size v os ∧ os.length = k ∧ wordsOk os ∧ br ≤ 1 ∧
    wval os + wval (b.take k) = wval (a.take k) + 4294967296 ^ k * br ∧ Below w.heap.size w wr
structure DyOk (neg : Bool) (n : Nat) (den : Nat) : Prop where
  zero : n = 0 → neg = false ∧ den = 0
  fine : den ≤ 65536
  odd : den ≠ 0 → n % 2 = 1
theorem canon_ne {n : Nat} (h : n ≠ 0) : 0 < (canon n).length := by
  rw [canon_pos h]
  simp
theorem canon_head {n : Nat} (h : n ≠ 0) : (canon n)[0]? = some (n % 4294967296) := by
  rw [canon_pos h]
  rfl
theorem canon_top {n : Nat} (h : n ≠ 0) : (canon n)[(canon n).length - 1]?.getD 0 ≠ 0 := by
  induction n using Nat.strongRecOn with
  | _ n ih =>
    rw [canon_pos h]
    by_cases h2 : n / 4294967296 = 0
    · rw [h2, canon_zero]
      simp
      omega
    · have := ih _ (Nat.div_lt_self (by omega) (by decide)) h2
      have hl := canon_ne h2
      rw [show (n % 4294967296 :: canon (n / 4294967296)).length - 1 = ((canon (n / 4294967296)).length - 1) + 1 by simp; omega]
      exact this
def RowD (w : World) (b : Nat) (vs : List Value) (t : TypeId) : Prop := w.heap[b]? = some (.cells vs.toArray t (0, 0))
theorem RowD.lt {w : World} {b t : Nat} {vs : List Value} (h : RowD w b vs t) : b < w.heap.size := (Array.getElem?_eq_some_iff.1 h).1
theorem RowD.new_ (w : World) (vs : List Value) (t : TypeId) : RowD (w.alloc (.cells vs.toArray t)) w.heap.size vs t := heap_alloc_new w _
theorem RowD.below {w w' : World} {b B t : Nat} {vs : List Value} (h : RowD w b vs t) (hb : Below B w w') (hB : b < B) : RowD w' b vs t := (hb.block b hB).trans h
theorem RowD.cell {w : World} {b t : Nat} {vs : List Value} (h : RowD w b vs t) (j : Nat) : w.cell? ⟨b, j, none⟩ = vs[j]? := by
  rw [cell_of_row w b j vs.toArray t (0, 0) h]
  simp
theorem RowD.free {w : World} {b t : Nat} {vs : List Value} (h : RowD w b vs t) (j : Nat) : w.frozen? ⟨b, j, none⟩ = false := frozen_of_row w b j vs.toArray t h
theorem RowD.set_ {w : World} {b t : Nat} {vs : List Value} (h : RowD w b vs t) (j : Nat) (u : Value) : RowD (w.setCell ⟨b, j, none⟩ u) b (vs.set j u) t := by
  have := heap_setCell_same w b j vs.toArray t u h
  simpa [RowD] using this
def sgn (neg : Bool) (n : Nat) : Int := if n = 0 then 0 else if neg = true then -1 else 1
theorem or_low {c x s : Nat} (hc : c < 2 ^ s) (hx : x < 4294967296) (hs : s ≤ 32) : bits .or .u64 (c : Int) ((x * 2 ^ s : Nat) : Int) = ((c + x * 2 ^ s : Nat) : Int) := by
  have h32 : 2 ^ s ≤ 2 ^ 32 := Nat.pow_le_pow_right (by decide) hs
  have hp : x * 2 ^ s ≤ 4294967295 * 2 ^ 32 := Nat.mul_le_mul (by omega) h32
  rw [bits_or_u64_nat c (x * 2 ^ s) (by omega) (by omega)]
  have h := Nat.two_pow_add_eq_or_of_lt hc x
  rw [Nat.or_comm, Nat.mul_comm x, ← h, Nat.add_comm]
theorem info_w4 : (Tryd.prog.info? 82).map (fun i => (i.zero, i.size, i.bytes)) = some (some (.int .u32 0), 1, 4) := by kernel_rfl
theorem wval_zeros (q : Nat) : wval (List.replicate q 0) = 0 := by
  induction q with
  | zero => rfl
  | succ q ih => rw [List.replicate_succ]; simp [wval, ih]
theorem words_zeros (q : Nat) : wordsOk (List.replicate q 0) := fun x hx => by
  have := (List.mem_replicate.1 hx).2
  omega
theorem lf_word {cy x p : Nat} (hc : cy < p) (hx : x < 4294967296) : (cy + x * p) / 4294967296 < p := by
  have h : x * p ≤ 4294967295 * p := Nat.mul_le_mul_right _ (by omega)
  omega
theorem lf_step {os a : List Nat} {q k cy x z c' p : Nat} (hol : os.length = q + k) (hx : a[k]?.getD 0 = x) (hv : wval os + 4294967296 ^ (q + k) * cy = wval (a.take k) * (4294967296 ^ q * p)) (hz : z + 4294967296 * c' = cy + x * p) :
    wval (os ++ [z]) + 4294967296 ^ (q + (k + 1)) * c' = wval (a.take (k + 1)) * (4294967296 ^ q * p) := by
  rw [wval_take_succ a, hx, wval_append, hol, Nat.add_mul, ← hv]
  have e1 : wval [z] = z := by simp [wval]
  rw [e1, show q + (k + 1) = (q + k) + 1 by omega, Nat.pow_succ 4294967296 (q + k), Nat.pow_add]
  have e2 : 4294967296 ^ q * 4294967296 ^ k * z + 4294967296 ^ q * 4294967296 ^ k * (4294967296 * c') = 4294967296 ^ q * 4294967296 ^ k * cy + 4294967296 ^ q * 4294967296 ^ k * (x * p) := by
    rw [← Nat.mul_add, hz, Nat.mul_add]
  have e3 : 4294967296 ^ k * x * (4294967296 ^ q * p) = 4294967296 ^ q * 4294967296 ^ k * (x * p) := by
    rw [Nat.mul_comm (4294967296 ^ q) (4294967296 ^ k), Nat.mul_assoc, Nat.mul_assoc]
    congr 1
    rw [← Nat.mul_assoc, ← Nat.mul_assoc, Nat.mul_comm x]
  rw [e3, Nat.mul_assoc (4294967296 ^ q * 4294967296 ^ k)]
  omega
theorem pow_split (n : Nat) : 2 ^ n = 4294967296 ^ (n / 32) * 2 ^ (n % 32) := by
  have h : n = 32 * (n / 32) + n % 32 := by omega
  have e : (4294967296 : Nat) = 2 ^ 32 := by decide
  rw [e, ← Nat.pow_mul, ← Nat.pow_add, ← h]
def lfRel (w : World) (a : List Nat) (q p : Nat) (v cv i : Value) (wr : World) : Prop :=
  ∃ (k : Nat) (os : List Nat) (cy : Nat), k ≤ a.length ∧ i = .int .i64 (k : Int) ∧ cv = .int .u64 (cy : Int) ∧ OwnW wr w.heap.size v os ∧ os.length = q + k ∧ wordsOk os ∧ cy < p ∧
    wval os + 4294967296 ^ (q + k) * cy = wval (a.take k) * (4294967296 ^ q * p) ∧ Below w.heap.size w wr
theorem wval_drop {a : List Nat} (h : wordsOk a) (i : Nat) : wval a / 4294967296 ^ i = wval (a.drop i) := by
  by_cases hi : i ≤ a.length
  · have e := wval_append (a.take i) (a.drop i)
    rw [List.take_append_drop, List.length_take, Nat.min_eq_left hi] at e
    have hl := wval_lt (ws := a.take i) (fun x hx => h x (List.mem_of_mem_take hx))
    rw [List.length_take, Nat.min_eq_left hi] at hl
    rw [e, Nat.add_mul_div_left _ _ (Nat.pow_pos (by decide)), Nat.div_eq_of_lt hl, Nat.zero_add]
  · rw [List.drop_eq_nil_of_le (by omega)]
    have hl := wval_lt h
    refine Nat.div_eq_of_lt (Nat.lt_of_lt_of_le hl (Nat.pow_le_pow_right (by decide) (by omega)))
theorem wval_drop_get {a : List Nat} {i : Nat} : wval (a.drop i) = a[i]?.getD 0 + 4294967296 * wval (a.drop (i + 1)) := by
  by_cases hi : i < a.length
  · rw [List.drop_eq_getElem_cons hi, List.getElem?_eq_getElem hi]
    rfl
  · rw [List.drop_eq_nil_of_le (by omega), List.drop_eq_nil_of_le (by omega), List.getElem?_eq_none (by omega)]
    rfl
theorem pow32 (n : Nat) : 2 ^ n = 4294967296 ^ (n / 32) * 2 ^ (n % 32) := pow_split n
theorem wval_bit {a : List Nat} (h : wordsOk a) (i : Nat) : wval a / 2 ^ i % 2 = (a[i / 32]?.getD 0) / 2 ^ (i % 32) % 2 := by
  rw [pow32 i, ← Nat.div_div_eq_div_mul, wval_drop h, wval_drop_get]
  generalize a[i / 32]?.getD 0 = x
  generalize wval (a.drop (i / 32 + 1)) = y
  have e : (4294967296 : Nat) = 2 ^ (i % 32) * (2 * 2 ^ (31 - i % 32)) := by
    rw [← Nat.pow_succ', ← Nat.pow_add, show i % 32 + (31 - i % 32).succ = 32 by omega]
  rw [show 4294967296 * y = 2 ^ (i % 32) * (2 * (2 ^ (31 - i % 32) * y)) by rw [← Nat.mul_assoc, ← Nat.mul_assoc, Nat.mul_assoc (2 ^ (i % 32)), ← e]]
  rw [Nat.add_mul_div_left _ _ (Nat.two_pow_pos _)]
  omega
def cutB (v i : Nat) : Bool := decide (v % 2 ^ i ≠ 0)
theorem rg_word {x y t r : Nat} (hr : r ≤ 31) : (x + 4294967296 * (y + 4294967296 * t)) / 2 ^ r % 4294967296 = (x + y * 4294967296) / 2 ^ r % 4294967296 := by
  have e : (4294967296 : Nat) = 2 ^ r * 2 ^ (32 - r) := by rw [← Nat.pow_add, show r + (32 - r) = 32 by omega]
  rw [show x + 4294967296 * (y + 4294967296 * t) = (x + y * 4294967296) + 2 ^ r * (4294967296 * (2 ^ (32 - r) * t)) by
    have : 4294967296 * (4294967296 * t) = 2 ^ r * (4294967296 * (2 ^ (32 - r) * t)) := by
      rw [← Nat.mul_assoc, ← Nat.mul_assoc, ← Nat.mul_assoc, Nat.mul_comm (2 ^ r) 4294967296, Nat.mul_assoc 4294967296 (2 ^ r), ← e]
    omega]
  rw [Nat.add_mul_div_left _ _ (Nat.two_pow_pos _)]
  omega
theorem rg_step {a os : List Nat} {n k z : Nat} (h : wordsOk a) (hol : os.length = k) (hv : wval os = wval a / 2 ^ n % 4294967296 ^ k)
    (hz : z = (a[n / 32 + k]?.getD 0 + a[n / 32 + k + 1]?.getD 0 * 4294967296) / 2 ^ (n % 32) % 4294967296) :
    wval (os ++ [z]) = wval a / 2 ^ n % 4294967296 ^ (k + 1) := by
  rw [wval_append, hol, hv, Nat.pow_succ, Nat.mod_mul]
  congr 1
  have e1 : wval [z] = z := by simp [wval]
  have e2 : wval a / 2 ^ n / 4294967296 ^ k = wval (a.drop (n / 32 + k)) / 2 ^ (n % 32) := by
    rw [← wval_drop h, Nat.pow_add, pow32 n]
    simp only [Nat.div_div_eq_div_mul]
    congr 1
    rw [Nat.mul_assoc, Nat.mul_assoc, Nat.mul_comm (2 ^ _)]
  rw [e1, e2, wval_drop_get, wval_drop_get, rg_word (by omega), hz]
theorem rg_end {a os : List Nat} {n k : Nat} (h : wordsOk a) (hk : a.length ≤ n / 32 + k) (hv : wval os = wval a / 2 ^ n % 4294967296 ^ k) : wval os = wval a / 2 ^ n := by
  rw [hv]
  refine Nat.mod_eq_of_lt ?_
  have hl := wval_lt h
  refine (Nat.div_lt_iff_lt_mul (Nat.two_pow_pos _)).2 (Nat.lt_of_lt_of_le hl ?_)
  rw [pow32 n, ← Nat.mul_assoc, ← Nat.pow_add]
  refine Nat.le_trans (Nat.pow_le_pow_right (by decide) (show a.length ≤ k + n / 32 by omega)) (Nat.le_mul_of_pos_right _ (Nat.two_pow_pos _))
def rgRel2 (w : World) (a : List Nat) (n q : Nat) (v i : Value) (wr : World) : Prop :=
  ∃ (k : Nat) (os : List Nat), q + k ≤ a.length ∧ i = .int .i64 ((q + k : Nat) : Int) ∧ OwnW wr w.heap.size v os ∧ os.length = k ∧ wordsOk os ∧ wval os = wval a / 2 ^ n % 4294967296 ^ k ∧ Below w.heap.size w wr
def rgRel (a : List Nat) (n : Nat) (w : World) (cv i : Value) (wr : World) : Prop :=
  ∃ k : Nat, k ≤ n ∧ k ≤ 32 * a.length ∧ i = .int .i64 (k : Int) ∧ cv = .bool (cutB (wval a) k) ∧ w = wr
def nf (m : Int) : Nat → Int × Nat
  | 0 => (m, 0)
  | d + 1 => if m % 2 = 0 then nf (m / 2) d else (m, d + 1)
def sg (neg : Bool) (n : Nat) : Int := if neg = true then -(n : Int) else n
theorem nf_zero (d : Nat) : nf 0 d = (0, 0) := by
  induction d with
  | zero => rfl
  | succ d ih => simp [nf, ih]
theorem nf_le (m : Int) (d : Nat) : (nf m d).2 ≤ d := by
  induction d generalizing m with
  | zero => exact Nat.le_refl _
  | succ d ih =>
    unfold nf
    split
    · have := ih (m / 2); omega
    · exact Nat.le_refl _
theorem nf_odd (m : Int) (d : Nat) : (nf m d).2 ≠ 0 → (nf m d).1 % 2 = 1 := by
  induction d generalizing m with
  | zero => simp [nf]
  | succ d ih =>
    unfold nf
    split
    · exact ih _
    · intro _
      simp
      omega
theorem nf_done {m : Int} {d : Nat} (h : d ≠ 0 → m % 2 = 1) : nf m d = (m, d) := by
  cases d with
  | zero => rfl
  | succ d =>
    have := h (by omega)
    simp [nf, this]
theorem nf_eq (m : Int) (d : Nat) : (nf m d).1 * 2 ^ d = m * 2 ^ (nf m d).2 := by
  induction d generalizing m with
  | zero => rfl
  | succ d ih =>
    unfold nf
    split
    · rename_i h
      rw [Int.pow_succ, ← Int.mul_assoc, ih]
      have : m = m / 2 * 2 := by omega
      rw [Int.mul_assoc, Int.mul_comm (2 ^ _) 2, ← Int.mul_assoc, ← this]
    · rfl
theorem nf_abs_le (m : Int) (d : Nat) : (nf m d).1.natAbs ≤ m.natAbs := by
  induction d generalizing m with
  | zero => exact Nat.le_refl _
  | succ d ih =>
    unfold nf
    split
    · have := ih (m / 2); omega
    · exact Nat.le_refl _
theorem sg_abs (neg : Bool) (n : Nat) : (sg neg n).natAbs = n := by
  unfold sg
  split <;> omega
theorem sg_neg {neg : Bool} {n : Nat} (h : n ≠ 0) : decide (sg neg n < 0) = neg := by
  unfold sg
  cases neg <;> simp <;> omega
theorem sg_back (m : Int) : sg (decide (m < 0)) m.natAbs = m := by
  unfold sg
  by_cases h : m < 0
  · simp [h]; omega
  · simp [h]; omega
theorem nf_step {neg : Bool} {n k den : Nat} (hk : k < den) (h : n / 2 ^ k % 2 = 0) : nf (sg neg (n / 2 ^ k)) (den - k) = nf (sg neg (n / 2 ^ (k + 1))) (den - (k + 1)) := by
  rw [Nat.pow_succ, ← Nat.div_div_eq_div_mul, show den - k = (den - (k + 1)) + 1 by omega]
  generalize n / 2 ^ k = y at *
  show (if sg neg y % 2 = 0 then nf (sg neg y / 2) (den - (k + 1)) else _) = _
  have e1 : sg neg y % 2 = 0 := by unfold sg; split <;> omega
  have e2 : sg neg y / 2 = sg neg (y / 2) := by unfold sg; split <;> omega
  rw [if_pos e1, e2]
theorem canon_len_mono {a b : Nat} (h : a ≤ b) : (canon a).length ≤ (canon b).length := by
  refine canon_len_le (Nat.lt_of_le_of_lt h ?_)
  have := wval_lt (canon_ok b)
  rwa [wval_canon] at this
def DyR (w : World) (lo hi : Nat) (v : Value) (x : Int) (d : Nat) : Prop :=
  ∃ A c, v = .agg #[.bool (decide (x < 0)), .slice A (canon x.natAbs).length c, .int .i64 (d : Int)] ∧ (A = none → c = 0) ∧ (canon x.natAbs).length ≤ c ∧ CellsAt w hi A (w32 (canon x.natAbs)) ∧
    (∀ a, A = some a → lo ≤ a.block) ∧ d ≤ 65536 ∧ (d ≠ 0 → x % 2 = 1)
theorem DyR.zero_ (w : World) (lo hi : Nat) : DyR w lo hi (.agg #[.bool false, .slice none 0 0, .int .i64 0]) 0 0 := by
  refine ⟨none, 0, ?_, fun _ => rfl, ?_, ?_, by simp, by omega, by simp⟩
  · rw [show (0 : Int).natAbs = 0 by rfl, canon_zero]; rfl
  · rw [show (0 : Int).natAbs = 0 by rfl, canon_zero]; exact Nat.le_refl _
  · rw [show (0 : Int).natAbs = 0 by rfl, canon_zero]; exact CellsAt.nil_
def n0Rel (w : World) (i : Value) (wr : World) : Prop := i = .int .i64 0 ∧ w = wr
def nuRel (n den : Nat) (neg : Bool) (w : World) (i : Value) (wr : World) : Prop :=
  ∃ k : Nat, k ≤ den ∧ k ≤ 32 * (canon n).length ∧ i = .int .i64 (k : Int) ∧ n % 2 ^ k = 0 ∧ nf (sg neg n) den = nf (sg neg (n / 2 ^ k)) (den - k) ∧ w = wr
theorem DyR.below {w w' : World} {lo hi B d : Nat} {v : Value} {x : Int} (h : DyR w lo hi v x d) (hb : Below B w w') (hB : hi ≤ B) : DyR w' lo hi v x d := by
  obtain ⟨A, c, e, h1, h2, h3, h4, h5, h6⟩ := h
  exact ⟨A, c, e, h1, h2, h3.below hb hB, h4, h5, h6⟩
theorem DyR.more {w : World} {lo hi hi' d : Nat} {v : Value} {x : Int} (h : DyR w lo hi v x d) (hB : hi ≤ hi') : DyR w lo hi' v x d := by
  obtain ⟨A, c, e, h1, h2, h3, h4, h5, h6⟩ := h
  exact ⟨A, c, e, h1, h2, h3.more hB, h4, h5, h6⟩
theorem DyR.low {w : World} {lo lo' hi d : Nat} {v : Value} {x : Int} (h : DyR w lo hi v x d) (hB : lo' ≤ lo) : DyR w lo' hi v x d := by
  obtain ⟨A, c, e, h1, h2, h3, h4, h5, h6⟩ := h
  exact ⟨A, c, e, h1, h2, h3, fun a ha => Nat.le_trans hB (h4 a ha), h5, h6⟩
theorem CellsAt.setD {w : World} {m : Nat} {A : Option Addr} {xs : List Value} (h : CellsAt w m A xs) {b j : Nat} (u : Value) (hA : ∀ a : Addr, A = some a → a.block ≠ b) : CellsAt (w.setCell ⟨b, j, none⟩ u) m A xs := fun hx => by
  obtain ⟨g, off, rfl, hbm, hbs, hc⟩ := h hx
  refine ⟨g, off, rfl, hbm, by simpa using hbs, fun i u hu => ?_⟩
  have hne : g ≠ b := hA _ rfl
  rw [World.cell?_setCell_other _ _ _ _ (by first | (simp; omega) | simp_all)]
  exact hc i u hu
theorem DyR.set_ {w : World} {lo hi d b : Nat} {v : Value} {x : Int} (h : DyR w lo hi v x d) (hb : b < lo) (j : Nat) (u : Value) : DyR (w.setCell ⟨b, j, none⟩ u) lo hi v x d := by
  obtain ⟨A, c, e, h1, h2, h3, h4, h5, h6⟩ := h
  exact ⟨A, c, e, h1, h2, h3.setD u (fun a ha h0 => by have := h4 a ha; omega), h4, h5, h6⟩
theorem DyR.form {w : World} {lo hi d : Nat} {v : Value} {x : Int} (h : DyR w lo hi v x d) : ∃ nb A L c, v = .agg #[.bool nb, .slice A L c, .int .i64 (d : Int)] ∧
    Hid (nb = decide (x < 0) ∧ L = (canon x.natAbs).length ∧ (A = none → c = 0) ∧ L ≤ c ∧ CellsAt w hi A (w32 (canon x.natAbs)) ∧ d ≤ 65536 ∧ (d ≠ 0 → x % 2 = 1)) := by
  obtain ⟨A, c, e, h1, h2, h3, h4, h5, h6⟩ := h
  exact ⟨_, A, _, c, e, Lib.hid ⟨rfl, rfl, h1, h2, h3, h5, h6⟩⟩
theorem dy_ok {x : Int} {d : Nat} (h5 : d ≤ 65536) (h6 : d ≠ 0 → x % 2 = 1) : DyOk (decide (x < 0)) x.natAbs d := by
  refine ⟨fun h => ?_, h5, fun h => by have := h6 h; omega⟩
  have hx : x = 0 := by omega
  subst hx
  refine ⟨by simp, ?_⟩
  rcases Nat.eq_zero_or_pos d with h | h
  · exact h
  · have := h6 (by omega)
    omega
def sgI (x : Int) : Int := if x = 0 then 0 else if x < 0 then -1 else 1
theorem RowD.other_ {w : World} {b t : Nat} {vs : List Value} (h : RowD w b vs t) {k : Nat} (hk : b ≠ k) (j : Nat) (u : Value) : RowD (w.setCell ⟨k, j, none⟩ u) b vs t := by
  unfold RowD
  rw [heap_setCell_other _ _ _ _ hk]
  exact h
theorem RowD.cells_ {w : World} {b t m : Nat} {vs : List Value} (h : RowD w b vs t) (hm : b < m) : CellsAt w m (some ⟨b, 0, none⟩) vs := fun _ => ⟨b, 0, rfl, hm, h.lt, fun j u hu => by
  have := h.cell j
  rw [Nat.zero_add, this]
  exact hu⟩
theorem of_words {lo hi : Nat} : wval [lo, hi] = lo + 4294967296 * hi := by simp [wval]
theorem of_ok {lo hi : Nat} (h1 : lo < 4294967296) (h2 : hi < 4294967296) : wordsOk [lo, hi] := by
  intro x hx
  simp at hx
  omega
def OwnD (w : World) (r : Nat) : Prop := ∃ v0 v1 v2, RowD w r [v0, v1, v2] 27
structure SK (W : World) (m r : Nat) (w : World) : Prop where
  is : Below m W w
  fits : m ≤ w.heap.size
  own : OwnD w r
theorem SK.refl {w : World} {m r : Nat} (h : m ≤ w.heap.size) (ho : OwnD w r) : SK w m r w := ⟨Below.refl _ _, h, ho⟩
theorem SK.drew {W w : World} {m r : Nat} (h : SK W m r w) : SK W m r w.drew := ⟨h.is.drew, h.fits, h.own⟩
theorem RowD.call {w w' : World} {b t : Nat} {vs : List Value} (h : RowD w b vs t) (hb : Below w.heap.size w w') : RowD w' b vs t := h.below hb h.lt
theorem SK.call {W w w' : World} {m r : Nat} (h : SK W m r w) (hb : Below w.heap.size w w') : SK W m r w' :=
  ⟨h.is.trans (hb.mono h.fits), Nat.le_trans h.fits hb.size, let ⟨_, _, _, hr⟩ := h.own; ⟨_, _, _, hr.call hb⟩⟩
theorem SK.set {W w : World} {m r : Nat} (h : SK W m r w) (hm : m ≤ r) (j : Nat) (u : Value) : SK W m r (w.setCell ⟨r, j, none⟩ u) := by
  refine ⟨h.is.setCell hm u, by simpa using h.fits, ?_⟩
  obtain ⟨v0, v1, v2, hr⟩ := h.own
  have h2 := hr.set_ j u
  rcases j with _ | _ | _ | j
  · exact ⟨_, _, _, h2⟩
  · exact ⟨_, _, _, h2⟩
  · exact ⟨_, _, _, h2⟩
  · exact ⟨_, _, _, h2⟩
theorem SK.lt {W w : World} {m r : Nat} (h : SK W m r w) : r < w.heap.size := let ⟨_, _, _, hr⟩ := h.own; hr.lt
theorem SK.all {W w : World} {m r : Nat} (h : SK W m r w) : (∀ b o, b < m → w.cell? ⟨b, o, none⟩ = W.cell? ⟨b, o, none⟩) ∧ SK W m r w :=
  ⟨fun _ _ hb => h.is.cell (p := ⟨_, _, none⟩) hb, h⟩
theorem SK.cells {W w : World} {m r : Nat} (h : SK W m r w) : ∃ v0 v1 v2, RowD w r [v0, v1, v2] 27 ∧ w.cell? ⟨r, 0, none⟩ = some v0 ∧ w.cell? ⟨r, 1, none⟩ = some v1 ∧ w.cell? ⟨r, 2, none⟩ = some v2 ∧ (∀ o, w.frozen? ⟨r, o, none⟩ = false) := by
  obtain ⟨v0, v1, v2, hr⟩ := h.own
  exact ⟨v0, v1, v2, hr, hr.cell 0, hr.cell 1, hr.cell 2, hr.free⟩
theorem canon_len_add (a b : Nat) : (canon (a + b)).length ≤ max (canon a).length (canon b).length + 1 := by
  refine canon_len_le ?_
  have h1 := wval_lt (canon_ok a)
  have h2 := wval_lt (canon_ok b)
  rw [wval_canon] at h1 h2
  have e1 : 4294967296 ^ (canon a).length ≤ 4294967296 ^ max (canon a).length (canon b).length := Nat.pow_le_pow_right (by decide) (by omega)
  have e2 : 4294967296 ^ (canon b).length ≤ 4294967296 ^ max (canon a).length (canon b).length := Nat.pow_le_pow_right (by decide) (by omega)
  rw [Nat.pow_succ]
  have h0 : 0 < 4294967296 ^ max (canon a).length (canon b).length := Nat.pow_pos (by decide)
  omega
theorem canon_len_shift (a n : Nat) : (canon (a * 2 ^ n)).length ≤ (canon a).length + n / 32 + 1 := by
  refine canon_len_le ?_
  have h1 := wval_lt (canon_ok a)
  rw [wval_canon] at h1
  have e : 2 ^ n ≤ 4294967296 ^ (n / 32 + 1) := by
    rw [show (4294967296 : Nat) = 2 ^ 32 by decide, ← Nat.pow_mul]
    exact Nat.pow_le_pow_right (by decide) (by omega)
  rw [Nat.add_assoc, Nat.pow_add]
  exact Nat.lt_of_lt_of_le (Nat.mul_lt_mul_of_pos_right h1 (Nat.two_pow_pos _)) (Nat.mul_le_mul_left _ e)
def WdR (w : World) (hi : Nat) (v : Value) (n : Nat) : Prop := ∃ A c, v = .slice A (canon n).length c ∧ (A = none → c = 0) ∧ (canon n).length ≤ c ∧ CellsAt w hi A (w32 (canon n))
theorem WdR.below {w w' : World} {hi B n : Nat} {v : Value} (h : WdR w hi v n) (hb : Below B w w') (hB : hi ≤ B) : WdR w' hi v n := by
  obtain ⟨A, c, e, h1, h2, h3⟩ := h
  exact ⟨A, c, e, h1, h2, h3.below hb hB⟩
theorem WdR.more {w : World} {hi hi' n : Nat} {v : Value} (h : WdR w hi v n) (hB : hi ≤ hi') : WdR w hi' v n := by
  obtain ⟨A, c, e, h1, h2, h3⟩ := h
  exact ⟨A, c, e, h1, h2, h3.more hB⟩
theorem WdR.form {w : World} {hi n : Nat} {v : Value} (h : WdR w hi v n) : ∃ A L c, v = .slice A L c := by
  obtain ⟨A, c, e, _⟩ := h
  exact ⟨A, _, c, e⟩
theorem DyR.words {w : World} {lo hi d : Nat} {nb : Bool} {A : Option Addr} {L c : Nat} {x : Int} (h : DyR w lo hi (.agg #[.bool nb, .slice A L c, .int .i64 (d : Int)]) x d) : WdR w hi (.slice A L c) x.natAbs := by
  obtain ⟨A', c', e, h1, h2, h3, _⟩ := h
  cases e
  exact ⟨_, _, rfl, h1, h2, h3⟩
def dySum (x : Int) (dx : Nat) (y : Int) (dy : Nat) : Int × Nat := nf (x * 2 ^ (max dx dy - dx) + y * 2 ^ (max dx dy - dy)) (max dx dy)
theorem sg_mul (x : Int) (k : Nat) : sg (decide (x < 0)) (x.natAbs * 2 ^ k) = x * 2 ^ k := by
  have e : ((x.natAbs * 2 ^ k : Nat) : Int) = (x.natAbs : Int) * 2 ^ k := by simp
  unfold sg
  by_cases h : x < 0
  · have : (x.natAbs : Int) = -x := by omega
    rw [if_pos (by simpa using h), e, this, Int.neg_mul, Int.neg_neg]
  · have : (x.natAbs : Int) = x := by omega
    rw [if_neg (by simpa using h), e, this]
theorem abs_mul_pow (x : Int) (k : Nat) : (x * 2 ^ k).natAbs = x.natAbs * 2 ^ k := by
  rw [Int.natAbs_mul, Int.natAbs_pow]
  rfl
def dyCmp (x : Int) (dx : Nat) (y : Int) (dy : Nat) : Int := sgI (dySum x dx (-y) dy).1
def dyMin (x : Int) (dx : Nat) (y : Int) (dy : Nat) : Int × Nat := if 0 < dyCmp x dx y dy then (y, dy) else (x, dx)
def dyMax (x : Int) (dx : Nat) (y : Int) (dy : Nat) : Int × Nat := if dyCmp x dx y dy < 0 then (y, dy) else (x, dx)
theorem DyR.bound {w : World} {lo hi d : Nat} {v : Value} {x : Int} (h : DyR w lo hi v x d) : d ≤ 65536 ∧ (d ≠ 0 → x % 2 = 1) := by
  obtain ⟨A, c, e, h1, h2, h3, h4, h5, h6⟩ := h
  exact ⟨h5, h6⟩
def dyShift (x : Int) (d : Nat) (n : Int) : Int × Nat :=
  if max (-65536) (min n 65536) < 0 then nf x (d + (-(max (-65536) (min n 65536))).toNat) else nf (x * 2 ^ (max (-65536) (min n 65536)).toNat) d
def dyFloor (x : Int) (d den : Nat) : Int × Nat := if d ≤ den then (x, d) else nf (x / 2 ^ (d - den)) den
def itRel (a : List Nat) (w : World) (mv i : Value) (wr : World) : Prop :=
  ∃ k mm : Nat, k ≤ a.length ∧ i = .int .i64 ((k : Int) - 1) ∧ mv = .int .u64 (mm : Int) ∧ mm = wval (a.drop k) ∧ w = wr
theorem it_or {mm x : Nat} (hm : mm < 4294967296) (hx : x < 4294967296) : bits .or .u64 ((mm : Int) * 4294967296) (x : Int) = ((x + 4294967296 * mm : Nat) : Int) := by
  have h := or_low (c := x) (x := mm) (s := 32) (by omega) hm (by omega)
  rw [show x + 4294967296 * mm = x + mm * 2 ^ 32 by omega, ← h]
  have e : ((mm : Int) * 4294967296) = ((mm * 2 ^ 32 : Nat) : Int) := by simp
  rw [e, bits_or_u64_nat _ _ (by omega) (by omega), bits_or_u64_nat _ _ (by omega) (by omega), Nat.or_comm]
end Go.Proofs.YtfooonellkgaeaaDoor
namespace Go.Proofs.YtfooonellkgaeaaDoor
open Go.RowKit
theorem ptrim_any (A : Option Addr) (ws : List Nat) (c m : Nat) (w : World) (h : CellsAt w m A (w32 ws)) (hc : ws.length ≤ c) (hl : ws.length ≤ 1000000) :
    Calls Tryd.prog 99 #[.slice A ws.length c] w fun e w' => e = .returned (.slice A (trimL ws).length c) ∧ w = w' := by
  have H := Lib.hid h
  clear h
  go_enter Tryd.func99, Tryd.ntmps99
  go_wp2_with fail
  go_loopw [3] (fun i wr => trRel w ws i wr) (fun i _ => (intOf i).toNat)
  case atStart => exact ⟨ws.length, Nat.le_refl _, rfl, rfl, rfl⟩
  case round =>
    obtain ⟨k, hk, rfl, ht, rfl⟩ := hrel
    have HT := Lib.hid ht
    clear ht
    by_cases h0 : k = 0
    · subst h0
      go_wp2_with fail
      go_ret
      refine ⟨?_, rfl⟩
      rw [trimL_len, ← HT.out]
      rfl
    · obtain ⟨j, rfl⟩ := Nat.exists_eq_succ_of_ne_zero h0
      obtain ⟨b, off, z, rfl, hbm, hbs, hx, hcc⟩ := H.out.w32_ (k := j) (by omega)
      have HX := Lib.hid hx
      clear hx
      by_cases hz : z = 0
      · subst hz
        go_wp2_with fail
        have e1 : trimN ws j = trimN ws ws.length := by
          rw [← HT.out]
          show trimN ws j = if ws[j]?.getD 0 = 0 then trimN ws j else j + 1
          rw [if_pos (by rw [HX.out]; rfl)]
        exact ⟨⟨j, by omega, by go_num, e1, rfl⟩, by simp [intOf]; try omega⟩
      · have hz' : ((z : Int) == 0) = false := by simp; omega
        go_wp2_with fail
        go_ret
        refine ⟨?_, rfl⟩
        have e1 : j + 1 = trimN ws ws.length := by
          rw [← HT.out]
          show j + 1 = if ws[j]?.getD 0 = 0 then trimN ws j else j + 1
          rw [if_neg (by rw [HX.out]; exact hz)]
        rw [trimL_len, ← e1]
        rfl
theorem pvalid_any (neg : Bool) (A : Option Addr) (n den c m : Nat) (w : World) (hm : m ≤ w.heap.size) (h : CellsAt w m A (w32 (canon n))) (hl : (canon n).length ≤ 100000) (ok : DyOk neg n den) :
    Calls Tryd.prog 41 #[.agg #[.bool neg, .slice A (canon n).length c, .int .i64 (den : Int)]] w fun e w' => e = .returned (.bool true) ∧ Below w.heap.size w w' := by
  by_cases h0 : n = 0
  · obtain ⟨rfl, rfl⟩ := ok.zero h0
    subst h0
    rw [canon_zero]
    clear h hl ok
    go_enter Tryd.func41, Tryd.ntmps41
    go_wp2_with fail
    go_ret
    exact ⟨rfl, (Below.refl _ w).alloc (Nat.le_refl _) _⟩
  · have hp := canon_ne h0
    have ht := canon_top h0
    obtain ⟨b, off, z, rfl, q1, q2, hz, g1⟩ := h.w32_ (k := (canon n).length - 1) (by omega)
    have hz0 : ((z : Int) != 0) = true := by
      rw [hz] at ht
      simp at ht
      simp
      omega
    have g0 : w.cell? ⟨b, off, none⟩ = some (.int .u32 ((n % 4294967296 : Nat) : Int)) := by
      obtain ⟨b', off', z', hA, _, _, hz', g'⟩ := h.w32_ (k := 0) hp
      cases hA
      rw [canon_head h0] at hz'
      cases hz'
      exact g'
    obtain ⟨L, hL⟩ : ∃ L, L = (canon n).length - 1 := ⟨_, rfl⟩
    obtain ⟨x, hx⟩ : ∃ x : Nat, x = n % 4294967296 := ⟨_, rfl⟩
    have hlen : (canon n).length = L + 1 := by omega
    have hd := ok.fine
    have ho := ok.odd
    rw [← hx] at g0
    rw [← hL] at g1
    rw [hlen]
    have hl' : L ≤ 100000 := by omega
    have e0 : ((L : Int) + 1 == 0) = false := by simp; omega
    have hodd : den ≠ 0 → (x : Int) % 2 = 1 := fun hne => by have := ho hne; omega
    clear h hl ok ho ht hz hL hx hlen hp h0
    by_cases hden : den = 0
    · subst hden
      clear hodd hd
      go_enter Tryd.func41, Tryd.ntmps41
      go_wp2_with fail
      go_ret
      exact ⟨rfl, (Below.refl _ w).alloc (Nat.le_refl _) _⟩
    · have ho := hodd hden
      have d0 : ((den : Int) == 0) = false := by simp; omega
      have d1 : decide ((den : Int) ≤ 65536) = true := decide_eq_true (by omega)
      clear hodd hden
      go_enter Tryd.func41, Tryd.ntmps41
      go_wp2_with fail
      go_ret
      exact ⟨rfl, (Below.refl _ w).alloc (Nat.le_refl _) _⟩
theorem parts_w {v : Value} {x : Int} {d lo m : Nat} {w : World} (D : DyR w lo m v x d) (hm : m ≤ w.heap.size) (hl : (canon x.natAbs).length ≤ 100000) :
    Calls Tryd.prog 72 #[v] w fun e w' => ∃ nb A L c, v = .agg #[.bool nb, .slice A L c, .int .i64 (d : Int)] ∧ e = .returned (.tuple #[.bool nb, .slice A L c, .int .i64 (d : Int)]) ∧ Below w.heap.size w w' := by
  have hok := dy_ok D.bound.1 D.bound.2
  have D0 := Lib.hid D
  obtain ⟨A, c, rfl, h1, h2, h3, h4, h5, h6⟩ := D
  have H3 := Lib.hid h3
  have HOK := Lib.hid hok
  have HL := Lib.hid hl
  clear h3 hok hl h6 h4
  obtain ⟨nb, hnb⟩ : ∃ nb, nb = decide (x < 0) := ⟨_, rfl⟩
  rw [← hnb] at HOK D0 ⊢
  clear hnb
  have b0 : Below w.heap.size w (w.alloc (.cells #[.bool nb, .slice A (canon x.natAbs).length c, .int .i64 (d : Int)] 27)) := ext_alloc (Below.refl _ _) _
  have r0 := RowD.new_ w [.bool nb, .slice A (canon x.natAbs).length c, .int .i64 (d : Int)] 27
  go_enter Tryd.func72, Tryd.ntmps72
  go_wp2_with fail
  go_at_call 41
  refine (pvalid_any nb A x.natAbs d c m _ (by simp; omega) (H3.out.below b0 hm) HL.out HOK.out).mono ?_
  rintro e w1 ⟨rfl, hb⟩
  have s0 := r0.below hb (by simp)
  have b1 := b0.trans (hb.mono (by simp))
  have k0 : w1.cell? ⟨w.heap.size, 0, none⟩ = some (.bool nb) := s0.cell 0
  have k1 : w1.cell? ⟨w.heap.size, 1, none⟩ = some (.slice A (canon x.natAbs).length c) := s0.cell 1
  have k2 : w1.cell? ⟨w.heap.size, 2, none⟩ = some (.int .i64 (d : Int)) := s0.cell 2
  clear hb r0 b0 s0
  go_wp2_with fail
  go_quiet (fail)
  go_wp2_with fail
  refine bodyPost_ret (v := .tuple #[.bool nb, .slice A (canon x.natAbs).length c, .int .i64 (d : Int)]) (by simp [results, Tryd.results72, go_sem]) rfl ⟨nb, A, _, c, rfl, rfl, below_drewN b1 _⟩
theorem psign_w {v : Value} {x : Int} {d lo m : Nat} {w : World} (D : DyR w lo m v x d) (hm : m ≤ w.heap.size) (hl : (canon x.natAbs).length ≤ 100000) :
    Calls Tryd.prog 63 #[v] w fun e w' => e = .returned (.int .i64 (sgI x)) ∧ Below w.heap.size w w' := by
  obtain ⟨nb, A, L, c, rfl, HD⟩ := D.form
  have D0 := Lib.hid D
  have b0 : Below w.heap.size w (w.alloc (.cells #[.bool nb, .slice A L c, .int .i64 (d : Int)] 27)) := ext_alloc (Below.refl _ _) _
  clear D
  by_cases hx : x = 0
  · have hL : (L : Int) = 0 := by have := HD.out.2.1; rw [hx] at this; simp [canon_zero] at this; omega
    have hLb : ((L : Int) == 0) = true := by rw [hL]; rfl
    have HV := Lib.hid (show sgI x = 0 by unfold sgI; rw [if_pos hx])
    have HL := Lib.hid hL
    clear hL hx
    go_enter Tryd.func63, Tryd.ntmps63
    go_wp2_with fail
    go_at_call 72
    refine (parts_w (D0.out.below b0 hm) (by simp; omega) hl).mono ?_
    rintro e w1 ⟨nb', A', L', c', he, rfl, hb⟩
    cases he
    go_wp2_with fail
    go_ret
    exact ⟨by rw [HV.out]; rfl, b0.trans (hb.mono (by simp))⟩
  · have hL : (L : Int) ≠ 0 := by have := HD.out.2.1; have h2 := canon_ne (n := x.natAbs) (by omega); omega
    have hLb : ((L : Int) == 0) = false := by rw [beq_eq_false_iff_ne]; exact hL
    have hnb := HD.out.1
    cases nb with
    | true =>
      have hx2 : x < 0 := by simpa using hnb.symm
      have HV := Lib.hid (show sgI x = -1 by unfold sgI; rw [if_neg hx, if_pos hx2])
      clear hL hx hnb hx2
      go_enter Tryd.func63, Tryd.ntmps63
      go_wp2_with fail
      go_at_call 72
      refine (parts_w (D0.out.below b0 hm) (by simp; omega) hl).mono ?_
      rintro e w1 ⟨nb', A', L', c', he, rfl, hb⟩
      cases he
      go_wp2_with fail
      go_ret
      exact ⟨by rw [HV.out]; rfl, b0.trans (hb.mono (by simp))⟩
    | false =>
      have hx2 : ¬ x < 0 := by simpa using hnb.symm
      have HV := Lib.hid (show sgI x = 1 by unfold sgI; rw [if_neg hx, if_neg hx2])
      clear hL hx hnb hx2
      go_enter Tryd.func63, Tryd.ntmps63
      go_wp2_with fail
      go_at_call 72
      refine (parts_w (D0.out.below b0 hm) (by simp; omega) hl).mono ?_
      rintro e w1 ⟨nb', A', L', c', he, rfl, hb⟩
      cases he
      go_wp2_with fail
      go_ret
      exact ⟨by rw [HV.out]; rfl, b0.trans (hb.mono (by simp))⟩
end Go.Proofs.YtfooonellkgaeaaDoor
namespace Go.Proofs.YtfooonellkgaeaaDoor
open Go.RowKit
def tzTab : List Int := [0, 1, 28, 2, 29, 14, 24, 3, 30, 22, 20, 15, 25, 17, 4, 8, 31, 27, 13, 23, 21, 19, 16, 7, 26, 12, 18, 6, 11, 5, 10, 9]
def TabAt (w : World) : Prop := 0 < w.heap.size ∧ ∀ j z, tzTab[j]? = some z → w.cell? ⟨0, j, none⟩ = some (.int .u8 z)
theorem TabAt.below {w w' : World} {B : Nat} (h : TabAt w) (hb : Below B w w') (hB : 0 < B) : TabAt w' :=
  ⟨Nat.lt_of_lt_of_le h.1 hb.size, fun j z hz => (hb.cell (p := ⟨0, j, none⟩) hB).trans (h.2 j z hz)⟩
theorem TabAt.call {w w' : World} (h : TabAt w) (hb : Below w.heap.size w w') : TabAt w' := h.below hb h.1
theorem tz_tab : ∀ k : Nat, k < 32 → tzTab[(2 ^ k * 125613361 % 4294967296) / 134217728]? = some (k : Int) := by decide
theorem low_bit : ∀ (n : Nat) {x : Nat}, 0 < x → x < 2 ^ n → ∃ k, k < n ∧ x % 2 ^ k = 0 ∧ x / 2 ^ k % 2 = 1
  | 0, x, h, h2 => by simp at h2; omega
  | n + 1, x, h, h2 => by
    by_cases hx : x % 2 = 1
    · exact ⟨0, by omega, Nat.mod_one _, by simpa using hx⟩
    · obtain ⟨k, hk, h3, h4⟩ := low_bit n (x := x / 2) (by omega) (by rw [Nat.pow_succ] at h2; omega)
      refine ⟨k + 1, by omega, ?_, ?_⟩
      · rw [Nat.pow_succ', Nat.mod_mul]
        omega
      · rw [Nat.pow_succ', ← Nat.div_div_eq_div_mul]
        exact h4
theorem and_neg {n k x : Nat} (hk : k < n) (hx : x < 2 ^ n) (h1 : x % 2 ^ k = 0) (h2 : x / 2 ^ k % 2 = 1) : x &&& (2 ^ n - x) = 2 ^ k := by
  have hp := Nat.two_pow_pos k
  have e0 := Nat.div_add_mod x (2 ^ k)
  have hx0 : 0 < x := by
    rcases Nat.eq_zero_or_pos x with h | h
    · rw [h] at h2; simp at h2
    · exact h
  have e : 2 ^ n - x = 2 ^ n - ((x - 1) + 1) := by omega
  rw [e]
  apply Nat.eq_of_testBit_eq
  intro i
  rw [Nat.testBit_and, Nat.testBit_two_pow_sub_succ (by omega), Nat.testBit_two_pow]
  have hdiv : ∀ y, y.testBit i = decide (y / 2 ^ i % 2 = 1) := fun y => by rw [Nat.testBit_eq_decide_div_mod_eq]
  rw [hdiv, hdiv]
  rcases Nat.lt_trichotomy i k with hik | hik | hik
  · have hz : x / 2 ^ i % 2 = 0 := by
      have es : 2 ^ k = 2 ^ i * (2 * 2 ^ (k - i - 1)) := by rw [← Nat.pow_succ', ← Nat.pow_add]; congr 1; omega
      have : x = 2 ^ i * (2 * (2 ^ (k - i - 1) * (x / 2 ^ k))) := by
        rw [h1, Nat.add_zero] at e0
        rw [← Nat.mul_assoc 2, ← Nat.mul_assoc, ← es]
        exact e0.symm
      rw [this, Nat.mul_div_cancel_left _ (Nat.two_pow_pos i)]
      omega
    rw [decide_eq_false (show ¬ x / 2 ^ i % 2 = 1 by omega), decide_eq_false (show ¬ k = i by omega)]
    rfl
  · subst hik
    have hq : (x - 1) / 2 ^ i % 2 = 0 := by
      obtain ⟨q, hq1⟩ : ∃ q, x / 2 ^ i = q + 1 := Nat.exists_eq_succ_of_ne_zero (fun h => by rw [h] at h2; simp at h2)
      rw [h1, Nat.add_zero, hq1, Nat.mul_add, Nat.mul_one] at e0
      have hxq : x - 1 = (2 ^ i - 1) + 2 ^ i * q := by
        generalize 2 ^ i * q = r at *
        omega
      rw [hxq, Nat.add_mul_div_left _ _ hp, Nat.div_eq_of_lt (show 2 ^ i - 1 < 2 ^ i by omega), Nat.zero_add]
      omega
    rw [decide_eq_true h2, decide_eq_false (show ¬ (x - 1) / 2 ^ i % 2 = 1 by omega), decide_eq_true hk]
    simp
  · have hq : (x - 1) / 2 ^ i = x / 2 ^ i := by
      have hm : 0 < x % 2 ^ i := by
        rcases Nat.eq_zero_or_pos (x % 2 ^ i) with h | h
        · exfalso
          have es : 2 ^ i = 2 ^ k * (2 * 2 ^ (i - k - 1)) := by rw [← Nat.pow_succ', ← Nat.pow_add]; congr 1; omega
          have e1 := Nat.div_add_mod x (2 ^ i)
          rw [h, Nat.add_zero, es] at e1
          rw [← e1, Nat.mul_assoc, Nat.mul_div_cancel_left _ hp, Nat.mul_assoc] at h2
          omega
        · exact h
      have e1 := Nat.div_add_mod x (2 ^ i)
      have hlt := Nat.mod_lt x (Nat.two_pow_pos i)
      have hxq : x - 1 = (x % 2 ^ i - 1) + 2 ^ i * (x / 2 ^ i) := by omega
      rw [hxq, Nat.add_mul_div_left _ _ (Nat.two_pow_pos i), Nat.div_eq_of_lt (by omega), Nat.zero_add]
    rw [hq, decide_eq_false (show ¬ k = i by omega)]
    by_cases hb : x / 2 ^ i % 2 = 1
    · rw [decide_eq_true hb]; simp
    · rw [decide_eq_false hb]; rfl
theorem bits_and_u32_nat (a b : Nat) (ha : a < 4294967296) (hb : b < 4294967296) : bits .and .u32 (a : Int) (b : Int) = ((a &&& b : Nat) : Int) :=
  (bits_nat .u32 32 (by decide) (fun n h0 h1 => by rw [IntKind.wrap_u32]; omega) a b (by omega) (by omega)).1
theorem tz_any (x k : Nat) (w : World) (hx : x < 4294967296) (hk : k < 32) (h1 : x % 2 ^ k = 0) (h2 : x / 2 ^ k % 2 = 1) (ht : TabAt w) :
    Calls Tryd.prog 110 #[.int .u32 (x : Int)] w fun e w' => e = .returned (.int .i64 (k : Int)) ∧ w = w' := by
  have hx0 : x ≠ 0 := fun h => by rw [h] at h2; simp at h2
  have hxb : ((x : Int) == 0) = false := by rw [beq_eq_false_iff_ne]; omega
  have ha := and_neg (n := 32) hk (by omega) h1 h2
  obtain ⟨p, hp⟩ : ∃ p, p = 2 ^ k := ⟨_, rfl⟩
  have hneg : -(x : Int) % 4294967296 = ((4294967296 - x : Nat) : Int) := by omega
  have hand : bits .and .u32 (x : Int) (-(x : Int) % 4294967296) = (p : Int) := by
    rw [hneg, bits_and_u32_nat x _ hx (by omega), hp]
    exact congrArg _ ha
  obtain ⟨j, hj⟩ : ∃ j, j = (2 ^ k * 125613361 % 4294967296) / 134217728 := ⟨_, rfl⟩
  have hjj : (p : Int) * 125613361 % 4294967296 / 134217728 = (j : Int) := by rw [hj, ← hp]; omega
  have hj0 : j < 32 := by rw [hj]; omega
  have hj32 : (j : Int) < 32 := by omega
  have hc := ht.2 j k (by rw [hj]; exact tz_tab k hk)
  have h0 := ht.1
  have hk32 : (k : Int) < 256 := by omega
  clear h1 h2 ht ha hp hneg hj hk
  go_enter Tryd.func110, Tryd.ntmps110
  go_wp2_with fail
  go_ret
  exact ⟨rfl, rfl⟩
end Go.Proofs.YtfooonellkgaeaaDoor
namespace Go.Proofs.YtfooonellkgaeaaDoor
open Go.RowKit
def TzOf (n z : Nat) : Prop := n % 2 ^ z = 0 ∧ n / 2 ^ z % 2 = 1
theorem pow32_ (k : Nat) : 2 ^ (32 * k) = 4294967296 ^ k := by rw [Nat.pow_mul]
theorem zr_hit {a : List Nat} {k t x : Nat} (h : wordsOk a) (h0 : wval (a.take k) = 0) (hx : a[k]?.getD 0 = x) (ht : t < 32) (h1 : x % 2 ^ t = 0) (h2 : x / 2 ^ t % 2 = 1) : TzOf (wval a) (32 * k + t) := by
  refine ⟨?_, ?_⟩
  · rw [Nat.pow_add, Nat.mod_mul, pow32_, wval_drop h]
    have e1 : wval a % 4294967296 ^ k = 0 := by
      have e := wval_append (a.take k) (a.drop k)
      rw [List.take_append_drop, h0, Nat.zero_add] at e
      by_cases hk : k ≤ a.length
      · rw [List.length_take, Nat.min_eq_left hk] at e
        rw [e]
        exact Nat.mul_mod_right _ _
      · rw [List.drop_eq_nil_of_le (by omega)] at e
        rw [e]
        simp [wval]
    rw [e1, wval_drop_get, hx]
    have es : (4294967296 : Nat) = 2 ^ t * 2 ^ (32 - t) := by rw [← Nat.pow_add, show t + (32 - t) = 32 by omega]
    rw [es, Nat.mul_assoc, Nat.add_mul_mod_self_left, h1]
    simp
  · rw [wval_bit h, show (32 * k + t) / 32 = k by omega, show (32 * k + t) % 32 = t by omega, hx]
    exact h2
theorem tzOf_ne {n z : Nat} (h : TzOf n z) : n ≠ 0 := fun h0 => by
  have := h.2
  rw [h0] at this
  simp at this
def zrRel (a : List Nat) (w : World) (i : Value) (wr : World) : Prop := ∃ k : Nat, k ≤ a.length ∧ i = .int .i64 (k : Int) ∧ wval (a.take k) = 0 ∧ w = wr
theorem zeros_any (A : Option Addr) (n c m : Nat) (w : World) (hm : m ≤ w.heap.size) (h : CellsAt w m A (w32 (canon n))) (hl : (canon n).length ≤ 100000) (ht : TabAt w) :
    Calls Tryd.prog 100 #[.slice A (canon n).length c] w fun e w' => (∃ z : Nat, e = .returned (.int .i64 (z : Int)) ∧ (n = 0 → z = 1099511627776) ∧ (n ≠ 0 → TzOf n z ∧ z ≤ 3200000)) ∧ w = w' := by
  have H := Lib.hid h
  have HT := Lib.hid ht
  clear h ht
  go_enter Tryd.func100, Tryd.ntmps100
  go_wp2_with fail
  go_loopw [7] (fun i wr => zrRel (canon n) w i wr) (fun i _ => (canon n).length - (intOf i).toNat)
  case atStart => exact ⟨0, Nat.zero_le _, rfl, rfl, rfl⟩
  case round =>
    obtain ⟨k, hk, rfl, h0, rfl⟩ := hrel
    have H0 := Lib.hid h0
    clear h0
    by_cases hlt : k < (canon n).length
    · obtain ⟨b1, o1, x, rfl, q1, q2, hx, g1⟩ := H.out.w32_ hlt
      have bx := canon_ok n x (List.mem_of_getElem? hx)
      have HX := Lib.hid (show (canon n)[k]?.getD 0 = x by rw [hx]; rfl)
      have ka' : (k : Int) < ((canon n).length : Int) := by omega
      have HXX := Lib.hid hx
      clear hx
      by_cases hz : x = 0
      · subst hz
        go_wp2_with fail
        refine ⟨⟨k + 1, by omega, by go_num, ?_, rfl⟩, by simp [intOf]; try omega⟩
        rw [wval_take_succ, H0.out, HX.out]
        simp
      · obtain ⟨t, ht, h1, h2⟩ := low_bit 32 (x := x) (by omega) (by omega)
        have hz' : ((x : Int) != 0) = true := by simp; omega
        have H1 := Lib.hid h1
        have H2 := Lib.hid h2
        clear h1 h2
        go_wp2_with (go_at_call 110; refine (tz_any x t w bx ht H1.out H2.out HT.out).mono ?_; rintro e w1 ⟨rfl, rfl⟩)
        go_ret
        have hhit := zr_hit (canon_ok n) H0.out HX.out ht H1.out H2.out
        rw [wval_canon] at hhit
        refine ⟨⟨32 * k + t, ?_, fun hn => absurd hn (tzOf_ne hhit), fun _ => ⟨hhit, by omega⟩⟩, rfl⟩
        have : ((32 * k + t : Nat) : Int) = 32 * (k : Int) + (t : Int) := by omega
        rw [this]
        rfl
    · have hle : ¬ (k : Int) < ((canon n).length : Int) := by omega
      go_wp2_with fail
      go_ret
      refine ⟨⟨1099511627776, rfl, fun _ => rfl, fun hn => ?_⟩, rfl⟩
      exfalso
      have := H0.out
      rw [List.take_of_length_le (by omega), wval_canon] at this
      exact hn this
end Go.Proofs.YtfooonellkgaeaaDoor
namespace Go.Proofs.YtfooonellkgaeaaDoor
open Go.RowKit
theorem at_any (A : Option Addr) (a : List Nat) (c i m : Nat) (w : World) (h : CellsAt w m A (w32 a)) (hi : i ≤ 1000000) (hl : a.length ≤ 1000000) :
    Calls Tryd.prog 108 #[.slice A a.length c, .int .i64 (i : Int)] w fun e w' => e = .returned (.int .u32 ((a[i]?.getD 0 : Nat) : Int)) ∧ w = w' := by
  by_cases hlt : i < a.length
  · obtain ⟨b1, o1, x, rfl, q1, q2, hx, g1⟩ := h.w32_ hlt
    have hil : (i : Int) < (a.length : Int) := by omega
    have HX := Lib.hid (show a[i]?.getD 0 = x by rw [hx]; rfl)
    clear hx h
    go_enter Tryd.func108, Tryd.ntmps108
    go_wp2_with fail
    go_ret
    exact ⟨by rw [HX.out]; rfl, rfl⟩
  · have hil : ¬ (i : Int) < (a.length : Int) := by omega
    have HX := Lib.hid (show a[i]?.getD 0 = 0 by rw [List.getElem?_eq_none (by omega)]; rfl)
    clear h
    go_enter Tryd.func108, Tryd.ntmps108
    go_wp2_with fail
    go_ret
    exact ⟨by first | rfl | (rw [HX.out]; rfl), rfl⟩
theorem under_nat : Tryd.prog.underlying 98 = some (.slice 82) := by kernel_rfl
theorem OwnW.put {w : World} {base g n c : Nat} {xs : List Nat} (h : OwnW w base (.slice (some ⟨g, 0, none⟩) n c) xs) (hn : n = xs.length) (j z : Nat) : OwnW (w.setCell ⟨g, j, none⟩ (.int .u32 (z : Int))) base (.slice (some ⟨g, 0, none⟩) n c) (xs.set j z) := by
  subst hn
  have e : w32 (xs.set j z) = (w32 xs).set j (.int .u32 (z : Int)) := by simp [w32, List.map_set]
  have h2 : w.ownsRow base 82 1 (.slice (some ⟨g, 0, none⟩) xs.length c) xs.length (w32 xs) := h
  have h3 := (World.ownsRow.stored h2 j (.int .u32 (z : Int))).1
  unfold OwnW
  rw [e, List.length_set]
  exact h3
theorem OwnW.cellA {w : World} {base g n c j z : Nat} {xs : List Nat} (h : OwnW w base (.slice (some ⟨g, 0, none⟩) n c) xs) (hz : xs[j]? = some z) : w.cell? ⟨g, j, none⟩ = some (.int .u32 (z : Int)) := by
  obtain ⟨A', c', he, _, hc⟩ := h.view
  cases he
  have hj : j < xs.length := (List.getElem?_eq_some_iff.1 hz).1
  obtain ⟨b, off, z', hA, _, _, hx, hcc⟩ := hc.w32_ hj
  cases hA
  rw [hz] at hx
  cases hx
  simpa using hcc
theorem OwnW.freeA {w : World} {base g n c : Nat} {xs : List Nat} (h : OwnW w base (.slice (some ⟨g, 0, none⟩) n c) xs) (hn : n = xs.length) (j : Nat) : w.frozen? ⟨g, j, none⟩ = false := by
  subst hn
  have h2 : w.ownsRow base 82 1 (.slice (some ⟨g, 0, none⟩) xs.length c) xs.length (w32 xs) := h
  exact World.ownsRow.frozenAt h2 j
theorem made_w {w2 : World} {base g L : Nat} (h : w2.ownsRow base 82 1 (.slice (some ⟨g, 0, none⟩) L L) L (madeCells (Value.int .u32 0).cells (L * 1)).toList) : OwnW w2 base (.slice (some ⟨g, 0, none⟩) L L) (List.replicate L 0) := by
  have e1 : w32 (List.replicate L 0) = (madeCells (Value.int .u32 0).cells (L * 1)).toList := by
    rw [Nat.mul_one]
    have := toList_madeCells_one (Value.int .u32 0) L
    simp only [w32, List.map_replicate]
    exact this.symm
  unfold OwnW
  rw [e1, List.length_replicate]
  exact h
theorem set_rep {os : List Nat} {k L z : Nat} (hl : os.length = k) (hk : k < L) : (os ++ List.replicate (L - k) 0).set k z = (os ++ [z]) ++ List.replicate (L - (k + 1)) 0 := by
  rw [List.set_append_right _ _ (by omega), hl, Nat.sub_self, show L - k = (L - (k + 1)) + 1 by omega, List.replicate_succ, List.set_cons_zero]
  simp
def prRel (w : World) (a : List Nat) (n q g L : Nat) (i : Value) (wr : World) : Prop :=
  ∃ (k : Nat) (os : List Nat), k ≤ L ∧ i = .int .i64 (k : Int) ∧ OwnW wr w.heap.size (.slice (some ⟨g, 0, none⟩) L L) (os ++ List.replicate (L - k) 0) ∧ os.length = k ∧ wordsOk os ∧ wval os = wval a / 2 ^ n % 4294967296 ^ k ∧ Below w.heap.size w wr
theorem pright_any (A : Option Addr) (a : List Nat) (c n m : Nat) (w : World) (hm : m ≤ w.heap.size) (h1 : CellsAt w m A (w32 a)) (ha : wordsOk a) (l1 : a.length ≤ 100000) (hn : n ≤ 1000000) :
    Calls Tryd.prog 101 #[.slice A a.length c, .int .i64 (n : Int)] w fun e w' =>
      ∃ G g, e = .returned (.slice G (canon (wval a / 2 ^ n)).length g) ∧ (G = none → g = 0) ∧ (canon (wval a / 2 ^ n)).length ≤ g ∧ CellsAt w' w'.heap.size G (w32 (canon (wval a / 2 ^ n))) ∧ Below w.heap.size w w' := by
  have H1 := Lib.hid h1
  have HA := Lib.hid ha
  obtain ⟨q, hq⟩ : ∃ q, q = n / 32 := ⟨_, rfl⟩
  have hqi : (n : Int) / 32 = (q : Int) := by omega
  have HQ := Lib.hid hq
  clear h1 ha
  by_cases hbig : a.length ≤ q
  · have hz : canon (wval a / 2 ^ n) = [] := by
      have hl := wval_lt HA.out
      rw [← pow32_] at hl
      rw [Nat.div_eq_of_lt (Nat.lt_of_lt_of_le hl (Nat.pow_le_pow_right (by decide) (by omega))), canon_zero]
    have HZ := Lib.hid hz
    have hbi : (a.length : Int) ≤ (q : Int) := by omega
    clear hz hq
    go_enter Tryd.func101, Tryd.ntmps101
    go_wp2_with fail
    go_ret
    exact ⟨none, 0, by rw [HZ.out]; rfl, fun _ => rfl, by rw [HZ.out]; exact Nat.le_refl _, by rw [HZ.out]; exact CellsAt.nil_, Below.refl _ _⟩
  · obtain ⟨L, hL⟩ : ∃ L, L = a.length - q := ⟨_, rfl⟩
    have hLi : (a.length : Int) - (q : Int) = (L : Int) := by omega
    have hbi : ¬ (a.length : Int) ≤ (q : Int) := by omega
    have hL6 : L ≤ 100000 := by omega
    have HL := Lib.hid hL
    obtain ⟨i0, hi, hz0, hz1, hz2⟩ := info_parts info_w4
    clear hbig hq hL
    go_enter Tryd.func101, Tryd.ntmps101
    go_wp2_with (with_reducible refine wpList_make_full _ rfl (.tmp 22) (.tmp 22) 98 rfl w.heap.size 82 i0 (.int .u32 0) 1 under_nat hi hz0 hz1 .i64 .i64 _ _ L rfl rfl rfl rfl (by rw [hz2]; omega) (by unfold maxLen; omega) (Nat.le_refl _) ?_; intro w2 hown hg)
    have hst := (Below.refl w.heap.size w).grown hg (Nat.le_refl _) (fun k h => by simp at h)
    have hown2 := made_w hown
    obtain ⟨g, hg1⟩ : ∃ g, g = w.heap.size := ⟨_, rfl⟩
    have hgw := Lib.hid hg1
    rw [← hg1]
    rw [show OwnW w2 w.heap.size (.slice (some ⟨w.heap.size, 0, none⟩) L L) (List.replicate L 0) = OwnW w2 w.heap.size (.slice (some ⟨g, 0, none⟩) L L) (List.replicate L 0) by rw [hg1]] at hown2
    clear hown hg hi hz0 hz1 hz2 hg1
    go_loopw [26] (fun i wr => prRel w a n q g L i wr) (fun i _ => L - (intOf i).toNat)
    case atStart => exact ⟨0, [], Nat.zero_le _, rfl, by simpa using hown2, rfl, by simp [wordsOk], by simp [wval, Nat.mod_one], hst⟩
    case round =>
      as_aux_lemma =>
      obtain ⟨k, os, hk, rfl, hown, hol, hok, hv, hb⟩ := hrel
      have HO := Lib.hid hown
      have HOL := Lib.hid hol
      have HOK := Lib.hid hok
      have HV := Lib.hid hv
      have hsz := hb.size
      have hlen := Lib.hid (show L = (os ++ List.replicate (L - k) 0).length by simp; omega)
      clear hown hol hok hv hown2 hst
      by_cases hlt : k < L
      · as_aux_lemma =>
        obtain ⟨u, hu⟩ : ∃ u, u = q + k := ⟨_, rfl⟩
        have hul : u < a.length := by have := HL.out; omega
        obtain ⟨b1, o1, x, rfl, q1, _, hx, g1'⟩ := H1.out.w32_ hul
        have g1 := (hb.cell (p := ⟨b1, o1 + u, none⟩) (Nat.lt_of_lt_of_le q1 hm)).trans g1'
        have bx := HA.out x (List.mem_of_getElem? hx)
        have HX := Lib.hid (show a[n / 32 + k]?.getD 0 = x by rw [← HQ.out, ← hu, hx]; rfl)
        obtain ⟨y, hy⟩ : ∃ y, y = a[u + 1]?.getD 0 := ⟨_, rfl⟩
        have HYU := Lib.hid hy
        have HY := Lib.hid (show a[n / 32 + k + 1]?.getD 0 = y by rw [← HQ.out, ← hu, hy])
        have by' : y < 4294967296 := by
          rw [hy]
          by_cases hyl : u + 1 < a.length
          · rw [List.getElem?_eq_getElem hyl]; exact HA.out _ (List.getElem_mem hyl)
          · rw [List.getElem?_eq_none (by omega)]; decide
        have w1 : IntKind.i64.wrap ((k : Int) + (q : Int)) = (u : Int) := by rw [IntKind.wrap_i64]; omega
        have w2' : IntKind.i64.wrap ((u : Int) + 1) = ((u + 1 : Nat) : Int) := by rw [IntKind.wrap_i64]; omega
        have w3 : IntKind.u64.wrap ((y : Int) * 4294967296) = (y : Int) * 4294967296 := by rw [IntKind.wrap_u64]; omega
        obtain ⟨s, hs⟩ : ∃ s, s = x + 4294967296 * y := ⟨_, rfl⟩
        have hor : bits .or .u64 ((y : Int) * 4294967296) (x : Int) = (s : Int) := by rw [hs]; exact it_or by' bx
        obtain ⟨z, hzn⟩ : ∃ z : Nat, z = (x + y * 4294967296) / 2 ^ (n % 32) % 4294967296 := ⟨_, rfl⟩
        have hz : ((s : Int) / 2 ^ (n % 32) % 4294967296) = (z : Int) := by rw [hzn, hs, Nat.mul_comm 4294967296 y]; simp
        have HZ := Lib.hid (show z = (a[n / 32 + k]?.getD 0 + a[n / 32 + k + 1]?.getD 0 * 4294967296) / 2 ^ (n % 32) % 4294967296 by rw [HX.out, HY.out]; exact hzn)
        have HZB := Lib.hid (show z < 4294967296 by rw [hzn]; exact Nat.mod_lt _ (by decide))
        have hul' : (u : Int) < (a.length : Int) := by omega
        have hkl' : (k : Int) < (L : Int) := by omega
        have hat := fun nq => at_any (some ⟨b1, o1, none⟩) a c (u + 1) m (wr.drewN nq) (H1.out.below (below_drewN hb nq) hm) (by omega) (by omega)
        rw [← hy] at hat
        have HAT := Lib.hid hat
        have f1 : wr.cell? ⟨g, k, none⟩ = some (.int .u32 0) := by
          have := HO.out.cellA (j := k) (z := 0) (by rw [List.getElem?_append_right (by rw [HOL.out]; omega), HOL.out, Nat.sub_self]; rw [List.getElem?_replicate]; simp; omega)
          simpa using this
        have f2 : ∀ j, wr.frozen? ⟨g, j, none⟩ = false := fun j => HO.out.freeA hlen.out j
        clear hy hx hs hzn hu g1' hat
        go_wp2_with fail
        go_quiet ((go_at_call 108; exact quiet_left (HAT.out _)))
        go_wp2_with fail
        refine ⟨⟨k + 1, os ++ [z], by omega, by go_num, ?_, by rw [List.length_append, HOL.out]; rfl, words_push HOK.out HZB.out, rg_step HA.out HOL.out HV.out HZ.out, ?_⟩, by simp [intOf]; omega⟩
        · have h5 := ((HO.out.drewN nq).put hlen.out k z)
          rw [set_rep HOL.out hlt] at h5
          exact h5
        · exact (below_drewN hb nq).setCell (by have := hgw.out; simp; omega) _
      · as_aux_lemma =>
        have hkL : k = L := by omega
        have hle : ¬ (k : Int) < (L : Int) := by omega
        have hO := HO.out
        rw [hkL, Nat.sub_self, List.replicate_zero, List.append_nil] at hO
        have hol := HOL.out.trans hkL
        have hL6' : os.length ≤ 1000000 := by omega
        have HWV := Lib.hid (rg_end (k := k) HA.out (by have := HQ.out; have := HL.out; omega) HV.out)
        have HGC := Lib.hid hO.cap_.2.2.2
        have hcall := ptrim_any (some ⟨g, 0, none⟩) os os.length wr.heap.size wr HGC.out (Nat.le_refl _) hL6'
        rw [hol] at hcall
        have HCALL := Lib.hid hcall
        clear hkL hol hO hcall
        go_wp2_with (go_at_call 99; refine HCALL.out.mono ?_; rintro e w3 ⟨rfl, rfl⟩)
        go_ret
        have hcan := trim_canon HOK.out
        rw [HWV.out] at hcan
        refine ⟨some ⟨g, 0, none⟩, L, by rw [hcan]; rfl, by simp, ?_, ?_, hb⟩
        · rw [← hcan, trimL_len]
          have := trimN_le os os.length
          have := HOL.out
          omega
        · rw [← hcan]
          exact HGC.out.takeW _
end Go.Proofs.YtfooonellkgaeaaDoor
namespace Go.Proofs.YtfooonellkgaeaaDoor
open Go.RowKit
theorem or_low32 {c l r : Nat} (hc : c < 2 ^ r) (hl : l < 4294967296) (hr : r ≤ 32) (hd : l % 2 ^ r = 0) : bits .or .u32 (c : Int) (l : Int) = ((c + l : Nat) : Int) ∧ c + l < 4294967296 := by
  have hp := Nat.two_pow_pos r
  have e0 := Nat.div_add_mod l (2 ^ r)
  rw [hd, Nat.add_zero] at e0
  have h32 : 2 ^ r * 2 ^ (32 - r) = 4294967296 := by rw [← Nat.pow_add, show r + (32 - r) = 32 by omega]
  have hq : l / 2 ^ r < 2 ^ (32 - r) := (Nat.div_lt_iff_lt_mul hp).2 (by rw [Nat.mul_comm]; omega)
  have hs : c + l < 4294967296 := by
    have h1 : 2 ^ r * (l / 2 ^ r + 1) ≤ 2 ^ r * 2 ^ (32 - r) := Nat.mul_le_mul_left _ hq
    rw [h32, Nat.mul_add, e0] at h1
    omega
  refine ⟨?_, hs⟩
  have hc32 : c < 4294967296 := by omega
  rw [(bits_nat .u32 32 (by decide) (fun n h0 h1 => by rw [IntKind.wrap_u32]; omega) c l (by omega) (by omega)).2]
  have h := Nat.two_pow_add_eq_or_of_lt hc (l / 2 ^ r)
  rw [e0] at h
  rw [Nat.or_comm, ← h, Nat.add_comm]
theorem pl_low {x r : Nat} (hr : r ≤ 32) : (x * 2 ^ r) % 4294967296 % 2 ^ r = 0 := by
  have h32 : (4294967296 : Nat) = 2 ^ r * 2 ^ (32 - r) := by rw [← Nat.pow_add, show r + (32 - r) = 32 by omega]
  rw [h32, Nat.mod_mul_right_mod, Nat.mul_mod_left]
theorem two_sets {pre : List Nat} {u m z c' cy : Nat} (hu : pre.length = u) (hm : 0 < m) : ((pre ++ cy :: List.replicate m 0).set u z).set (u + 1) c' = (pre ++ [z]) ++ c' :: List.replicate (m - 1) 0 := by
  subst hu
  obtain ⟨j, rfl⟩ : ∃ j, m = j + 1 := ⟨m - 1, by omega⟩
  simp [List.set_append, List.replicate_succ]
def plfRel (w : World) (a : List Nat) (q p g L : Nat) (i : Value) (wr : World) : Prop :=
  ∃ (k : Nat) (os : List Nat) (cy : Nat), k ≤ a.length ∧ i = .int .i64 (k : Int) ∧ OwnW wr w.heap.size (.slice (some ⟨g, 0, none⟩) L L) (os ++ cy :: List.replicate (a.length - k) 0) ∧ os.length = q + k ∧ wordsOk os ∧ cy < p ∧
    wval os + 4294967296 ^ (q + k) * cy = wval (a.take k) * (4294967296 ^ q * p) ∧ Below w.heap.size w wr
theorem pleft_any (A : Option Addr) (n0 : Nat) (c n m : Nat) (w : World) (hm : m ≤ w.heap.size) (h1 : CellsAt w m A (w32 (canon n0))) (hcc : A = none → c = 0) (hcap : (canon n0).length ≤ c) (l1 : (canon n0).length ≤ 100000) (hn : n ≤ 1000000) :
    Calls Tryd.prog 73 #[.slice A (canon n0).length c, .int .i64 (n : Int)] w fun e w' =>
      ∃ G g, e = .returned (.slice G (canon (n0 * 2 ^ n)).length g) ∧ (G = none → g = 0) ∧ (canon (n0 * 2 ^ n)).length ≤ g ∧ CellsAt w' w'.heap.size G (w32 (canon (n0 * 2 ^ n))) ∧ Below w.heap.size w w' := by
  by_cases hz : n = 0 ∨ (canon n0).length = 0
  · have he : canon (n0 * 2 ^ n) = canon n0 := by
      rcases hz with h | h
      · rw [h]; simp
      · have : n0 = 0 := by
          rcases Nat.eq_zero_or_pos n0 with h2 | h2
          · exact h2
          · have := canon_ne (n := n0) (by omega); omega
        rw [this]; simp
    have HE := Lib.hid he
    have H1 := Lib.hid h1
    clear he h1
    by_cases hn0 : n = 0
    · subst hn0
      clear hz
      go_enter Tryd.func73, Tryd.ntmps73
      go_wp2_with fail
      go_ret
      exact ⟨A, c, by rw [HE.out]; rfl, hcc, by rw [HE.out]; exact hcap, by rw [HE.out]; exact H1.out.more hm, Below.refl _ _⟩
    · have hlz : (((canon n0).length : Nat) : Int) = 0 := by rcases hz with h | h <;> omega
      have hlb : ((((canon n0).length : Nat) : Int) == 0) = true := by rw [hlz]; rfl
      have hnb : ((n : Int) == 0) = false := by rw [beq_eq_false_iff_ne]; omega
      have HLZ := Lib.hid hlz
      clear hz hlz
      go_enter Tryd.func73, Tryd.ntmps73
      go_wp2_with fail
      go_ret
      exact ⟨A, c, by rw [HE.out]; rfl, hcc, by rw [HE.out]; exact hcap, by rw [HE.out]; exact H1.out.more hm, Below.refl _ _⟩
  · obtain ⟨a, ha'⟩ : ∃ a, a = canon n0 := ⟨_, rfl⟩
    have ha : wordsOk a := by rw [ha']; exact canon_ok n0
    have hv0 : wval a = n0 := by rw [ha', wval_canon]
    rw [← ha'] at h1 hcap l1 hz ⊢
    rw [← hv0]
    have hlb : (((a.length : Nat) : Int) == 0) = false := by rw [beq_eq_false_iff_ne]; omega
    have hnb : ((n : Int) == 0) = false := by rw [beq_eq_false_iff_ne]; omega
    clear hv0 ha' hz
    rw [pow_split n]
    obtain ⟨q, hq⟩ : ∃ q, q = n / 32 := ⟨_, rfl⟩
    obtain ⟨p, hp⟩ : ∃ p, p = 2 ^ (n % 32) := ⟨_, rfl⟩
    have hp0 : 0 < p := by rw [hp]; exact Nat.two_pow_pos _
    have hp32 : p ≤ 2147483648 := by
      rw [hp]
      exact Nat.pow_le_pow_right (n := 2) (by decide) (show n % 32 ≤ 31 by omega)
    rw [← hq, ← hp]
    have HP := Lib.hid hp
    have H1 := Lib.hid h1
    have HA := Lib.hid ha
    have hqi : (n : Int) / 32 = (q : Int) := by omega
    have hq6 : q ≤ 31250 := by omega
    obtain ⟨L, hL⟩ : ∃ L, L = a.length + q + 1 := ⟨_, rfl⟩
    have hLi : (a.length : Int) + (q : Int) + 1 = (L : Int) := by omega
    have hL6 : L ≤ 200000 := by omega
    have HL := Lib.hid hL
    obtain ⟨i0, hi, hz0, hz1, hz2⟩ := info_parts info_w4
    clear h1 ha hp hq hL
    go_enter Tryd.func73, Tryd.ntmps73
    go_wp2_with (with_reducible refine wpList_make_full _ rfl (.tmp 28) (.tmp 28) 98 rfl w.heap.size 82 i0 (.int .u32 0) 1 under_nat hi hz0 hz1 .i64 .i64 _ _ L rfl rfl rfl rfl (by rw [hz2]; omega) (by unfold maxLen; omega) (Nat.le_refl _) ?_; intro w2 hown hg)
    have hst := (Below.refl w.heap.size w).grown hg (Nat.le_refl _) (fun k h => by simp at h)
    have hown2 := made_w hown
    obtain ⟨g, hg1⟩ : ∃ g, g = w.heap.size := ⟨_, rfl⟩
    have hgw := Lib.hid hg1
    rw [← hg1]
    rw [show OwnW w2 w.heap.size (.slice (some ⟨w.heap.size, 0, none⟩) L L) (List.replicate L 0) = OwnW w2 w.heap.size (.slice (some ⟨g, 0, none⟩) L L) (List.replicate L 0) by rw [hg1]] at hown2
    have hinit : List.replicate L 0 = List.replicate q 0 ++ 0 :: List.replicate a.length 0 := by
      rw [HL.out, show a.length + q + 1 = q + (a.length + 1) by omega, ← List.replicate_append_replicate, List.replicate_succ]
    rw [hinit] at hown2
    clear hown hg hi hz0 hz1 hz2 hg1 hinit hLi
    go_loopw [32] (fun i wr => plfRel w a q p g L i wr) (fun i _ => a.length - (intOf i).toNat)
    case atStart => exact ⟨0, List.replicate q 0, 0, Nat.zero_le _, rfl, hown2, by simp, words_zeros q, hp0, by simp [wval_zeros, wval], hst⟩
    case round =>
      as_aux_lemma =>
      obtain ⟨k, os, cy, hk, rfl, hown, hol, hok, hcy, hv, hb⟩ := hrel
      have HO := Lib.hid hown
      have HOL := Lib.hid hol
      have HOK := Lib.hid hok
      have HV := Lib.hid hv
      have HCY := Lib.hid hcy
      have hsz := hb.size
      have hlen := Lib.hid (show L = (os ++ cy :: List.replicate (a.length - k) 0).length by have := HL.out; simp; omega)
      clear hown hol hok hv hown2 hst hcy
      by_cases hlt : k < a.length
      · as_aux_lemma =>
        obtain ⟨u, hu⟩ : ∃ u, u = k + q := ⟨_, rfl⟩
        have huu : (k : Int) + (q : Int) = (u : Int) := by omega
        have HU := Lib.hid hu
        have huL : (u : Int) + 1 < (L : Int) := by have := HL.out; omega
        obtain ⟨b1, o1, x, rfl, q1, _, hx, g1'⟩ := H1.out.w32_ hlt
        have g1 := (hb.cell (p := ⟨b1, o1 + k, none⟩) (Nat.lt_of_lt_of_le q1 hm)).trans g1'
        have bx := HA.out x (List.mem_of_getElem? hx)
        have HX := Lib.hid (show a[k]?.getD 0 = x by rw [hx]; rfl)
        have hr31 : n % 32 ≤ 31 := by omega
        obtain ⟨t, ht⟩ : ∃ t, t = x * p := ⟨_, rfl⟩
        have htb : t < 9223372036854775808 := by
          rw [ht]
          have : x * p ≤ 4294967295 * 2147483648 := Nat.mul_le_mul (by omega) hp32
          omega
        have hT : IntKind.u64.wrap ((x : Int) * 2 ^ (n % 32)) = (t : Int) := by
          have e1 : (x : Int) * 2 ^ (n % 32) = ((x * 2 ^ (n % 32) : Nat) : Int) := by simp
          rw [e1, ← HP.out, ← ht, IntKind.wrap_u64]
          omega
        obtain ⟨lw, hlw⟩ : ∃ lw, lw = t % 4294967296 := ⟨_, rfl⟩
        have hlwi : (t : Int) % 4294967296 = (lw : Int) := by omega
        obtain ⟨c', hc'⟩ : ∃ c', c' = t / 4294967296 := ⟨_, rfl⟩
        have hci : (t : Int) / 4294967296 = (c' : Int) := by omega
        have hcb : c' < 4294967296 := by omega
        have hcp := lf_word HCY.out bx
        have hor := or_low32 (c := cy) (l := lw) (r := n % 32) (by rw [← HP.out]; exact HCY.out) (by omega) (by omega) (by rw [hlw, ht, HP.out]; exact pl_low (by omega))
        have hor1 := hor.1
        obtain ⟨z, hzn⟩ : ∃ z, z = cy + lw := ⟨_, rfl⟩
        rw [← hzn] at hor1
        have HZB := Lib.hid (show z < 4294967296 by rw [hzn]; exact hor.2)
        have HZ := Lib.hid (show z + 4294967296 * c' = cy + x * p by rw [hzn, hlw, hc', ← ht]; omega)
        have HCP := Lib.hid (show c' < p by
          have h5 := HZ.out
          have h6 := HZB.out
          have h7 : (cy + x * p) / 4294967296 = c' := by omega
          rw [← h7]
          exact hcp)
        have f1 : wr.cell? ⟨g, u, none⟩ = some (.int .u32 (cy : Int)) := HO.out.cellA (by rw [List.getElem?_append_right (by rw [HOL.out, hu]; omega), HOL.out, hu, show k + q - (q + k) = 0 by omega]; rfl)
        have f2 : ∀ j, wr.frozen? ⟨g, j, none⟩ = false := fun j => HO.out.freeA hlen.out j
        have f3 : wr.cell? ⟨g, u + 1, none⟩ = some (.int .u32 0) := by
          have := HO.out.cellA (j := u + 1) (z := 0) (by
            rw [List.getElem?_append_right (by rw [HOL.out, hu]; omega), HOL.out, hu, show k + q + 1 - (q + k) = 0 + 1 by omega, List.getElem?_cons_succ, List.getElem?_replicate, if_pos (by omega)])
          simpa using this
        have hgne : g < wr.heap.size := (World.ownsRow.lt HO.out g rfl).2
        have hbg : b1 ≠ g := by have := hgw.out; omega
        clear hx g1' ht hlw hc' hcp hor hzn hu
        go_wp2_with fail
        refine ⟨⟨k + 1, os ++ [z], c', by omega, by go_num, ?_, by rw [List.length_append, HOL.out]; rfl, words_push HOK.out HZB.out, HCP.out, lf_step HOL.out HX.out HV.out HZ.out, ?_⟩, by simp [intOf]; omega⟩
        · have h5 := ((HO.out.put hlen.out u z).put (by rw [List.length_set]; exact hlen.out) (u + 1) c')
          rw [two_sets (by rw [HOL.out, HU.out]; omega) (by omega), show a.length - k - 1 = a.length - (k + 1) by omega] at h5
          exact h5
        · exact (hb.setCell (by have := hgw.out; simp; omega) _).setCell (by have := hgw.out; simp; omega) _
      · as_aux_lemma =>
        have hkL : k = a.length := by omega
        have hle : ¬ (k : Int) < (a.length : Int) := by omega
        have hO := HO.out
        rw [hkL, Nat.sub_self, List.replicate_zero] at hO
        obtain ⟨ws, hws⟩ : ∃ ws, ws = os ++ [cy] := ⟨_, rfl⟩
        rw [← hws] at hO
        have hwl : ws.length = L := by rw [hws, List.length_append, HOL.out, HL.out, hkL]; simp; omega
        have hwok : wordsOk ws := by rw [hws]; exact words_push HOK.out (by have := HCY.out; omega)
        have hwv : wval ws = wval a * (4294967296 ^ q * p) := by
          have hv := HV.out
          rw [List.take_of_length_le (by omega)] at hv
          rw [hws, wval_append, HOL.out, ← hv]
          simp only [wval, Nat.mul_zero, Nat.add_zero]
        have hcall := ptrim_any (some ⟨g, 0, none⟩) ws ws.length wr.heap.size wr hO.cap_.2.2.2 (Nat.le_refl _) (by omega)
        have HGC := Lib.hid hO.cap_.2.2.2
        rw [hwl] at hcall
        have HCALL := Lib.hid hcall
        have HWO := Lib.hid hwok
        have HWV := Lib.hid hwv
        have HWL := Lib.hid hwl
        clear hkL hO hws hwl hwok hwv hcall
        go_wp2_with (go_at_call 99; refine HCALL.out.mono ?_; rintro e w3 ⟨rfl, rfl⟩)
        go_ret
        have hcan := trim_canon HWO.out
        rw [HWV.out] at hcan
        refine ⟨some ⟨g, 0, none⟩, L, by rw [hcan]; rfl, by simp, ?_, ?_, hb⟩
        · rw [← hcan, trimL_len]
          have := trimN_le ws ws.length
          have := HWL.out
          omega
        · rw [← hcan]
          exact HGC.out.takeW _
end Go.Proofs.YtfooonellkgaeaaDoor
namespace Go.Proofs.YtfooonellkgaeaaDoor
open Go.RowKit
theorem append_types {P : Program} {t t2 e e2 : TypeId} (ht : P.underlying t = some (.slice e)) (ht2 : P.underlying t2 = some (.slice e2)) (ty : TypeId) (s x : Value) (w : World) :
    (Builtin.append_ #[t, t2] ty #[s, x]).run P w = (Builtin.append_ #[t, t] ty #[s, x]).run P w := by
  cases s with
  | slice base sl sc => simp [Builtin.append_, run_underlying ht, run_underlying ht2]
  | _ => simp [Builtin.append_, run_underlying ht]
theorem app_nat {w : World} {ops : Array Oper} {rest : List Oper} {o : Oper} {a : Act} {Q : Exit → Act → World → Prop} (hgd : o.guard = none) (s x : Operand)
    (ho : o.op = .call { callee := .builtin .append, args := #[s, x], argTypes := #[25, 98] })
    (base : Nat) (v : Value) (xs ys : List Nat) (A : Option Addr) (c m : Nat) (hs : a.eval s = v) (hown : OwnW w base v xs) (hx : a.eval x = .slice A ys.length c) (hn : A = none → c = 0) (hc : CellsAt w m A (w32 ys))
    (hlen : xs.length + ys.length ≤ 1000000) (hbase : base ≤ w.heap.size)
    (h : ∀ v' w', OwnW w' base v' (xs ++ ys) → Below base w w' → wpList Tryd.prog ops Q rest (a.put o.dst v') w') : wpList Tryd.prog ops Q (o :: rest) a w := by
  obtain ⟨i0, hi, hz0, hz1, hz2⟩ := info_parts info_w
  rcases A with _ | ⟨b, off, l⟩
  · have hy : ys = [] := by
      rcases ys with _ | ⟨y, ys⟩
      · rfl
      · obtain ⟨b, off, hA, _⟩ := hc (by simp [w32])
        cases hA
    subst hy
    have hc0 := hn rfl
    subst hc0
    refine wpList_plain hgd fun K hK => ?_
    have hrun := run_append_owned_none (P := Tryd.prog) (w := w) base 25 o.type 82 i0 1 under_w hi v xs.length (w32 xs) hown
    rw [← append_types under_w under_nat] at hrun
    have hx' : a.eval x = .slice none 0 0 := hx
    unfold Oper.wp
    simp only [execOp, ho, resolve, invoke, builtin, Sem.run_bind, Sem.run_pure, Result.andThen_ok, List.map_toArray, List.map_cons, List.map_nil, hs, hx', hrun]
    exact hK _ _ (h v w (by rw [List.append_nil]; exact hown) (Below.refl _ _))
  · have hcell : ∀ j u, (w32 ys)[j]? = some u → w.cell? ((⟨b, off, l⟩ : Addr).add j) = some u := by
      intro j u hu
      obtain ⟨b', off', hA, _, _, hcc⟩ := hc (fun h0 => by rw [h0] at hu; simp at hu)
      cases hA
      have hu' := hcc j u hu
      rcases j with _ | j
      · simpa [Addr.add] using hu'
      · simpa [Addr.add] using hu'
    have hone : ∀ u ∈ w32 ys, u.oneCell' = true := by
      intro u hu
      obtain ⟨z, _, rfl⟩ := List.mem_map.1 hu
      rfl
    obtain ⟨v', w', hr, h2, h3, h4⟩ := run_append_own (P := Tryd.prog) w base 25 o.type 82 i0 (.int .u32 0) 1 4 under_w hi hz0 hz1 hz2 rfl (by decide) v xs.length (w32 xs) hown ⟨b, off, l⟩ ys.length c (w32 ys) (by simp [w32]) hcell hone (by unfold maxLen; omega) (by omega) hbase
    rw [← append_types under_w under_nat] at hr
    refine wpList_plain hgd fun K hK => ?_
    unfold Oper.wp
    simp only [execOp, ho, resolve, invoke, builtin, Sem.run_bind, Sem.run_pure, Result.andThen_ok, List.map_toArray, List.map_cons, List.map_nil, hs, hx, hr]
    refine hK _ _ (h v' w' ?_ ((Below.refl base w).grown h3 hbase (fun g hg => (World.ownsRow.lt hown g hg).1)))
    have e : w32 (xs ++ ys) = w32 xs ++ w32 ys := by simp [w32]
    unfold OwnW
    rw [e, List.length_append]
    exact h2
theorem compare_any (A B : Option Addr) (a b : Nat) (c1 c2 m : Nat) (w : World) (h1 : CellsAt w m A (w32 (canon a))) (h2 : CellsAt w m B (w32 (canon b))) (l1 : (canon a).length ≤ 100000) (l2 : (canon b).length ≤ 100000) :
    Calls Tryd.prog 65 #[.slice A (canon a).length c1, .slice B (canon b).length c2] w fun e w' => e = .returned (.int .i64 (sgI ((a : Int) - (b : Int)))) ∧ Below w.heap.size w w' := by
  have H1 := Lib.hid h1
  have H2 := Lib.hid h2
  clear h1 h2
  by_cases hl : (canon a).length = (canon b).length
  · have HL := Lib.hid hl
    have e1 : (((canon a).length : Int) != ((canon b).length : Int)) = false := by simp; omega
    clear hl
    go_enter Tryd.func65, Tryd.ntmps65
    go_wp2_with fail
    go_loopw [5] (fun i wr => lsRel w (canon a) (canon b) i wr) (fun i _ => (intOf i + 1).toNat)
    case atStart => exact ⟨(canon a).length, 0, Nat.le_refl _, rfl, by rw [List.drop_length, HL.out, List.drop_length], rfl⟩
    case round =>
      as_aux_lemma =>
      obtain ⟨k, nq, hk, rfl, hd, rfl⟩ := hrel
      have HD := Lib.hid hd
      clear hd
      by_cases h0 : k = 0
      · subst h0
        go_wp2_with fail
        go_ret
        refine ⟨?_, below_drewN (Below.refl _ _) _⟩
        have := HD.out
        simp at this
        have hab : a = b := by rw [← wval_canon a, ← wval_canon b, this]
        subst hab
        have : sgI ((a : Int) - (a : Int)) = 0 := by rw [Int.sub_self]; rfl
        rw [this]
        rfl
      · obtain ⟨j, rfl⟩ := Nat.exists_eq_succ_of_ne_zero h0
        obtain ⟨b1, o1, x, rfl, _, _, hx, g1⟩ := H1.out.w32_ (k := j) (by omega)
        obtain ⟨b2, o2, y, rfl, _, _, hy, g2⟩ := H2.out.w32_ (k := j) (by have := HL.out; omega)
        have HX := Lib.hid hx
        have HY := Lib.hid hy
        have hj : ((j.succ : Nat) : Int) - 1 = (j : Int) := by omega
        have hja : (j : Int) < ((canon a).length : Int) := by omega
        have hjb : (j : Int) < ((canon b).length : Int) := by have := HL.out; omega
        rw [hj]
        clear hx hy h0
        by_cases hxy : x = y
        · subst hxy
          have e2 : ((x : Int) != (x : Int)) = false := by simp
          go_wp2_with fail
          go_quiet (fail)
          go_wp2_with fail
          exact ⟨⟨j, _, by omega, by go_num, drop_step HX.out HY.out HD.out, rfl⟩, by simp [intOf]; try omega⟩
        · have e2 : ((x : Int) != (y : Int)) = true := by simp; omega
          have hla := less_at (canon_ok a) (canon_ok b) HX.out HY.out HD.out hxy
          rw [wval_canon, wval_canon] at hla
          by_cases hlt : x < y
          · have e3 : decide ((x : Int) < (y : Int)) = true := decide_eq_true (by omega)
            have hab : a < b := by rw [decide_eq_true hlt] at hla; simpa using hla
            have HV := Lib.hid (show sgI ((a : Int) - (b : Int)) = -1 by unfold sgI; rw [if_neg (by omega), if_pos (by omega)])
            clear hla hab hxy
            go_wp2_with fail
            go_quiet (fail)
            go_wp2_with fail
            go_quiet (fail)
            go_wp2_with fail
            go_ret
            exact ⟨by rw [HV.out]; rfl, by repeat (first | exact Below.refl _ _ | refine ext_drewN ?_ _)⟩
          · have e3 : decide ((x : Int) < (y : Int)) = false := decide_eq_false (by omega)
            have hab : ¬ a < b := by rw [decide_eq_false hlt] at hla; simpa using hla
            have hba : b < a := by
              rcases Nat.lt_or_ge b a with h | h
              · exact h
              · exfalso
                have : a = b := by omega
                subst this
                have := HX.out.symm.trans HY.out
                simp at this
                exact hxy this
            have HV := Lib.hid (show sgI ((a : Int) - (b : Int)) = 1 by unfold sgI; rw [if_neg (by omega), if_neg (by omega)])
            clear hla hab hba hxy
            go_wp2_with fail
            go_quiet (fail)
            go_wp2_with fail
            go_quiet (fail)
            go_wp2_with fail
            go_ret
            exact ⟨by rw [HV.out]; rfl, by repeat (first | exact Below.refl _ _ | refine ext_drewN ?_ _)⟩
  · have e1 : (((canon a).length : Int) != ((canon b).length : Int)) = true := by simp; omega
    by_cases hlt : (canon a).length < (canon b).length
    · have hli : ((canon a).length : Int) < ((canon b).length : Int) := by omega
      have hab : a < b := by
        rcases Nat.lt_or_ge a b with h | h
        · exact h
        · have := canon_len_mono h; omega
      have HV := Lib.hid (show sgI ((a : Int) - (b : Int)) = -1 by unfold sgI; rw [if_neg (by omega), if_pos (by omega)])
      clear hab hl hlt
      go_enter Tryd.func65, Tryd.ntmps65
      go_wp2_with fail
      go_ret
      exact ⟨by rw [HV.out]; rfl, Below.refl _ _⟩
    · have hli : ¬ ((canon a).length : Int) < ((canon b).length : Int) := by omega
      have hab : b < a := by
        rcases Nat.lt_or_ge b a with h | h
        · exact h
        · have := canon_len_mono h; omega
      have HV := Lib.hid (show sgI ((a : Int) - (b : Int)) = 1 by unfold sgI; rw [if_neg (by omega), if_neg (by omega)])
      clear hab hl hlt
      go_enter Tryd.func65, Tryd.ntmps65
      go_wp2_with fail
      go_ret
      exact ⟨by rw [HV.out]; rfl, Below.refl _ _⟩
end Go.Proofs.YtfooonellkgaeaaDoor
namespace Go.Proofs.YtfooonellkgaeaaDoor
open Go.RowKit
theorem ptrim_w {v : Value} {n m : Nat} {w : World} (h : WdR w m v n) (hl : (canon n).length ≤ 1000000) : Calls Tryd.prog 99 #[v] w fun e w' => e = .returned v ∧ w = w' := by
  obtain ⟨A, c, rfl, h1, h2, h3⟩ := h
  have h := ptrim_any A (canon n) c m w h3 h2 hl
  have e : trimL (canon n) = canon n := by rw [trim_canon (canon_ok n), wval_canon]
  rw [e] at h
  exact h
theorem pright_w {v : Value} {n k m : Nat} {w : World} (h : WdR w m v n) (hm : m ≤ w.heap.size) (hl : (canon n).length ≤ 100000) (hk : k ≤ 1000000) :
    Calls Tryd.prog 101 #[v, .int .i64 (k : Int)] w fun e w' => ∃ v', e = .returned v' ∧ WdR w' w'.heap.size v' (n / 2 ^ k) ∧ Below w.heap.size w w' := by
  obtain ⟨A, c, rfl, h1, h2, h3⟩ := h
  refine (pright_any A (canon n) c k m w hm h3 (canon_ok n) hl hk).mono ?_
  rintro e w' ⟨G, g, rfl, g1, g2, g3, hb⟩
  rw [wval_canon] at g2 g3 ⊢
  exact ⟨_, rfl, ⟨G, g, rfl, g1, g2, g3⟩, hb⟩
theorem pleft_w {v : Value} {n k m : Nat} {w : World} (h : WdR w m v n) (hm : m ≤ w.heap.size) (hl : (canon n).length ≤ 100000) (hk : k ≤ 1000000) :
    Calls Tryd.prog 73 #[v, .int .i64 (k : Int)] w fun e w' => ∃ v', e = .returned v' ∧ WdR w' w'.heap.size v' (n * 2 ^ k) ∧ Below w.heap.size w w' := by
  obtain ⟨A, c, rfl, h1, h2, h3⟩ := h
  refine (pleft_any A n c k m w hm h3 h1 h2 hl hk).mono ?_
  rintro e w' ⟨G, g, rfl, g1, g2, g3, hb⟩
  exact ⟨_, rfl, ⟨G, g, rfl, g1, g2, g3⟩, hb⟩
theorem pcompare_w {v v2 : Value} {a b m : Nat} {w : World} (h : WdR w m v a) (h2 : WdR w m v2 b) (hl : (canon a).length ≤ 100000) (hl2 : (canon b).length ≤ 100000) :
    Calls Tryd.prog 65 #[v, v2] w fun e w' => e = .returned (.int .i64 (sgI ((a : Int) - (b : Int)))) ∧ Below w.heap.size w w' := by
  obtain ⟨A, c, rfl, h1, h1', h3⟩ := h
  obtain ⟨A2, c2, rfl, k1, k1', k3⟩ := h2
  exact compare_any A A2 a b c c2 m w h3 k3 hl hl2
theorem zeros_w {v : Value} {n m : Nat} {w : World} (h : WdR w m v n) (hm : m ≤ w.heap.size) (hl : (canon n).length ≤ 100000) (ht : TabAt w) :
    Calls Tryd.prog 100 #[v] w fun e w' => (∃ z : Nat, e = .returned (.int .i64 (z : Int)) ∧ (n = 0 → z = 1099511627776) ∧ (n ≠ 0 → TzOf n z ∧ z ≤ 3200000)) ∧ w = w' := by
  obtain ⟨A, c, rfl, h1, h2, h3⟩ := h
  exact zeros_any A n c m w hm h3 hl ht
theorem nf_upto {neg : Bool} {n den z : Nat} (hz : n % 2 ^ z = 0) : ∀ k, k ≤ z → k ≤ den → nf (sg neg n) den = nf (sg neg (n / 2 ^ k)) (den - k)
  | 0, _, _ => by simp
  | k + 1, h1, h2 => by
    rw [nf_upto hz k (by omega) (by omega), nf_step (by omega) ?_]
    have e := Nat.div_add_mod n (2 ^ z)
    rw [hz, Nat.add_zero] at e
    have es : 2 ^ z = 2 ^ k * (2 * 2 ^ (z - k - 1)) := by rw [← Nat.pow_succ', ← Nat.pow_add]; congr 1; omega
    rw [← e, es, Nat.mul_assoc, Nat.mul_assoc, Nat.mul_div_cancel_left _ (Nat.two_pow_pos k)]
    omega
theorem nf_tz {neg : Bool} {n den z : Nat} (h : TzOf n z) : nf (sg neg n) den = (sg neg (n / 2 ^ (min z den)), den - min z den) := by
  rw [nf_upto h.1 (min z den) (by omega) (by omega)]
  refine nf_done (fun h0 => ?_)
  have : min z den = z := by omega
  rw [this]
  have := h.2
  unfold sg
  split <;> omega
theorem res_presult {tmps : Array Value} {w : World} {b : Nat} {v0 v1 v2 : Value} (h2 : tmps.getD 6 undef = .pointer (some ⟨b, 0, none⟩)) (hB : RowD w b [v0, v1, v2] 27) :
    (results Tryd.f70 tmps).run Tryd.prog w = .ok (.agg #[v0, v1, v2]) w := by
  have k0 := hB.cell 0
  have k1 := hB.cell 1
  have k2 := hB.cell 2
  simp at k0 k1 k2
  simp at h2
  simp [results, Tryd.results70, go_sem, h2, k0, k1, k2]
theorem al_ (u : World) (o : Obj) : Below u.heap.size u (u.alloc o) := (Below.refl _ u).alloc (Nat.le_refl _) o
theorem presult_v {neg : Bool} {v : Value} {n d m : Nat} {w : World} (h : WdR w m v n) (hm : m ≤ w.heap.size) (hl : (canon n).length ≤ 100000) (hd : d ≤ 65536) (ht : TabAt w) :
    Calls Tryd.prog 70 #[.bool neg, v, .int .i64 (d : Int)] w fun e w' =>
      ∃ v', e = .returned v' ∧ DyR w' w.heap.size w'.heap.size v' (nf (sg neg n) d).1 (nf (sg neg n) d).2 ∧ Below w.heap.size w w' := by
  obtain ⟨A0, L0, c0, rfl⟩ := h.form
  have X := Lib.hid h
  have HT := Lib.hid ht
  clear h ht
  have b0 : Below w.heap.size w (w.alloc (.cells #[.bool false, .slice none 0 0, .int .i64 0] 27)) := ext_alloc (Below.refl _ _) _
  have r0 := RowD.new_ w [.bool false, .slice none 0 0, .int .i64 0] 27
  go_enter Tryd.func70, Tryd.ntmps70
  go_wp2_with fail
  go_at_call 99
  refine (ptrim_w (X.out.below b0 hm) (by omega)).mono ?_
  rintro e w3 ⟨rfl, rfl⟩
  go_wp2_with fail
  go_at_call 100
  refine (zeros_w (X.out.below b0 hm) (by simp; omega) (by omega) (HT.out.call (al_ _ _))).mono ?_
  rintro e w3 ⟨⟨z, rfl, hz1, hz2⟩, rfl⟩
  obtain ⟨k, hk⟩ : ∃ k : Nat, k = min z d := ⟨_, rfl⟩
  have hmin : min (z : Int) (d : Int) = (k : Int) := by omega
  have hkd : k ≤ d := by omega
  have hdk : ¬ (65536 : Int) < (d : Int) - (k : Int) := by omega
  have hdk0 : ¬ (65536 : Int) < (d : Int) := by omega
  have hzz : z ≤ 1099511627776 := by
    by_cases h0 : n = 0
    · have := hz1 h0; omega
    · have := (hz2 h0).2; omega
  have hval : n ≠ 0 → nf (sg neg n) d = (sg neg (n / 2 ^ k), d - k) := fun h0 => by rw [hk]; exact nf_tz (hz2 h0).1
  have hn2 : n ≠ 0 → n / 2 ^ k ≠ 0 := fun h0 h1 => by
    have h3 := (hz2 h0).1
    have h4 : n / 2 ^ z = 0 := by
      have hle : 2 ^ k ≤ 2 ^ z := Nat.pow_le_pow_right (by decide) (by omega)
      have := Nat.lt_of_div_eq_zero (Nat.two_pow_pos k) h1
      exact Nat.div_eq_of_lt (Nat.lt_of_lt_of_le this hle)
    have := h3.2
    rw [h4] at this
    simp at this
  have hk0 : n = 0 → k = d := fun h0 => by have := hz1 h0; omega
  have HVAL := Lib.hid hval
  have HN2 := Lib.hid hn2
  have HK0 := Lib.hid hk0
  clear hz1 hz2 hk hval hn2 hk0
  by_cases hk1 : k = 0
  · as_aux_lemma =>
    have hkp : ¬ 0 < k := by omega
    have hkp' : ¬ (0 : Int) < (k : Int) := by omega
    by_cases hn : n = 0
    · as_aux_lemma =>
      obtain ⟨wv, hwv⟩ : ∃ wv, wv = w.alloc (.cells #[.bool false, .slice none 0 0, .int .i64 0] 27) := ⟨_, rfl⟩
      rw [← hwv]
      have rv : RowD wv w.heap.size [.bool false, .slice none 0 0, .int .i64 0] 27 := by rw [hwv]; exact r0
      have bv : Below w.heap.size w wv := by rw [hwv]; exact b0
      have Y0 := X.out.below bv hm
      clear hwv r0 b0
      have HRES := Lib.hid (show nf (sg neg n) d = (0, 0) by rw [hn, show sg neg 0 = 0 by unfold sg; split <;> rfl]; exact nf_zero d)
      have hL : (L0 : Int) = 0 := by
        obtain ⟨A, c, he, _⟩ := Y0
        cases he
        rw [hn, canon_zero]; rfl
      have hLb : ((L0 : Int) == 0) = true := by rw [hL]; rfl
      have HLZ := Lib.hid hL
      subst hk1
      clear hL hn Y0
      have u1 := rv
      have q0 : wv.cell? ⟨w.heap.size, 0, none⟩ = some (.bool false) := u1.cell 0
      have q1 : wv.cell? ⟨w.heap.size, 1, none⟩ = some (.slice none 0 0) := u1.cell 1
      have q2 : wv.cell? ⟨w.heap.size, 2, none⟩ = some (.int .i64 0) := u1.cell 2
      have qf := u1.free
      have hu1 := u1.lt
      go_wp2_with fail
      refine bodyPost_ret (res_presult rfl (((u1.set_ 0 _).set_ 1 _).set_ 2 _)) rfl ⟨_, rfl, ?_, ((bv.setCell (by simp) _).setCell (by simp) _).setCell (by simp) _⟩
      rw [HRES.out]
      exact DyR.zero_ _ _ _
    · as_aux_lemma =>
      obtain ⟨wv, hwv⟩ : ∃ wv, wv = w.alloc (.cells #[.bool false, .slice none 0 0, .int .i64 0] 27) := ⟨_, rfl⟩
      rw [← hwv]
      have rv : RowD wv w.heap.size [.bool false, .slice none 0 0, .int .i64 0] 27 := by rw [hwv]; exact r0
      have bv : Below w.heap.size w wv := by rw [hwv]; exact b0
      have Y0 := X.out.below bv hm
      clear hwv r0 b0
      obtain ⟨y, hy⟩ : ∃ y, y = n / 2 ^ k := ⟨_, rfl⟩
      have HRES := Lib.hid (show nf (sg neg n) d = (sg neg y, d - k) by rw [HVAL.out hn, hy])
      have HODD := Lib.hid (show d - k ≠ 0 → sg neg y % 2 = 1 by
        have h5 := nf_odd (sg neg n) d
        rw [HRES.out] at h5
        exact h5)
      have HY0 := Lib.hid (show y ≠ 0 by rw [hy]; exact HN2.out hn)
      have hyl : (canon y).length ≤ 100000 := Nat.le_trans (canon_len_mono (by rw [hy]; exact Nat.div_le_self _ _)) hl
      have hyp := canon_ne HY0.out
      have e0 : (((canon y).length : Int) == 0) = false := by rw [beq_eq_false_iff_ne]; omega
      have hyn : y = n := by rw [hy, hk1]; simp
      subst hk1
      rw [← hyn] at Y0
      obtain ⟨A5, c5, he5, g1, g2, g3⟩ := Y0
      cases he5
      have G3 := Lib.hid g3
      obtain ⟨hi5, hhi5⟩ : ∃ hi5, hi5 = m := ⟨_, rfl⟩
      rw [← hhi5] at g3
      clear hy hn hyn hhi5
      go_wp2_with (at_builtin
                   refine app_nat rfl _ _ rfl wv.heap.size _ [] (canon y) A0 c0 hi5 rfl (OwnW.nil_ _ _) rfl g1 g3 (by simp; omega) (Nat.le_refl _) ?_
                   intro v' w4 hown4 hb4
                   rw [List.nil_append] at hown4
                   obtain ⟨A', c', rfl, _, _⟩ := hown4.view
                   have u1 := rv.call hb4
                   have bv4 := bv.trans (hb4.mono (by have := bv.size; omega))
                   have hsv := rv.lt
                   have hsz4 := hb4.size
                   clear hb4
                   have q0 : w4.cell? ⟨w.heap.size, 0, none⟩ = some (.bool false) := u1.cell 0
                   have q1 : w4.cell? ⟨w.heap.size, 1, none⟩ = some (.slice none 0 0) := u1.cell 1
                   have q2 : w4.cell? ⟨w.heap.size, 2, none⟩ = some (.int .i64 0) := u1.cell 2
                   have qf := u1.free
                   have hu1 := u1.lt)
      have hown5 : OwnW (((w4.setCell ⟨w.heap.size, 0, none⟩ (.bool neg)).setCell ⟨w.heap.size, 1, none⟩ (.slice A' (canon y).length c')).setCell ⟨w.heap.size, 2, none⟩ (.int .i64 (d : Int))) wv.heap.size (.slice A' (canon y).length c') (canon y) := ownsRow_setCell_below (ownsRow_setCell_below (ownsRow_setCell_below hown4 (by simp; omega) _) (by simp; omega) _) (by simp; omega) _
      refine bodyPost_ret (res_presult rfl (((u1.set_ 0 _).set_ 1 _).set_ 2 _)) rfl ⟨_, rfl, ?_, ((bv4.setCell (by simp) _).setCell (by simp) _).setCell (by simp) _⟩
      rw [HRES.out]
      obtain ⟨_, hcl, hn', hc'⟩ := hown5.cap_
      refine ⟨A', c', ?_, hn', ?_, ?_, ?_, by show d - 0 ≤ 65536; omega, ?_⟩
      · rw [sg_abs, sg_neg HY0.out]
        have : (d : Int) = ((d - 0 : Nat) : Int) := by omega
        rw [this]
      · rw [sg_abs]; exact hcl
      · rw [sg_abs]; exact hc'
      · intro a ha
        have := (World.ownsRow.lt hown5 a.block (by rw [ha]; rfl)).1
        have := bv.size
        omega
      · intro h
        have h5 := HODD.out h
        exact h5
  · have hkp : 0 < k := by omega
    have hkp' : (0 : Int) < (k : Int) := by omega
    by_cases hn : n = 0
    · as_aux_lemma =>
      have HRES := Lib.hid (show nf (sg neg n) d = (0, 0) by rw [hn, show sg neg 0 = 0 by unfold sg; split <;> rfl]; exact nf_zero d)
      have hkd0 := HK0.out hn
      go_wp2_with fail
      go_at_call 101
      refine (pright_w (X.out.below b0 hm) (by simp; omega) hl (by omega)).mono ?_
      rintro e wv ⟨v5, rfl, Y0, hb5⟩
      have rv := r0.call hb5
      have bv := b0.trans (hb5.mono (by simp))
      clear hb5 r0 b0
      rw [hn, Nat.zero_div] at Y0
      obtain ⟨A5, c5, he5, g1, g2, g3⟩ := Y0
      rw [canon_zero] at he5
      subst he5
      clear hn g1 g2 g3
      have u1 := rv
      have q0 : wv.cell? ⟨w.heap.size, 0, none⟩ = some (.bool false) := u1.cell 0
      have q1 : wv.cell? ⟨w.heap.size, 1, none⟩ = some (.slice none 0 0) := u1.cell 1
      have q2 : wv.cell? ⟨w.heap.size, 2, none⟩ = some (.int .i64 0) := u1.cell 2
      have qf := u1.free
      have hu1 := u1.lt
      go_wp2_with fail
      refine bodyPost_ret (res_presult rfl (((u1.set_ 0 _).set_ 1 _).set_ 2 _)) rfl ⟨_, rfl, ?_, ((bv.setCell (by simp) _).setCell (by simp) _).setCell (by simp) _⟩
      rw [HRES.out]
      exact DyR.zero_ _ _ _
    · as_aux_lemma =>
      obtain ⟨y, hy⟩ : ∃ y, y = n / 2 ^ k := ⟨_, rfl⟩
      have HRES := Lib.hid (show nf (sg neg n) d = (sg neg y, d - k) by rw [HVAL.out hn, hy])
      have HODD := Lib.hid (show d - k ≠ 0 → sg neg y % 2 = 1 by
        have h5 := nf_odd (sg neg n) d
        rw [HRES.out] at h5
        exact h5)
      have HY0 := Lib.hid (show y ≠ 0 by rw [hy]; exact HN2.out hn)
      have hyl : (canon y).length ≤ 100000 := Nat.le_trans (canon_len_mono (by rw [hy]; exact Nat.div_le_self _ _)) hl
      have hyp := canon_ne HY0.out
      have e0 : (((canon y).length : Int) == 0) = false := by rw [beq_eq_false_iff_ne]; omega
      clear hn
      go_wp2_with fail
      go_at_call 101
      refine (pright_w (X.out.below b0 hm) (by simp; omega) hl (by omega)).mono ?_
      rintro e wv ⟨v5, rfl, Y0, hb5⟩
      have rv := r0.call hb5
      have bv := b0.trans (hb5.mono (by simp))
      clear hb5 r0 b0
      rw [← hy] at Y0
      obtain ⟨A5, c5, rfl, g1, g2, g3⟩ := Y0
      obtain ⟨hi5, hhi5⟩ : ∃ hi5, hi5 = wv.heap.size := ⟨_, rfl⟩
      rw [← hhi5] at g3
      clear hy hhi5
      go_wp2_with (at_builtin
                   refine app_nat rfl _ _ rfl wv.heap.size _ [] (canon y) A5 c5 hi5 rfl (OwnW.nil_ _ _) rfl g1 g3 (by simp; omega) (Nat.le_refl _) ?_
                   intro v' w4 hown4 hb4
                   rw [List.nil_append] at hown4
                   obtain ⟨A', c', rfl, _, _⟩ := hown4.view
                   have u1 := rv.call hb4
                   have bv4 := bv.trans (hb4.mono (by have := bv.size; omega))
                   have hsv := rv.lt
                   have hsz4 := hb4.size
                   clear hb4
                   have q0 : w4.cell? ⟨w.heap.size, 0, none⟩ = some (.bool false) := u1.cell 0
                   have q1 : w4.cell? ⟨w.heap.size, 1, none⟩ = some (.slice none 0 0) := u1.cell 1
                   have q2 : w4.cell? ⟨w.heap.size, 2, none⟩ = some (.int .i64 0) := u1.cell 2
                   have qf := u1.free
                   have hu1 := u1.lt)
      have hown5 : OwnW (((w4.setCell ⟨w.heap.size, 0, none⟩ (.bool neg)).setCell ⟨w.heap.size, 1, none⟩ (.slice A' (canon y).length c')).setCell ⟨w.heap.size, 2, none⟩ (.int .i64 ((d : Int) - (k : Int)))) wv.heap.size (.slice A' (canon y).length c') (canon y) := ownsRow_setCell_below (ownsRow_setCell_below (ownsRow_setCell_below hown4 (by simp; omega) _) (by simp; omega) _) (by simp; omega) _
      refine bodyPost_ret (res_presult rfl (((u1.set_ 0 _).set_ 1 _).set_ 2 _)) rfl ⟨_, rfl, ?_, ((bv4.setCell (by simp) _).setCell (by simp) _).setCell (by simp) _⟩
      rw [HRES.out]
      obtain ⟨_, hcl, hn', hc'⟩ := hown5.cap_
      refine ⟨A', c', ?_, hn', ?_, ?_, ?_, by show d - k ≤ 65536; omega, ?_⟩
      · rw [sg_abs, sg_neg HY0.out]
        have : ((d : Int) - (k : Int)) = ((d - k : Nat) : Int) := by omega
        rw [this]
      · rw [sg_abs]; exact hcl
      · rw [sg_abs]; exact hc'
      · intro a ha
        have := (World.ownsRow.lt hown5 a.block (by rw [ha]; rfl)).1
        have := bv.size
        omega
      · intro h
        have h5 := HODD.out h
        exact h5
end Go.Proofs.YtfooonellkgaeaaDoor
namespace Go.Proofs.YtfooonellkgaeaaDoor
open Go.RowKit
theorem nf_mul (m : Int) : ∀ (k d : Nat), nf (m * 2 ^ k) d = if k ≤ d then nf m (d - k) else (m * 2 ^ (k - d), 0)
  | 0, d => by simp
  | k + 1, 0 => rfl
  | k + 1, d + 1 => by
    have e1 : m * 2 ^ (k + 1) = 2 * (m * 2 ^ k) := by rw [Int.pow_succ, ← Int.mul_assoc, Int.mul_comm]
    have h : nf (m * 2 ^ (k + 1)) (d + 1) = nf (m * 2 ^ k) d := by
      rw [e1]
      show (if (2 * (m * 2 ^ k)) % 2 = 0 then nf (2 * (m * 2 ^ k) / 2) d else _) = _
      rw [if_pos (by omega), show 2 * (m * 2 ^ k) / 2 = m * 2 ^ k by omega]
    rw [h, nf_mul m k d]
    by_cases hk : k ≤ d
    · rw [if_pos hk, if_pos (by omega), show d + 1 - (k + 1) = d - k by omega]
    · rw [if_neg hk, if_neg (by omega), show k + 1 - (d + 1) = k - d by omega]
theorem ofUint_any (u : Nat) (w : World) (hu : u < 18446744073709551616) :
    Calls Tryd.prog 71 #[.int .u64 (u : Int)] w fun e w' => ∃ v', e = .returned v' ∧ WdR w' w'.heap.size v' u ∧ Below w.heap.size w w' := by
  obtain ⟨lo, hlo⟩ : ∃ lo : Nat, (u : Int) % 4294967296 = (lo : Int) := ⟨(u % 4294967296 : Nat), by omega⟩
  obtain ⟨hi, hhi⟩ : ∃ hi : Nat, (u : Int) / 4294967296 = (hi : Int) := ⟨(u / 4294967296 : Nat), by omega⟩
  have hib : hi < 4294967296 := by omega
  have lob : lo < 4294967296 := by omega
  have hval : wval [lo, hi] = u := by rw [of_words]; omega
  have HV := Lib.hid hval
  have c0 : CellsAt (w.alloc (.cells #[.int .u32 (lo : Int), .int .u32 (hi : Int)] 82)) (w.heap.size + 1) (some ⟨w.heap.size, 0, none⟩) (w32 [lo, hi]) :=
    (RowD.new_ w (w32 [lo, hi]) 82).cells_ (by omega)
  have C0 := Lib.hid c0
  clear hval c0
  go_enter Tryd.func71, Tryd.ntmps71
  go_wp2_with fail
  go_at_call 99
  refine (ptrim_any (some ⟨w.heap.size, 0, none⟩) [lo, hi] 2 (w.heap.size + 1) _ C0.out (by simp) (by simp)).mono ?_
  rintro e w3 ⟨rfl, rfl⟩
  go_wp2_with fail
  go_ret
  have hcan := trim_canon (of_ok lob hib)
  rw [HV.out] at hcan
  refine ⟨_, rfl, ⟨some ⟨w.heap.size, 0, none⟩, 2, by rw [hcan]; rfl, by simp, ?_, ?_⟩, al_ _ _⟩
  · rw [← hcan, trimL_len]
    exact trimN_le _ _
  · rw [← hcan]
    exact (C0.out.takeW _).more (by simp)
theorem res_pOf {tmps : Array Value} {w : World} {b : Nat} {v0 v1 v2 : Value} (h2 : tmps.getD 2 undef = .pointer (some ⟨b, 0, none⟩)) (hB : RowD w b [v0, v1, v2] 27) :
    (results Tryd.f35 tmps).run Tryd.prog w = .ok (.agg #[v0, v1, v2]) w := by
  have k0 := hB.cell 0
  have k1 := hB.cell 1
  have k2 := hB.cell 2
  simp at k0 k1 k2
  simp at h2
  simp [results, Tryd.results35, go_sem, h2, k0, k1, k2]
theorem pof_any (n : Int) (h1 : -9223372036854775808 ≤ n) (h2 : n < 9223372036854775808) (w : World) (ht : TabAt w) :
    Calls Tryd.prog 35 #[.int .i64 n] w fun e w' => ∃ v', e = .returned v' ∧ DyR w' w.heap.size w'.heap.size v' n 0 ∧ Below w.heap.size w w' := by
  by_cases h : n < 0
  · as_aux_lemma =>
    obtain ⟨u, hu⟩ : ∃ u : Nat, -n = (u : Int) := ⟨(-n).toNat, by omega⟩
    obtain ⟨vv, hvv⟩ : ∃ vv : Nat, n + 18446744073709551616 = (vv : Int) := ⟨(n + 18446744073709551616).toNat, by omega⟩
    have hu1 : IntKind.u64.wrap n = (vv : Int) := by rw [IntKind.wrap_u64]; omega
    have hu2 : IntKind.u64.wrap (-(vv : Int)) = (u : Int) := by rw [IntKind.wrap_u64]; omega
    have hsg : sg true u = n := by unfold sg; simp; omega
    have hub : u < 18446744073709551616 := by omega
    have hcl : (canon u).length ≤ 2 := canon_len_le (by omega)
    have HSG := Lib.hid hsg
    have HT := Lib.hid ht
    clear hsg ht hvv hu
    have b0 : Below w.heap.size w (w.alloc (.cells #[.bool false, .slice none 0 0, .int .i64 0] 27)) := ext_alloc (Below.refl _ _) _
    have r0 := RowD.new_ w [.bool false, .slice none 0 0, .int .i64 0] 27
    go_enter Tryd.func35, Tryd.ntmps35
    go_wp2_with fail
    go_at_call 71
    refine (ofUint_any u _ hub).mono ?_
    rintro e w1 ⟨v1, rfl, Y, hb1⟩
    have r1 := r0.call hb1
    have b1 := b0.trans (hb1.mono (by simp))
    have hw1 := r1.lt
    have HT1 := HT.out.below b1 HT.out.1
    obtain ⟨A1, L1, c1, rfl⟩ := Y.form
    have Y' := Lib.hid Y
    clear hb1 r0 b0 Y
    go_wp2_with fail
    go_at_call 70
    refine (presult_v (d := 0) Y'.out (Nat.le_refl _) (by omega) (by omega) HT1).mono ?_
    rintro e w3 ⟨v', rfl, D3, hb3⟩
    rw [HSG.out] at D3
    have D3 : DyR w3 (w.heap.size + 1) w3.heap.size v' n 0 := D3.low (by omega)
    have u1 := r1.call hb3
    have bv := b1.trans (hb3.mono (by have := b1.size; omega))
    obtain ⟨nb3, A3, L3, c3, rfl, _⟩ := D3.form
    have D3' := Lib.hid D3
    clear D3 hb3 r1 b1
    have q0 : w3.cell? ⟨w.heap.size, 0, none⟩ = some (.bool false) := u1.cell 0
    have q1 : w3.cell? ⟨w.heap.size, 1, none⟩ = some (.slice none 0 0) := u1.cell 1
    have q2 : w3.cell? ⟨w.heap.size, 2, none⟩ = some (.int .i64 0) := u1.cell 2
    have qf := u1.free
    have hu1 := u1.lt
    go_wp2_with fail
    refine bodyPost_ret (res_pOf rfl (((u1.set_ 0 _).set_ 1 _).set_ 2 _)) rfl ⟨_, rfl, ?_, ((bv.setCell (by simp) _).setCell (by simp) _).setCell (by simp) _⟩
    exact ((((D3'.out.set_ (by omega) 0 _).set_ (by omega) 1 _).set_ (by omega) 2 _).low (by omega)).more (by simp)
  · as_aux_lemma =>
    obtain ⟨u, rfl⟩ : ∃ u : Nat, n = (u : Int) := ⟨n.toNat, by omega⟩
    have hsg : sg false u = (u : Int) := by unfold sg; simp
    have hub : u < 18446744073709551616 := by omega
    have hcl : (canon u).length ≤ 2 := canon_len_le (by omega)
    have HSG := Lib.hid hsg
    have HT := Lib.hid ht
    clear hsg ht
    have b0 : Below w.heap.size w (w.alloc (.cells #[.bool false, .slice none 0 0, .int .i64 0] 27)) := ext_alloc (Below.refl _ _) _
    have r0 := RowD.new_ w [.bool false, .slice none 0 0, .int .i64 0] 27
    go_enter Tryd.func35, Tryd.ntmps35
    go_wp2_with fail
    go_at_call 71
    refine (ofUint_any u _ hub).mono ?_
    rintro e w1 ⟨v1, rfl, Y, hb1⟩
    have r1 := r0.call hb1
    have b1 := b0.trans (hb1.mono (by simp))
    have hw1 := r1.lt
    have HT1 := HT.out.below b1 HT.out.1
    obtain ⟨A1, L1, c1, rfl⟩ := Y.form
    have Y' := Lib.hid Y
    clear hb1 r0 b0 Y
    go_wp2_with fail
    go_at_call 70
    refine (presult_v (d := 0) Y'.out (Nat.le_refl _) (by omega) (by omega) HT1).mono ?_
    rintro e w3 ⟨v', rfl, D3, hb3⟩
    rw [HSG.out] at D3
    have D3 : DyR w3 (w.heap.size + 1) w3.heap.size v' (u : Int) 0 := D3.low (by omega)
    have u1 := r1.call hb3
    have bv := b1.trans (hb3.mono (by have := b1.size; omega))
    obtain ⟨nb3, A3, L3, c3, rfl, _⟩ := D3.form
    have D3' := Lib.hid D3
    clear D3 hb3 r1 b1
    have q0 : w3.cell? ⟨w.heap.size, 0, none⟩ = some (.bool false) := u1.cell 0
    have q1 : w3.cell? ⟨w.heap.size, 1, none⟩ = some (.slice none 0 0) := u1.cell 1
    have q2 : w3.cell? ⟨w.heap.size, 2, none⟩ = some (.int .i64 0) := u1.cell 2
    have qf := u1.free
    have hu1 := u1.lt
    go_wp2_with fail
    refine bodyPost_ret (res_pOf rfl (((u1.set_ 0 _).set_ 1 _).set_ 2 _)) rfl ⟨_, rfl, ?_, ((bv.setCell (by simp) _).setCell (by simp) _).setCell (by simp) _⟩
    exact ((((D3'.out.set_ (by omega) 0 _).set_ (by omega) 1 _).set_ (by omega) 2 _).low (by omega)).more (by simp)
end Go.Proofs.YtfooonellkgaeaaDoor
namespace Go.Proofs.YtfooonellkgaeaaDoor
open Go.RowKit
theorem res_pShift {tmps : Array Value} {w : World} {b : Nat} {v0 v1 v2 : Value} (h2 : tmps.getD 4 undef = .pointer (some ⟨b, 0, none⟩)) (hB : RowD w b [v0, v1, v2] 27) :
    (results Tryd.f36 tmps).run Tryd.prog w = .ok (.agg #[v0, v1, v2]) w := by
  have k0 := hB.cell 0
  have k1 := hB.cell 1
  have k2 := hB.cell 2
  simp at k0 k1 k2
  simp at h2
  simp [results, Tryd.results36, go_sem, h2, k0, k1, k2]
theorem pshift_any {v : Value} {x : Int} {d lo m : Nat} {n : Int} {w : World} (D : DyR w lo m v x d) (hm : m ≤ w.heap.size) (hl : (canon x.natAbs).length ≤ 50000) (hd : (d : Int) - max (-65536) (min n 65536) ≤ 65536) (ht : TabAt w) :
    Calls Tryd.prog 36 #[v, .int .i64 n] w fun e w' => ∃ v', e = .returned v' ∧ DyR w' w.heap.size w'.heap.size v' (dyShift x d n).1 (dyShift x d n).2 ∧ Below w.heap.size w w' := by
  obtain ⟨nn, hnn⟩ : ∃ nn : Int, max (-65536) (min n 65536) = nn := ⟨_, rfl⟩
  have hb1 : -65536 ≤ nn := by omega
  have hb2 : nn ≤ 65536 := by omega
  rw [hnn] at hd
  have hdd := D.bound.1
  by_cases hneg : (d : Int) - nn < 0
  · as_aux_lemma =>
    obtain ⟨p, hp⟩ : ∃ p : Nat, -((d : Int) - nn) = (p : Int) := ⟨(nn - d).toNat, by omega⟩
    have HV := Lib.hid (show dyShift x d n = (x * 2 ^ p, 0) by
      unfold dyShift
      rw [hnn, if_neg (by omega)]
      rw [nf_mul, if_neg (by omega)]
      congr 3
      omega)
    have hp6 : p ≤ 1000000 := by omega
    have hlen : (canon (x.natAbs * 2 ^ p)).length ≤ 100000 := by
      have := canon_len_shift x.natAbs p
      omega
    have hpn : (d : Int) - nn < 0 := by omega
    obtain ⟨nb, A, L, c, rfl, HD⟩ := D.form
    have hd6 := D.bound.1
    have D' := Lib.hid D
    have HT := Lib.hid ht
    have HN := Lib.hid hnn
    have b0 : Below w.heap.size w ((w.alloc (.cells #[.bool nb, .slice A L c, .int .i64 (d : Int)] 27)).alloc (.cells #[.bool false, .slice none 0 0, .int .i64 0] 27)) := ext_alloc (ext_alloc (Below.refl _ _) _) _
    have r0 := RowD.new_ (w.alloc (.cells #[.bool nb, .slice A L c, .int .i64 (d : Int)] 27)) [.bool false, .slice none 0 0, .int .i64 0] 27
    rw [show (w.alloc (.cells #[.bool nb, .slice A L c, .int .i64 (d : Int)] 27)).heap.size = w.heap.size + 1 by simp] at r0
    clear D ht
    go_enter Tryd.func36, Tryd.ntmps36
    go_wp2_with fail
    go_at_call 72
    refine (parts_w (D'.out.below b0 hm) (by simp; omega) (by omega)).mono ?_
    rintro e w1 ⟨nb', A', L', c', he, rfl, hb1⟩
    cases he
    have r1 := r0.call hb1
    have b1 := b0.trans (hb1.mono (by simp; omega))
    have hw1 := r1.lt
    have HT1 := HT.out.below b1 HT.out.1
    have X1 := (D'.out.below b1 hm).words
    clear hb1 r0 b0
    go_wp2_with fail
    go_at_call 73
    refine (pleft_w X1 (by omega) (by omega) hp6).mono ?_
    rintro e w2 ⟨v2, rfl, Y, hb2⟩
    have r2 := r1.call hb2
    have b2 := b1.trans (hb2.mono (by omega))
    have HT2 := HT1.call hb2
    obtain ⟨A2, L2, c2, rfl⟩ := Y.form
    have hw2 := r2.lt
    clear hb2 r1 b1 HT1 X1
    go_wp2_with fail
    go_at_call 70
    refine (presult_v (d := 0) Y (Nat.le_refl _) hlen (by omega) HT2).mono ?_
    rintro e w3 ⟨v', rfl, D3, hb3⟩
    rw [show nf (sg nb (x.natAbs * 2 ^ p)) 0 = dyShift x d n by rw [HD.out.1, sg_mul, HV.out]; rfl] at D3
    have r1 := r2
    have b1 := b2
    clear r2 b2
    have u1 := r1.call hb3
    have bv := b1.trans (hb3.mono (by have := b1.size; omega))
    obtain ⟨nb3, A3, L3, c3, rfl, _⟩ := D3.form
    have D3' := Lib.hid D3
    clear D3 hb3 r1 b1
    have q0 : w3.cell? ⟨w.heap.size + 1, 0, none⟩ = some (.bool false) := u1.cell 0
    have q1 : w3.cell? ⟨w.heap.size + 1, 1, none⟩ = some (.slice none 0 0) := u1.cell 1
    have q2 : w3.cell? ⟨w.heap.size + 1, 2, none⟩ = some (.int .i64 0) := u1.cell 2
    have qf := u1.free
    have hu1 := u1.lt
    go_wp2_with fail
    refine bodyPost_ret (res_pShift rfl (((u1.set_ 0 _).set_ 1 _).set_ 2 _)) rfl ⟨_, rfl, ?_, ((bv.setCell (by simp) _).setCell (by simp) _).setCell (by simp) _⟩
    exact ((((D3'.out.set_ (by omega) 0 _).set_ (by omega) 1 _).set_ (by omega) 2 _).low (by omega)).more (by simp)
  · as_aux_lemma =>
    obtain ⟨p, hp⟩ : ∃ p : Nat, (d : Int) - nn = (p : Int) := ⟨(d - nn).toNat, by omega⟩
    have HV := Lib.hid (show dyShift x d n = nf x p by
      unfold dyShift
      rw [hnn]
      by_cases h0 : nn < 0
      · rw [if_pos h0]
        congr 1
        omega
      · rw [if_neg h0, nf_mul, if_pos (by omega)]
        congr 1
        omega)
    have hp6 : p ≤ 65536 := by omega
    have hpn : ¬ (d : Int) - nn < 0 := by omega
    obtain ⟨nb, A, L, c, rfl, HD⟩ := D.form
    have hd6 := D.bound.1
    have D' := Lib.hid D
    have HT := Lib.hid ht
    have HN := Lib.hid hnn
    have b0 : Below w.heap.size w ((w.alloc (.cells #[.bool nb, .slice A L c, .int .i64 (d : Int)] 27)).alloc (.cells #[.bool false, .slice none 0 0, .int .i64 0] 27)) := ext_alloc (ext_alloc (Below.refl _ _) _) _
    have r0 := RowD.new_ (w.alloc (.cells #[.bool nb, .slice A L c, .int .i64 (d : Int)] 27)) [.bool false, .slice none 0 0, .int .i64 0] 27
    rw [show (w.alloc (.cells #[.bool nb, .slice A L c, .int .i64 (d : Int)] 27)).heap.size = w.heap.size + 1 by simp] at r0
    clear D ht
    go_enter Tryd.func36, Tryd.ntmps36
    go_wp2_with fail
    go_at_call 72
    refine (parts_w (D'.out.below b0 hm) (by simp; omega) (by omega)).mono ?_
    rintro e w1 ⟨nb', A', L', c', he, rfl, hb1⟩
    cases he
    have r1 := r0.call hb1
    have b1 := b0.trans (hb1.mono (by simp; omega))
    have hw1 := r1.lt
    have HT1 := HT.out.below b1 HT.out.1
    have X1 := (D'.out.below b1 hm).words
    clear hb1 r0 b0
    go_wp2_with fail
    go_at_call 70
    refine (presult_v (d := p) X1 (by omega) (by omega) hp6 HT1).mono ?_
    rintro e w3 ⟨v', rfl, D3, hb3⟩
    rw [show nf (sg nb x.natAbs) p = dyShift x d n by rw [HD.out.1, sg_back, HV.out]] at D3
    have u1 := r1.call hb3
    have bv := b1.trans (hb3.mono (by have := b1.size; omega))
    obtain ⟨nb3, A3, L3, c3, rfl, _⟩ := D3.form
    have D3' := Lib.hid D3
    clear D3 hb3 r1 b1
    have q0 : w3.cell? ⟨w.heap.size + 1, 0, none⟩ = some (.bool false) := u1.cell 0
    have q1 : w3.cell? ⟨w.heap.size + 1, 1, none⟩ = some (.slice none 0 0) := u1.cell 1
    have q2 : w3.cell? ⟨w.heap.size + 1, 2, none⟩ = some (.int .i64 0) := u1.cell 2
    have qf := u1.free
    have hu1 := u1.lt
    go_wp2_with fail
    refine bodyPost_ret (res_pShift rfl (((u1.set_ 0 _).set_ 1 _).set_ 2 _)) rfl ⟨_, rfl, ?_, ((bv.setCell (by simp) _).setCell (by simp) _).setCell (by simp) _⟩
    exact ((((D3'.out.set_ (by omega) 0 _).set_ (by omega) 1 _).set_ (by omega) 2 _).low (by omega)).more (by simp)
end Go.Proofs.YtfooonellkgaeaaDoor
namespace Go.Proofs.YtfooonellkgaeaaDoor
open Go.RowKit
def pCmp (x : Int) (dx : Nat) (y : Int) (dy : Nat) : Int := sgI (x * 2 ^ (max dx dy - dx) - y * 2 ^ (max dx dy - dy))
theorem sgI_mul (x : Int) (k : Nat) : sgI (x * 2 ^ k) = sgI x := by
  have hp : (0 : Int) < 2 ^ k := Int.pow_pos (by decide)
  unfold sgI
  by_cases h : x = 0
  · subst h; simp
  · have h1 : ¬ x * 2 ^ k = 0 := by
      intro h0
      rcases Int.mul_eq_zero.1 h0 with h2 | h2
      · exact h h2
      · omega
    rw [if_neg h, if_neg h1]
    by_cases h2 : x < 0
    · rw [if_pos h2, if_pos (Int.mul_neg_of_neg_of_pos h2 hp)]
    · have := Int.mul_nonneg (show 0 ≤ x by omega) (Int.le_of_lt hp)
      rw [if_neg h2, if_neg (by omega)]
theorem sgI_lt {x y : Int} (h : sgI x < sgI y) : sgI (x - y) = -1 := by
  have : x < y := by
    unfold sgI at h
    split at h <;> split at h <;> (try split at h) <;> (try split at h) <;> omega
  unfold sgI
  rw [if_neg (by omega), if_pos (by omega)]
theorem sgI_gt {x y : Int} (h : sgI y < sgI x) : sgI (x - y) = 1 := by
  have := sgI_lt h
  have h2 : y < x := by
    unfold sgI at h
    split at h <;> split at h <;> (try split at h) <;> (try split at h) <;> omega
  unfold sgI
  rw [if_neg (by omega), if_neg (by omega)]
theorem sgI_negv (x : Int) : sgI (-x) = -sgI x := by
  unfold sgI
  by_cases h : x = 0
  · subst h; rfl
  · by_cases h2 : x < 0
    · rw [if_neg (by omega), if_neg (by omega), if_neg h, if_pos h2]; rfl
    · rw [if_neg (by omega), if_pos (by omega), if_neg h, if_neg h2]
theorem abs_mul_ (x : Int) (k : Nat) : ((x.natAbs * 2 ^ k : Nat) : Int) = (if x < 0 then -(x * 2 ^ k) else x * 2 ^ k) := by
  have e : ((x.natAbs * 2 ^ k : Nat) : Int) = (x.natAbs : Int) * 2 ^ k := by simp
  rw [e]
  by_cases h : x < 0
  · rw [if_pos h, show (x.natAbs : Int) = -x by omega, Int.neg_mul]
  · rw [if_neg h, show (x.natAbs : Int) = x by omega]
theorem sgI_range (x : Int) : -1 ≤ sgI x ∧ sgI x ≤ 1 := by
  unfold sgI
  split
  · omega
  · split <;> omega
theorem align_w {v v2 : Value} {x y : Int} {dx dy lo1 lo2 m : Nat} {w : World} (D1 : DyR w lo1 m v x dx) (D2 : DyR w lo2 m v2 y dy) (hm : m ≤ w.heap.size) (l1 : (canon x.natAbs).length ≤ 50000) (l2 : (canon y.natAbs).length ≤ 50000) :
    Calls Tryd.prog 64 #[v, v2] w fun e w' => ∃ u1 u2 D, e = .returned (.tuple #[.bool (decide (x < 0)), u1, .bool (decide (y < 0)), u2, .int .i64 (D : Int)]) ∧
      WdR w' w'.heap.size u1 (x.natAbs * 2 ^ (max dx dy - dx)) ∧ WdR w' w'.heap.size u2 (y.natAbs * 2 ^ (max dx dy - dy)) ∧ Below w.heap.size w w' := by
  have hd1 := D1.bound.1
  have hd2 := D2.bound.1
  obtain ⟨nb1, A1, L1, c1, rfl, HD1⟩ := D1.form
  obtain ⟨nb2, A2, L2, c2, rfl, HD2⟩ := D2.form
  have b0 : Below w.heap.size w ((w.alloc (.cells #[.bool nb1, .slice A1 L1 c1, .int .i64 (dx : Int)] 27)).alloc (.cells #[.bool nb2, .slice A2 L2 c2, .int .i64 (dy : Int)] 27)) := ext_alloc (ext_alloc (Below.refl _ _) _) _
  have r0 := (RowD.new_ w [.bool nb1, .slice A1 L1 c1, .int .i64 (dx : Int)] 27).call (al_ _ (.cells #[.bool nb2, .slice A2 L2 c2, .int .i64 (dy : Int)] 27))
  have r1 := RowD.new_ (w.alloc (.cells #[.bool nb1, .slice A1 L1 c1, .int .i64 (dx : Int)] 27)) [.bool nb2, .slice A2 L2 c2, .int .i64 (dy : Int)] 27
  rw [show (w.alloc (.cells #[.bool nb1, .slice A1 L1 c1, .int .i64 (dx : Int)] 27)).heap.size = w.heap.size + 1 by simp] at r1
  have D1' := Lib.hid D1
  have D2' := Lib.hid D2
  obtain ⟨D, hD⟩ : ∃ D : Nat, D = max dx dy := ⟨_, rfl⟩
  have hDD : max (dx : Int) (dy : Int) = (D : Int) := by omega
  obtain ⟨p, hp⟩ : ∃ p : Nat, p = D - dx := ⟨_, rfl⟩
  obtain ⟨q, hq⟩ : ∃ q : Nat, q = D - dy := ⟨_, rfl⟩
  have hpp : (D : Int) - (dx : Int) = (p : Int) := by omega
  have hqq : (D : Int) - (dy : Int) = (q : Int) := by omega
  have hp6 : p ≤ 1000000 := by omega
  have hq6 : q ≤ 1000000 := by omega
  rw [← hD, ← hp, ← hq]
  clear D1 D2 hD hp hq
  go_enter Tryd.func64, Tryd.ntmps64
  go_wp2_with fail
  go_at_call 72
  refine (parts_w (D1'.out.below b0 hm) (by simp; omega) (by omega)).mono ?_
  rintro e w1 ⟨nb', A', L', c', he, rfl, hb1⟩
  cases he
  have s1 := r1.below hb1 (by simp)
  have b1 := b0.trans (hb1.mono (by simp; omega))
  have k0 : w1.cell? ⟨w.heap.size + 1, 0, none⟩ = some (.bool nb2) := s1.cell 0
  have k1 : w1.cell? ⟨w.heap.size + 1, 1, none⟩ = some (.slice A2 L2 c2) := s1.cell 1
  have k2 : w1.cell? ⟨w.heap.size + 1, 2, none⟩ = some (.int .i64 (dy : Int)) := s1.cell 2
  clear hb1 r0 r1 b0
  go_wp2_with fail
  go_at_call 72
  have hs1 := b1.size
  refine (parts_w (D2'.out.below b1 hm) (by omega) (by omega)).mono ?_
  rintro e w2 ⟨nb', A', L', c', he, rfl, hb2⟩
  cases he
  have b2 := b1.trans (hb2.mono hs1)
  have X1 := (D1'.out.below b2 hm).words
  have X2 := Lib.hid (D2'.out.below b2 hm).words
  clear hb2 b1 k0 k1 k2 s1
  go_wp2_with fail
  go_at_call 73
  have hs2 := b2.size
  refine (pleft_w X1 (by omega) (by omega) hp6).mono ?_
  rintro e w3 ⟨v3, rfl, Y1, hb3⟩
  have b3 := b2.trans (hb3.mono hs2)
  have X2' := X2.out.below hb3 (by omega)
  obtain ⟨A3, L3, c3, rfl⟩ := Y1.form
  clear hb3 b2 X1 X2 hs2 hs1
  go_wp2_with fail
  go_at_call 73
  have hs3 := b3.size
  refine (pleft_w X2' (by omega) (by omega) hq6).mono ?_
  rintro e w4 ⟨v4, rfl, Y2, hb4⟩
  obtain ⟨A4, L4, c4, rfl⟩ := Y2.form
  go_wp2_with fail
  refine bodyPost_ret (v := .tuple #[.bool nb1, .slice A3 L3 c3, .bool nb2, .slice A4 L4 c4, .int .i64 (D : Int)]) (by simp [results, Tryd.results64, go_sem]) rfl ⟨.slice A3 L3 c3, .slice A4 L4 c4, D, by rw [HD1.out.1, HD2.out.1], (Y1.below hb4 (Nat.le_refl _)).more hb4.size, Y2, b3.trans (hb4.mono hs3)⟩
theorem pcmp_any {v v2 : Value} {x y : Int} {dx dy lo1 lo2 m : Nat} {w : World} (D1 : DyR w lo1 m v x dx) (D2 : DyR w lo2 m v2 y dy) (hm : m ≤ w.heap.size) (l1 : (canon x.natAbs).length ≤ 50000) (l2 : (canon y.natAbs).length ≤ 50000) :
    Calls Tryd.prog 31 #[v, v2] w fun e w' => e = .returned (.int .i64 (pCmp x dx y dy)) ∧ Below w.heap.size w w' := by
  have hd1 := D1.bound.1
  have hd2 := D2.bound.1
  obtain ⟨nb1, A1, L1, c1, rfl, HD1⟩ := D1.form
  obtain ⟨nb2, A2, L2, c2, rfl, HD2⟩ := D2.form
  have b0 : Below w.heap.size w ((w.alloc (.cells #[.bool nb1, .slice A1 L1 c1, .int .i64 (dx : Int)] 27)).alloc (.cells #[.bool nb2, .slice A2 L2 c2, .int .i64 (dy : Int)] 27)) := ext_alloc (ext_alloc (Below.refl _ _) _) _
  have r0 := (RowD.new_ w [.bool nb1, .slice A1 L1 c1, .int .i64 (dx : Int)] 27).call (al_ _ (.cells #[.bool nb2, .slice A2 L2 c2, .int .i64 (dy : Int)] 27))
  have r1 := RowD.new_ (w.alloc (.cells #[.bool nb1, .slice A1 L1 c1, .int .i64 (dx : Int)] 27)) [.bool nb2, .slice A2 L2 c2, .int .i64 (dy : Int)] 27
  rw [show (w.alloc (.cells #[.bool nb1, .slice A1 L1 c1, .int .i64 (dx : Int)] 27)).heap.size = w.heap.size + 1 by simp] at r1
  have D1' := D1.below b0 hm
  have D2' := D2.below b0 hm
  clear D1 D2
  go_enter Tryd.func31, Tryd.ntmps31
  go_wp2_with fail
  obtain ⟨W, hW⟩ : ∃ W, W = ((w.alloc (.cells #[.bool nb1, .slice A1 L1 c1, .int .i64 (dx : Int)] 27)).alloc (.cells #[.bool nb2, .slice A2 L2 c2, .int .i64 (dy : Int)] 27)) := ⟨_, rfl⟩
  have hWs : W.heap.size = w.heap.size + 2 := by rw [hW]; simp
  rw [← hW]
  rw [← hW] at b0 D1' D2' r0 r1
  clear hW
  have a0 : W.cell? ⟨w.heap.size, 0, none⟩ = some (.bool nb1) := r0.cell 0
  have a1 : W.cell? ⟨w.heap.size, 1, none⟩ = some (.slice A1 L1 c1) := r0.cell 1
  have a2 : W.cell? ⟨w.heap.size, 2, none⟩ = some (.int .i64 (dx : Int)) := r0.cell 2
  have e0 : W.cell? ⟨w.heap.size + 1, 0, none⟩ = some (.bool nb2) := r1.cell 0
  have e1 : W.cell? ⟨w.heap.size + 1, 1, none⟩ = some (.slice A2 L2 c2) := r1.cell 1
  have e2 : W.cell? ⟨w.heap.size + 1, 2, none⟩ = some (.int .i64 (dy : Int)) := r1.cell 2
  have hz : w.heap.size + 2 ≤ W.heap.size := by omega
  have hle : m ≤ w.heap.size + 2 := by omega
  obtain ⟨sx, hsx⟩ : ∃ sx, sx = sgI x := ⟨_, rfl⟩
  obtain ⟨sy, hsy⟩ : ∃ sy, sy = sgI y := ⟨_, rfl⟩
  have HSX := Lib.hid hsx
  have HSY := Lib.hid hsy
  have hrx := sgI_range x
  have hry := sgI_range y
  rw [← hsx] at hrx
  rw [← hsy] at hry
  have hc1 : ∀ u : ExtW W (w.heap.size + 2), Calls Tryd.prog 63 #[.agg #[.bool nb1, .slice A1 L1 c1, .int .i64 (dx : Int)]] u.val fun e w' => e = .returned (.int .i64 sx) ∧ Below u.val.heap.size u.val w' := fun u => by
    rw [hsx]; exact psign_w (D1'.below u.is hle) (Nat.le_trans hle u.fits) (by omega)
  have hc2 : ∀ u : ExtW W (w.heap.size + 2), Calls Tryd.prog 63 #[.agg #[.bool nb2, .slice A2 L2 c2, .int .i64 (dy : Int)]] u.val fun e w' => e = .returned (.int .i64 sy) ∧ Below u.val.heap.size u.val w' := fun u => by
    rw [hsy]; exact psign_w (D2'.below u.is hle) (Nat.le_trans hle u.fits) (by omega)
  have HC1 := Lib.hid hc1
  have HC2 := Lib.hid hc2
  clear hsx hsy hc1 hc2 hWs
  refine wp_region_qext (w.heap.size + 2) hz (by kernel_rfl) (by kernel_rfl) ?_
  intro _
  repeat (go_big_quiet_step ((first
    | (go_at_call_of 63 (Value.agg #[.bool nb1, .slice A1 L1 c1, .int .i64 (dx : Int)]); exact qext_call (HC1.out _))
    | (go_at_call_of 63 (Value.agg #[.bool nb2, .slice A2 L2 c2, .int .i64 (dy : Int)]); exact qext_call (HC2.out _)))))
  refine wpQuiet_nil ?_
  intro w2 hw'
  obtain ⟨⟨_, hb2, hz2⟩, rfl⟩ := hw'
  have s0 := r0.below hb2 (by omega)
  have s1 := r1.below hb2 (by omega)
  have b2 := b0.trans (hb2.mono (by omega))
  replace D1' := D1'.below hb2 hle
  replace D2' := D2'.below hb2 hle
  clear r0 r1 b0 a0 a1 a2 e0 e1 e2 hz hb2 HC1 HC2
  have a0 : w2.cell? ⟨w.heap.size, 0, none⟩ = some (.bool nb1) := s0.cell 0
  have a1 : w2.cell? ⟨w.heap.size, 1, none⟩ = some (.slice A1 L1 c1) := s0.cell 1
  have a2 : w2.cell? ⟨w.heap.size, 2, none⟩ = some (.int .i64 (dx : Int)) := s0.cell 2
  have e0 : w2.cell? ⟨w.heap.size + 1, 0, none⟩ = some (.bool nb2) := s1.cell 0
  have e1 : w2.cell? ⟨w.heap.size + 1, 1, none⟩ = some (.slice A2 L2 c2) := s1.cell 1
  have e2 : w2.cell? ⟨w.heap.size + 1, 2, none⟩ = some (.int .i64 (dy : Int)) := s1.cell 2
  by_cases hne : sx = sy
  · have hnb : (sx != sy) = false := by rw [hne]; simp
    have HNE := Lib.hid hne
    clear hne
    go_wp2_with fail
    go_at_call 64
    refine (align_w D1' D2' (by omega) l1 l2).mono ?_
    rintro e w3 ⟨u1, u2, D, rfl, Y1, Y2, hb3⟩
    have b3 := b2.trans (hb3.mono (by omega))
    obtain ⟨A3, L3, c3, rfl⟩ := Y1.form
    obtain ⟨A4, L4, c4, rfl⟩ := Y2.form
    have hla : (canon (x.natAbs * 2 ^ (max dx dy - dx))).length ≤ 100000 := by
      have := canon_len_shift x.natAbs (max dx dy - dx)
      omega
    have hlb : (canon (y.natAbs * 2 ^ (max dx dy - dy))).length ≤ 100000 := by
      have := canon_len_shift y.natAbs (max dx dy - dy)
      omega
    have HLA := Lib.hid hla
    have HLB := Lib.hid hlb
    have Y1' := Lib.hid Y1
    have Y2' := Lib.hid Y2
    obtain ⟨cv, hcv⟩ : ∃ cv, cv = sgI (((x.natAbs * 2 ^ (max dx dy - dx) : Nat) : Int) - ((y.natAbs * 2 ^ (max dx dy - dy) : Nat) : Int)) := ⟨_, rfl⟩
    have hcr := sgI_range (((x.natAbs * 2 ^ (max dx dy - dx) : Nat) : Int) - ((y.natAbs * 2 ^ (max dx dy - dy) : Nat) : Int))
    rw [← hcv] at hcr
    have HCV := Lib.hid hcv
    have hres : pCmp x dx y dy = if x < 0 then -cv else cv := by
      have hs : (x < 0) ↔ (y < 0) := by
        have h5 := HNE.out
        rw [HSX.out, HSY.out] at h5
        unfold sgI at h5
        constructor <;> intro h6 <;> (repeat (first | split at h5 | omega))
      have hz : (x = 0) ↔ (y = 0) := by
        have h5 := HNE.out
        rw [HSX.out, HSY.out] at h5
        unfold sgI at h5
        constructor <;> intro h6 <;> (repeat (first | split at h5 | omega))
      rw [hcv, abs_mul_, abs_mul_]
      unfold pCmp
      by_cases h : x < 0
      · rw [if_pos h, if_pos h, if_pos (hs.1 h), ← sgI_negv]
        congr 1
        omega
      · rw [if_neg h, if_neg h, if_neg (fun h2 => h (hs.2 h2))]
    have HRES := Lib.hid hres
    clear hla hlb Y1 Y2 hcv hres hb3 b2
    cases hdx : decide (x < 0) with
    | true =>
      have HXN := Lib.hid (show x < 0 by simpa using hdx)
      clear hdx
      go_wp2_with (go_at_call 65; refine (pcompare_w Y1'.out Y2'.out HLA.out HLB.out).mono ?_; rintro e w4 ⟨rfl, hb4⟩; rw [← HCV.out])
      go_ret
      exact ⟨by rw [HRES.out, if_pos HXN.out]; rfl, b3.trans (hb4.mono (by have := b3.size; omega))⟩
    | false =>
      have HXN := Lib.hid (show ¬ x < 0 by simpa using hdx)
      clear hdx
      go_wp2_with (go_at_call 65; refine (pcompare_w Y1'.out Y2'.out HLA.out HLB.out).mono ?_; rintro e w4 ⟨rfl, hb4⟩; rw [← HCV.out])
      go_ret
      exact ⟨by rw [HRES.out, if_neg (by have := HXN.out; omega)]; rfl, b3.trans (hb4.mono (by have := b3.size; omega))⟩
  · have hnb : (sx != sy) = true := by simpa using hne
    by_cases hlt : sx < sy
    · have HV := Lib.hid (show pCmp x dx y dy = -1 by unfold pCmp; refine sgI_lt ?_; rw [sgI_mul, sgI_mul, ← HSX.out, ← HSY.out]; exact hlt)
      have hltb : decide (sx < sy) = true := decide_eq_true hlt
      clear hne
      go_wp2_with fail
      go_ret
      exact ⟨by rw [HV.out]; rfl, b2⟩
    · have HV := Lib.hid (show pCmp x dx y dy = 1 by unfold pCmp; refine sgI_gt ?_; rw [sgI_mul, sgI_mul, ← HSX.out, ← HSY.out]; omega)
      have hltb : decide (sx < sy) = false := decide_eq_false hlt
      clear hne
      go_wp2_with fail
      go_ret
      exact ⟨by rw [HV.out]; rfl, b2⟩
structure Bk where
  kind : Int
  A : Option Addr
  args : List Int
  cap : Nat
  vn : Int
  ve : Int
  un : Int
  ue : Int
def Bk.cells (b : Bk) : List Value := [.int .i64 b.kind, .slice b.A b.args.length b.cap, .int .i64 b.vn, .int .i64 b.ve, .int .i64 b.un, .int .i64 b.ue]
def bk0 : Bk := ⟨0, none, [], 0, 0, 0, 0, 0⟩
def kindAt (bs : List Bk) (i : Nat) : Int := (bs[i]?.getD bk0).kind
def argsAt (bs : List Bk) (i : Nat) : List Int := (bs[i]?.getD bk0).args
def preds (bs : List Bk) (i : Nat) : List Int := if kindAt bs i = 0 then [] else argsAt bs i
def ArgsOk (bs : List Bk) : Prop := ∀ i, i < bs.length → ∀ a ∈ preds bs i, 0 ≤ a ∧ a < bs.length
theorem nd_le : ∀ {l1 l2 : List Nat}, l1.Nodup → (∀ x ∈ l1, x ∈ l2) → l1.length ≤ l2.length
  | [], _, _, _ => Nat.zero_le _
  | x :: l, l2, hn, hs => by
    have hx := hs x (by simp)
    have hn' := List.nodup_cons.1 hn
    have := nd_le (l1 := l) (l2 := l2.erase x) hn'.2 (fun y hy => (List.mem_erase_of_ne (fun h => hn'.1 (by rw [← h]; exact hy))).2 (hs y (by simp [hy])))
    rw [List.length_erase_of_mem hx] at this
    have hp : 0 < l2.length := List.length_pos_of_mem hx
    simp
    omega
/- The order. -/
def doneB (bs : List Bk) (out : List Nat) (j : Nat) : Bool := kindAt bs j == 2 || out.contains j
def rdy (bs : List Bk) (out : List Nat) (i : Nat) : Bool := !doneB bs out i && (preds bs i).all fun a => doneB bs out a.toNat
def nxt (bs : List Bk) (out : List Nat) : Option Nat := (List.range bs.length).find? (rdy bs out)
def ordN (bs : List Bk) : Nat → List Nat → List Nat
  | 0, out => out
  | f + 1, out => match nxt bs out with
    | none => out
    | some i => ordN bs f (out ++ [i])
def nonDel (bs : List Bk) : Nat := ((List.range bs.length).filter fun i => kindAt bs i != 2).length
def ordM (bs : List Bk) : List Nat := ordN bs bs.length []
def delL (bs : List Bk) : List Nat := (List.range bs.length).filter fun i => kindAt bs i == 2
structure OutOk (bs : List Bk) (out : List Nat) : Prop where
  nodup : out.Nodup
  mem : ∀ j ∈ out, j < bs.length ∧ kindAt bs j ≠ 2
theorem nxt_some {bs : List Bk} {out : List Nat} {i : Nat} (h : nxt bs out = some i) : i < bs.length ∧ rdy bs out i = true := by
  have h1 := List.find?_some h
  have h2 := List.mem_of_find?_eq_some h
  exact ⟨by simpa using h2, h1⟩
theorem OutOk.nil (bs : List Bk) : OutOk bs [] := ⟨List.nodup_nil, by simp⟩
theorem OutOk.push {bs : List Bk} {out : List Nat} (h : OutOk bs out) {i : Nat} (hn : nxt bs out = some i) : OutOk bs (out ++ [i]) := by
  obtain ⟨h1, h2⟩ := nxt_some hn
  simp only [rdy, doneB, Bool.and_eq_true, Bool.not_eq_true', Bool.or_eq_false_iff, beq_eq_false_iff_ne] at h2
  refine ⟨List.nodup_append.2 ⟨h.nodup, by simp, fun x hx y hy => ?_⟩, fun j hj => ?_⟩
  · simp at hy
    subst hy
    intro he
    subst he
    have := h2.1.2
    simp [hx] at this
  · rcases List.mem_append.1 hj with hj | hj
    · exact h.mem j hj
    · simp at hj
      subst hj
      exact ⟨h1, h2.1.1⟩
theorem OutOk.le {bs : List Bk} {out : List Nat} (h : OutOk bs out) : out.length ≤ nonDel bs := by
  have hs : out ⊆ (List.range bs.length).filter fun i => kindAt bs i != 2 := fun j hj => by
    have := h.mem j hj
    simp [this.1, this.2]
  exact nd_le h.nodup hs
theorem nonDel_le (bs : List Bk) : nonDel bs ≤ bs.length := by
  unfold nonDel
  have := List.length_filter_le (fun i => kindAt bs i != 2) (List.range bs.length)
  simpa using this
theorem ordN_ok {bs : List Bk} : ∀ (f : Nat) {out : List Nat}, OutOk bs out → OutOk bs (ordN bs f out)
  | 0, _, h => h
  | f + 1, out, h => by
    unfold ordN
    split
    · exact h
    · rename_i i hi
      exact ordN_ok f (h.push hi)
theorem ordN_more {bs : List Bk} : ∀ (f g : Nat) {out : List Nat}, OutOk bs out → nonDel bs - out.length ≤ f → f ≤ g → ordN bs f out = ordN bs g out
  | 0, g, out, h, hf, _ => by
    have hfull : out.length = nonDel bs := by have := h.le; omega
    cases g with
    | zero => rfl
    | succ g =>
      show out = match nxt bs out with | none => out | some i => ordN bs g (out ++ [i])
      cases hn : nxt bs out with
      | none => rfl
      | some i =>
        have := (h.push hn).le
        simp at this
        omega
  | f + 1, 0, _, _, _, hg => by omega
  | f + 1, g + 1, out, h, hf, hg => by
    show (match nxt bs out with | none => out | some i => ordN bs f (out ++ [i])) = match nxt bs out with | none => out | some i => ordN bs g (out ++ [i])
    cases hn : nxt bs out with
    | none => rfl
    | some i => exact ordN_more f g (h.push hn) (by simp; omega) (by omega)
/- What a block depends on. -/
def succs (bs : List Bk) (over : Bool) (i : Nat) : List Int := if kindAt bs i = 2 ∧ over = false then [] else preds bs i
inductive Reach (bs : List Bk) (over : Bool) : Nat → Nat → Prop
  | refl (i : Nat) : Reach bs over i i
  | step {i j : Nat} {a : Int} : Reach bs over i j → a ∈ succs bs over j → Reach bs over i a.toNat
theorem Reach.trans {bs : List Bk} {over : Bool} {i j k : Nat} (h1 : Reach bs over i j) (h2 : Reach bs over j k) : Reach bs over i k := by
  induction h2 with
  | refl => exact h1
  | step _ ha ih => exact Reach.step ih ha
def markL (m : List Bool) : List Nat := (List.range m.length).filter fun i => m[i]?.getD false
theorem marks_eq {m m' : List Bool} (hl : m.length = m'.length) (h : ∀ j, j < m.length → (m[j]?.getD false = true ↔ m'[j]?.getD false = true)) : m = m' := by
  refine List.ext_getElem hl fun j h1 h2 => ?_
  have := h j h1
  rw [List.getElem?_eq_getElem h1, List.getElem?_eq_getElem h2] at this
  simp at this
  cases hm : m[j] <;> cases hm' : m'[j] <;> simp_all
end Go.Proofs.YtfooonellkgaeaaDoor
namespace Go.Proofs.YtfooonellkgaeaaDoor
open Go.RowKit
def isM (m : List Bool) (j : Nat) : Bool := m[j]?.getD false
theorem isM_lt {m : List Bool} {j : Nat} (h : isM m j = true) : j < m.length := by
  unfold isM at h
  rcases Nat.lt_or_ge j m.length with h1 | h1
  · exact h1
  · rw [List.getElem?_eq_none h1] at h
    cases h
theorem isM_set {m : List Bool} {i j : Nat} (hi : i < m.length) : isM (m.set i true) j = (isM m j || i == j) := by
  unfold isM
  rw [List.getElem?_set]
  by_cases h : i = j
  · subst h
    simp [hi]
  · have : (i == j) = false := by simpa using h
    simp [h]
theorem isM_set_mono {m : List Bool} {i j : Nat} (h : isM m j = true) : isM (m.set i true) j = true := by
  by_cases hi : i < m.length
  · rw [isM_set hi, h]; rfl
  · rw [List.set_eq_of_length_le (by omega)]; exact h
def SuccOk (bs : List Bk) : Prop := ∀ i, i < bs.length → ∀ a ∈ preds bs i, 0 ≤ a ∧ a < (bs.length : Int)
theorem succs_preds {bs : List Bk} {over : Bool} {i : Nat} {a : Int} (h : a ∈ succs bs over i) : a ∈ preds bs i := by
  unfold succs at h
  split at h
  · cases h
  · exact h
structure MarkPost (bs : List Bk) (over : Bool) (m : List Bool) (i : Nat) (m' : List Bool) : Prop where
  len : m'.length = m.length
  mono : ∀ j, isM m j = true → isM m' j = true
  self : isM m' i = true
  from_ : ∀ j, isM m' j = true → isM m j = true ∨ Reach bs over i j
  closed : ∀ j, isM m' j = true → isM m j = false → ∀ a ∈ succs bs over j, isM m' a.toNat = true
theorem MarkPost.same {bs : List Bk} {over : Bool} {m : List Bool} {i : Nat} (h : isM m i = true) : MarkPost bs over m i m :=
  ⟨rfl, fun _ h => h, h, fun _ h => .inl h, fun j h1 h2 => by rw [h1] at h2; cases h2⟩
structure MarkMid (bs : List Bk) (over : Bool) (m : List Bool) (i k : Nat) (m' : List Bool) : Prop where
  len : m'.length = m.length
  mono : ∀ j, isM m j = true → isM m' j = true
  self : isM m' i = true
  from_ : ∀ j, isM m' j = true → isM m j = true ∨ Reach bs over i j
  closed : ∀ j, j ≠ i → isM m' j = true → isM m j = false → ∀ a ∈ succs bs over j, isM m' a.toNat = true
  args : ∀ t, t < k → ∀ a, (succs bs over i)[t]? = some a → isM m' a.toNat = true
theorem MarkMid.start {bs : List Bk} {over : Bool} {m : List Bool} {i : Nat} (hi : i < m.length) : MarkMid bs over m i 0 (m.set i true) :=
  ⟨by simp, fun j h => isM_set_mono h, by rw [isM_set hi]; simp, fun j h => by
    rw [isM_set hi] at h
    simp at h
    rcases h with h | h
    · exact .inl h
    · subst h; exact .inr (Reach.refl _), fun j hj h1 h2 => by
    rw [isM_set hi, h2] at h1
    simp at h1
    exact absurd h1.symm hj, fun t ht => by omega⟩
theorem MarkMid.step {bs : List Bk} {over : Bool} {m m' m'' : List Bool} {i k : Nat} {a : Int} (h : MarkMid bs over m i k m') (ha : (succs bs over i)[k]? = some a) (h2 : MarkPost bs over m' a.toNat m'') : MarkMid bs over m i (k + 1) m'' := by
  have hr : Reach bs over i a.toNat := Reach.step (Reach.refl i) (List.mem_of_getElem? ha)
  refine ⟨h2.len.trans h.len, fun j hj => h2.mono j (h.mono j hj), h2.mono i h.self, fun j hj => ?_, fun j hji h1 hm b hb => ?_, fun t ht b hb => ?_⟩
  · rcases h2.from_ j hj with h3 | h3
    · exact h.from_ j h3
    · exact .inr (hr.trans h3)
  · by_cases hmj : isM m' j = true
    · exact h2.mono _ (h.closed j hji hmj hm b hb)
    · exact h2.closed j h1 (by simpa using hmj) b hb
  · by_cases htk : t = k
    · subst htk
      rw [ha] at hb
      cases hb
      exact h2.self
    · exact h2.mono _ (h.args t (by omega) b hb)
theorem MarkMid.done {bs : List Bk} {over : Bool} {m m' : List Bool} {i k : Nat} (h : MarkMid bs over m i k m') (hk : (succs bs over i).length ≤ k) : MarkPost bs over m i m' :=
  ⟨h.len, h.mono, h.self, h.from_, fun j h1 h2 a ha => by
    by_cases hji : j = i
    · subst hji
      obtain ⟨t, ht, rfl⟩ := List.getElem_of_mem ha
      exact h.args t (by omega) _ (List.getElem?_eq_getElem ht)
    · exact h.closed j hji h1 h2 a ha⟩
def unM (m : List Bool) : Nat := (m.filter fun b => !b).length
theorem unM_set : ∀ {m : List Bool} {i : Nat}, i < m.length → isM m i = false → unM (m.set i true) + 1 = unM m
  | [], i, h, _ => by simp at h
  | b :: m, 0, _, h => by
    simp [isM] at h
    subst h
    simp [unM]
  | b :: m, i + 1, h, h2 => by
    have h3 : i < m.length := by simpa using h
    have h4 : isM m i = false := by simpa [isM] using h2
    have ih := unM_set h3 h4
    unfold unM at ih ⊢
    simp only [List.set_cons_succ, List.filter_cons]
    cases b <;> simp <;> omega
theorem unM_mono : ∀ {m m' : List Bool}, m'.length = m.length → (∀ j, isM m j = true → isM m' j = true) → unM m' ≤ unM m
  | [], [], _, _ => Nat.le_refl _
  | [], _ :: _, h, _ => by simp at h
  | _ :: _, [], h, _ => by simp at h
  | b :: m, c :: m', hl, h => by
    have ih := unM_mono (m := m) (m' := m') (by simpa using hl) (fun j hj => by
      have := h (j + 1) (by simpa [isM] using hj)
      simpa [isM] using this)
    have h0 := h 0
    unfold unM at ih ⊢
    simp only [List.filter_cons]
    cases b <;> cases c <;> simp [isM] at h0 ⊢ <;> omega
/- The document's way: pass after pass. -/
def pass1 (bs : List Bk) (over : Bool) (m : List Bool) (i : Nat) : List Bool := if isM m i = true then (succs bs over i).foldl (fun m a => m.set a.toNat true) m else m
def passM (bs : List Bk) (over : Bool) (m : List Bool) : List Bool := (List.range bs.length).foldl (pass1 bs over) m
def passes (bs : List Bk) (over : Bool) : Nat → List Bool → List Bool
  | 0, m => m
  | k + 1, m => passes bs over k (passM bs over m)
theorem foldSet_mono : ∀ (l : List Int) (m : List Bool) (j : Nat), isM m j = true → isM (l.foldl (fun m a => m.set a.toNat true) m) j = true
  | [], _, _, h => h
  | a :: l, m, j, h => foldSet_mono l _ j (isM_set_mono h)
theorem foldSet_len : ∀ (l : List Int) (m : List Bool), (l.foldl (fun m a => m.set a.toNat true) m).length = m.length
  | [], _ => rfl
  | a :: l, m => by
    show (l.foldl _ (m.set a.toNat true)).length = _
    rw [foldSet_len l]
    simp
theorem foldSet_mem : ∀ (l : List Int) (m : List Bool) (a : Int), a ∈ l → a.toNat < m.length → isM (l.foldl (fun m a => m.set a.toNat true) m) a.toNat = true
  | [], _, _, h, _ => by cases h
  | b :: l, m, a, h, hl => by
    rcases List.mem_cons.1 h with rfl | h
    · exact foldSet_mono l _ _ (by rw [isM_set hl]; simp)
    · exact foldSet_mem l _ a h (by simpa using hl)
theorem foldSet_from : ∀ (l : List Int) (m : List Bool) (j : Nat), isM (l.foldl (fun m a => m.set a.toNat true) m) j = true → isM m j = true ∨ ∃ a ∈ l, a.toNat = j
  | [], _, _, h => .inl h
  | b :: l, m, j, h => by
    rcases foldSet_from l (m.set b.toNat true) j h with h | ⟨a, ha, e⟩
    · by_cases hb : b.toNat < m.length
      · rw [isM_set hb] at h
        simp at h
        rcases h with h | h
        · exact .inl h
        · exact .inr ⟨b, by simp, h⟩
      · rw [List.set_eq_of_length_le (by omega)] at h
        exact .inl h
    · exact .inr ⟨a, by simp [ha], e⟩
theorem pass1_len (bs : List Bk) (over : Bool) (m : List Bool) (i : Nat) : (pass1 bs over m i).length = m.length := by
  unfold pass1
  split
  · exact foldSet_len _ _
  · rfl
theorem pass1_mono {bs : List Bk} {over : Bool} {m : List Bool} {i j : Nat} (h : isM m j = true) : isM (pass1 bs over m i) j = true := by
  unfold pass1
  split
  · exact foldSet_mono _ _ _ h
  · exact h
theorem foldP_len (bs : List Bk) (over : Bool) : ∀ (l : List Nat) (m : List Bool), (l.foldl (pass1 bs over) m).length = m.length
  | [], _ => rfl
  | i :: l, m => by
    show (l.foldl _ (pass1 bs over m i)).length = _
    rw [foldP_len bs over l, pass1_len]
theorem foldP_mono {bs : List Bk} {over : Bool} : ∀ (l : List Nat) {m : List Bool} {j : Nat}, isM m j = true → isM (l.foldl (pass1 bs over) m) j = true
  | [], _, _, h => h
  | i :: l, _, _, h => foldP_mono l (pass1_mono h)
theorem foldP_from {bs : List Bk} {over : Bool} {S : Nat → Prop} (hS : ∀ i a, S i → a ∈ succs bs over i → S a.toNat) : ∀ (l : List Nat) {m : List Bool}, (∀ j, isM m j = true → S j) → ∀ j, isM (l.foldl (pass1 bs over) m) j = true → S j
  | [], _, h, j, hj => h j hj
  | i :: l, m, h, j, hj => by
    refine foldP_from hS l (m := pass1 bs over m i) (fun k hk => ?_) j hj
    unfold pass1 at hk
    split at hk
    · rename_i hi
      rcases foldSet_from _ _ _ hk with h1 | ⟨a, ha, rfl⟩
      · exact h k h1
      · exact hS i a (h i hi) ha
    · exact h k hk
theorem passes_len (bs : List Bk) (over : Bool) : ∀ (k : Nat) (m : List Bool), (passes bs over k m).length = m.length
  | 0, _ => rfl
  | k + 1, m => (passes_len bs over k _).trans (foldP_len bs over _ m)
theorem passes_mono {bs : List Bk} {over : Bool} : ∀ (k : Nat) {m : List Bool} {j : Nat}, isM m j = true → isM (passes bs over k m) j = true
  | 0, _, _, h => h
  | k + 1, _, _, h => passes_mono k (foldP_mono _ h)
theorem passes_from {bs : List Bk} {over : Bool} {S : Nat → Prop} (hS : ∀ i a, S i → a ∈ succs bs over i → S a.toNat) : ∀ (k : Nat) {m : List Bool}, (∀ j, isM m j = true → S j) → ∀ j, isM (passes bs over k m) j = true → S j
  | 0, _, h => h
  | k + 1, _, h => passes_from hS k (foldP_from hS _ h)
def ClosedM (bs : List Bk) (over : Bool) (m : List Bool) : Prop := ∀ i, isM m i = true → ∀ a ∈ succs bs over i, isM m a.toNat = true
theorem foldP_fix {bs : List Bk} {over : Bool} (hok : SuccOk bs) : ∀ (l : List Nat) {m : List Bool}, m.length = bs.length → (∀ i ∈ l, i < bs.length) → (∀ j, isM (l.foldl (pass1 bs over) m) j = true → isM m j = true) → ∀ i ∈ l, isM m i = true → ∀ a ∈ succs bs over i, isM m a.toNat = true
  | [], _, _, _, _, i, hi => by cases hi
  | k :: l, m, hl, hlt, hfix, i, hi => by
    rcases List.mem_cons.1 hi with rfl | hi
    · intro hm a ha
      have hb := hok i (hlt i (by simp)) a (succs_preds ha)
      refine hfix _ (foldP_mono l ?_)
      unfold pass1
      rw [if_pos hm]
      exact foldSet_mem _ _ a ha (by omega)
    · have h1 : ∀ j, isM (pass1 bs over m k) j = true → isM m j = true := fun j hj => hfix j (foldP_mono l hj)
      have he : pass1 bs over m k = m := marks_eq (pass1_len _ _ _ _) (fun j _ => ⟨fun h => h1 j h, fun h => pass1_mono h⟩)
      exact foldP_fix hok l hl (fun q hq => hlt q (by simp [hq])) (fun j hj => hfix j (by show isM (l.foldl _ (pass1 bs over m k)) j = true; rw [he]; exact hj)) i hi
theorem unM_lt {m m' : List Bool} (hl : m'.length = m.length) (hm : ∀ j, isM m j = true → isM m' j = true) (hne : m' ≠ m) : unM m' < unM m := by
  have hle := unM_mono hl hm
  rcases Nat.lt_or_ge (unM m') (unM m) with h | h
  · exact h
  · exfalso
    apply hne
    refine marks_eq hl fun j hj => ⟨fun hj2 => ?_, fun h => hm j h⟩
    cases hmj : isM m j with
    | true => exact hmj
    | false =>
      exfalso
      have hjl : j < m.length := by omega
      have h1 := unM_set hjl hmj
      have h2 := unM_mono (m := m.set j true) (m' := m') (by simpa using hl) (fun k hk => by
        rw [isM_set hjl] at hk
        simp at hk
        rcases hk with hk | hk
        · exact hm k hk
        · subst hk; exact hj2)
      omega
theorem passes_fix {bs : List Bk} {over : Bool} : ∀ (k : Nat) {m : List Bool}, passM bs over m = m → passes bs over k m = m
  | 0, _, _ => rfl
  | k + 1, m, h => by
    show passes bs over k (passM bs over m) = m
    rw [h]
    exact passes_fix k h
theorem passes_end {bs : List Bk} {over : Bool} : ∀ (k : Nat) {m : List Bool}, unM m ≤ k → passM bs over (passes bs over k m) = passes bs over k m
  | 0, m, h => by
    refine marks_eq (foldP_len _ _ _ _) fun j hj => ⟨fun _ => ?_, fun h2 => foldP_mono _ h2⟩
    have hjl : j < m.length := by rw [← foldP_len bs over (List.range bs.length) m]; exact hj
    show isM m j = true
    cases hmj : isM m j with
    | true => rfl
    | false =>
      have := unM_set hjl hmj
      omega
  | k + 1, m, h => by
    by_cases he : passM bs over m = m
    · rw [passes_fix (k + 1) he]
      exact he
    · have hlt := unM_lt (m' := passM bs over m) (m := m) (foldP_len _ _ _ _) (fun j hj => foldP_mono _ hj) he
      exact passes_end k (by omega)
theorem passes_reach {bs : List Bk} {over : Bool} (hok : SuccOk bs) {m : List Bool} (hl : m.length = bs.length) (j : Nat) : isM (passes bs over bs.length m) j = true ↔ ∃ i, isM m i = true ∧ Reach bs over i j := by
  constructor
  · exact passes_from (S := fun j => ∃ i, isM m i = true ∧ Reach bs over i j) (fun i a ⟨s, hs, hr⟩ ha => ⟨s, hs, hr.step ha⟩) bs.length (fun j hj => ⟨j, hj, Reach.refl j⟩) j
  · rintro ⟨i, hi, hr⟩
    have hun : unM m ≤ bs.length := by
      unfold unM
      have := List.length_filter_le (fun b => !b) m
      omega
    have hfix := passes_end (bs := bs) (over := over) bs.length hun
    have hcl : ClosedM bs over (passes bs over bs.length m) := fun i hi a ha => by
      have hil := isM_lt hi
      rw [passes_len, hl] at hil
      exact foldP_fix hok (List.range bs.length) (m := passes bs over bs.length m) (by rw [passes_len, hl]) (by simp) (fun q hq => by
        have hq : isM (passM bs over (passes bs over bs.length m)) q = true := hq
        rw [hfix] at hq
        exact hq) i (by simpa using hil) hi a ha
    induction hr with
    | refl => exact passes_mono _ hi
    | step _ ha ih => exact hcl _ ih _ ha
theorem MarkPost.reach {bs : List Bk} {over : Bool} {m m' : List Bool} {i : Nat} (h : MarkPost bs over m i m') (h0 : ∀ j, isM m j = false) (j : Nat) : isM m' j = true ↔ Reach bs over i j := by
  constructor
  · intro hj
    rcases h.from_ j hj with h1 | h1
    · rw [h0] at h1; cases h1
    · exact h1
  · intro hr
    induction hr with
    | refl => exact h.self
    | step _ ha ih => exact h.closed _ ih (h0 _) _ ha
end Go.Proofs.YtfooonellkgaeaaDoor
namespace Go.Proofs.YtfooonellkgaeaaDoor
open Go.RowKit
def arityM (k : Int) : Int := if k = 1 then 0 else if k = 0 ∨ k = 2 ∨ k = 5 ∨ k = 10 ∨ k = 6 ∨ k = 11 then 1 else if k = 3 ∨ k = 4 ∨ k = 7 ∨ k = 8 ∨ k = 9 then 2 else -1
theorem ar_eq {a b : Int} (h : a = b) : Ending.returned (.int .i64 a) = .returned (.int .i64 b) := by rw [h]
theorem arity_any (k : Int) (w : World) : Calls Tryd.prog 89 #[.int .i64 k] w fun e w' => e = .returned (.int .i64 (arityM k)) ∧ w = w' := by
  go_enter Tryd.func89, Tryd.ntmps89
  go_wp2
  all_goals
    go_ret
    exact ⟨ar_eq (by simp only [beq_iff_eq, beq_eq_false_iff_ne, ne_eq] at *; simp [arityM, *]), rfl⟩
def withinB (n lo hi : Int) : Bool := decide (lo ≤ n ∧ n ≤ hi)
def scOk (num ex : Int) : Prop := -2147483648 < num ∧ num < 2147483648 ∧ -62 ≤ ex ∧ ex ≤ 30
instance (num ex : Int) : Decidable (scOk num ex) := by unfold scOk; infer_instance
def scalE (num ex : Int) (used : Bool) : Int := if used = true then (if scOk num ex then 0 else 3) else (if num = 0 ∧ ex = 0 then 0 else 2)
theorem er_0 {n : Int} (h : n = 0) : Ending.returned .nilIface = .returned (errV n) := by rw [h]; rfl
theorem er_n {n k : Int} (h : n = k) (hk : k ≠ 0) : Ending.returned (.iface 33 (.int .i64 k)) = .returned (errV n) := by rw [h, errV_n hk]
theorem scalar_any (num ex : Int) (used : Bool) (w : World) : Calls Tryd.prog 90 #[.agg #[.int .i64 num, .int .i64 ex], .bool used] w fun e w' => e = .returned (errV (scalE num ex used)) ∧ Below w.heap.size w w' := by
  cases used with
  | false =>
    go_enter Tryd.func90, Tryd.ntmps90
    go_wp2
    all_goals
      go_ret
      first
        | exact ⟨er_0 (by simp only [scalE, Bool.false_eq_true, if_false]; split <;> omega), al_ _ _⟩
        | exact ⟨er_n (k := 2) (by simp only [scalE, Bool.false_eq_true, if_false]; split <;> omega) (by decide), al_ _ _⟩
  | true =>
    by_cases hs : scOk num ex
    · have HV := Lib.hid (show scalE num ex true = 0 by unfold scalE; rw [if_pos rfl, if_pos hs])
      obtain ⟨h1, h2, h3, h4⟩ := hs
      go_enter Tryd.func90, Tryd.ntmps90
      go_wp2
      go_ret
      exact ⟨er_0 HV.out, al_ _ _⟩
    · have HV := Lib.hid (show scalE num ex true = 3 by unfold scalE; rw [if_pos rfl, if_neg hs])
      have HS := Lib.hid hs
      clear hs
      go_enter Tryd.func90, Tryd.ntmps90
      go_wp2
      all_goals
        go_ret
        first
          | exact ⟨er_n (k := 3) HV.out (by decide), al_ _ _⟩
          | (exfalso; exact HS.out ⟨by omega, by omega, by omega, by omega⟩)
theorem res_value {tmps : Array Value} {w : World} {b : Nat} {v0 v1 v2 : Value} (h2 : tmps.getD 2 undef = .pointer (some ⟨b, 0, none⟩)) (hB : RowD w b [v0, v1, v2] 27) :
    (results Tryd.f91 tmps).run Tryd.prog w = .ok (.agg #[v0, v1, v2]) w := by
  have k0 := hB.cell 0
  have k1 := hB.cell 1
  have k2 := hB.cell 2
  simp at k0 k1 k2
  simp at h2
  simp [results, Tryd.results91, go_sem, h2, k0, k1, k2]
theorem value_any (num ex : Int) (w : World) (h : scOk num ex) (ht : TabAt w) : Calls Tryd.prog 91 #[.agg #[.int .i64 num, .int .i64 ex]] w fun e w' => ∃ v, e = .returned v ∧ DyR w' w.heap.size w'.heap.size v (dyShift num 0 ex).1 (dyShift num 0 ex).2 ∧ Below w.heap.size w w' := by
  obtain ⟨h1, h2, h3, h4⟩ := h
  have hln : (canon num.natAbs).length ≤ 50000 := Nat.le_trans (canon_len_le (k := 1) (by omega)) (by decide)
  have b0 : Below w.heap.size w ((w.alloc (.cells #[.int .i64 num, .int .i64 ex] 23)).alloc (.cells #[.bool false, .slice none 0 0, .int .i64 0] 27)) := ext_alloc (ext_alloc (Below.refl _ _) _) _
  have r0 := (RowD.new_ w [.int .i64 num, .int .i64 ex] 23).call (al_ _ (.cells #[.bool false, .slice none 0 0, .int .i64 0] 27))
  have r1 := RowD.new_ (w.alloc (.cells #[.int .i64 num, .int .i64 ex] 23)) [.bool false, .slice none 0 0, .int .i64 0] 27
  rw [show (w.alloc (.cells #[.int .i64 num, .int .i64 ex] 23)).heap.size = w.heap.size + 1 by simp] at r1
  have HT := Lib.hid ht
  clear ht
  go_enter Tryd.func91, Tryd.ntmps91
  go_wp2_with fail
  obtain ⟨W, hW⟩ : ∃ W, W = ((w.alloc (.cells #[.int .i64 num, .int .i64 ex] 23)).alloc (.cells #[.bool false, .slice none 0 0, .int .i64 0] 27)) := ⟨_, rfl⟩
  have hWs : w.heap.size + 2 ≤ W.heap.size := by rw [hW]; simp
  rw [← hW]
  rw [← hW] at b0 r0 r1
  clear hW
  have a0 : W.cell? ⟨w.heap.size, 0, none⟩ = some (.int .i64 num) := r0.cell 0
  have a1 : W.cell? ⟨w.heap.size, 1, none⟩ = some (.int .i64 ex) := r0.cell 1
  have hk : SK W (w.heap.size + 1) (w.heap.size + 1) W := SK.refl (by omega) ⟨_, _, _, r1⟩
  have HTW := HT.out.below b0 HT.out.1
  go_region_held3 (fun w' => (∀ b o, b < w.heap.size + 1 → w'.cell? ⟨b, o, none⟩ = W.cell? ⟨b, o, none⟩) ∧ SK W (w.heap.size + 1) (w.heap.size + 1) w')
    (first
      | (refine SK.all ?_
         first
           | assumption
           | exact hk
           | exact hk.drew
           | exact ((SK.set (by assumption) (by omega) _ _).set (by omega) _ _).set (by omega) _ _))
    (first
      | (go_at_call 35; refine (pof_any num (by omega) (by omega) _ (HTW.below (Below.refl _ W).drew HTW.1)).mono ?_; (rintro e w5 ⟨v5, rfl, D5, hb5⟩; have hk5 := SK.call hk.drew hb5; have hf5 := hk5.lt; have HT5 := (HTW.below (Below.refl _ W).drew HTW.1).call hb5; obtain ⟨nb5, A5, L5, c5, rfl, _⟩ := D5.form))
      | (go_at_call 36; refine (pshift_any D5 (Nat.le_refl _) hln (by omega) HT5).mono ?_; (rintro e w6 ⟨v6, rfl, D6, hb6⟩; have hk6 := SK.call hk5 hb6; have hf6 := hk6.lt; obtain ⟨nb6, A9, L9, c9, rfl, _⟩ := D6.form; obtain ⟨z0, z1, z2, rz, k0, k1, k2, kf⟩ := SK.cells hk6)))
  go_wp2_with fail
  refine bodyPost_ret (res_value rfl (((rz.set_ 0 _).set_ 1 _).set_ 2 _)) rfl ⟨_, rfl, ?_, (((b0.trans (hk6.is.mono (by omega))).setCell (by simp) _).setCell (by simp) _).setCell (by simp) _⟩
  exact ((((D6.set_ (by omega) 0 _).set_ (by omega) 1 _).set_ (by omega) 2 _).low (by omega)).more (by simp)
end Go.Proofs.YtfooonellkgaeaaDoor
namespace Go.Proofs.YtfooonellkgaeaaDoor
open Go.RowKit
def sc62 (num ex : Int) : Int := num * 2 ^ (ex + 62).toNat
def scCmp (an ae bn be : Int) : Int := sgI (sc62 an ae - sc62 bn be)
theorem sc62_shift {num ex : Int} (h1 : -62 ≤ ex) (h2 : ex ≤ 30) : (dyShift num 0 ex).1 * 2 ^ 62 = sc62 num ex * 2 ^ (dyShift num 0 ex).2 := by
  unfold dyShift sc62
  have e : max (-65536) (min ex 65536) = ex := by omega
  rw [e]
  by_cases h : ex < 0
  · rw [if_pos h]
    obtain ⟨n, hn⟩ : ∃ n : Nat, ex = -(n : Int) := ⟨(-ex).toNat, by omega⟩
    have e1 : (-ex).toNat = n := by omega
    have e2 : (ex + 62).toNat = 62 - n := by omega
    rw [e1, e2, Nat.zero_add]
    have h3 := nf_eq num n
    have h4 : (2 : Int) ^ 62 = 2 ^ n * 2 ^ (62 - n) := by rw [← Int.pow_add, show n + (62 - n) = 62 by omega]
    rw [h4, ← Int.mul_assoc, h3, Int.mul_assoc, Int.mul_assoc, Int.mul_comm (2 ^ _) (2 ^ _)]
  · rw [if_neg h]
    obtain ⟨n, rfl⟩ := Int.eq_ofNat_of_zero_le (show 0 ≤ ex by omega)
    rw [Int.toNat_natCast, nf_done (by omega), show ((n : Int) + 62).toNat = n + 62 by omega, Int.pow_add]
    simp [Int.mul_assoc]
theorem pCmp_sc {an ae bn be : Int} (h1 : scOk an ae) (h2 : scOk bn be) : pCmp (dyShift an 0 ae).1 (dyShift an 0 ae).2 (dyShift bn 0 be).1 (dyShift bn 0 be).2 = scCmp an ae bn be := by
  have e1 := sc62_shift h1.2.2.1 h1.2.2.2 (num := an)
  have e2 := sc62_shift h2.2.2.1 h2.2.2.2 (num := bn)
  unfold pCmp scCmp
  revert e1 e2
  generalize dyShift an 0 ae = p
  generalize dyShift bn 0 be = q
  obtain ⟨x, dx⟩ := p
  obtain ⟨y, dy⟩ := q
  generalize sc62 an ae = V1
  generalize sc62 bn be = V2
  intro e1 e2
  dsimp only at e1 e2 ⊢
  rw [← sgI_mul _ 62, ← sgI_mul (V1 - V2) (max dx dy)]
  congr 1
  have f1 : (2 : Int) ^ max dx dy = 2 ^ dx * 2 ^ (max dx dy - dx) := by rw [← Int.pow_add, show dx + (max dx dy - dx) = max dx dy by omega]
  have f2 : (2 : Int) ^ max dx dy = 2 ^ dy * 2 ^ (max dx dy - dy) := by rw [← Int.pow_add, show dy + (max dx dy - dy) = max dx dy by omega]
  rw [Int.sub_mul, Int.sub_mul]
  congr 1
  · rw [f1, ← Int.mul_assoc, ← e1, Int.mul_assoc, Int.mul_assoc, Int.mul_comm (2 ^ _) (2 ^ _)]
  · rw [f2, ← Int.mul_assoc, ← e2, Int.mul_assoc, Int.mul_assoc, Int.mul_comm (2 ^ _) (2 ^ _)]
structure DblAt (n e n0 e0 e1 : Int) : Prop where
  eq : sc62 n e = sc62 n0 e0
  lo : -62 ≤ e
  hi : e ≤ e0
  least : e = e0 ∨ e1 ≤ e
  small : -4294967296 < n ∧ n < 4294967296
  same : e = e0 → n = n0
theorem sgI_pos {x : Int} (h : 0 < x) : sgI x = 1 := by unfold sgI; rw [if_neg (by omega), if_neg (by omega)]
theorem sgI_neg {x : Int} (h : x < 0) : sgI x = -1 := by unfold sgI; rw [if_neg (by omega), if_pos h]
theorem sgI_three (x y : Int) : sgI (x - y) = if x < y then -1 else if y < x then 1 else 0 := by
  by_cases h : x < y
  · rw [if_pos h, sgI_neg (by omega)]
  · rw [if_neg h]
    by_cases h2 : y < x
    · rw [if_pos h2, sgI_pos (by omega)]
    · rw [if_neg h2, show x - y = 0 by omega]; rfl
end Go.Proofs.YtfooonellkgaeaaDoor
namespace Go.Proofs.YtfooonellkgaeaaDoor
open Go.RowKit
def exOf (w : World) (b : Nat) : Int := intOf ((w.cell? ⟨b, 1, none⟩).getD undef)
def cm1Rel (w : World) (an ae bn be : Int) (wr : World) : Prop :=
  ∃ n e, RowD wr w.heap.size [.int .i64 n, .int .i64 e] 23 ∧ RowD wr (w.heap.size + 1) [.int .i64 bn, .int .i64 be] 23 ∧ DblAt n e an ae be ∧ Below w.heap.size w wr
def cm2Rel (w : World) (an ae bn be : Int) (wr : World) : Prop :=
  ∃ n e, RowD wr (w.heap.size + 1) [.int .i64 n, .int .i64 e] 23 ∧ RowD wr w.heap.size [.int .i64 an, .int .i64 ae] 23 ∧ DblAt n e bn be ae ∧ Below w.heap.size w wr
end Go.Proofs.YtfooonellkgaeaaDoor
namespace Go.Proofs.YtfooonellkgaeaaDoor
open Go.RowKit Go.Deep
theorem info_int : (Tryd.prog.info? 3).map (fun i => (i.zero, i.size, i.bytes)) = some (some (.int .i64 0), 1, 8) := by kernel_rfl
theorem under_ints : Tryd.prog.underlying 39 = some (.slice 3) := by kernel_rfl
def OwnI (w : World) (base : Nat) (v : Value) (xs : List Int) : Prop := w.ownsRow base 3 1 v xs.length (ints xs)
theorem OwnI.nil_ (w : World) (base : Nat) : OwnI w base (.slice none 0 0) [] := World.ownsRow_nil w base _ _
theorem OwnI.view {w : World} {base : Nat} {v : Value} {xs : List Int} (h : OwnI w base v xs) : ∃ A c, v = .slice A xs.length c ∧ (A = none → c = 0) ∧ CellsAt w w.heap.size A (ints xs) := by
  rcases h.2 with ⟨rfl, h0⟩ | ⟨g, cap, cur, rfl, hb, hg, hn, hm, hs, ht⟩
  · have : xs = [] := List.eq_nil_of_length_eq_zero h0
    subst this
    exact ⟨none, 0, rfl, fun _ => rfl, CellsAt.nil_⟩
  · have hlt := (World.ownsRow.lt h g rfl).2
    refine ⟨some ⟨g, 0, none⟩, cap, rfl, by simp, fun _ => ⟨g, 0, rfl, hlt, hlt, fun j u hu => ?_⟩⟩
    have := World.ownsRow.cells h (g := g) rfl j u hu
    rcases j with _ | j
    · simpa [Addr.add] using this
    · simpa [Addr.add] using this
theorem OwnI.base_ {w : World} {base : Nat} {v : Value} {xs : List Int} (h : OwnI w base v xs) {base' : Nat} (hb : base' ≤ base) : OwnI w base' v xs := by
  refine ⟨h.1, ?_⟩
  rcases h.2 with hn | ⟨g, cap, cur, rfl, hbg, rest⟩
  · exact .inl hn
  · exact .inr ⟨g, cap, cur, rfl, Nat.le_trans hb hbg, rest⟩
theorem app_ints {w : World} {ops : Array Oper} {rest : List Oper} {o : Oper} {a : Act} {Q : Exit → Act → World → Prop} (hgd : o.guard = none) (s x : Operand)
    (ho : o.op = .call { callee := .builtin .append, args := #[s, x], argTypes := #[39, 39] })
    (base : Nat) (v : Value) (xs ys : List Int) (A : Option Addr) (c m : Nat) (hs : a.eval s = v) (hown : OwnI w base v xs) (hx : a.eval x = .slice A ys.length c) (hn : A = none → c = 0) (hc : CellsAt w m A (ints ys))
    (hlen : xs.length + ys.length ≤ 1000000) (hbase : base ≤ w.heap.size)
    (h : ∀ v' w', OwnI w' base v' (xs ++ ys) → w.grownBy w' v.ownBlock → Below base w w' → wpList Tryd.prog ops Q rest (a.put o.dst v') w') : wpList Tryd.prog ops Q (o :: rest) a w := by
  obtain ⟨i0, hi, hz0, hz1, hz2⟩ := info_parts info_int
  rcases A with _ | ⟨b, off, l⟩
  · have hy : ys = [] := by
      rcases ys with _ | ⟨y, ys⟩
      · rfl
      · obtain ⟨b, off, hA, _⟩ := hc (by simp [ints])
        cases hA
    subst hy
    have hc0 := hn rfl
    subst hc0
    exact wpList_append_own_none hgd s x 39 ho base 3 i0 1 under_ints hi v xs.length (ints xs) hs hown hx (h v w (by rw [List.append_nil]; exact hown) ⟨rfl, rfl, rfl, Nat.le_refl _, fun _ _ _ => rfl⟩ (Below.refl _ _))
  · refine wpList_append_own w hgd s x 39 ho base 3 i0 (.int .i64 0) 1 8 under_ints hi hz0 hz1 hz2 rfl (by decide) v xs.length (ints xs) hs hown ⟨b, off, l⟩ ys.length c (ints ys) hx (by simp [ints]) ?_ ?_ (by unfold maxLen; omega) (by omega) hbase (fun v' w' h1 h2 _ => h v' w' ?_ h2 ((Below.refl base w).grown h2 hbase (fun g hg => (World.ownsRow.lt hown g hg).1)))
    · intro j u hu
      obtain ⟨b', off', hA, _, _, hcc⟩ := hc (fun h0 => by rw [h0] at hu; simp at hu)
      cases hA
      have hu' := hcc j u hu
      rcases j with _ | j
      · simpa [Addr.add] using hu'
      · simpa [Addr.add] using hu'
    · intro u hu
      obtain ⟨z, _, rfl⟩ := List.mem_map.1 hu
      rfl
    · have e : ints (xs ++ ys) = ints xs ++ ints ys := by simp [ints]
      unfold OwnI
      rw [e, List.length_append]
      exact h1
theorem OwnI.alloc {w : World} {base : Nat} {v : Value} {xs : List Int} (h : OwnI w base v xs) (o : Obj) : OwnI (w.alloc o) base v xs := World.ownsRow.alloc h o
theorem push_int {w : World} {ops : Array Oper} {rest : List Oper} {o : Oper} {a : Act} {Q : Exit → Act → World → Prop} (hgd : o.guard = none) (s x : Operand)
    (ho : o.op = .call { callee := .builtin .append, args := #[s, x], argTypes := #[39, 39] })
    (base : Nat) (v : Value) (xs : List Int) (z : Int) (g : Nat) (hs : a.eval s = v) (hown : OwnI w base v xs) (hx : a.eval x = .slice (some ⟨g, 0, none⟩) 1 1) (hg : w.cell? ⟨g, 0, none⟩ = some (.int .i64 z))
    (hlen : xs.length < 1000000) (hbase : base ≤ w.heap.size)
    (h : ∀ v' w', OwnI w' base v' (xs ++ [z]) → w.grownBy w' v.ownBlock → Below base w w' → wpList Tryd.prog ops Q rest (a.put o.dst v') w') : wpList Tryd.prog ops Q (o :: rest) a w := by
  have hgl : g < w.heap.size := by
    rcases Nat.lt_or_ge g w.heap.size with h | h
    · exact h
    · simp [World.cell?, Array.getElem?_eq_none h] at hg
  exact app_ints hgd s x ho base v xs [z] _ 1 w.heap.size hs hown hx (by simp) (fun _ => ⟨g, 0, rfl, hgl, hgl, fun j u hu => by
    rcases j with _ | j
    · simp [ints] at hu; subst hu; exact hg
    · simp [ints] at hu⟩) (by simp; omega) hbase h
theorem OwnI.below {w w' : World} {base B : Nat} {v : Value} {xs : List Int} (h : OwnI w base v xs) (hb : Below B w w') (hv : ∀ g, v.ownBlock = some g → g < B) : OwnI w' base v xs := by
  refine ⟨h.1, ?_⟩
  rcases h.2 with hn | ⟨g, cap, cur, rfl, hbg, hg, rest⟩
  · exact .inl hn
  · refine .inr ⟨g, cap, cur, rfl, hbg, ?_, rest⟩
    rw [hb.block g (hv g rfl)]
    exact hg
end Go.Proofs.YtfooonellkgaeaaDoor
namespace Go.Proofs.YtfooonellkgaeaaDoor
open Go.RowKit
structure Dg where
  A1 : Option Addr
  ps : List Prt
  c1 : Nat
  A2 : Option Addr
  bs : List Bk
  c2 : Nat
  A3 : Option Addr
  os : List Int
  c3 : Nat
def Dg.vals (d : Dg) : List Value := [.slice d.A1 d.ps.length d.c1, .slice d.A2 d.bs.length d.c2, .slice d.A3 d.os.length d.c3]
def Dg.val (d : Dg) : Value := .agg #[.slice d.A1 d.ps.length d.c1, .slice d.A2 d.bs.length d.c2, .slice d.A3 d.os.length d.c3]
def Bk.val (b : Bk) : Value := .agg #[.int .i64 b.kind, .slice b.A b.args.length b.cap, .int .i64 b.vn, .int .i64 b.ve, .int .i64 b.un, .int .i64 b.ue]
structure DgAt (w : World) (m : Nat) (d : Dg) : Prop where
  ps : CellsAt w m d.A1 (flat Prt.cells d.ps)
  bs : CellsAt w m d.A2 (flat Bk.cells d.bs)
  os : CellsAt w m d.A3 (ints d.os)
  args : ∀ b ∈ d.bs, CellsAt w m b.A (ints b.args) ∧ b.args.length ≤ 1000000
  l1 : d.ps.length ≤ 1000000
  l2 : d.bs.length ≤ 1000000
  l3 : d.os.length ≤ 1000000
theorem DgAt.below {w w' : World} {m B : Nat} {d : Dg} (h : DgAt w m d) (hb : Below B w w') (hm : m ≤ B) : DgAt w' m d :=
  ⟨h.ps.below hb hm, h.bs.below hb hm, h.os.below hb hm, fun b hb' => ⟨(h.args b hb').1.below hb hm, (h.args b hb').2⟩, h.l1, h.l2, h.l3⟩
theorem DgAt.blk {w : World} {m : Nat} {d : Dg} (h : DgAt w m d) {k : Nat} (hk : k < d.bs.length) :
    ∃ b off kind A args cap vn ve un ue, d.A2 = some ⟨b, off, none⟩ ∧ b < m ∧ b < w.heap.size ∧ d.bs[k]? = some ⟨kind, A, args, cap, vn, ve, un, ue⟩ ∧
      w.cell? ⟨b, off + k * 6, none⟩ = some (.int .i64 kind) ∧ w.cell? ⟨b, off + k * 6 + 1, none⟩ = some (.slice A args.length cap) ∧ w.cell? ⟨b, off + k * 6 + 2, none⟩ = some (.int .i64 vn) ∧ w.cell? ⟨b, off + k * 6 + 3, none⟩ = some (.int .i64 ve) ∧
      w.cell? ⟨b, off + k * 6 + 4, none⟩ = some (.int .i64 un) ∧ w.cell? ⟨b, off + k * 6 + 5, none⟩ = some (.int .i64 ue) ∧ CellsAt w m A (ints args) ∧ args.length ≤ 1000000 := by
  obtain ⟨b, off, x, hA, hbm, hbs, hx, hc⟩ := h.bs.row (s := 6) (fun _ => rfl) (by omega) hk
  have ha := h.args x (List.mem_of_getElem? hx)
  obtain ⟨kind, A, args, cap, vn, ve, un, ue⟩ := x
  exact ⟨b, off, kind, A, args, cap, vn, ve, un, ue, hA, hbm, hbs, hx, hc 0 _ rfl, hc 1 _ rfl, hc 2 _ rfl, hc 3 _ rfl, hc 4 _ rfl, hc 5 _ rfl, ha.1, ha.2⟩
theorem kind_of {bs : List Bk} {k : Nat} {x : Bk} (h : bs[k]? = some x) : kindAt bs k = x.kind := by simp [kindAt, h]
theorem args_of {bs : List Bk} {k : Nat} {x : Bk} (h : bs[k]? = some x) : argsAt bs k = x.args := by simp [argsAt, h]
theorem preds_of {bs : List Bk} {k : Nat} {x : Bk} (h : bs[k]? = some x) : preds bs k = if x.kind = 0 then [] else x.args := by simp [preds, kind_of h, args_of h]
theorem succs_of {bs : List Bk} {k : Nat} {x : Bk} {over : Bool} (h : bs[k]? = some x) : succs bs over k = if x.kind = 2 ∧ over = false then [] else if x.kind = 0 then [] else x.args := by simp [succs, kind_of h, preds_of h]
def IntsV (w : World) (m : Nat) (v : Value) (xs : List Int) : Prop := ∃ A c, v = .slice A xs.length c ∧ CellsAt w m A (ints xs)
def RetI (m : Nat) (xs : List Int) (w : World) (e : Ending) (w' : World) : Prop := ∃ A c, e = .returned (.slice A xs.length c) ∧ CellsAt w' m A (ints xs) ∧ Below w.heap.size w w'
def blkV (b : Bk) : Value := if b.kind = 0 then .slice none 0 0 else .slice b.A b.args.length b.cap
theorem before_any (d : Dg) (i m : Nat) (w : World) (hm : m ≤ w.heap.size) (hd : DgAt w m d) (hi : i < d.bs.length) :
    Calls Tryd.prog 92 #[d.val, .int .i64 (i : Int)] w (RetI m (succs d.bs false i) w) := by
  obtain ⟨b, off, kind, A, args, cap, vn, ve, un, ue, hA, hbm, hbs, hx, g0, g1, g2, g3, g4, g5, ha, hl⟩ := hd.blk hi
  obtain ⟨A1, ps, c1, A2, bs, c2, A3, os, c3⟩ := d
  have h2 := hd.l2
  dsimp only at hA hx hi h2
  subst hA
  have HS := Lib.hid (succs_of (over := false) hx)
  have HA := Lib.hid ha
  have hi' : (i : Int) < (bs.length : Int) := by omega
  clear hd hx ha
  simp only [Dg.val]
  go_enter Tryd.func92, Tryd.ntmps92
  by_cases k0 : kind = 0
  · subst k0
    go_wp2_with fail
    go_ret
    have HK : succs bs false i = [] := HS.out
    exact ⟨none, 0, by rw [HK]; rfl, by rw [HK]; exact CellsAt.nil_, al_ _ _⟩
  · have n0 : (kind == 0) = false := by simpa using k0
    by_cases k2 : kind = 2
    · subst k2
      go_wp2_with fail
      go_ret
      have HK : succs bs false i = [] := HS.out
      exact ⟨none, 0, by rw [HK]; rfl, by rw [HK]; exact CellsAt.nil_, al_ _ _⟩
    · have n2 : (kind == 2) = false := by simpa using k2
      have HK : Hid (succs bs false i = args) := by
        have h := HS.out
        rw [h, if_neg (by simp [k2])]
        exact if_neg k0
      clear HS k0 k2
      go_wp2_with fail
      go_ret
      exact ⟨A, cap, by rw [HK.out]; rfl, by rw [HK.out]; exact HA.out.below (al_ _ _) hm, al_ _ _⟩
def hasRel (w : World) (xs : List Int) (n : Int) (i : Value) (wr : World) : Prop := ∃ k : Nat, k ≤ xs.length ∧ i = .int .i64 k ∧ n ∉ xs.take k ∧ wr = w
end Go.Proofs.YtfooonellkgaeaaDoor
namespace Go.Proofs.YtfooonellkgaeaaDoor
open Go.RowKit
def bools (l : List Bool) : List Value := l.map Value.bool
theorem CellsAt.bool_ {w : World} {m : Nat} {A : Option Addr} {zs : List Bool} (h : CellsAt w m A (bools zs)) {k : Nat} (hk : k < zs.length) :
    ∃ b off z, A = some ⟨b, off, none⟩ ∧ b < m ∧ b < w.heap.size ∧ zs[k]? = some z ∧ w.cell? ⟨b, off + k, none⟩ = some (.bool z) := by
  obtain ⟨b, off, hA, hbm, hbs, hc⟩ := h (by cases zs <;> simp [bools] at hk ⊢)
  exact ⟨b, off, zs[k], hA, hbm, hbs, List.getElem?_eq_getElem hk, hc k _ (by simp [bools, hk])⟩
def natI (l : List Nat) : List Int := l.map fun n : Nat => (n : Int)
def fl (p : Nat → Bool) (k : Nat) : List Nat := (List.range k).filter p
theorem fl_hit {p : Nat → Bool} {k : Nat} (h : p k = true) : fl p (k + 1) = fl p k ++ [k] := by unfold fl; rw [List.range_succ, List.filter_append]; simp [h]
theorem fl_no {p : Nat → Bool} {k : Nat} (h : p k = false) : fl p (k + 1) = fl p k := by unfold fl; rw [List.range_succ, List.filter_append]; simp [h]
theorem fl_le (p : Nat → Bool) (k : Nat) : (fl p k).length ≤ k := by unfold fl; simpa using List.length_filter_le p (List.range k)
theorem isM_get {l : List Bool} {k : Nat} {b : Bool} (h : l[k]? = some b) : isM l k = b := by simp [isM, h]
def RetO (xs : List Int) (w : World) (e : Ending) (w' : World) : Prop := ∃ v, e = .returned v ∧ OwnI w' w.heap.size v xs ∧ Below w.heap.size w w'
def liRel (w : World) (l : List Bool) (v i : Value) (wr : World) : Prop := ∃ k : Nat, k ≤ l.length ∧ i = .int .i64 k ∧ OwnI wr w.heap.size v (natI (fl (isM l) k)) ∧ Below w.heap.size w wr
theorem list_any (A : Option Addr) (l : List Bool) (c m : Nat) (w : World) (hm : m ≤ w.heap.size) (h : CellsAt w m A (bools l)) (hl : l.length ≤ 1000000) :
    Calls Tryd.prog 69 #[.slice A l.length c] w (RetO (natI (markL l)) w) := by
  have H := Lib.hid h
  clear h
  go_enter Tryd.func69, Tryd.ntmps69
  go_wp2_with fail
  go_loopw [3, 8] (fun v i wr => liRel w l v i wr) (fun _ i _ => l.length - (intOf i).toNat)
  case atStart => exact ⟨0, Nat.zero_le _, rfl, OwnI.nil_ _ _, Below.refl _ _⟩
  case round =>
    obtain ⟨k, hk, rfl, hown, hb⟩ := hrel
    have HO := Lib.hid hown
    clear hown
    by_cases hlt : k < l.length
    · obtain ⟨b, off, x, rfl, hbm, hbs, hx, hc⟩ := H.out.bool_ hlt
      have hc' := (hb.cell (p := ⟨b, off + k, none⟩) (Nat.lt_of_lt_of_le hbm hm)).trans hc
      clear hc
      cases x with
      | true =>
        have HX := Lib.hid hx
        clear hx
        have hbz := hb.size
        go_wp2_with (at_builtin; refine push_int rfl _ _ rfl w.heap.size _ (natI (fl (isM l) k)) (k : Int) wr.heap.size rfl (HO.out.alloc _) rfl (by simp [go_sem]) (by have := fl_le (isM l) k; simp [natI]; omega) (by simp; omega) ?_; intro v' w4 hown hg hb4)
        have hst : Below w.heap.size wr w4 := ((Below.refl _ wr).alloc hbz _).trans hb4
        exact ⟨⟨k + 1, by omega, by go_num, by rw [fl_hit (isM_get HX.out)]; simpa [natI] using hown, hb.trans hst⟩, by simp [intOf]; omega⟩
      | false =>
        have HX := Lib.hid hx
        clear hx
        go_wp2_with fail
        exact ⟨⟨k + 1, by omega, by go_num, by rw [fl_no (isM_get HX.out)]; exact HO.out, hb⟩, by simp [intOf]; omega⟩
    · go_wp2_with fail
      have e : k = l.length := by omega
      subst e
      obtain ⟨A', c', hv, _⟩ := HO.out.view
      subst hv
      go_ret
      exact ⟨_, rfl, HO.out, hb⟩
def isDel (bs : List Bk) (i : Nat) : Bool := kindAt bs i == 2
def deRel (w : World) (vs : List Value) (bs : List Bk) (v i : Value) (wr : World) : Prop := ∃ k : Nat, k ≤ bs.length ∧ i = .int .i64 k ∧ OwnI wr (w.heap.size + 1) v (natI (fl (isDel bs) k)) ∧ Below w.heap.size w wr
end Go.Proofs.YtfooonellkgaeaaDoor
namespace Go.Proofs.YtfooonellkgaeaaDoor
open Go.ChangeShapes Go.WideShapes Go.ChangeAt Go.RowKit Go.Joins Go.Deep
theorem flat_len {α : Type} {f : α → List Value} {s : Nat} (hf : ∀ x, (f x).length = s) (l : List α) : (flat f l).length = l.length * s := by
  induction l with
  | nil => simp [flat]
  | cons x l ih =>
    simp only [flat, List.map_cons, List.flatten_cons, List.length_append, hf] at ih ⊢
    rw [ih, List.length_cons, Nat.succ_mul, Nat.add_comm]
theorem all_ints {cs : List Value} (h : ∀ c ∈ cs, ∃ z : Int, c = .int .i64 z ∧ -9223372036854775808 ≤ z ∧ z ≤ 9223372036854775807) : ∃ zs : List Int, cs = ints zs ∧ ∀ z ∈ zs, -9223372036854775808 ≤ z ∧ z ≤ 9223372036854775807 := by
  induction cs with
  | nil => exact ⟨[], rfl, by simp⟩
  | cons c cs ih =>
    obtain ⟨zs, rfl, hz⟩ := ih (fun c hc => h c (by simp [hc]))
    obtain ⟨z, rfl, hb⟩ := h c (by simp)
    exact ⟨z :: zs, rfl, fun y hy => by
      rcases List.mem_cons.1 hy with rfl | hy
      · exact hb
      · exact hz y hy⟩
section
variable {H : Type} {enc : TypeId × Value → H} {P : Program} {w : World} {spare : Nat → Bool} {held : Bool}
theorem row_ints {e : TypeId} {fs : Array Field} {fuel : Nat} {cs : List Value} {x : DataW H × List MemPlace} (hs : P.underlying e = some (.struct fs)) (hone : oneCellFields P fs = true) (hint : ∀ (i : Nat) (f : Field), fs[i]? = some f → P.underlying f.type = some (.int .i64)) (hC : P.cellsOf e = fs.size)
    (h : DataW.trod enc P w 0 spare held fuel e cs = some x) : ∃ zs : List Int, cs = ints zs ∧ zs.length = fs.size ∧ ∀ z ∈ zs, -9223372036854775808 ≤ z ∧ z ≤ 9223372036854775807 := by
  obtain ⟨xs, n, _, _, hlen, hxl, hg⟩ := DataW.trod_struct hs h
  obtain ⟨zs, rfl, hz⟩ := all_ints (cs := cs) (fun c hc => by
    obtain ⟨i, hi⟩ := List.getElem?_of_mem hc
    have hil : i < cs.length := (List.getElem?_eq_some_iff.1 hi).1
    have hif : i < fs.size := by omega
    have hf : fs[i]? = some fs[i] := by simp [hif]
    obtain ⟨o0, k0⟩ := hone_of hone i fs[i] hf
    have hgi := hg i fs[i] hf
    rw [o0, k0, take1_drop cs i undef hil, List.getElem?_eq_getElem (by omega)] at hgi
    obtain ⟨z, hz, _, hw⟩ := DataW.trod_int (hint i fs[i] hf) hgi
    have hd : cs.getD i undef = c := by simp [List.getD, hi]
    rw [hd] at hz
    exact ⟨z, by simpa using hz, bounds_i64 hw⟩)
  exact ⟨zs, rfl, by rw [← ints_len, hlen, hC], hz⟩
theorem rows_of_cell {α : Type} {f : α → List Value} {s : Nat} (mk : List Int → α) (hmk : ∀ zs, zs.length = s → f (mk zs) = ints zs) (hfl : ∀ x, (f x).length = s) (hs0 : 0 < s) {t e : TypeId} {fs : Array Field} {fuel : Nat} {v : Value} {x : DataW H × List MemPlace} (ht : P.underlying t = some (.slice e)) (hs : P.underlying e = some (.struct fs)) (hone : oneCellFields P fs = true) (hint : ∀ (i : Nat) (f : Field), fs[i]? = some f → P.underlying f.type = some (.int .i64)) (hC : P.cellsOf e = fs.size) (hsz : fs.size = s)
    (h : DataW.trod enc P w 0 spare held fuel t [v] = some x) :
    ∃ (A : Option Addr) (cap : Nat) (l : List α), v = .slice A l.length cap ∧ (A = none → cap = 0) ∧ l.length ≤ cap ∧ l.length ≤ maxLen ∧ CellsAt w w.heap.size A (flat f l) ∧ (∀ x ∈ l, ∃ zs, x = mk zs ∧ zs.length = s ∧ ∀ z ∈ zs, -9223372036854775808 ≤ z ∧ z ≤ 9223372036854775807) := by
  rcases open_slice ht h with ⟨hcs, _⟩ | ⟨a, len, cap, m, n, D, Pl, hcs, _, hl, hm, hmm, _, hx⟩
  · exact ⟨none, 0, [], by simpa using hcs, fun _ => rfl, Nat.le_refl _, Nat.zero_le _, CellsAt.nil_, by simp⟩
  · have hle : len ≤ m := by rw [hmm]; split <;> omega
    rw [hC, hsz] at hx
    obtain ⟨R, hR⟩ := choose_lt (α := List Int) (n := len) (p := fun i zs => zs.length = s ∧ (∀ z ∈ zs, -9223372036854775808 ≤ z ∧ z ≤ 9223372036854775807) ∧ ∀ j, j < s → w.cell? (a.add (i * s + j)) = (ints zs)[j]?) (fun i hi => by
      obtain ⟨cs', h1, h2⟩ := hx i (by omega)
      obtain ⟨zs, rfl, hzl, hzb⟩ := row_ints hs hone hint hC h2
      obtain ⟨_, hlen, hcell⟩ := World.cells?_some h1
      exact ⟨zs, hzl.trans hsz, hzb, fun j hj => by rw [← add_add]; exact hcell j hj⟩)
    refine ⟨some a, cap, (List.range len).map (fun i => mk (R i)), by simpa using hcs, by simp, by simpa using hl, by simp; omega, fun hne => ?_, ?_⟩
    · have hpos : 0 < len := by
        rcases Nat.eq_zero_or_pos len with h0 | h0
        · subst h0; simp [flat] at hne
        · exact h0
      obtain ⟨b, off, spot⟩ := a
      have h00 := (hR 0 hpos).2.2 0 hs0
      have hz0 : (ints (R 0))[0]? = some ((ints (R 0))[0]'(by rw [ints_len, (hR 0 hpos).1]; exact hs0)) := List.getElem?_eq_getElem _
      rw [hz0] at h00
      have hspot : spot = none := by simpa [Addr.add] using World.cell?_spot h00
      subst hspot
      have hb : b < w.heap.size := by
        rcases Nat.lt_or_ge b w.heap.size with h | h
        · exact h
        · simp [World.cell?, Addr.add, Array.getElem?_eq_none h] at h00
      refine ⟨b, off, rfl, hb, hb, fun j u hu => ?_⟩
      have hjl : j < len * s := by
        have := (List.getElem?_eq_some_iff.1 hu).1
        rw [flat_len hfl] at this
        simpa using this
      have hk : j / s < len := Nat.div_lt_of_lt_mul (by rw [Nat.mul_comm]; exact hjl)
      have hr : j % s < s := Nat.mod_lt _ hs0
      have hj : j / s * s + j % s = j := by rw [Nat.mul_comm]; exact Nat.div_add_mod j s
      have hg : ((List.range len).map (fun i => mk (R i)))[j / s]? = some (mk (R (j / s))) := by simp [hk]
      have h1 := flat_get hfl hg hr
      rw [hj, hu, hmk _ (hR _ hk).1] at h1
      have h2 := (hR _ hk).2.2 (j % s) hr
      rw [hj, ← h1] at h2
      rw [← Go.WideShapes.add_plain]
      exact h2
    · intro y hy
      obtain ⟨i, hi, rfl⟩ := List.mem_map.1 hy
      have := hR i (by simpa using hi)
      exact ⟨_, rfl, this.1, this.2.1⟩
theorem ints_of_cell' {t e : TypeId} {fuel : Nat} {v : Value} {x : DataW H × List MemPlace} (ht : P.underlying t = some (.slice e)) (he : P.underlying e = some (.int .i64)) (hc : P.cellsOf e = 1)
    (h : DataW.trod enc P w 0 spare held fuel t [v] = some x) :
    ∃ (A : Option Addr) (cap : Nat) (zs : List Int), v = .slice A zs.length cap ∧ (A = none → cap = 0) ∧ zs.length ≤ cap ∧ zs.length ≤ maxLen ∧ CellsAt w w.heap.size A (ints zs) ∧ (∀ z ∈ zs, -9223372036854775808 ≤ z ∧ z ≤ 9223372036854775807) := by
  obtain ⟨A, cap, zs, hv, h1, h2, h3, h4⟩ := ints_of_cell ht he hc h
  refine ⟨A, cap, zs, hv, fun hA => ?_, h1, h2, h3, h4⟩
  subst hA hv
  rcases open_slice ht h with ⟨hcs, _⟩ | ⟨a, len, cap', m, n, D, Pl, hcs, _⟩
  · simp at hcs
    exact hcs.2
  · simp at hcs
end
end Go.Proofs.YtfooonellkgaeaaDoor
