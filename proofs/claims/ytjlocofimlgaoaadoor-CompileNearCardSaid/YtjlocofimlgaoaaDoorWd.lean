/- Words of 32 bits and exact numbers made of them: plain laws, and how they lie in memory. No conditions. -/
import Derived.Test.YtjlocofimlgaoaaDoorMod
import Derived.Test.YtjlocofimlgaoaaDoorCom
import Derived.Test.YtjlocofimlgaoaaDoorRows
import Derived.Laws.AppendOwnNone
import Derived.Laws.OwnMore
import Derived.Laws.Bits64b
import Derived.Deep.RegionHeld3
import Derived.Deep.DeepCutAuto
namespace Go.Proofs.YtjlocofimlgaoaaDoor
set_option linter.unusedVariables false
set_option linter.unusedSimpArgs false
set_option linter.unusedSectionVars false
open Go.RowKit Go.Deep


/-- A list of words as cells. -/
def w32 (ws : List Nat) : List Value := ws.map fun n : Nat => .int .u32 (n : Int)
theorem w32_len (ws : List Nat) : (w32 ws).length = ws.length := by simp [w32]
theorem CellsAt.w32_ {w : World} {m : Nat} {A : Option Addr} {ws : List Nat} (h : CellsAt w m A (w32 ws)) {k : Nat} (hk : k < ws.length) :
    ∃ b off z, A = some ⟨b, off, none⟩ ∧ b < m ∧ b < w.heap.size ∧ ws[k]? = some z ∧ w.cell? ⟨b, off + k, none⟩ = some (.int .u32 (z : Int)) := by
  obtain ⟨b, off, hA, hbm, hbs, hc⟩ := h (fun h0 => by have := w32_len ws; rw [h0] at this; simp at this; omega)
  exact ⟨b, off, ws[k], hA, hbm, hbs, List.getElem?_eq_getElem hk, hc k _ (by simp [w32, hk])⟩
/-- The number that a list of words is. -/
def wval : List Nat → Nat
  | [] => 0
  | x :: l => x + 4294967296 * wval l
def wordsOk (ws : List Nat) : Prop := ∀ x ∈ ws, x < 4294967296
/-- Without leading zeros. -/
def trimN (ws : List Nat) : Nat → Nat
  | 0 => 0
  | n + 1 => if ws[n]?.getD 0 = 0 then trimN ws n else n + 1
def trimL (ws : List Nat) : List Nat := ws.take (trimN ws ws.length)
theorem trimN_le (ws : List Nat) (n : Nat) : trimN ws n ≤ n := by
  induction n with
  | zero => exact Nat.le_refl _
  | succ n ih =>
    unfold trimN
    split <;> omega
theorem trimL_len (ws : List Nat) : (trimL ws).length = trimN ws ws.length := by
  have := trimN_le ws ws.length
  simp [trimL]
  omega
theorem wval_append (a b : List Nat) : wval (a ++ b) = wval a + 4294967296 ^ a.length * wval b := by
  induction a with
  | nil => simp [wval]
  | cons x a ih =>
    simp only [List.cons_append, wval, List.length_cons, ih, Nat.pow_succ, Nat.mul_add]
    rw [Nat.add_assoc, Nat.mul_comm (4294967296 ^ a.length) 4294967296, Nat.mul_assoc]
theorem wval_take (ws : List Nat) : ∀ n, n ≤ ws.length → wval (ws.take (trimN ws n)) = wval (ws.take n)
  | 0, _ => rfl
  | n + 1, h => by
    unfold trimN
    split
    · rename_i h0
      rw [wval_take ws n (by omega), List.take_add_one, wval_append]
      have : ws[n]? = some ws[n] := List.getElem?_eq_getElem (by omega)
      rw [this] at h0 ⊢
      simp at h0
      simp [wval, h0]
    · rfl
theorem wval_trim (ws : List Nat) : wval (trimL ws) = wval ws := by
  have := wval_take ws ws.length (Nat.le_refl _)
  rw [List.take_length] at this
  exact this
theorem trim_top (ws : List Nat) : ∀ n, n ≤ ws.length → 0 < trimN ws n → ws[trimN ws n - 1]?.getD 0 ≠ 0
  | 0, _, h => by simp [trimN] at h
  | n + 1, hn, h => by
    unfold trimN at h ⊢
    split at h
    · rename_i h0
      rw [if_pos h0]
      exact trim_top ws n (by omega) h
    · rename_i h0
      rw [if_neg h0]
      simpa using h0
def trRel (w : World) (ws : List Nat) (i : Value) (wr : World) : Prop := ∃ k : Nat, k ≤ ws.length ∧ i = .int .i64 k ∧ trimN ws k = trimN ws ws.length ∧ w = wr

theorem info_w : (Tryd.prog.info? 130).map (fun i => (i.zero, i.size, i.bytes)) = some (some (.int .u32 0), 1, 4) := by kernel_rfl
theorem under_w : Tryd.prog.underlying 35 = some (.slice 130) := by kernel_rfl
/-- The slice value v owns these numbers, in a block of the call's own. -/
def OwnW (w : World) (base : Nat) (v : Value) (xs : List Nat) : Prop := w.ownsRow base 130 1 v xs.length (w32 xs)
theorem OwnW.nil_ (w : World) (base : Nat) : OwnW w base (.slice none 0 0) [] := World.ownsRow_nil w base _ _
theorem OwnW.lit0 {w : World} {base : Nat} (h : base ≤ w.heap.size) : OwnW (w.alloc (.cells #[] 130)) base (.slice (some ⟨w.heap.size, 0, none⟩) 0 0) [] := World.ownsRow_made w #[] 0 h (Nat.zero_le _) rfl
theorem OwnW.view {w : World} {base : Nat} {v : Value} {xs : List Nat} (h : OwnW w base v xs) : ∃ A c, v = .slice A xs.length c ∧ (A = none → c = 0) ∧ CellsAt w w.heap.size A (w32 xs) := by
  rcases h.2 with ⟨rfl, h0⟩ | ⟨g, cap, cur, rfl, hb, hg, hn, hm, hs, ht⟩
  · have : xs = [] := List.eq_nil_of_length_eq_zero h0
    subst this
    exact ⟨none, 0, rfl, fun _ => rfl, CellsAt.nil_⟩
  · have hlt := (World.ownsRow.lt h g rfl).2
    refine ⟨some ⟨g, 0, none⟩, cap, rfl, by simp, fun _ => ⟨g, 0, rfl, hlt, hlt, fun j u hu => ?_⟩⟩
    have := World.ownsRow.cells h (g := g) rfl j u hu
    rcases j with _ | j
    · simpa [Addr.add] using this
    · simpa [Addr.add] using this
theorem OwnW.base_ {w : World} {base : Nat} {v : Value} {xs : List Nat} (h : OwnW w base v xs) {base' : Nat} (hb : base' ≤ base) : OwnW w base' v xs := by
  refine ⟨h.1, ?_⟩
  rcases h.2 with hn | ⟨g, cap, cur, rfl, hbg, rest⟩
  · exact .inl hn
  · exact .inr ⟨g, cap, cur, rfl, Nat.le_trans hb hbg, rest⟩
theorem app_w {w : World} {ops : Array Oper} {rest : List Oper} {o : Oper} {a : Act} {Q : Exit → Act → World → Prop} (hgd : o.guard = none) (s x : Operand)
    (ho : o.op = .call { callee := .builtin .append, args := #[s, x], argTypes := #[35, 35] })
    (base : Nat) (v : Value) (xs ys : List Nat) (A : Option Addr) (c m : Nat) (hs : a.eval s = v) (hown : OwnW w base v xs) (hx : a.eval x = .slice A ys.length c) (hn : A = none → c = 0) (hc : CellsAt w m A (w32 ys))
    (hlen : xs.length + ys.length ≤ 1000000) (hbase : base ≤ w.heap.size)
    (h : ∀ v' w', OwnW w' base v' (xs ++ ys) → w.grownBy w' v.ownBlock → Below base w w' → wpList Tryd.prog ops Q rest (a.put o.dst v') w') : wpList Tryd.prog ops Q (o :: rest) a w := by
  obtain ⟨i0, hi, hz0, hz1, hz2⟩ := info_parts info_w
  rcases A with _ | ⟨b, off, l⟩
  · have hy : ys = [] := by
      rcases ys with _ | ⟨y, ys⟩
      · rfl
      · obtain ⟨b, off, hA, _⟩ := hc (by simp [w32])
        cases hA
    subst hy
    have hc0 := hn rfl
    subst hc0
    exact wpList_append_own_none hgd s x 35 ho base 130 i0 1 under_w hi v xs.length (w32 xs) hs hown hx (h v w (by rw [List.append_nil]; exact hown) ⟨rfl, rfl, rfl, Nat.le_refl _, fun _ _ _ => rfl⟩ (Below.refl _ _))
  · refine wpList_append_own w hgd s x 35 ho base 130 i0 (.int .u32 0) 1 4 under_w hi hz0 hz1 hz2 rfl (by decide) v xs.length (w32 xs) hs hown ⟨b, off, l⟩ ys.length c (w32 ys) hx (by simp [w32]) ?_ ?_ (by unfold maxLen; omega) (by omega) hbase (fun v' w' h1 h2 _ => h v' w' ?_ h2 ((Below.refl base w).grown h2 hbase (fun g hg => (World.ownsRow.lt hown g hg).1)))
    · intro j u hu
      obtain ⟨b', off', hA, _, _, hcc⟩ := hc (fun h0 => by rw [h0] at hu; simp at hu)
      cases hA
      have hu' := hcc j u hu
      rcases j with _ | j
      · simpa [Addr.add] using hu'
      · simpa [Addr.add] using hu'
    · intro u hu
      obtain ⟨z, _, rfl⟩ := List.mem_map.1 hu
      rfl
    · have e : w32 (xs ++ ys) = w32 xs ++ w32 ys := by simp [w32]
      unfold OwnW
      rw [e, List.length_append]
      exact h1
theorem OwnW.alloc {w : World} {base : Nat} {v : Value} {xs : List Nat} (h : OwnW w base v xs) (o : Obj) : OwnW (w.alloc o) base v xs := World.ownsRow.alloc h o
theorem OwnW.drew {w : World} {base : Nat} {v : Value} {xs : List Nat} (h : OwnW w base v xs) : OwnW w.drew base v xs := h
theorem OwnW.drewN {w : World} {base : Nat} {v : Value} {xs : List Nat} (h : OwnW w base v xs) (n : Nat) : OwnW (w.drewN n) base v xs := by
  induction n generalizing w with
  | zero => exact h
  | succ n ih => exact ih (w := w.drew) h.drew
theorem push_w {w : World} {ops : Array Oper} {rest : List Oper} {o : Oper} {a : Act} {Q : Exit → Act → World → Prop} (hgd : o.guard = none) (s x : Operand)
    (ho : o.op = .call { callee := .builtin .append, args := #[s, x], argTypes := #[35, 35] })
    (base : Nat) (v : Value) (xs : List Nat) (z : Nat) (g : Nat) (hs : a.eval s = v) (hown : OwnW w base v xs) (hx : a.eval x = .slice (some ⟨g, 0, none⟩) 1 1) (hg : w.cell? ⟨g, 0, none⟩ = some (.int .u32 (z : Int)))
    (hlen : xs.length < 1000000) (hbase : base ≤ w.heap.size)
    (h : ∀ v' w', OwnW w' base v' (xs ++ [z]) → w.grownBy w' v.ownBlock → Below base w w' → wpList Tryd.prog ops Q rest (a.put o.dst v') w') : wpList Tryd.prog ops Q (o :: rest) a w := by
  have hgl : g < w.heap.size := by
    rcases Nat.lt_or_ge g w.heap.size with h | h
    · exact h
    · simp [World.cell?, Array.getElem?_eq_none h] at hg
  exact app_w hgd s x ho base v xs [z] _ 1 w.heap.size hs hown hx (by simp) (fun _ => ⟨g, 0, rfl, hgl, hgl, fun j u hu => by
    rcases j with _ | j
    · simp [w32] at hu; subst hu; exact hg
    · simp [w32] at hu⟩) (by simp; omega) hbase h
theorem OwnW.below {w w' : World} {base B : Nat} {v : Value} {xs : List Nat} (h : OwnW w base v xs) (hb : Below B w w') (hv : ∀ g, v.ownBlock = some g → g < B) : OwnW w' base v xs := by
  refine ⟨h.1, ?_⟩
  rcases h.2 with hn | ⟨g, cap, cur, rfl, hbg, hg, rest⟩
  · exact .inl hn
  · refine .inr ⟨g, cap, cur, rfl, hbg, ?_, rest⟩
    rw [hb.block g (hv g rfl)]
    exact hg

def canon (n : Nat) : List Nat := if h : n = 0 then [] else n % 4294967296 :: canon (n / 4294967296)
termination_by n
decreasing_by exact Nat.div_lt_self (by omega) (by decide)
theorem canon_zero : canon 0 = [] := by rw [canon]; simp
theorem canon_pos {n : Nat} (h : n ≠ 0) : canon n = n % 4294967296 :: canon (n / 4294967296) := by rw [canon]; simp [h]
theorem canon_ok (n : Nat) : wordsOk (canon n) := by
  induction n using Nat.strongRecOn with
  | _ n ih =>
    by_cases h : n = 0
    · subst h; rw [canon_zero]; intro x hx; cases hx
    · rw [canon_pos h]
      intro x hx
      rcases List.mem_cons.1 hx with rfl | hx
      · omega
      · exact ih _ (Nat.div_lt_self (by omega) (by decide)) x hx
theorem wval_canon (n : Nat) : wval (canon n) = n := by
  induction n using Nat.strongRecOn with
  | _ n ih =>
    by_cases h : n = 0
    · subst h; rw [canon_zero]; rfl
    · rw [canon_pos h]
      simp only [wval]
      rw [ih _ (Nat.div_lt_self (by omega) (by decide))]
      omega
theorem wval_zero {ws : List Nat} (h : wval ws = 0) : ∀ x ∈ ws, x = 0 := by
  induction ws with
  | nil => simp
  | cons x l ih =>
    simp only [wval] at h
    intro y hy
    rcases List.mem_cons.1 hy with rfl | hy
    · omega
    · exact ih (by omega) y hy
/-- A list of words whose last one is not zero is the one of its number. -/
theorem canon_wval {ws : List Nat} (h : wordsOk ws) (ht : ws ≠ [] → ws[ws.length - 1]?.getD 0 ≠ 0) : canon (wval ws) = ws := by
  induction ws with
  | nil => exact canon_zero
  | cons x l ih =>
    have hx := h x (by simp)
    have htop := ht (by simp)
    have hl : canon (wval l) = l := ih (fun y hy => h y (by simp [hy])) (fun hne => by
      have hp : 0 < l.length := List.length_pos_iff.2 hne
      have e : (x :: l)[(x :: l).length - 1]? = l[l.length - 1]? := by
        rw [show (x :: l).length - 1 = (l.length - 1) + 1 by simp; omega]
        rfl
      rw [e] at htop
      exact htop)
    have hne : wval (x :: l) ≠ 0 := fun h0 => by
      have hz := wval_zero h0
      apply htop
      have : (x :: l)[(x :: l).length - 1]? = some ((x :: l)[(x :: l).length - 1]'(by simp)) := List.getElem?_eq_getElem _
      rw [this]
      exact hz _ (List.getElem_mem _)
    rw [canon_pos hne]
    simp only [wval]
    rw [show (x + 4294967296 * wval l) % 4294967296 = x by omega, show (x + 4294967296 * wval l) / 4294967296 = wval l by omega, hl]
theorem trim_canon {ws : List Nat} (h : wordsOk ws) : trimL ws = canon (wval ws) := by
  rw [← wval_trim ws]
  refine (canon_wval (fun x hx => h x (List.mem_of_mem_take hx)) (fun hne => ?_)).symm
  have hne : trimL ws ≠ [] := hne
  show (trimL ws)[(trimL ws).length - 1]?.getD 0 ≠ 0
  have hl := trimL_len ws
  have hp : 0 < (trimL ws).length := List.length_pos_iff.2 hne
  have ht := trim_top ws ws.length (Nat.le_refl _) (by omega)
  rw [hl]
  show (ws.take (trimN ws ws.length))[trimN ws ws.length - 1]?.getD 0 ≠ 0
  rw [List.getElem?_take, if_pos (by omega)]
  exact ht
theorem canon_len_le {n k : Nat} (h : n < 4294967296 ^ k) : (canon n).length ≤ k := by
  induction k generalizing n with
  | zero =>
    have : n = 0 := by simpa using h
    subst this
    rw [canon_zero]
    simp
  | succ k ih =>
    by_cases h0 : n = 0
    · subst h0; rw [canon_zero]; simp
    · rw [canon_pos h0]
      have := ih (n := n / 4294967296) (by rw [Nat.pow_succ] at h; exact Nat.div_lt_of_lt_mul (by rw [Nat.mul_comm]; exact h))
      simp
      omega

theorem OwnW.cap_ {w : World} {base n c : Nat} {A : Option Addr} {xs : List Nat} (h : OwnW w base (.slice A n c) xs) : n = xs.length ∧ n ≤ c ∧ (A = none → c = 0) ∧ CellsAt w w.heap.size A (w32 xs) := by
  have h2 := h.2
  obtain ⟨A', c', he, h1, h3⟩ := h.view
  cases he
  refine ⟨rfl, ?_, h1, h3⟩
  rcases h2 with ⟨h0, hn⟩ | ⟨g, cap, cur, h0, hb, hg, hn, hm, hs, ht⟩
  · omega
  · cases h0
    omega
theorem wval_take_succ (a : List Nat) (k : Nat) : wval (a.take (k + 1)) = wval (a.take k) + 4294967296 ^ k * (a[k]?.getD 0) := by
  rw [List.take_add_one, wval_append]
  by_cases h : k < a.length
  · rw [List.getElem?_eq_getElem h, List.length_take, Nat.min_eq_left (by omega)]
    simp [wval]
  · rw [List.getElem?_eq_none (by omega)]
    simp [wval]
theorem pl_step {a b os : List Nat} {k cy x y z c' : Nat} (hol : os.length = k) (hx : a[k]?.getD 0 = x) (hy : b[k]?.getD 0 = y) (hv : wval os + 4294967296 ^ k * cy = wval (a.take k) + wval (b.take k)) (hz : z + 4294967296 * c' = cy + x + y) :
    wval (os ++ [z]) + 4294967296 ^ (k + 1) * c' = wval (a.take (k + 1)) + wval (b.take (k + 1)) := by
  rw [wval_take_succ a, wval_take_succ b, hx, hy, wval_append, hol, Nat.pow_succ, Nat.mul_assoc]
  have e1 : wval [z] = z := by simp [wval]
  rw [e1]
  have e2 : 4294967296 ^ k * z + 4294967296 ^ k * (4294967296 * c') = 4294967296 ^ k * cy + 4294967296 ^ k * x + 4294967296 ^ k * y := by
    rw [← Nat.mul_add, hz, Nat.mul_add, Nat.mul_add]
  omega
theorem words_push {os : List Nat} {z : Nat} (h : wordsOk os) (hz : z < 4294967296) : wordsOk (os ++ [z]) := by
  intro q hq
  rcases List.mem_append.1 hq with hq | hq
  · exact h q hq
  · simp at hq
    omega
theorem CellsAt.takeW {w : World} {m : Nat} {A : Option Addr} {ws : List Nat} (h : CellsAt w m A (w32 ws)) (n : Nat) : CellsAt w m A (w32 (ws.take n)) := fun hx => by
  have e : w32 (ws.take n) = (w32 ws).take n := by simp [w32]
  obtain ⟨b, off, hA, hbm, hbs, hc⟩ := h (fun h0 => hx (by rw [e, h0]; simp))
  refine ⟨b, off, hA, hbm, hbs, fun j u hu => hc j u ?_⟩
  rw [e, List.getElem?_take] at hu
  split at hu
  · exact hu
  · cases hu
def plRel (w : World) (a b : List Nat) (v cv i : Value) (wr : World) : Prop :=
  ∃ (k : Nat) (os : List Nat) (cy : Nat), k ≤ max a.length b.length ∧ i = .int .i64 (k : Int) ∧ cv = .int .u64 (cy : Int) ∧ OwnW wr w.heap.size v os ∧ os.length = k ∧ wordsOk os ∧ cy ≤ 1 ∧
    wval os + 4294967296 ^ k * cy = wval (a.take k) + wval (b.take k) ∧ Below w.heap.size w wr

theorem wval_lt {ws : List Nat} (h : wordsOk ws) : wval ws < 4294967296 ^ ws.length := by
  induction ws with
  | nil => simp [wval]
  | cons x l ih =>
    have h1 := h x (by simp)
    have h2 := ih (fun y hy => h y (by simp [hy]))
    simp only [wval, List.length_cons, Nat.pow_succ]
    omega
theorem wval_split {ws : List Nat} {k x : Nat} (h : ws[k]? = some x) : wval ws = wval (ws.take k) + 4294967296 ^ k * (x + 4294967296 * wval (ws.drop (k + 1))) := by
  have hk := (List.getElem?_eq_some_iff.1 h).1
  have hx := (List.getElem?_eq_some_iff.1 h).2
  have e : ws = ws.take k ++ x :: ws.drop (k + 1) := by
    rw [← hx, ← List.drop_eq_getElem_cons hk, List.take_append_drop]
  have hl : (ws.take k).length = k := by rw [List.length_take]; omega
  conv => lhs; rw [e]
  rw [wval_append, hl]
  rfl
theorem less_side {K T1 T2 x y D : Nat} (h1 : T1 < K) (h : x < y) : T1 + K * (x + D) < T2 + K * (y + D) := by
  have h2 : K * (x + D + 1) ≤ K * (y + D) := Nat.mul_le_mul_left K (by omega)
  rw [Nat.mul_add, Nat.mul_one] at h2
  omega
theorem less_at {a b : List Nat} {k x y : Nat} (oka : wordsOk a) (okb : wordsOk b) (hx : a[k]? = some x) (hy : b[k]? = some y) (hd : a.drop (k + 1) = b.drop (k + 1)) (hne : x ≠ y) : decide (wval a < wval b) = decide (x < y) := by
  have ha := wval_split hx
  have hb := wval_split hy
  have hka := (List.getElem?_eq_some_iff.1 hx).1
  have hkb := (List.getElem?_eq_some_iff.1 hy).1
  have la := wval_lt (ws := a.take k) (fun z hz => oka z (List.mem_of_mem_take hz))
  have lb := wval_lt (ws := b.take k) (fun z hz => okb z (List.mem_of_mem_take hz))
  rw [List.length_take, Nat.min_eq_left (by omega)] at la lb
  rw [hd] at ha
  rcases Nat.lt_or_gt_of_ne hne with h | h
  · have := less_side (T2 := wval (b.take k)) (D := 4294967296 * wval (b.drop (k + 1))) la h
    rw [← ha, ← hb] at this
    rw [decide_eq_true this, decide_eq_true h]
  · have := less_side (T2 := wval (a.take k)) (D := 4294967296 * wval (b.drop (k + 1))) lb h
    rw [← ha, ← hb] at this
    rw [decide_eq_false (by omega), decide_eq_false (by omega)]
def lessB (a b : List Nat) : Bool := if a.length = b.length then decide (wval a < wval b) else decide (a.length < b.length)
def lsRel (w : World) (a b : List Nat) (i : Value) (wr : World) : Prop := ∃ k nq : Nat, k ≤ a.length ∧ i = .int .i64 ((k : Int) - 1) ∧ a.drop k = b.drop k ∧ w.drewN nq = wr
theorem drop_step {a b : List Nat} {k x : Nat} (hx : a[k]? = some x) (hy : b[k]? = some x) (h : a.drop (k + 1) = b.drop (k + 1)) : a.drop k = b.drop k := by
  have hka := (List.getElem?_eq_some_iff.1 hx)
  have hkb := (List.getElem?_eq_some_iff.1 hy)
  rw [List.drop_eq_getElem_cons hka.1, List.drop_eq_getElem_cons hkb.1, hka.2, hkb.2, h]

theorem mi_step {a b os : List Nat} {k br x y z c' : Nat} (hol : os.length = k) (hx : a[k]?.getD 0 = x) (hy : b[k]?.getD 0 = y) (hv : wval os + wval (b.take k) = wval (a.take k) + 4294967296 ^ k * br) (hz : z + br + y = x + 4294967296 * c') :
    wval (os ++ [z]) + wval (b.take (k + 1)) = wval (a.take (k + 1)) + 4294967296 ^ (k + 1) * c' := by
  rw [wval_take_succ a, wval_take_succ b, hx, hy, wval_append, hol, Nat.pow_succ, Nat.mul_assoc]
  have e1 : wval [z] = z := by simp [wval]
  rw [e1]
  have e2 : 4294967296 ^ k * z + 4294967296 ^ k * br + 4294967296 ^ k * y = 4294967296 ^ k * x + 4294967296 ^ k * (4294967296 * c') := by
    rw [← Nat.mul_add, ← Nat.mul_add, hz, Nat.mul_add]
  omega
theorem mi_end {a b os : List Nat} {br : Nat} (hol : os.length = a.length) (hok : wordsOk os) (hbr : br ≤ 1) (hle : wval b ≤ wval a) (hv : wval os + wval b = wval a + 4294967296 ^ a.length * br) : wval os = wval a - wval b := by
  have h := wval_lt hok
  rw [hol] at h
  rcases Nat.lt_or_ge 0 br with h0 | h0
  · have : br = 1 := by omega
    subst this
    rw [Nat.mul_one] at hv
    omega
  · have : br = 0 := by omega
    subst this
    rw [Nat.mul_zero] at hv
    omega
def miRel (w : World) (a b : List Nat) (v cv i : Value) (wr : World) : Prop :=
  ∃ (k : Nat) (os : List Nat) (br : Nat), k ≤ a.length ∧ i = .int .i64 (k : Int) ∧ cv = .int .i64 (br : Int) ∧ OwnW wr w.heap.size v os ∧ os.length = k ∧ wordsOk os ∧ br ≤ 1 ∧
    wval os + wval (b.take k) = wval (a.take k) + 4294967296 ^ k * br ∧ Below w.heap.size w wr

/-- A valid number: its sign, its absolute value times 2^den, den. -/
structure DyOk (neg : Bool) (n : Nat) (den : Nat) : Prop where
  zero : n = 0 → neg = false ∧ den = 0
  fine : den ≤ 65536
  odd : den ≠ 0 → n % 2 = 1
theorem canon_ne {n : Nat} (h : n ≠ 0) : 0 < (canon n).length := by
  rw [canon_pos h]
  simp
theorem canon_head {n : Nat} (h : n ≠ 0) : (canon n)[0]? = some (n % 4294967296) := by
  rw [canon_pos h]
  rfl
theorem canon_top {n : Nat} (h : n ≠ 0) : (canon n)[(canon n).length - 1]?.getD 0 ≠ 0 := by
  induction n using Nat.strongRecOn with
  | _ n ih =>
    rw [canon_pos h]
    by_cases h2 : n / 4294967296 = 0
    · rw [h2, canon_zero]
      simp
      omega
    · have := ih _ (Nat.div_lt_self (by omega) (by decide)) h2
      have hl := canon_ne h2
      rw [show (n % 4294967296 :: canon (n / 4294967296)).length - 1 = ((canon (n / 4294967296)).length - 1) + 1 by simp; omega]
      exact this

/-- A block that is a variable of the call's own, whole. -/
def RowD (w : World) (b : Nat) (vs : List Value) (t : TypeId) : Prop := w.heap[b]? = some (.cells vs.toArray t (0, 0))
theorem RowD.lt {w : World} {b t : Nat} {vs : List Value} (h : RowD w b vs t) : b < w.heap.size := (Array.getElem?_eq_some_iff.1 h).1
theorem RowD.new_ (w : World) (vs : List Value) (t : TypeId) : RowD (w.alloc (.cells vs.toArray t)) w.heap.size vs t := heap_alloc_new w _
theorem RowD.below {w w' : World} {b B t : Nat} {vs : List Value} (h : RowD w b vs t) (hb : Below B w w') (hB : b < B) : RowD w' b vs t := (hb.block b hB).trans h
theorem RowD.cell {w : World} {b t : Nat} {vs : List Value} (h : RowD w b vs t) (j : Nat) : w.cell? ⟨b, j, none⟩ = vs[j]? := by
  rw [cell_of_row w b j vs.toArray t (0, 0) h]
  simp
theorem RowD.free {w : World} {b t : Nat} {vs : List Value} (h : RowD w b vs t) (j : Nat) : w.frozen? ⟨b, j, none⟩ = false := frozen_of_row w b j vs.toArray t h
theorem RowD.set_ {w : World} {b t : Nat} {vs : List Value} (h : RowD w b vs t) (j : Nat) (u : Value) : RowD (w.setCell ⟨b, j, none⟩ u) b (vs.set j u) t := by
  have := heap_setCell_same w b j vs.toArray t u h
  simpa [RowD] using this

def sgn (neg : Bool) (n : Nat) : Int := if n = 0 then 0 else if neg = true then -1 else 1

theorem or_low {c x s : Nat} (hc : c < 2 ^ s) (hx : x < 4294967296) (hs : s ≤ 32) : bits .or .u64 (c : Int) ((x * 2 ^ s : Nat) : Int) = ((c + x * 2 ^ s : Nat) : Int) := by
  have h32 : 2 ^ s ≤ 2 ^ 32 := Nat.pow_le_pow_right (by decide) hs
  have hp : x * 2 ^ s ≤ 4294967295 * 2 ^ 32 := Nat.mul_le_mul (by omega) h32
  rw [bits_or_u64_nat c (x * 2 ^ s) (by omega) (by omega)]
  have h := Nat.two_pow_add_eq_or_of_lt hc x
  rw [Nat.or_comm, Nat.mul_comm x, ← h, Nat.add_comm]

theorem info_w4 : (Tryd.prog.info? 130).map (fun i => (i.zero, i.size, i.bytes)) = some (some (.int .u32 0), 1, 4) := by kernel_rfl
theorem wval_zeros (q : Nat) : wval (List.replicate q 0) = 0 := by
  induction q with
  | zero => rfl
  | succ q ih => rw [List.replicate_succ]; simp [wval, ih]
theorem words_zeros (q : Nat) : wordsOk (List.replicate q 0) := fun x hx => by
  have := (List.mem_replicate.1 hx).2
  omega
/-- The shifted word with the carry below it, as two words. -/
theorem lf_word {cy x p : Nat} (hc : cy < p) (hx : x < 4294967296) : (cy + x * p) / 4294967296 < p := by
  have h : x * p ≤ 4294967295 * p := Nat.mul_le_mul_right _ (by omega)
  omega
theorem lf_or {cy x p r : Nat} (hp : p = 2 ^ r) (hc : cy < p) (hx : x < 4294967296) (hr : r ≤ 32) : bits .or .u64 (cy : Int) (IntKind.u64.wrap ((x : Int) * 2 ^ r)) = ((cy + x * p : Nat) : Int) := by
  subst hp
  have h32 : 2 ^ r ≤ 2 ^ 32 := Nat.pow_le_pow_right (by decide) hr
  have hb : x * 2 ^ r ≤ 4294967295 * 2 ^ 32 := Nat.mul_le_mul (by omega) h32
  have e : IntKind.u64.wrap ((x : Int) * 2 ^ r) = ((x * 2 ^ r : Nat) : Int) := by
    have e1 : (x : Int) * 2 ^ r = ((x * 2 ^ r : Nat) : Int) := by simp
    rw [e1]
    have : IntKind.u64.wrap ((x * 2 ^ r : Nat) : Int) = ((x * 2 ^ r : Nat) : Int) % 18446744073709551616 := by simp [IntKind.wrap, IntKind.signed, IntKind.bits]
    rw [this]
    omega
  rw [e]
  exact or_low hc hx hr
theorem lf_step {os a : List Nat} {q k cy x z c' p : Nat} (hol : os.length = q + k) (hx : a[k]?.getD 0 = x) (hv : wval os + 4294967296 ^ (q + k) * cy = wval (a.take k) * (4294967296 ^ q * p)) (hz : z + 4294967296 * c' = cy + x * p) :
    wval (os ++ [z]) + 4294967296 ^ (q + (k + 1)) * c' = wval (a.take (k + 1)) * (4294967296 ^ q * p) := by
  rw [wval_take_succ a, hx, wval_append, hol, Nat.add_mul, ← hv]
  have e1 : wval [z] = z := by simp [wval]
  rw [e1, show q + (k + 1) = (q + k) + 1 by omega, Nat.pow_succ 4294967296 (q + k), Nat.pow_add]
  have e2 : 4294967296 ^ q * 4294967296 ^ k * z + 4294967296 ^ q * 4294967296 ^ k * (4294967296 * c') = 4294967296 ^ q * 4294967296 ^ k * cy + 4294967296 ^ q * 4294967296 ^ k * (x * p) := by
    rw [← Nat.mul_add, hz, Nat.mul_add]
  have e3 : 4294967296 ^ k * x * (4294967296 ^ q * p) = 4294967296 ^ q * 4294967296 ^ k * (x * p) := by
    rw [Nat.mul_comm (4294967296 ^ q) (4294967296 ^ k), Nat.mul_assoc, Nat.mul_assoc]
    congr 1
    rw [← Nat.mul_assoc, ← Nat.mul_assoc, Nat.mul_comm x]
  rw [e3, Nat.mul_assoc (4294967296 ^ q * 4294967296 ^ k)]
  omega
theorem pow_split (n : Nat) : 2 ^ n = 4294967296 ^ (n / 32) * 2 ^ (n % 32) := by
  have h : n = 32 * (n / 32) + n % 32 := by omega
  have e : (4294967296 : Nat) = 2 ^ 32 := by decide
  rw [e, ← Nat.pow_mul, ← Nat.pow_add, ← h]
def lfRel (w : World) (a : List Nat) (q p : Nat) (v cv i : Value) (wr : World) : Prop :=
  ∃ (k : Nat) (os : List Nat) (cy : Nat), k ≤ a.length ∧ i = .int .i64 (k : Int) ∧ cv = .int .u64 (cy : Int) ∧ OwnW wr w.heap.size v os ∧ os.length = q + k ∧ wordsOk os ∧ cy < p ∧
    wval os + 4294967296 ^ (q + k) * cy = wval (a.take k) * (4294967296 ^ q * p) ∧ Below w.heap.size w wr

theorem wval_drop {a : List Nat} (h : wordsOk a) (i : Nat) : wval a / 4294967296 ^ i = wval (a.drop i) := by
  by_cases hi : i ≤ a.length
  · have e := wval_append (a.take i) (a.drop i)
    rw [List.take_append_drop, List.length_take, Nat.min_eq_left hi] at e
    have hl := wval_lt (ws := a.take i) (fun x hx => h x (List.mem_of_mem_take hx))
    rw [List.length_take, Nat.min_eq_left hi] at hl
    rw [e, Nat.add_mul_div_left _ _ (Nat.pow_pos (by decide)), Nat.div_eq_of_lt hl, Nat.zero_add]
  · rw [List.drop_eq_nil_of_le (by omega)]
    have hl := wval_lt h
    refine Nat.div_eq_of_lt (Nat.lt_of_lt_of_le hl (Nat.pow_le_pow_right (by decide) (by omega)))
theorem wval_drop_get {a : List Nat} {i : Nat} : wval (a.drop i) = a[i]?.getD 0 + 4294967296 * wval (a.drop (i + 1)) := by
  by_cases hi : i < a.length
  · rw [List.drop_eq_getElem_cons hi, List.getElem?_eq_getElem hi]
    rfl
  · rw [List.drop_eq_nil_of_le (by omega), List.drop_eq_nil_of_le (by omega), List.getElem?_eq_none (by omega)]
    rfl
theorem pow32 (n : Nat) : 2 ^ n = 4294967296 ^ (n / 32) * 2 ^ (n % 32) := pow_split n
/-- A bit of a list of words. -/
theorem wval_bit {a : List Nat} (h : wordsOk a) (i : Nat) : wval a / 2 ^ i % 2 = (a[i / 32]?.getD 0) / 2 ^ (i % 32) % 2 := by
  rw [pow32 i, ← Nat.div_div_eq_div_mul, wval_drop h, wval_drop_get]
  generalize a[i / 32]?.getD 0 = x
  generalize wval (a.drop (i / 32 + 1)) = y
  have e : (4294967296 : Nat) = 2 ^ (i % 32) * (2 * 2 ^ (31 - i % 32)) := by
    rw [← Nat.pow_succ', ← Nat.pow_add, show i % 32 + (31 - i % 32).succ = 32 by omega]
  rw [show 4294967296 * y = 2 ^ (i % 32) * (2 * (2 ^ (31 - i % 32) * y)) by rw [← Nat.mul_assoc, ← Nat.mul_assoc, Nat.mul_assoc (2 ^ (i % 32)), ← e]]
  rw [Nat.add_mul_div_left _ _ (Nat.two_pow_pos _)]
  omega
/-- Whether something below bit i is not zero. -/
def cutB (v i : Nat) : Bool := decide (v % 2 ^ i ≠ 0)
theorem cutB_zero (v : Nat) : cutB v 0 = false := by simp [cutB, Nat.mod_one]
theorem cutB_succ (v i : Nat) : cutB v (i + 1) = (cutB v i || v / 2 ^ i % 2 == 1) := by
  have e : v % 2 ^ (i + 1) = v % 2 ^ i + 2 ^ i * (v / 2 ^ i % 2) := by
    rw [Nat.pow_succ, Nat.mod_mul]
  have hp := Nat.two_pow_pos i
  unfold cutB
  rw [e]
  rcases Nat.mod_two_eq_zero_or_one (v / 2 ^ i) with h | h
  · rw [h, Nat.mul_zero, Nat.add_zero]
    simp
  · rw [h, Nat.mul_one]
    have : v % 2 ^ i + 2 ^ i ≠ 0 := by omega
    simp [this]
theorem cutB_big {v i j : Nat} (h : v < 2 ^ i) (hj : i ≤ j) : cutB v j = cutB v i := by
  unfold cutB
  rw [Nat.mod_eq_of_lt h, Nat.mod_eq_of_lt (Nat.lt_of_lt_of_le h (Nat.pow_le_pow_right (by decide) hj))]
/-- One word of the quotient. -/
theorem rg_word {x y t r : Nat} (hr : r ≤ 31) : (x + 4294967296 * (y + 4294967296 * t)) / 2 ^ r % 4294967296 = (x + y * 4294967296) / 2 ^ r % 4294967296 := by
  have e : (4294967296 : Nat) = 2 ^ r * 2 ^ (32 - r) := by rw [← Nat.pow_add, show r + (32 - r) = 32 by omega]
  rw [show x + 4294967296 * (y + 4294967296 * t) = (x + y * 4294967296) + 2 ^ r * (4294967296 * (2 ^ (32 - r) * t)) by
    have : 4294967296 * (4294967296 * t) = 2 ^ r * (4294967296 * (2 ^ (32 - r) * t)) := by
      rw [← Nat.mul_assoc, ← Nat.mul_assoc, ← Nat.mul_assoc, Nat.mul_comm (2 ^ r) 4294967296, Nat.mul_assoc 4294967296 (2 ^ r), ← e]
    omega]
  rw [Nat.add_mul_div_left _ _ (Nat.two_pow_pos _)]
  omega
theorem rg_step {a os : List Nat} {n k z : Nat} (h : wordsOk a) (hol : os.length = k) (hv : wval os = wval a / 2 ^ n % 4294967296 ^ k)
    (hz : z = (a[n / 32 + k]?.getD 0 + a[n / 32 + k + 1]?.getD 0 * 4294967296) / 2 ^ (n % 32) % 4294967296) :
    wval (os ++ [z]) = wval a / 2 ^ n % 4294967296 ^ (k + 1) := by
  rw [wval_append, hol, hv, Nat.pow_succ, Nat.mod_mul]
  congr 1
  have e1 : wval [z] = z := by simp [wval]
  have e2 : wval a / 2 ^ n / 4294967296 ^ k = wval (a.drop (n / 32 + k)) / 2 ^ (n % 32) := by
    rw [← wval_drop h, Nat.pow_add, pow32 n]
    simp only [Nat.div_div_eq_div_mul]
    congr 1
    rw [Nat.mul_assoc, Nat.mul_assoc, Nat.mul_comm (2 ^ _)]
  rw [e1, e2, wval_drop_get, wval_drop_get, rg_word (by omega), hz]
theorem rg_end {a os : List Nat} {n k : Nat} (h : wordsOk a) (hk : a.length ≤ n / 32 + k) (hv : wval os = wval a / 2 ^ n % 4294967296 ^ k) : wval os = wval a / 2 ^ n := by
  rw [hv]
  refine Nat.mod_eq_of_lt ?_
  have hl := wval_lt h
  refine (Nat.div_lt_iff_lt_mul (Nat.two_pow_pos _)).2 (Nat.lt_of_lt_of_le hl ?_)
  rw [pow32 n, ← Nat.mul_assoc, ← Nat.pow_add]
  refine Nat.le_trans (Nat.pow_le_pow_right (by decide) (show a.length ≤ k + n / 32 by omega)) (Nat.le_mul_of_pos_right _ (Nat.two_pow_pos _))
theorem bit_u32 {x r : Nat} (hx : x < 4294967296) : bits .and .u32 ((x : Int) / 2 ^ r) 1 = ((x / 2 ^ r % 2 : Nat) : Int) := by
  have e : (x : Int) / 2 ^ r = ((x / 2 ^ r : Nat) : Int) := by simp
  have hl : x / 2 ^ r ≤ x := Nat.div_le_self _ _
  rw [e]
  generalize x / 2 ^ r = y at hl
  have := bits_mask .u32 32 (by decide) (fun n h0 h1 => by rw [IntKind.wrap_u32]; omega) 1 (by decide) (y : Int) (by omega) (by omega)
  rw [show ((2 : Int) ^ 1 - 1) = 1 by decide, show ((2 : Int) ^ 1) = 2 by decide] at this
  rw [this]
  omega
theorem nat_beq_one (y : Nat) : (((y : Nat) : Int) == 1) = (y == 1) := by
  by_cases h : y = 1
  · subst h; rfl
  · have h2 : (((y : Nat) : Int) == 1) = false := by rw [beq_eq_false_iff_ne]; omega
    have h3 : (y == 1) = false := by rw [beq_eq_false_iff_ne]; omega
    rw [h2, h3]
theorem rg_bit {a : List Nat} {k x : Nat} (h : wordsOk a) (hx : x < 4294967296) (hg : a[k / 32]?.getD 0 = x) : (bits .and .u32 ((x : Int) / 2 ^ (k % 32)) 1 == 1) = (wval a / 2 ^ k % 2 == 1) := by
  rw [bit_u32 hx, wval_bit h, hg]
  exact nat_beq_one _
theorem rg_or {x y : Nat} (hx : x < 4294967296) (hy : y < 4294967296) : bits .or .u64 (x : Int) ((y : Int) * 4294967296) = ((x + y * 4294967296 : Nat) : Int) := by
  have := or_low (c := x) (x := y) (s := 32) (by omega) hy (by omega)
  rw [← this]
  simp
def rgRel2 (w : World) (a : List Nat) (n q : Nat) (v i : Value) (wr : World) : Prop :=
  ∃ (k : Nat) (os : List Nat), q + k ≤ a.length ∧ i = .int .i64 ((q + k : Nat) : Int) ∧ OwnW wr w.heap.size v os ∧ os.length = k ∧ wordsOk os ∧ wval os = wval a / 2 ^ n % 4294967296 ^ k ∧ Below w.heap.size w wr
def rgRel (a : List Nat) (n : Nat) (w : World) (cv i : Value) (wr : World) : Prop :=
  ∃ k : Nat, k ≤ n ∧ k ≤ 32 * a.length ∧ i = .int .i64 (k : Int) ∧ cv = .bool (cutB (wval a) k) ∧ w = wr

/-- m / 2^den without common factors. -/
def nf (m : Int) : Nat → Int × Nat
  | 0 => (m, 0)
  | d + 1 => if m % 2 = 0 then nf (m / 2) d else (m, d + 1)
def sg (neg : Bool) (n : Nat) : Int := if neg = true then -(n : Int) else n
theorem nf_zero (d : Nat) : nf 0 d = (0, 0) := by
  induction d with
  | zero => rfl
  | succ d ih => simp [nf, ih]
theorem nf_le (m : Int) (d : Nat) : (nf m d).2 ≤ d := by
  induction d generalizing m with
  | zero => exact Nat.le_refl _
  | succ d ih =>
    unfold nf
    split
    · have := ih (m / 2); omega
    · exact Nat.le_refl _
theorem nf_odd (m : Int) (d : Nat) : (nf m d).2 ≠ 0 → (nf m d).1 % 2 = 1 := by
  induction d generalizing m with
  | zero => simp [nf]
  | succ d ih =>
    unfold nf
    split
    · exact ih _
    · intro _
      simp
      omega
theorem nf_done {m : Int} {d : Nat} (h : d ≠ 0 → m % 2 = 1) : nf m d = (m, d) := by
  cases d with
  | zero => rfl
  | succ d =>
    have := h (by omega)
    simp [nf, this]
theorem nf_eq (m : Int) (d : Nat) : (nf m d).1 * 2 ^ d = m * 2 ^ (nf m d).2 := by
  induction d generalizing m with
  | zero => rfl
  | succ d ih =>
    unfold nf
    split
    · rename_i h
      rw [Int.pow_succ, ← Int.mul_assoc, ih]
      have : m = m / 2 * 2 := by omega
      rw [Int.mul_assoc, Int.mul_comm (2 ^ _) 2, ← Int.mul_assoc, ← this]
    · rfl
theorem nf_abs_le (m : Int) (d : Nat) : (nf m d).1.natAbs ≤ m.natAbs := by
  induction d generalizing m with
  | zero => exact Nat.le_refl _
  | succ d ih =>
    unfold nf
    split
    · have := ih (m / 2); omega
    · exact Nat.le_refl _
theorem sg_abs (neg : Bool) (n : Nat) : (sg neg n).natAbs = n := by
  unfold sg
  split <;> omega
theorem sg_neg {neg : Bool} {n : Nat} (h : n ≠ 0) : decide (sg neg n < 0) = neg := by
  unfold sg
  cases neg <;> simp <;> omega
theorem sg_back (m : Int) : sg (decide (m < 0)) m.natAbs = m := by
  unfold sg
  by_cases h : m < 0
  · simp [h]; omega
  · simp [h]; omega
theorem nf_step {neg : Bool} {n k den : Nat} (hk : k < den) (h : n / 2 ^ k % 2 = 0) : nf (sg neg (n / 2 ^ k)) (den - k) = nf (sg neg (n / 2 ^ (k + 1))) (den - (k + 1)) := by
  rw [Nat.pow_succ, ← Nat.div_div_eq_div_mul, show den - k = (den - (k + 1)) + 1 by omega]
  generalize n / 2 ^ k = y at *
  show (if sg neg y % 2 = 0 then nf (sg neg y / 2) (den - (k + 1)) else _) = _
  have e1 : sg neg y % 2 = 0 := by unfold sg; split <;> omega
  have e2 : sg neg y / 2 = sg neg (y / 2) := by unfold sg; split <;> omega
  rw [if_pos e1, e2]
theorem canon_len_mono {a b : Nat} (h : a ≤ b) : (canon a).length ≤ (canon b).length := by
  refine canon_len_le (Nat.lt_of_le_of_lt h ?_)
  have := wval_lt (canon_ok b)
  rwa [wval_canon] at this
theorem nat_beq_zero (y : Nat) : (((y : Nat) : Int) == 0) = (y == 0) := by
  by_cases h : y = 0
  · subst h; rfl
  · have h2 : (((y : Nat) : Int) == 0) = false := by rw [beq_eq_false_iff_ne]; omega
    have h3 : (y == 0) = false := by rw [beq_eq_false_iff_ne]; omega
    rw [h2, h3]
theorem nu_bit {a : List Nat} {k x : Nat} (h : wordsOk a) (hx : x < 4294967296) (hg : a[k / 32]?.getD 0 = x) : (bits .and .u32 ((x : Int) / 2 ^ (k % 32)) 1 == 0) = (wval a / 2 ^ k % 2 == 0) := by
  rw [bit_u32 hx, wval_bit h, hg]
  exact nat_beq_zero _
theorem nu_mod {n k : Nat} (h : n % 2 ^ k = 0) (hz : n / 2 ^ k % 2 = 0) : n % 2 ^ (k + 1) = 0 := by
  rw [Nat.pow_succ, Nat.mod_mul, h, hz]
  simp
/-- The value v is the number x / 2^d in its normal form; its words lie in blocks from lo to hi. -/
def DyR (w : World) (lo hi : Nat) (v : Value) (x : Int) (d : Nat) : Prop :=
  ∃ A c, v = .agg #[.bool (decide (x < 0)), .slice A (canon x.natAbs).length c, .int .i64 (d : Int)] ∧ (A = none → c = 0) ∧ (canon x.natAbs).length ≤ c ∧ CellsAt w hi A (w32 (canon x.natAbs)) ∧
    (∀ a, A = some a → lo ≤ a.block) ∧ d ≤ 65536 ∧ (d ≠ 0 → x % 2 = 1)
theorem DyR.zero_ (w : World) (lo hi : Nat) : DyR w lo hi (.agg #[.bool false, .slice none 0 0, .int .i64 0]) 0 0 := by
  refine ⟨none, 0, ?_, fun _ => rfl, ?_, ?_, by simp, by omega, by simp⟩
  · rw [show (0 : Int).natAbs = 0 by rfl, canon_zero]; rfl
  · rw [show (0 : Int).natAbs = 0 by rfl, canon_zero]; exact Nat.le_refl _
  · rw [show (0 : Int).natAbs = 0 by rfl, canon_zero]; exact CellsAt.nil_
def n0Rel (w : World) (i : Value) (wr : World) : Prop := i = .int .i64 0 ∧ w = wr
/-- Where the loop over the zeros stands. -/
def nuRel (n den : Nat) (neg : Bool) (w : World) (i : Value) (wr : World) : Prop :=
  ∃ k : Nat, k ≤ den ∧ k ≤ 32 * (canon n).length ∧ i = .int .i64 (k : Int) ∧ n % 2 ^ k = 0 ∧ nf (sg neg n) den = nf (sg neg (n / 2 ^ k)) (den - k) ∧ w = wr

theorem DyR.below {w w' : World} {lo hi B d : Nat} {v : Value} {x : Int} (h : DyR w lo hi v x d) (hb : Below B w w') (hB : hi ≤ B) : DyR w' lo hi v x d := by
  obtain ⟨A, c, e, h1, h2, h3, h4, h5, h6⟩ := h
  exact ⟨A, c, e, h1, h2, h3.below hb hB, h4, h5, h6⟩
theorem DyR.more {w : World} {lo hi hi' d : Nat} {v : Value} {x : Int} (h : DyR w lo hi v x d) (hB : hi ≤ hi') : DyR w lo hi' v x d := by
  obtain ⟨A, c, e, h1, h2, h3, h4, h5, h6⟩ := h
  exact ⟨A, c, e, h1, h2, h3.more hB, h4, h5, h6⟩
theorem DyR.low {w : World} {lo lo' hi d : Nat} {v : Value} {x : Int} (h : DyR w lo hi v x d) (hB : lo' ≤ lo) : DyR w lo' hi v x d := by
  obtain ⟨A, c, e, h1, h2, h3, h4, h5, h6⟩ := h
  exact ⟨A, c, e, h1, h2, h3, fun a ha => Nat.le_trans hB (h4 a ha), h5, h6⟩
theorem CellsAt.setD {w : World} {m : Nat} {A : Option Addr} {xs : List Value} (h : CellsAt w m A xs) {b j : Nat} (u : Value) (hA : ∀ a : Addr, A = some a → a.block ≠ b) : CellsAt (w.setCell ⟨b, j, none⟩ u) m A xs := fun hx => by
  obtain ⟨g, off, rfl, hbm, hbs, hc⟩ := h hx
  refine ⟨g, off, rfl, hbm, by simpa using hbs, fun i u hu => ?_⟩
  have hne : g ≠ b := hA _ rfl
  rw [World.cell?_setCell_other _ _ _ _ (by first | (simp; omega) | simp_all)]
  exact hc i u hu
theorem DyR.set_ {w : World} {lo hi d b : Nat} {v : Value} {x : Int} (h : DyR w lo hi v x d) (hb : b < lo) (j : Nat) (u : Value) : DyR (w.setCell ⟨b, j, none⟩ u) lo hi v x d := by
  obtain ⟨A, c, e, h1, h2, h3, h4, h5, h6⟩ := h
  exact ⟨A, c, e, h1, h2, h3.setD u (fun a ha h0 => by have := h4 a ha; omega), h4, h5, h6⟩
/-- The three parts, with their meaning behind a seal. -/
theorem DyR.form {w : World} {lo hi d : Nat} {v : Value} {x : Int} (h : DyR w lo hi v x d) : ∃ nb A L c, v = .agg #[.bool nb, .slice A L c, .int .i64 (d : Int)] ∧
    Hid (nb = decide (x < 0) ∧ L = (canon x.natAbs).length ∧ (A = none → c = 0) ∧ L ≤ c ∧ CellsAt w hi A (w32 (canon x.natAbs)) ∧ d ≤ 65536 ∧ (d ≠ 0 → x % 2 = 1)) := by
  obtain ⟨A, c, e, h1, h2, h3, h4, h5, h6⟩ := h
  exact ⟨_, A, _, c, e, Lib.hid ⟨rfl, rfl, h1, h2, h3, h5, h6⟩⟩
theorem dy_ok {x : Int} {d : Nat} (h5 : d ≤ 65536) (h6 : d ≠ 0 → x % 2 = 1) : DyOk (decide (x < 0)) x.natAbs d := by
  refine ⟨fun h => ?_, h5, fun h => by have := h6 h; omega⟩
  have hx : x = 0 := by omega
  subst hx
  refine ⟨by simp, ?_⟩
  rcases Nat.eq_zero_or_pos d with h | h
  · exact h
  · have := h6 (by omega)
    omega
theorem nf_id {x : Int} {d : Nat} (h6 : d ≠ 0 → x % 2 = 1) : nf x d = (x, d) := nf_done h6
def sgI (x : Int) : Int := if x = 0 then 0 else if x < 0 then -1 else 1
theorem RowD.other_ {w : World} {b t : Nat} {vs : List Value} (h : RowD w b vs t) {k : Nat} (hk : b ≠ k) (j : Nat) (u : Value) : RowD (w.setCell ⟨k, j, none⟩ u) b vs t := by
  unfold RowD
  rw [heap_setCell_other _ _ _ _ hk]
  exact h

theorem RowD.cells_ {w : World} {b t m : Nat} {vs : List Value} (h : RowD w b vs t) (hm : b < m) : CellsAt w m (some ⟨b, 0, none⟩) vs := fun _ => ⟨b, 0, rfl, hm, h.lt, fun j u hu => by
  have := h.cell j
  rw [Nat.zero_add, this]
  exact hu⟩
theorem of_words {lo hi : Nat} : wval [lo, hi] = lo + 4294967296 * hi := by simp [wval]
theorem of_ok {lo hi : Nat} (h1 : lo < 4294967296) (h2 : hi < 4294967296) : wordsOk [lo, hi] := by
  intro x hx
  simp at hx
  omega

/-- Block r is a number's cells, of the call's own. -/
def OwnD (w : World) (r : Nat) : Prop := ∃ v0 v1 v2, RowD w r [v0, v1, v2] 37
/-- The blocks below m as in W; block r a number's cells. -/
structure SK (W : World) (m r : Nat) (w : World) : Prop where
  is : Below m W w
  fits : m ≤ w.heap.size
  own : OwnD w r
theorem SK.refl {w : World} {m r : Nat} (h : m ≤ w.heap.size) (ho : OwnD w r) : SK w m r w := ⟨Below.refl _ _, h, ho⟩
theorem SK.drew {W w : World} {m r : Nat} (h : SK W m r w) : SK W m r w.drew := ⟨h.is.drew, h.fits, h.own⟩
theorem RowD.call {w w' : World} {b t : Nat} {vs : List Value} (h : RowD w b vs t) (hb : Below w.heap.size w w') : RowD w' b vs t := h.below hb h.lt
theorem SK.call {W w w' : World} {m r : Nat} (h : SK W m r w) (hb : Below w.heap.size w w') : SK W m r w' :=
  ⟨h.is.trans (hb.mono h.fits), Nat.le_trans h.fits hb.size, let ⟨_, _, _, hr⟩ := h.own; ⟨_, _, _, hr.call hb⟩⟩
theorem SK.set {W w : World} {m r : Nat} (h : SK W m r w) (hm : m ≤ r) (j : Nat) (u : Value) : SK W m r (w.setCell ⟨r, j, none⟩ u) := by
  refine ⟨h.is.setCell hm u, by simpa using h.fits, ?_⟩
  obtain ⟨v0, v1, v2, hr⟩ := h.own
  have h2 := hr.set_ j u
  rcases j with _ | _ | _ | j
  · exact ⟨_, _, _, h2⟩
  · exact ⟨_, _, _, h2⟩
  · exact ⟨_, _, _, h2⟩
  · exact ⟨_, _, _, h2⟩
theorem SK.lt {W w : World} {m r : Nat} (h : SK W m r w) : r < w.heap.size := let ⟨_, _, _, hr⟩ := h.own; hr.lt
/-- What the walk reads of it. -/
theorem SK.all {W w : World} {m r : Nat} (h : SK W m r w) : (∀ b o, b < m → w.cell? ⟨b, o, none⟩ = W.cell? ⟨b, o, none⟩) ∧ SK W m r w :=
  ⟨fun _ _ hb => h.is.cell (p := ⟨_, _, none⟩) hb, h⟩
/-- The cells of block r, as the walk wants them for a store. -/
theorem SK.cells {W w : World} {m r : Nat} (h : SK W m r w) : ∃ v0 v1 v2, RowD w r [v0, v1, v2] 37 ∧ w.cell? ⟨r, 0, none⟩ = some v0 ∧ w.cell? ⟨r, 1, none⟩ = some v1 ∧ w.cell? ⟨r, 2, none⟩ = some v2 ∧ (∀ o, w.frozen? ⟨r, o, none⟩ = false) := by
  obtain ⟨v0, v1, v2, hr⟩ := h.own
  exact ⟨v0, v1, v2, hr, hr.cell 0, hr.cell 1, hr.cell 2, hr.free⟩
theorem canon_len_add (a b : Nat) : (canon (a + b)).length ≤ max (canon a).length (canon b).length + 1 := by
  refine canon_len_le ?_
  have h1 := wval_lt (canon_ok a)
  have h2 := wval_lt (canon_ok b)
  rw [wval_canon] at h1 h2
  have e1 : 4294967296 ^ (canon a).length ≤ 4294967296 ^ max (canon a).length (canon b).length := Nat.pow_le_pow_right (by decide) (by omega)
  have e2 : 4294967296 ^ (canon b).length ≤ 4294967296 ^ max (canon a).length (canon b).length := Nat.pow_le_pow_right (by decide) (by omega)
  rw [Nat.pow_succ]
  have h0 : 0 < 4294967296 ^ max (canon a).length (canon b).length := Nat.pow_pos (by decide)
  omega
theorem canon_len_shift (a n : Nat) : (canon (a * 2 ^ n)).length ≤ (canon a).length + n / 32 + 1 := by
  refine canon_len_le ?_
  have h1 := wval_lt (canon_ok a)
  rw [wval_canon] at h1
  have e : 2 ^ n ≤ 4294967296 ^ (n / 32 + 1) := by
    rw [show (4294967296 : Nat) = 2 ^ 32 by decide, ← Nat.pow_mul]
    exact Nat.pow_le_pow_right (by decide) (by omega)
  rw [Nat.add_assoc, Nat.pow_add]
  exact Nat.lt_of_lt_of_le (Nat.mul_lt_mul_of_pos_right h1 (Nat.two_pow_pos _)) (Nat.mul_le_mul_left _ e)

/-- The value v is the words of n without leading zeros. -/
def WdR (w : World) (hi : Nat) (v : Value) (n : Nat) : Prop := ∃ A c, v = .slice A (canon n).length c ∧ (A = none → c = 0) ∧ (canon n).length ≤ c ∧ CellsAt w hi A (w32 (canon n))
theorem WdR.below {w w' : World} {hi B n : Nat} {v : Value} (h : WdR w hi v n) (hb : Below B w w') (hB : hi ≤ B) : WdR w' hi v n := by
  obtain ⟨A, c, e, h1, h2, h3⟩ := h
  exact ⟨A, c, e, h1, h2, h3.below hb hB⟩
theorem WdR.more {w : World} {hi hi' n : Nat} {v : Value} (h : WdR w hi v n) (hB : hi ≤ hi') : WdR w hi' v n := by
  obtain ⟨A, c, e, h1, h2, h3⟩ := h
  exact ⟨A, c, e, h1, h2, h3.more hB⟩
theorem WdR.form {w : World} {hi n : Nat} {v : Value} (h : WdR w hi v n) : ∃ A L c, v = .slice A L c := by
  obtain ⟨A, c, e, _⟩ := h
  exact ⟨A, _, c, e⟩
theorem DyR.words {w : World} {lo hi d : Nat} {nb : Bool} {A : Option Addr} {L c : Nat} {x : Int} (h : DyR w lo hi (.agg #[.bool nb, .slice A L c, .int .i64 (d : Int)]) x d) : WdR w hi (.slice A L c) x.natAbs := by
  obtain ⟨A', c', e, h1, h2, h3, _⟩ := h
  cases e
  exact ⟨_, _, rfl, h1, h2, h3⟩
theorem lessB_canon (a b : Nat) : lessB (canon a) (canon b) = decide (a < b) := by
  unfold lessB
  by_cases h : (canon a).length = (canon b).length
  · rw [if_pos h, wval_canon, wval_canon]
  · rw [if_neg h]
    by_cases h2 : a < b
    · have := canon_len_mono (Nat.le_of_lt h2)
      rw [decide_eq_true h2, decide_eq_true (by omega)]
    · have := canon_len_mono (Nat.le_of_not_lt h2)
      rw [decide_eq_false h2, decide_eq_false (by omega)]
/-- The sum of x / 2^dx and y / 2^dy. -/
def dySum (x : Int) (dx : Nat) (y : Int) (dy : Nat) : Int × Nat := nf (x * 2 ^ (max dx dy - dx) + y * 2 ^ (max dx dy - dy)) (max dx dy)
theorem sg_mul (x : Int) (k : Nat) : sg (decide (x < 0)) (x.natAbs * 2 ^ k) = x * 2 ^ k := by
  have e : ((x.natAbs * 2 ^ k : Nat) : Int) = (x.natAbs : Int) * 2 ^ k := by simp
  unfold sg
  by_cases h : x < 0
  · have : (x.natAbs : Int) = -x := by omega
    rw [if_pos (by simpa using h), e, this, Int.neg_mul, Int.neg_neg]
  · have : (x.natAbs : Int) = x := by omega
    rw [if_neg (by simpa using h), e, this]
theorem ad_same (nb : Bool) (a b : Nat) : sg nb (a + b) = sg nb a + sg nb b := by
  unfold sg
  split <;> omega
theorem ad_less {nb nb2 : Bool} {a b : Nat} (hn : nb ≠ nb2) (h : a < b) : sg nb2 (b - a) = sg nb a + sg nb2 b := by
  unfold sg
  cases nb <;> cases nb2 <;> simp at hn ⊢ <;> omega
theorem ad_more {nb nb2 : Bool} {a b : Nat} (hn : nb ≠ nb2) (h : b ≤ a) : sg nb (a - b) = sg nb a + sg nb2 b := by
  unfold sg
  cases nb <;> cases nb2 <;> simp at hn ⊢ <;> omega

theorem abs_mul_pow (x : Int) (k : Nat) : (x * 2 ^ k).natAbs = x.natAbs * 2 ^ k := by
  rw [Int.natAbs_mul, Int.natAbs_pow]
  rfl
theorem dySum_len {x y : Int} {dx dy : Nat} (l1 : (canon x.natAbs).length ≤ 50000) (l2 : (canon y.natAbs).length ≤ 50000) (h1 : dx ≤ 65536) (h2 : dy ≤ 65536) : (canon (dySum x dx y dy).1.natAbs).length ≤ 100000 := by
  unfold dySum
  refine Nat.le_trans (canon_len_mono (nf_abs_le _ _)) ?_
  refine Nat.le_trans (canon_len_mono (Int.natAbs_add_le _ _)) ?_
  rw [abs_mul_pow, abs_mul_pow]
  have e1 := canon_len_shift x.natAbs (max dx dy - dx)
  have e2 := canon_len_shift y.natAbs (max dx dy - dy)
  have e3 := canon_len_add (x.natAbs * 2 ^ (max dx dy - dx)) (y.natAbs * 2 ^ (max dx dy - dy))
  omega
theorem dySum_zero {x : Int} {dx : Nat} (h : dx ≠ 0 → x % 2 = 1) : dySum x dx 0 0 = (x, dx) := by
  unfold dySum
  rw [show max dx 0 = dx by omega]
  simp
  exact nf_done h
/-- The comparison of x / 2^dx and y / 2^dy. -/
def dyCmp (x : Int) (dx : Nat) (y : Int) (dy : Nat) : Int := sgI (dySum x dx (-y) dy).1
def dyMin (x : Int) (dx : Nat) (y : Int) (dy : Nat) : Int × Nat := if 0 < dyCmp x dx y dy then (y, dy) else (x, dx)
def dyMax (x : Int) (dx : Nat) (y : Int) (dy : Nat) : Int × Nat := if dyCmp x dx y dy < 0 then (y, dy) else (x, dx)
theorem DyR.bound {w : World} {lo hi d : Nat} {v : Value} {x : Int} (h : DyR w lo hi v x d) : d ≤ 65536 ∧ (d ≠ 0 → x % 2 = 1) := by
  obtain ⟨A, c, e, h1, h2, h3, h4, h5, h6⟩ := h
  exact ⟨h5, h6⟩

/-- x / 2^d times 2^n, n held within 65536. -/
def dyShift (x : Int) (d : Nat) (n : Int) : Int × Nat :=
  if max (-65536) (min n 65536) < 0 then nf x (d + (-(max (-65536) (min n 65536))).toNat) else nf (x * 2 ^ (max (-65536) (min n 65536)).toNat) d
/-- The greatest multiple of 2^-den that is at most x / 2^d. -/
def dyFloor (x : Int) (d den : Nat) : Int × Nat := if d ≤ den then (x, d) else nf (x / 2 ^ (d - den)) den
theorem fl_pos {x : Int} {k : Nat} (h : 0 ≤ x) : sg false (x.natAbs / 2 ^ k) = x / 2 ^ k := by
  obtain ⟨a, rfl⟩ := Int.eq_ofNat_of_zero_le h
  show ((a / 2 ^ k : Nat) : Int) = (a : Int) / 2 ^ k
  simp
theorem fl_neg_cut {x : Int} {k : Nat} (h : x < 0) (hc : cutB x.natAbs k = true) : sg true (x.natAbs / 2 ^ k + 1) = x / 2 ^ k := by
  obtain ⟨a, ha⟩ : ∃ a : Nat, x = -(a : Int) := ⟨x.natAbs, by omega⟩
  subst ha
  rw [show (-(a : Int)).natAbs = a by omega] at hc ⊢
  unfold cutB at hc
  simp only [decide_eq_true_eq] at hc
  have hp := Nat.two_pow_pos k
  have e := Nat.div_add_mod a (2 ^ k)
  have hm := Nat.mod_lt a hp
  show -((a / 2 ^ k + 1 : Nat) : Int) = -(a : Int) / 2 ^ k
  have ec : ((2 ^ k : Nat) : Int) = 2 ^ k := by simp
  rw [← ec]
  generalize 2 ^ k = P at *
  have h1 : -(a : Int) = (P : Int) * (-((a / P + 1 : Nat) : Int)) + ((P - a % P : Nat) : Int) := by
    have e3 : ((P - a % P : Nat) : Int) = (P : Int) - ((a % P : Nat) : Int) := by omega
    have e4 : (a : Int) = (P : Int) * ((a / P : Nat) : Int) + ((a % P : Nat) : Int) := by exact_mod_cast e.symm
    rw [e3]
    generalize a / P = u at *
    generalize a % P = v at *
    rw [e4, Int.mul_neg, show ((u + 1 : Nat) : Int) = (u : Int) + 1 by omega, Int.mul_add]
    omega
  rw [h1, Int.mul_add_ediv_left _ _ (by omega)]
  rw [Int.ediv_eq_zero_of_lt (by omega) (by omega)]
  omega
def itRel (a : List Nat) (w : World) (mv i : Value) (wr : World) : Prop :=
  ∃ k mm : Nat, k ≤ a.length ∧ i = .int .i64 ((k : Int) - 1) ∧ mv = .int .u64 (mm : Int) ∧ mm = wval (a.drop k) ∧ w = wr
theorem it_or {mm x : Nat} (hm : mm < 4294967296) (hx : x < 4294967296) : bits .or .u64 ((mm : Int) * 4294967296) (x : Int) = ((x + 4294967296 * mm : Nat) : Int) := by
  have h := or_low (c := x) (x := mm) (s := 32) (by omega) hm (by omega)
  rw [show x + 4294967296 * mm = x + mm * 2 ^ 32 by omega, ← h]
  have e : ((mm : Int) * 4294967296) = ((mm * 2 ^ 32 : Nat) : Int) := by simp
  rw [e, bits_or_u64_nat _ _ (by omega) (by omega), bits_or_u64_nat _ _ (by omega) (by omega), Nat.or_comm]
end Go.Proofs.YtjlocofimlgaoaaDoor
