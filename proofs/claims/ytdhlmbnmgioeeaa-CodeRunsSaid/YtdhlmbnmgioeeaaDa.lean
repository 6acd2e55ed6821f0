/- Words of 32 bits: lists of them in memory; the document's trim. And more of the kind. No conditions. -/
import Derived.Test.YtdhlmbnmgioeeaaMod
import Derived.Test.YtdhlmbnmgioeeaaCom
import Derived.Test.YtdhlmbnmgioeeaaRows
import Derived.Laws.AppendOwnNone
import Derived.Laws.OwnMore
/- Words of 32 bits: lists of them in memory; the document's trim. No conditions. -/
namespace Go.Proofs.Ytdhlmbnmgioeeaa
set_option linter.unusedVariables false
set_option linter.unusedSimpArgs false
set_option linter.unusedSectionVars false
open Go.RowKit

/-- A list of words as cells. -/
def w32 (ws : List Nat) : List Value := ws.map fun n : Nat => .int .u32 (n : Int)
theorem w32_len (ws : List Nat) : (w32 ws).length = ws.length := by simp [w32]
theorem CellsAt.w32_ {w : World} {m : Nat} {A : Option Addr} {ws : List Nat} (h : CellsAt w m A (w32 ws)) {k : Nat} (hk : k < ws.length) :
    ∃ b off z, A = some ⟨b, off, none⟩ ∧ b < m ∧ b < w.heap.size ∧ ws[k]? = some z ∧ w.cell? ⟨b, off + k, none⟩ = some (.int .u32 (z : Int)) := by
  obtain ⟨b, off, hA, hbm, hbs, hc⟩ := h (fun h0 => by have := w32_len ws; rw [h0] at this; simp at this; omega)
  exact ⟨b, off, ws[k], hA, hbm, hbs, List.getElem?_eq_getElem hk, hc k _ (by simp [w32, hk])⟩
/-- The number that a list of words is. -/
def wval : List Nat → Nat
  | [] => 0
  | x :: l => x + 4294967296 * wval l
def wordsOk (ws : List Nat) : Prop := ∀ x ∈ ws, x < 4294967296
/-- Without leading zeros. -/
def trimN (ws : List Nat) : Nat → Nat
  | 0 => 0
  | n + 1 => if ws[n]?.getD 0 = 0 then trimN ws n else n + 1
def trimL (ws : List Nat) : List Nat := ws.take (trimN ws ws.length)
theorem trimN_le (ws : List Nat) (n : Nat) : trimN ws n ≤ n := by
  induction n with
  | zero => exact Nat.le_refl _
  | succ n ih =>
    unfold trimN
    split <;> omega
theorem trimL_len (ws : List Nat) : (trimL ws).length = trimN ws ws.length := by
  have := trimN_le ws ws.length
  simp [trimL]
  omega
theorem wval_append (a b : List Nat) : wval (a ++ b) = wval a + 4294967296 ^ a.length * wval b := by
  induction a with
  | nil => simp [wval]
  | cons x a ih =>
    simp only [List.cons_append, wval, List.length_cons, ih, Nat.pow_succ, Nat.mul_add]
    rw [Nat.add_assoc, Nat.mul_comm (4294967296 ^ a.length) 4294967296, Nat.mul_assoc]
theorem wval_take (ws : List Nat) : ∀ n, n ≤ ws.length → wval (ws.take (trimN ws n)) = wval (ws.take n)
  | 0, _ => rfl
  | n + 1, h => by
    unfold trimN
    split
    · rename_i h0
      rw [wval_take ws n (by omega), List.take_add_one, wval_append]
      have : ws[n]? = some ws[n] := List.getElem?_eq_getElem (by omega)
      rw [this] at h0 ⊢
      simp at h0
      simp [wval, h0]
    · rfl
theorem wval_trim (ws : List Nat) : wval (trimL ws) = wval ws := by
  have := wval_take ws ws.length (Nat.le_refl _)
  rw [List.take_length] at this
  exact this
theorem trim_top (ws : List Nat) : ∀ n, n ≤ ws.length → 0 < trimN ws n → ws[trimN ws n - 1]?.getD 0 ≠ 0
  | 0, _, h => by simp [trimN] at h
  | n + 1, hn, h => by
    unfold trimN at h ⊢
    split at h
    · rename_i h0
      rw [if_pos h0]
      exact trim_top ws n (by omega) h
    · rename_i h0
      rw [if_neg h0]
      simpa using h0

def trRel (w : World) (ws : List Nat) (i : Value) (wr : World) : Prop := ∃ k : Nat, k ≤ ws.length ∧ i = .int .i64 k ∧ trimN ws k = trimN ws ws.length ∧ w = wr
set_option maxHeartbeats 1000000 in
theorem trim_any (A : Option Addr) (ws : List Nat) (c m : Nat) (w : World) (h : CellsAt w m A (w32 ws)) (hc : ws.length ≤ c) (hl : ws.length ≤ 1000000) :
    Calls Try.prog 56 #[.slice A ws.length c] w fun e w' => e = .returned (.slice A (trimL ws).length c) ∧ w = w' := by
  have H := Lib.hid h
  clear h
  go_enter Try.func56, Try.ntmps56
  go_wp2_with fail
  go_loopw [3] (fun i wr => trRel w ws i wr) (fun i _ => (intOf i).toNat)
  case atStart => exact ⟨ws.length, Nat.le_refl _, rfl, rfl, rfl⟩
  case round =>
    obtain ⟨k, hk, rfl, ht, rfl⟩ := hrel
    have HT := Lib.hid ht
    clear ht
    by_cases h0 : k = 0
    · subst h0
      go_wp2_with fail
      go_ret
      refine ⟨?_, rfl⟩
      rw [trimL_len, ← HT.out]
      rfl
    · obtain ⟨j, rfl⟩ := Nat.exists_eq_succ_of_ne_zero h0
      obtain ⟨b, off, z, rfl, hbm, hbs, hx, hcc⟩ := H.out.w32_ (k := j) (by omega)
      have HX := Lib.hid hx
      clear hx
      by_cases hz : z = 0
      · subst hz
        go_wp2_with fail
        have e1 : trimN ws j = trimN ws ws.length := by
          rw [← HT.out]
          show trimN ws j = if ws[j]?.getD 0 = 0 then trimN ws j else j + 1
          rw [if_pos (by rw [HX.out]; rfl)]
        exact ⟨⟨j, by omega, by go_num, e1, rfl⟩, by simp [intOf]; try omega⟩
      · have hz' : ((z : Int) == 0) = false := by simp; omega
        go_wp2_with fail
        go_ret
        refine ⟨?_, rfl⟩
        have e1 : j + 1 = trimN ws ws.length := by
          rw [← HT.out]
          show j + 1 = if ws[j]?.getD 0 = 0 then trimN ws j else j + 1
          rw [if_neg (by rw [HX.out]; exact hz)]
        rw [trimL_len, ← e1]
        rfl
end Go.Proofs.Ytdhlmbnmgioeeaa

/- Slices of 32-bit words that a call has made itself: what they own, and append. No conditions. -/
namespace Go.Proofs.Ytdhlmbnmgioeeaa
set_option linter.unusedVariables false
set_option linter.unusedSimpArgs false
set_option linter.unusedSectionVars false
open Go.RowKit Go.Deep

theorem info_w : (Try.prog.info? 91).map (fun i => (i.zero, i.size, i.bytes)) = some (some (.int .u32 0), 1, 4) := by kernel_rfl
theorem under_w : Try.prog.underlying 73 = some (.slice 91) := by kernel_rfl

/-- The slice value v owns these numbers, in a block of the call's own. -/
def OwnW (w : World) (base : Nat) (v : Value) (xs : List Nat) : Prop := w.ownsRow base 91 1 v xs.length (w32 xs)
theorem OwnW.nil_ (w : World) (base : Nat) : OwnW w base (.slice none 0 0) [] := World.ownsRow_nil w base _ _
theorem OwnW.lit0 {w : World} {base : Nat} (h : base ≤ w.heap.size) : OwnW (w.alloc (.cells #[] 91)) base (.slice (some ⟨w.heap.size, 0, none⟩) 0 0) [] := World.ownsRow_made w #[] 0 h (Nat.zero_le _) rfl
theorem OwnW.view {w : World} {base : Nat} {v : Value} {xs : List Nat} (h : OwnW w base v xs) : ∃ A c, v = .slice A xs.length c ∧ (A = none → c = 0) ∧ CellsAt w w.heap.size A (w32 xs) := by
  rcases h.2 with ⟨rfl, h0⟩ | ⟨g, cap, cur, rfl, hb, hg, hn, hm, hs, ht⟩
  · have : xs = [] := List.eq_nil_of_length_eq_zero h0
    subst this
    exact ⟨none, 0, rfl, fun _ => rfl, CellsAt.nil_⟩
  · have hlt := (World.ownsRow.lt h g rfl).2
    refine ⟨some ⟨g, 0, none⟩, cap, rfl, by simp, fun _ => ⟨g, 0, rfl, hlt, hlt, fun j u hu => ?_⟩⟩
    have := World.ownsRow.cells h (g := g) rfl j u hu
    rcases j with _ | j
    · simpa [Addr.add] using this
    · simpa [Addr.add] using this
theorem OwnW.base_ {w : World} {base : Nat} {v : Value} {xs : List Nat} (h : OwnW w base v xs) {base' : Nat} (hb : base' ≤ base) : OwnW w base' v xs := by
  refine ⟨h.1, ?_⟩
  rcases h.2 with hn | ⟨g, cap, cur, rfl, hbg, rest⟩
  · exact .inl hn
  · exact .inr ⟨g, cap, cur, rfl, Nat.le_trans hb hbg, rest⟩

theorem app_w {w : World} {ops : Array Oper} {rest : List Oper} {o : Oper} {a : Act} {Q : Exit → Act → World → Prop} (hgd : o.guard = none) (s x : Operand)
    (ho : o.op = .call { callee := .builtin .append, args := #[s, x], argTypes := #[73, 73] })
    (base : Nat) (v : Value) (xs ys : List Nat) (A : Option Addr) (c m : Nat) (hs : a.eval s = v) (hown : OwnW w base v xs) (hx : a.eval x = .slice A ys.length c) (hn : A = none → c = 0) (hc : CellsAt w m A (w32 ys))
    (hlen : xs.length + ys.length ≤ 1000000) (hbase : base ≤ w.heap.size)
    (h : ∀ v' w', OwnW w' base v' (xs ++ ys) → w.grownBy w' v.ownBlock → Below base w w' → wpList Try.prog ops Q rest (a.put o.dst v') w') : wpList Try.prog ops Q (o :: rest) a w := by
  obtain ⟨i0, hi, hz0, hz1, hz2⟩ := info_parts info_w
  rcases A with _ | ⟨b, off, l⟩
  · have hy : ys = [] := by
      rcases ys with _ | ⟨y, ys⟩
      · rfl
      · obtain ⟨b, off, hA, _⟩ := hc (by simp [w32])
        cases hA
    subst hy
    have hc0 := hn rfl
    subst hc0
    exact wpList_append_own_none hgd s x 73 ho base 91 i0 1 under_w hi v xs.length (w32 xs) hs hown hx (h v w (by rw [List.append_nil]; exact hown) ⟨rfl, rfl, rfl, Nat.le_refl _, fun _ _ _ => rfl⟩ (Below.refl _ _))
  · refine wpList_append_own w hgd s x 73 ho base 91 i0 (.int .u32 0) 1 4 under_w hi hz0 hz1 hz2 rfl (by decide) v xs.length (w32 xs) hs hown ⟨b, off, l⟩ ys.length c (w32 ys) hx (by simp [w32]) ?_ ?_ (by unfold maxLen; omega) (by omega) hbase (fun v' w' h1 h2 _ => h v' w' ?_ h2 ((Below.refl base w).grown h2 hbase (fun g hg => (World.ownsRow.lt hown g hg).1)))
    · intro j u hu
      obtain ⟨b', off', hA, _, _, hcc⟩ := hc (fun h0 => by rw [h0] at hu; simp at hu)
      cases hA
      have hu' := hcc j u hu
      rcases j with _ | j
      · simpa [Addr.add] using hu'
      · simpa [Addr.add] using hu'
    · intro u hu
      obtain ⟨z, _, rfl⟩ := List.mem_map.1 hu
      rfl
    · have e : w32 (xs ++ ys) = w32 xs ++ w32 ys := by simp [w32]
      unfold OwnW
      rw [e, List.length_append]
      exact h1
theorem OwnW.alloc {w : World} {base : Nat} {v : Value} {xs : List Nat} (h : OwnW w base v xs) (o : Obj) : OwnW (w.alloc o) base v xs := World.ownsRow.alloc h o
theorem OwnW.drew {w : World} {base : Nat} {v : Value} {xs : List Nat} (h : OwnW w base v xs) : OwnW w.drew base v xs := h
theorem OwnW.drewN {w : World} {base : Nat} {v : Value} {xs : List Nat} (h : OwnW w base v xs) (n : Nat) : OwnW (w.drewN n) base v xs := by
  induction n generalizing w with
  | zero => exact h
  | succ n ih => exact ih (w := w.drew) h.drew
theorem push_w {w : World} {ops : Array Oper} {rest : List Oper} {o : Oper} {a : Act} {Q : Exit → Act → World → Prop} (hgd : o.guard = none) (s x : Operand)
    (ho : o.op = .call { callee := .builtin .append, args := #[s, x], argTypes := #[73, 73] })
    (base : Nat) (v : Value) (xs : List Nat) (z : Nat) (g : Nat) (hs : a.eval s = v) (hown : OwnW w base v xs) (hx : a.eval x = .slice (some ⟨g, 0, none⟩) 1 1) (hg : w.cell? ⟨g, 0, none⟩ = some (.int .u32 (z : Int)))
    (hlen : xs.length < 1000000) (hbase : base ≤ w.heap.size)
    (h : ∀ v' w', OwnW w' base v' (xs ++ [z]) → w.grownBy w' v.ownBlock → Below base w w' → wpList Try.prog ops Q rest (a.put o.dst v') w') : wpList Try.prog ops Q (o :: rest) a w := by
  have hgl : g < w.heap.size := by
    rcases Nat.lt_or_ge g w.heap.size with h | h
    · exact h
    · simp [World.cell?, Array.getElem?_eq_none h] at hg
  exact app_w hgd s x ho base v xs [z] _ 1 w.heap.size hs hown hx (by simp) (fun _ => ⟨g, 0, rfl, hgl, hgl, fun j u hu => by
    rcases j with _ | j
    · simp [w32] at hu; subst hu; exact hg
    · simp [w32] at hu⟩) (by simp; omega) hbase h
theorem OwnW.below {w w' : World} {base B : Nat} {v : Value} {xs : List Nat} (h : OwnW w base v xs) (hb : Below B w w') (hv : ∀ g, v.ownBlock = some g → g < B) : OwnW w' base v xs := by
  refine ⟨h.1, ?_⟩
  rcases h.2 with hn | ⟨g, cap, cur, rfl, hbg, hg, rest⟩
  · exact .inl hn
  · refine .inr ⟨g, cap, cur, rfl, hbg, ?_, rest⟩
    rw [hb.block g (hv g rfl)]
    exact hg
end Go.Proofs.Ytdhlmbnmgioeeaa

/- The words of a number, without leading zeros: one list for each number. No conditions. -/
namespace Go.Proofs.Ytdhlmbnmgioeeaa
set_option linter.unusedVariables false
set_option linter.unusedSimpArgs false
set_option linter.unusedSectionVars false
open Go.RowKit

def canon (n : Nat) : List Nat := if h : n = 0 then [] else n % 4294967296 :: canon (n / 4294967296)
termination_by n
decreasing_by exact Nat.div_lt_self (by omega) (by decide)
theorem canon_zero : canon 0 = [] := by rw [canon]; simp
theorem canon_pos {n : Nat} (h : n ≠ 0) : canon n = n % 4294967296 :: canon (n / 4294967296) := by rw [canon]; simp [h]
theorem canon_ok (n : Nat) : wordsOk (canon n) := by
  induction n using Nat.strongRecOn with
  | _ n ih =>
    by_cases h : n = 0
    · subst h; rw [canon_zero]; intro x hx; cases hx
    · rw [canon_pos h]
      intro x hx
      rcases List.mem_cons.1 hx with rfl | hx
      · omega
      · exact ih _ (Nat.div_lt_self (by omega) (by decide)) x hx
theorem wval_canon (n : Nat) : wval (canon n) = n := by
  induction n using Nat.strongRecOn with
  | _ n ih =>
    by_cases h : n = 0
    · subst h; rw [canon_zero]; rfl
    · rw [canon_pos h]
      simp only [wval]
      rw [ih _ (Nat.div_lt_self (by omega) (by decide))]
      omega
theorem wval_zero {ws : List Nat} (h : wval ws = 0) : ∀ x ∈ ws, x = 0 := by
  induction ws with
  | nil => simp
  | cons x l ih =>
    simp only [wval] at h
    intro y hy
    rcases List.mem_cons.1 hy with rfl | hy
    · omega
    · exact ih (by omega) y hy
/-- A list of words whose last one is not zero is the one of its number. -/
theorem canon_wval {ws : List Nat} (h : wordsOk ws) (ht : ws ≠ [] → ws[ws.length - 1]?.getD 0 ≠ 0) : canon (wval ws) = ws := by
  induction ws with
  | nil => exact canon_zero
  | cons x l ih =>
    have hx := h x (by simp)
    have htop := ht (by simp)
    have hl : canon (wval l) = l := ih (fun y hy => h y (by simp [hy])) (fun hne => by
      have hp : 0 < l.length := List.length_pos_iff.2 hne
      have e : (x :: l)[(x :: l).length - 1]? = l[l.length - 1]? := by
        rw [show (x :: l).length - 1 = (l.length - 1) + 1 by simp; omega]
        rfl
      rw [e] at htop
      exact htop)
    have hne : wval (x :: l) ≠ 0 := fun h0 => by
      have hz := wval_zero h0
      apply htop
      have : (x :: l)[(x :: l).length - 1]? = some ((x :: l)[(x :: l).length - 1]'(by simp)) := List.getElem?_eq_getElem _
      rw [this]
      exact hz _ (List.getElem_mem _)
    rw [canon_pos hne]
    simp only [wval]
    rw [show (x + 4294967296 * wval l) % 4294967296 = x by omega, show (x + 4294967296 * wval l) / 4294967296 = wval l by omega, hl]
theorem trim_canon {ws : List Nat} (h : wordsOk ws) : trimL ws = canon (wval ws) := by
  rw [← wval_trim ws]
  refine (canon_wval (fun x hx => h x (List.mem_of_mem_take hx)) (fun hne => ?_)).symm
  have hne : trimL ws ≠ [] := hne
  show (trimL ws)[(trimL ws).length - 1]?.getD 0 ≠ 0
  have hl := trimL_len ws
  have hp : 0 < (trimL ws).length := List.length_pos_iff.2 hne
  have ht := trim_top ws ws.length (Nat.le_refl _) (by omega)
  rw [hl]
  show (ws.take (trimN ws ws.length))[trimN ws ws.length - 1]?.getD 0 ≠ 0
  rw [List.getElem?_take, if_pos (by omega)]
  exact ht
theorem canon_len_le {n k : Nat} (h : n < 4294967296 ^ k) : (canon n).length ≤ k := by
  induction k generalizing n with
  | zero =>
    have : n = 0 := by simpa using h
    subst this
    rw [canon_zero]
    simp
  | succ k ih =>
    by_cases h0 : n = 0
    · subst h0; rw [canon_zero]; simp
    · rw [canon_pos h0]
      have := ih (n := n / 4294967296) (by rw [Nat.pow_succ] at h; exact Nat.div_lt_of_lt_mul (by rw [Nat.mul_comm]; exact h))
      simp
      omega
end Go.Proofs.Ytdhlmbnmgioeeaa

/- The sum of two lists of words (the document's plus). No conditions. -/
namespace Go.Proofs.Ytdhlmbnmgioeeaa
set_option linter.unusedVariables false
set_option linter.unusedSimpArgs false
set_option linter.unusedSectionVars false
open Go.RowKit

theorem OwnW.cap_ {w : World} {base n c : Nat} {A : Option Addr} {xs : List Nat} (h : OwnW w base (.slice A n c) xs) : n = xs.length ∧ n ≤ c ∧ (A = none → c = 0) ∧ CellsAt w w.heap.size A (w32 xs) := by
  have h2 := h.2
  obtain ⟨A', c', he, h1, h3⟩ := h.view
  cases he
  refine ⟨rfl, ?_, h1, h3⟩
  rcases h2 with ⟨h0, hn⟩ | ⟨g, cap, cur, h0, hb, hg, hn, hm, hs, ht⟩
  · omega
  · cases h0
    omega
theorem wval_take_succ (a : List Nat) (k : Nat) : wval (a.take (k + 1)) = wval (a.take k) + 4294967296 ^ k * (a[k]?.getD 0) := by
  rw [List.take_add_one, wval_append]
  by_cases h : k < a.length
  · rw [List.getElem?_eq_getElem h, List.length_take, Nat.min_eq_left (by omega)]
    simp [wval]
  · rw [List.getElem?_eq_none (by omega)]
    simp [wval]
theorem pl_step {a b os : List Nat} {k cy x y z c' : Nat} (hol : os.length = k) (hx : a[k]?.getD 0 = x) (hy : b[k]?.getD 0 = y) (hv : wval os + 4294967296 ^ k * cy = wval (a.take k) + wval (b.take k)) (hz : z + 4294967296 * c' = cy + x + y) :
    wval (os ++ [z]) + 4294967296 ^ (k + 1) * c' = wval (a.take (k + 1)) + wval (b.take (k + 1)) := by
  rw [wval_take_succ a, wval_take_succ b, hx, hy, wval_append, hol, Nat.pow_succ, Nat.mul_assoc]
  have e1 : wval [z] = z := by simp [wval]
  rw [e1]
  have e2 : 4294967296 ^ k * z + 4294967296 ^ k * (4294967296 * c') = 4294967296 ^ k * cy + 4294967296 ^ k * x + 4294967296 ^ k * y := by
    rw [← Nat.mul_add, hz, Nat.mul_add, Nat.mul_add]
  omega
theorem words_push {os : List Nat} {z : Nat} (h : wordsOk os) (hz : z < 4294967296) : wordsOk (os ++ [z]) := by
  intro q hq
  rcases List.mem_append.1 hq with hq | hq
  · exact h q hq
  · simp at hq
    omega
theorem CellsAt.takeW {w : World} {m : Nat} {A : Option Addr} {ws : List Nat} (h : CellsAt w m A (w32 ws)) (n : Nat) : CellsAt w m A (w32 (ws.take n)) := fun hx => by
  have e : w32 (ws.take n) = (w32 ws).take n := by simp [w32]
  obtain ⟨b, off, hA, hbm, hbs, hc⟩ := h (fun h0 => hx (by rw [e, h0]; simp))
  refine ⟨b, off, hA, hbm, hbs, fun j u hu => hc j u ?_⟩
  rw [e, List.getElem?_take] at hu
  split at hu
  · exact hu
  · cases hu
def plRel (w : World) (a b : List Nat) (v cv i : Value) (wr : World) : Prop :=
  ∃ (k : Nat) (os : List Nat) (cy : Nat), k ≤ max a.length b.length ∧ i = .int .i64 (k : Int) ∧ cv = .int .u64 (cy : Int) ∧ OwnW wr w.heap.size v os ∧ os.length = k ∧ wordsOk os ∧ cy ≤ 1 ∧
    wval os + 4294967296 ^ k * cy = wval (a.take k) + wval (b.take k) ∧ Below w.heap.size w wr
set_option maxRecDepth 100000 in
set_option maxHeartbeats 8000000 in
theorem plus_any (A B : Option Addr) (a b : List Nat) (c1 c2 m : Nat) (w : World) (hm : m ≤ w.heap.size) (h1 : CellsAt w m A (w32 a)) (h2 : CellsAt w m B (w32 b)) (ha : wordsOk a) (hb : wordsOk b) (l1 : a.length ≤ 100000) (l2 : b.length ≤ 100000) :
    Calls Try.prog 53 #[.slice A a.length c1, .slice B b.length c2] w fun e w' =>
      ∃ G g, e = .returned (.slice G (canon (wval a + wval b)).length g) ∧ (G = none → g = 0) ∧ (canon (wval a + wval b)).length ≤ g ∧ CellsAt w' w'.heap.size G (w32 (canon (wval a + wval b))) ∧ Below w.heap.size w w' := by
  have H1 := Lib.hid h1
  have H2 := Lib.hid h2
  have HA := Lib.hid ha
  have HB := Lib.hid hb
  clear h1 h2 ha hb
  go_enter Try.func53, Try.ntmps53
  go_wp2_with fail
  go_loopw [5, 6, 7] (fun v cv i wr => plRel w a b v cv i wr) (fun _ _ i _ => max a.length b.length - (intOf i).toNat)
  case atStart => exact ⟨0, [], 0, Nat.zero_le _, rfl, rfl, OwnW.nil_ _ _, rfl, by simp [wordsOk], by omega, by simp [wval], Below.refl _ _⟩
  case round =>
    as_aux_lemma =>
    obtain ⟨k, os, cy, hk, rfl, rfl, hown, hol, hok, hcy, hv, hb⟩ := hrel
    have HO := Lib.hid hown
    have HOL := Lib.hid hol
    have HOK := Lib.hid hok
    have HV := Lib.hid hv
    clear hown hol hok hv
    have hmax : max (a.length : Int) (b.length : Int) = ((max a.length b.length : Nat) : Int) := by omega
    have hsz := hb.size
    by_cases hlt : k < max a.length b.length
    · by_cases ka : k < a.length
      · by_cases kb : k < b.length
        · as_aux_lemma =>
          obtain ⟨b1, o1, x, rfl, q1, _, hx, g1'⟩ := H1.out.w32_ ka
          have g1 := (hb.cell (p := ⟨b1, o1 + k, none⟩) (Nat.lt_of_lt_of_le q1 hm)).trans g1'
          have bx := HA.out x (List.mem_of_getElem? hx)
          have HX := Lib.hid (show a[k]?.getD 0 = x by rw [hx]; rfl)
          have ka' : (k : Int) < (a.length : Int) := by omega
          clear hx g1'
          obtain ⟨b2, o2, y, rfl, q2, _, hy, g2'⟩ := H2.out.w32_ kb
          have g2 := (hb.cell (p := ⟨b2, o2 + k, none⟩) (Nat.lt_of_lt_of_le q2 hm)).trans g2'
          have by' := HB.out y (List.mem_of_getElem? hy)
          have HY := Lib.hid (show b[k]?.getD 0 = y by rw [hy]; rfl)
          have kb' : (k : Int) < (b.length : Int) := by omega
          clear hy g2'
          obtain ⟨z, hz⟩ : ∃ z : Nat, ((cy : Int) + (x : Int) + (y : Int)) % 4294967296 = (z : Int) := ⟨((cy + x + y) % 4294967296 : Nat), by omega⟩
          obtain ⟨c', hc'⟩ : ∃ c' : Nat, ((cy : Int) + (x : Int) + (y : Int)) / 4294967296 = (c' : Int) := ⟨((cy + x + y) / 4294967296 : Nat), by omega⟩
          have HZ := Lib.hid (show z + 4294967296 * c' = cy + x + y by omega)
          have hzb : z < 4294967296 := by omega
          have hcb := Lib.hid (show c' ≤ 1 by omega)
          clear ka kb
          go_wp2_with (at_builtin; refine push_w rfl _ _ rfl w.heap.size _ os z wr.heap.size rfl (HO.out.alloc _) rfl (by simp [go_sem]) (by have := HOL.out; omega) (by simp; omega) ?_; intro v' w2 hown2 hg2 hb2)
          exact ⟨⟨k + 1, os ++ [z], c', by omega, by go_num, rfl, hown2, by rw [List.length_append, HOL.out]; rfl, words_push HOK.out hzb, hcb.out, (pl_step HOL.out HX.out HY.out HV.out HZ.out), hb.trans ((((Below.refl _ wr).alloc (Nat.le_refl _) _).mono hb.size).trans hb2)⟩, by simp [intOf]; omega⟩
        · as_aux_lemma =>
          obtain ⟨b1, o1, x, rfl, q1, _, hx, g1'⟩ := H1.out.w32_ ka
          have g1 := (hb.cell (p := ⟨b1, o1 + k, none⟩) (Nat.lt_of_lt_of_le q1 hm)).trans g1'
          have bx := HA.out x (List.mem_of_getElem? hx)
          have HX := Lib.hid (show a[k]?.getD 0 = x by rw [hx]; rfl)
          have ka' : (k : Int) < (a.length : Int) := by omega
          clear hx g1'
          have HY := Lib.hid (show b[k]?.getD 0 = 0 by rw [List.getElem?_eq_none (by omega)]; rfl)
          have kb' : ¬ (k : Int) < (b.length : Int) := by omega
          have kb2 : decide ((k : Int) < (b.length : Int)) = false := decide_eq_false kb'
          obtain ⟨z, hz⟩ : ∃ z : Nat, ((cy : Int) + (x : Int)) % 4294967296 = (z : Int) := ⟨((cy + x) % 4294967296 : Nat), by omega⟩
          obtain ⟨c', hc'⟩ : ∃ c' : Nat, ((cy : Int) + (x : Int)) / 4294967296 = (c' : Int) := ⟨((cy + x) / 4294967296 : Nat), by omega⟩
          have HZ := Lib.hid (show z + 4294967296 * c' = cy + x by omega)
          have hzb : z < 4294967296 := by omega
          have hcb := Lib.hid (show c' ≤ 1 by omega)
          clear ka kb
          go_wp2_with (at_builtin; refine push_w rfl _ _ rfl w.heap.size _ os z wr.heap.size rfl (HO.out.alloc _) rfl (by simp [go_sem]) (by have := HOL.out; omega) (by simp; omega) ?_; intro v' w2 hown2 hg2 hb2)
          exact ⟨⟨k + 1, os ++ [z], c', by omega, by go_num, rfl, hown2, by rw [List.length_append, HOL.out]; rfl, words_push HOK.out hzb, hcb.out, (pl_step HOL.out HX.out HY.out HV.out (by have := HZ.out; omega)), hb.trans ((((Below.refl _ wr).alloc (Nat.le_refl _) _).mono hb.size).trans hb2)⟩, by simp [intOf]; omega⟩
      · have kb : k < b.length := by omega
        have HX := Lib.hid (show a[k]?.getD 0 = 0 by rw [List.getElem?_eq_none (by omega)]; rfl)
        have ka' : ¬ (k : Int) < (a.length : Int) := by omega
        have ka2 : decide ((k : Int) < (a.length : Int)) = false := decide_eq_false ka'
        obtain ⟨b2, o2, y, rfl, q2, _, hy, g2'⟩ := H2.out.w32_ kb
        have g2 := (hb.cell (p := ⟨b2, o2 + k, none⟩) (Nat.lt_of_lt_of_le q2 hm)).trans g2'
        have by' := HB.out y (List.mem_of_getElem? hy)
        have HY := Lib.hid (show b[k]?.getD 0 = y by rw [hy]; rfl)
        have kb' : (k : Int) < (b.length : Int) := by omega
        clear hy g2'
        obtain ⟨z, hz⟩ : ∃ z : Nat, ((cy : Int) + (y : Int)) % 4294967296 = (z : Int) := ⟨((cy + y) % 4294967296 : Nat), by omega⟩
        obtain ⟨c', hc'⟩ : ∃ c' : Nat, ((cy : Int) + (y : Int)) / 4294967296 = (c' : Int) := ⟨((cy + y) / 4294967296 : Nat), by omega⟩
        have HZ := Lib.hid (show z + 4294967296 * c' = cy + y by omega)
        have hzb : z < 4294967296 := by omega
        have hcb := Lib.hid (show c' ≤ 1 by omega)
        clear ka kb
        go_wp2_with (at_builtin; refine push_w rfl _ _ rfl w.heap.size _ os z wr.heap.size rfl (HO.out.alloc _) rfl (by simp [go_sem]) (by have := HOL.out; omega) (by simp; omega) ?_; intro v' w2 hown2 hg2 hb2)
        exact ⟨⟨k + 1, os ++ [z], c', by omega, by go_num, rfl, hown2, by rw [List.length_append, HOL.out]; rfl, words_push HOK.out hzb, hcb.out, (pl_step HOL.out HX.out HY.out HV.out (by have := HZ.out; omega)), hb.trans ((((Below.refl _ wr).alloc (Nat.le_refl _) _).mono hb.size).trans hb2)⟩, by simp [intOf]; omega⟩
    · as_aux_lemma =>
      have hle : ¬ (k : Int) < ((max a.length b.length : Nat) : Int) := by omega
      have hke : k = max a.length b.length := by omega
      have hka : a.length ≤ k := by omega
      have hkb : b.length ≤ k := by omega
      have hcy32 : cy < 4294967296 := by omega
      obtain ⟨ws, hws⟩ : ∃ ws, ws = os ++ [cy] := ⟨_, rfl⟩
      have hwok : wordsOk ws := by rw [hws]; exact words_push HOK.out hcy32
      have hwl : ws.length = k + 1 := by rw [hws, List.length_append, HOL.out]; rfl
      have hwv : wval ws = wval a + wval b := by
        have hv := HV.out
        rw [List.take_of_length_le hka, List.take_of_length_le hkb] at hv
        rw [hws, wval_append, HOL.out, ← hv]
        simp only [wval, Nat.mul_zero, Nat.add_zero]
      have hl6 : ws.length ≤ 1000000 := by omega
      have HWS := Lib.hid hws
      have HWO := Lib.hid hwok
      have HWV := Lib.hid hwv
      clear hws hwok hwv hmax hke hka hkb hwl hlt
      have hmax : max (a.length : Int) (b.length : Int) = ((max a.length b.length : Nat) : Int) := by omega
      go_wp2_with (first
        | (go_at_call 56; refine (trim_any G ws g w2.heap.size w2 hGc hgc hl6).mono ?_; rintro e w3 ⟨rfl, rfl⟩)
        | (at_builtin; refine push_w rfl _ _ rfl w.heap.size _ os cy wr.heap.size rfl (HO.out.alloc _) rfl (by simp [go_sem]) (by have := HOL.out; omega) (by simp; omega) ?_; intro v' w2 hown2 hg2 hb2; rw [← HWS.out] at hown2; obtain ⟨G, g, rfl, hGn, hGc⟩ := hown2.view; obtain ⟨_, hgc, _, _⟩ := hown2.cap_))
      go_ret
      have hcan := trim_canon HWO.out
      rw [HWV.out] at hcan
      refine ⟨G, g, by rw [hcan]; rfl, hGn, ?_, ?_, hb.trans ((((Below.refl _ wr).alloc (Nat.le_refl _) _).mono hb.size).trans hb2)⟩
      · rw [← hcan, trimL_len]
        have := trimN_le ws ws.length
        omega
      · rw [← hcan]
        exact hGc.takeW _
end Go.Proofs.Ytdhlmbnmgioeeaa

/- Which of two lists of words is the lesser number (the document's less). No conditions. -/
namespace Go.Proofs.Ytdhlmbnmgioeeaa
set_option linter.unusedVariables false
set_option linter.unusedSimpArgs false
set_option linter.unusedSectionVars false
open Go.RowKit

theorem wval_lt {ws : List Nat} (h : wordsOk ws) : wval ws < 4294967296 ^ ws.length := by
  induction ws with
  | nil => simp [wval]
  | cons x l ih =>
    have h1 := h x (by simp)
    have h2 := ih (fun y hy => h y (by simp [hy]))
    simp only [wval, List.length_cons, Nat.pow_succ]
    omega
theorem wval_split {ws : List Nat} {k x : Nat} (h : ws[k]? = some x) : wval ws = wval (ws.take k) + 4294967296 ^ k * (x + 4294967296 * wval (ws.drop (k + 1))) := by
  have hk := (List.getElem?_eq_some_iff.1 h).1
  have hx := (List.getElem?_eq_some_iff.1 h).2
  have e : ws = ws.take k ++ x :: ws.drop (k + 1) := by
    rw [← hx, ← List.drop_eq_getElem_cons hk, List.take_append_drop]
  have hl : (ws.take k).length = k := by rw [List.length_take]; omega
  conv => lhs; rw [e]
  rw [wval_append, hl]
  rfl
theorem less_side {K T1 T2 x y D : Nat} (h1 : T1 < K) (h : x < y) : T1 + K * (x + D) < T2 + K * (y + D) := by
  have h2 : K * (x + D + 1) ≤ K * (y + D) := Nat.mul_le_mul_left K (by omega)
  rw [Nat.mul_add, Nat.mul_one] at h2
  omega
theorem less_at {a b : List Nat} {k x y : Nat} (oka : wordsOk a) (okb : wordsOk b) (hx : a[k]? = some x) (hy : b[k]? = some y) (hd : a.drop (k + 1) = b.drop (k + 1)) (hne : x ≠ y) : decide (wval a < wval b) = decide (x < y) := by
  have ha := wval_split hx
  have hb := wval_split hy
  have hka := (List.getElem?_eq_some_iff.1 hx).1
  have hkb := (List.getElem?_eq_some_iff.1 hy).1
  have la := wval_lt (ws := a.take k) (fun z hz => oka z (List.mem_of_mem_take hz))
  have lb := wval_lt (ws := b.take k) (fun z hz => okb z (List.mem_of_mem_take hz))
  rw [List.length_take, Nat.min_eq_left (by omega)] at la lb
  rw [hd] at ha
  rcases Nat.lt_or_gt_of_ne hne with h | h
  · have := less_side (T2 := wval (b.take k)) (D := 4294967296 * wval (b.drop (k + 1))) la h
    rw [← ha, ← hb] at this
    rw [decide_eq_true this, decide_eq_true h]
  · have := less_side (T2 := wval (a.take k)) (D := 4294967296 * wval (b.drop (k + 1))) lb h
    rw [← ha, ← hb] at this
    rw [decide_eq_false (by omega), decide_eq_false (by omega)]
def lessB (a b : List Nat) : Bool := if a.length = b.length then decide (wval a < wval b) else decide (a.length < b.length)
def lsRel (w : World) (a b : List Nat) (i : Value) (wr : World) : Prop := ∃ k nq : Nat, k ≤ a.length ∧ i = .int .i64 ((k : Int) - 1) ∧ a.drop k = b.drop k ∧ w.drewN nq = wr
theorem drop_step {a b : List Nat} {k x : Nat} (hx : a[k]? = some x) (hy : b[k]? = some x) (h : a.drop (k + 1) = b.drop (k + 1)) : a.drop k = b.drop k := by
  have hka := (List.getElem?_eq_some_iff.1 hx)
  have hkb := (List.getElem?_eq_some_iff.1 hy)
  rw [List.drop_eq_getElem_cons hka.1, List.drop_eq_getElem_cons hkb.1, hka.2, hkb.2, h]
set_option maxRecDepth 100000 in
set_option maxHeartbeats 4000000 in
theorem less_any (A B : Option Addr) (a b : List Nat) (c1 c2 m : Nat) (w : World) (h1 : CellsAt w m A (w32 a)) (h2 : CellsAt w m B (w32 b)) (ha : wordsOk a) (hb : wordsOk b) (l1 : a.length ≤ 100000) (l2 : b.length ≤ 100000) :
    Calls Try.prog 54 #[.slice A a.length c1, .slice B b.length c2] w fun e w' => e = .returned (.bool (lessB a b)) ∧ Below w.heap.size w w' := by
  have H1 := Lib.hid h1
  have H2 := Lib.hid h2
  have HA := Lib.hid ha
  have HB := Lib.hid hb
  clear h1 h2 ha hb
  by_cases hl : a.length = b.length
  · have HL := Lib.hid hl
    have e1 : ((a.length : Int) != (b.length : Int)) = false := by simp; omega
    have hlb : lessB a b = decide (wval a < wval b) := if_pos hl
    rw [hlb]
    clear hl hlb
    go_enter Try.func54, Try.ntmps54
    go_wp2_with fail
    go_loopw [5] (fun i wr => lsRel w a b i wr) (fun i _ => (intOf i + 1).toNat)
    case atStart => exact ⟨a.length, 0, Nat.le_refl _, rfl, by rw [List.drop_length, HL.out, List.drop_length], rfl⟩
    case round =>
      as_aux_lemma =>
      obtain ⟨k, nq, hk, rfl, hd, rfl⟩ := hrel
      have HD := Lib.hid hd
      clear hd
      by_cases h0 : k = 0
      · subst h0
        go_wp2_with fail
        go_ret
        refine ⟨?_, below_drewN (Below.refl _ _) _⟩
        have := HD.out
        simp at this
        subst this
        simp
      · obtain ⟨j, rfl⟩ := Nat.exists_eq_succ_of_ne_zero h0
        obtain ⟨b1, o1, x, rfl, _, _, hx, g1⟩ := H1.out.w32_ (k := j) (by omega)
        obtain ⟨b2, o2, y, rfl, _, _, hy, g2⟩ := H2.out.w32_ (k := j) (by have := HL.out; omega)
        have HX := Lib.hid hx
        have HY := Lib.hid hy
        have hj : ((j.succ : Nat) : Int) - 1 = (j : Int) := by omega
        have hja : (j : Int) < (a.length : Int) := by omega
        have hjb : (j : Int) < (b.length : Int) := by have := HL.out; omega
        rw [hj]
        clear hx hy h0
        by_cases hxy : x = y
        · subst hxy
          have e2 : ((x : Int) != (x : Int)) = false := by simp
          go_wp2_with fail
          go_quiet (fail)
          go_wp2_with fail
          exact ⟨⟨j, _, by omega, by go_num, drop_step HX.out HY.out HD.out, rfl⟩, by simp [intOf]; try omega⟩
        · have e2 : ((x : Int) != (y : Int)) = true := by simp; omega
          have HN := Lib.hid hxy
          clear hxy
          go_wp2_with fail
          go_quiet (fail)
          go_wp2_with fail
          go_quiet (fail)
          go_wp2_with fail
          go_ret
          refine ⟨?_, by repeat (first | exact Below.refl _ _ | refine ext_drewN ?_ _)⟩
          rw [less_at HA.out HB.out HX.out HY.out HD.out HN.out]
          simp
  · have e1 : ((a.length : Int) != (b.length : Int)) = true := by simp; omega
    have hlb : lessB a b = decide (a.length < b.length) := if_neg hl
    rw [hlb]
    clear hl hlb
    go_enter Try.func54, Try.ntmps54
    go_wp2_with fail
    go_ret
    exact ⟨by simp, Below.refl _ _⟩
end Go.Proofs.Ytdhlmbnmgioeeaa

/- The difference of two lists of words (the document's minus). No conditions. -/
namespace Go.Proofs.Ytdhlmbnmgioeeaa
set_option linter.unusedVariables false
set_option linter.unusedSimpArgs false
set_option linter.unusedSectionVars false
open Go.RowKit

theorem mi_step {a b os : List Nat} {k br x y z c' : Nat} (hol : os.length = k) (hx : a[k]?.getD 0 = x) (hy : b[k]?.getD 0 = y) (hv : wval os + wval (b.take k) = wval (a.take k) + 4294967296 ^ k * br) (hz : z + br + y = x + 4294967296 * c') :
    wval (os ++ [z]) + wval (b.take (k + 1)) = wval (a.take (k + 1)) + 4294967296 ^ (k + 1) * c' := by
  rw [wval_take_succ a, wval_take_succ b, hx, hy, wval_append, hol, Nat.pow_succ, Nat.mul_assoc]
  have e1 : wval [z] = z := by simp [wval]
  rw [e1]
  have e2 : 4294967296 ^ k * z + 4294967296 ^ k * br + 4294967296 ^ k * y = 4294967296 ^ k * x + 4294967296 ^ k * (4294967296 * c') := by
    rw [← Nat.mul_add, ← Nat.mul_add, hz, Nat.mul_add]
  omega
theorem mi_end {a b os : List Nat} {br : Nat} (hol : os.length = a.length) (hok : wordsOk os) (hbr : br ≤ 1) (hle : wval b ≤ wval a) (hv : wval os + wval b = wval a + 4294967296 ^ a.length * br) : wval os = wval a - wval b := by
  have h := wval_lt hok
  rw [hol] at h
  rcases Nat.lt_or_ge 0 br with h0 | h0
  · have : br = 1 := by omega
    subst this
    rw [Nat.mul_one] at hv
    omega
  · have : br = 0 := by omega
    subst this
    rw [Nat.mul_zero] at hv
    omega
def miRel (w : World) (a b : List Nat) (v cv i : Value) (wr : World) : Prop :=
  ∃ (k : Nat) (os : List Nat) (br : Nat), k ≤ a.length ∧ i = .int .i64 (k : Int) ∧ cv = .int .i64 (br : Int) ∧ OwnW wr w.heap.size v os ∧ os.length = k ∧ wordsOk os ∧ br ≤ 1 ∧
    wval os + wval (b.take k) = wval (a.take k) + 4294967296 ^ k * br ∧ Below w.heap.size w wr
set_option maxRecDepth 100000 in
set_option maxHeartbeats 8000000 in
theorem minus_any (A B : Option Addr) (a b : List Nat) (c1 c2 m : Nat) (w : World) (hm : m ≤ w.heap.size) (h1 : CellsAt w m A (w32 a)) (h2 : CellsAt w m B (w32 b)) (ha : wordsOk a) (hb : wordsOk b) (l1 : a.length ≤ 100000) (l2 : b.length ≤ a.length) (hle : wval b ≤ wval a) :
    Calls Try.prog 55 #[.slice A a.length c1, .slice B b.length c2] w fun e w' =>
      ∃ G g, e = .returned (.slice G (canon (wval a - wval b)).length g) ∧ (G = none → g = 0) ∧ (canon (wval a - wval b)).length ≤ g ∧ CellsAt w' w'.heap.size G (w32 (canon (wval a - wval b))) ∧ Below w.heap.size w w' := by
  have H1 := Lib.hid h1
  have H2 := Lib.hid h2
  have HA := Lib.hid ha
  have HB := Lib.hid hb
  have HLE := Lib.hid hle
  clear h1 h2 ha hb hle
  go_enter Try.func55, Try.ntmps55
  go_wp2_with fail
  go_loopw [5, 6, 11] (fun v cv i wr => miRel w a b v cv i wr) (fun _ _ i _ => a.length - (intOf i).toNat)
  case atStart => exact ⟨0, [], 0, Nat.zero_le _, rfl, rfl, OwnW.nil_ _ _, rfl, by simp [wordsOk], by omega, by simp [wval], Below.refl _ _⟩
  case round =>
    as_aux_lemma =>
    obtain ⟨k, os, br, hk, rfl, rfl, hown, hol, hok, hcy, hv, hb⟩ := hrel
    have HO := Lib.hid hown
    have HOL := Lib.hid hol
    have HOK := Lib.hid hok
    have HV := Lib.hid hv
    clear hown hol hok hv
    have hsz := hb.size
    by_cases hlt : k < a.length
    · by_cases kb : k < b.length
      · skip
        obtain ⟨b1, o1, x, rfl, q1, _, hx, g1'⟩ := H1.out.w32_ hlt
        have g1 := (hb.cell (p := ⟨b1, o1 + k, none⟩) (Nat.lt_of_lt_of_le q1 hm)).trans g1'
        have bx := HA.out x (List.mem_of_getElem? hx)
        have HX := Lib.hid (show a[k]?.getD 0 = x by rw [hx]; rfl)
        have ka' : (k : Int) < (a.length : Int) := by omega
        clear hx g1'
        obtain ⟨b2, o2, y, rfl, q2, _, hy, g2'⟩ := H2.out.w32_ kb
        have g2 := (hb.cell (p := ⟨b2, o2 + k, none⟩) (Nat.lt_of_lt_of_le q2 hm)).trans g2'
        have by' := HB.out y (List.mem_of_getElem? hy)
        have HY := Lib.hid (show b[k]?.getD 0 = y by rw [hy]; rfl)
        have kb' : (k : Int) < (b.length : Int) := by omega
        clear hy g2'
        by_cases hneg : (x : Int) - (br : Int) - (y : Int) < 0
        · as_aux_lemma =>
          obtain ⟨z, hz⟩ : ∃ z : Nat, (x : Int) - (br : Int) - (y : Int) + 4294967296 = (z : Int) := ⟨((x : Int) - (br : Int) - (y : Int) + 4294967296).toNat, by omega⟩
          have HZ := Lib.hid (show z + br + y = x + 4294967296 * 1 by omega)
          have hzb : z < 4294967296 := by omega
          have hzm : (z : Int) % 4294967296 = (z : Int) := by omega
          clear hlt kb
          go_wp2_with (at_builtin; refine push_w rfl _ _ rfl w.heap.size _ os z wr.heap.size rfl (HO.out.alloc _) rfl (by simp [go_sem]) (by have := HOL.out; omega) (by simp; omega) ?_; intro v' w2 hown2 hg2 hb2)
          exact ⟨⟨k + 1, os ++ [z], 1, by omega, by go_num, rfl, hown2, by rw [List.length_append, HOL.out]; rfl, words_push HOK.out hzb, by omega, mi_step HOL.out HX.out HY.out HV.out HZ.out, hb.trans ((((Below.refl _ wr).alloc (Nat.le_refl _) _).mono hb.size).trans hb2)⟩, by simp [intOf]; omega⟩
        · as_aux_lemma =>
          obtain ⟨z, hz⟩ : ∃ z : Nat, (x : Int) - (br : Int) - (y : Int) = (z : Int) := ⟨((x : Int) - (br : Int) - (y : Int)).toNat, by omega⟩
          have HZ := Lib.hid (show z + br + y = x + 4294967296 * 0 by omega)
          have hzb : z < 4294967296 := by omega
          have hzm : (z : Int) % 4294967296 = (z : Int) := by omega
          clear hlt kb
          go_wp2_with (at_builtin; refine push_w rfl _ _ rfl w.heap.size _ os z wr.heap.size rfl (HO.out.alloc _) rfl (by simp [go_sem]) (by have := HOL.out; omega) (by simp; omega) ?_; intro v' w2 hown2 hg2 hb2)
          exact ⟨⟨k + 1, os ++ [z], 0, by omega, by go_num, rfl, hown2, by rw [List.length_append, HOL.out]; rfl, words_push HOK.out hzb, by omega, mi_step HOL.out HX.out HY.out HV.out HZ.out, hb.trans ((((Below.refl _ wr).alloc (Nat.le_refl _) _).mono hb.size).trans hb2)⟩, by simp [intOf]; omega⟩
      · skip
        obtain ⟨b1, o1, x, rfl, q1, _, hx, g1'⟩ := H1.out.w32_ hlt
        have g1 := (hb.cell (p := ⟨b1, o1 + k, none⟩) (Nat.lt_of_lt_of_le q1 hm)).trans g1'
        have bx := HA.out x (List.mem_of_getElem? hx)
        have HX := Lib.hid (show a[k]?.getD 0 = x by rw [hx]; rfl)
        have ka' : (k : Int) < (a.length : Int) := by omega
        clear hx g1'
        have HY := Lib.hid (show b[k]?.getD 0 = 0 by rw [List.getElem?_eq_none (by omega)]; rfl)
        have kb' : ¬ (k : Int) < (b.length : Int) := by omega
        by_cases hneg : (x : Int) - (br : Int) < 0
        · as_aux_lemma =>
          obtain ⟨z, hz⟩ : ∃ z : Nat, (x : Int) - (br : Int) + 4294967296 = (z : Int) := ⟨((x : Int) - (br : Int) + 4294967296).toNat, by omega⟩
          have HZ := Lib.hid (show z + br + 0 = x + 4294967296 * 1 by omega)
          have hzb : z < 4294967296 := by omega
          have hzm : (z : Int) % 4294967296 = (z : Int) := by omega
          clear hlt kb
          go_wp2_with (at_builtin; refine push_w rfl _ _ rfl w.heap.size _ os z wr.heap.size rfl (HO.out.alloc _) rfl (by simp [go_sem]) (by have := HOL.out; omega) (by simp; omega) ?_; intro v' w2 hown2 hg2 hb2)
          exact ⟨⟨k + 1, os ++ [z], 1, by omega, by go_num, rfl, hown2, by rw [List.length_append, HOL.out]; rfl, words_push HOK.out hzb, by omega, mi_step HOL.out HX.out HY.out HV.out HZ.out, hb.trans ((((Below.refl _ wr).alloc (Nat.le_refl _) _).mono hb.size).trans hb2)⟩, by simp [intOf]; omega⟩
        · as_aux_lemma =>
          obtain ⟨z, hz⟩ : ∃ z : Nat, (x : Int) - (br : Int) = (z : Int) := ⟨((x : Int) - (br : Int)).toNat, by omega⟩
          have HZ := Lib.hid (show z + br + 0 = x + 4294967296 * 0 by omega)
          have hzb : z < 4294967296 := by omega
          have hzm : (z : Int) % 4294967296 = (z : Int) := by omega
          clear hlt kb
          go_wp2_with (at_builtin; refine push_w rfl _ _ rfl w.heap.size _ os z wr.heap.size rfl (HO.out.alloc _) rfl (by simp [go_sem]) (by have := HOL.out; omega) (by simp; omega) ?_; intro v' w2 hown2 hg2 hb2)
          exact ⟨⟨k + 1, os ++ [z], 0, by omega, by go_num, rfl, hown2, by rw [List.length_append, HOL.out]; rfl, words_push HOK.out hzb, by omega, mi_step HOL.out HX.out HY.out HV.out HZ.out, hb.trans ((((Below.refl _ wr).alloc (Nat.le_refl _) _).mono hb.size).trans hb2)⟩, by simp [intOf]; omega⟩
    · as_aux_lemma =>
      have hka : a.length ≤ k := by omega
      have hkb : b.length ≤ k := by omega
      have hke : k = a.length := by omega
      have hwv : wval os = wval a - wval b := by
        have hv := HV.out
        rw [List.take_of_length_le hka, List.take_of_length_le hkb, hke] at hv
        exact mi_end (HOL.out.trans hke) HOK.out hcy HLE.out hv
      have hl6 : os.length ≤ 1000000 := by have := HOL.out; omega
      have HWV := Lib.hid hwv
      obtain ⟨G, g, rfl, hGn, hGc⟩ := HO.out.view
      obtain ⟨_, hgc, _, _⟩ := HO.out.cap_
      have HGC := Lib.hid hGc
      clear hwv hka hkb hke hGc
      go_wp2_with (go_at_call 56; refine (trim_any G os g wr.heap.size wr HGC.out hgc hl6).mono ?_; rintro e w3 ⟨rfl, rfl⟩)
      go_ret
      have hcan := trim_canon HOK.out
      rw [HWV.out] at hcan
      refine ⟨G, g, by rw [hcan]; rfl, hGn, ?_, ?_, hb⟩
      · rw [← hcan, trimL_len]
        have := trimN_le os os.length
        omega
      · rw [← hcan]
        exact HGC.out.takeW _
end Go.Proofs.Ytdhlmbnmgioeeaa
