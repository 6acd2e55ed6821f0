/- What Compile makes: plain laws. No conditions. What the blocks of an accepted diagram have. No conditions. The machine's operation of a kind of block. No conditions. -/
import Derived.Test.YtjlocofimlgaoaaDoorRaB
import Derived.Test.YtjlocofimlgaoaaDoorDgV
namespace Go.Proofs.YtjlocofimlgaoaaDoor
set_option linter.unusedVariables false
set_option linter.unusedSimpArgs false
set_option linter.unusedSectionVars false
open Go.RowKit

def blkA (bs : List Bk) (j : Nat) : Bk := bs[j]?.getD bk0
def scA (F : List Int) (j : Nat) : Int := F[j]?.getD 0
def portFr (ps : List Prt) (a : Int) : Int := (ps[a.toNat]?.getD ⟨0, 0, 0⟩).fr
def rawVv (bs : List Bk) (F : List Int) (j : Nat) : Int := rawV (blkA bs j).vn (blkA bs j).ve (scA F j)
def rawUu (bs : List Bk) (F : List Int) (j : Nat) : Int := rawV (blkA bs j).un (blkA bs j).ue (scA F j)
def errVv (bs : List Bk) (F : List Int) (j : Nat) : Int := rawErr (blkA bs j).vn (blkA bs j).ve (scA F j)
def errUu (bs : List Bk) (F : List Int) (j : Nat) : Int := rawErr (blkA bs j).un (blkA bs j).ue (scA F j)
/-- The error of a block's scalars. -/
def conE (bs : List Bk) (F : List Int) (j : Nat) : Int :=
  if kindAt bs j = 1 ∨ kindAt bs j = 2 then errVv bs F j else if kindAt bs j = 11 then (if errVv bs F j = 0 then errUu bs F j else errVv bs F j) else 0
def conV (bs : List Bk) (F : List Int) (j : Nat) : Int := if kindAt bs j = 1 ∨ kindAt bs j = 2 ∨ kindAt bs j = 11 then rawVv bs F j else 0
def conU (bs : List Bk) (F : List Int) (j : Nat) : Int := if kindAt bs j = 11 then rawUu bs F j else 0
/-- A list of n ints by a rule. -/
def tab (n : Nat) (f : Nat → Int) : List Int := (List.range n).map f
theorem tab_len (n : Nat) (f : Nat → Int) : (tab n f).length = n := by simp [tab]
theorem tab_get {n j : Nat} {f : Nat → Int} (h : j < n) : (tab n f)[j]? = some (f j) := by simp [tab, h]
theorem tab_set {n k : Nat} {f g : Nat → Int} {z : Int} (hz : g k = z) (h : ∀ j, j ≠ k → g j = f j) : (tab n f).set k z = tab n g := by
  refine List.ext_getElem? fun j => ?_
  simp only [tab, List.getElem?_set, List.length_map, List.length_range, List.getElem?_map, List.getElem?_range]
  by_cases hkj : k = j
  · subst hkj
    by_cases hk : k < n
    · simp [hk, hz]
    · simp [hk]
  · rw [if_neg hkj]
    by_cases hj : j < n
    · simp [hj, h j (Ne.symm hkj)]
    · simp [hj]
theorem tab_same {n : Nat} {f g : Nat → Int} (h : ∀ j, j < n → g j = f j) : tab n f = tab n g := by
  unfold tab
  exact List.map_congr_left fun j hj => (h j (List.mem_range.1 hj)).symm
theorem tab_zero (n : Nat) : tab n (fun _ => 0) = List.replicate n 0 := by simp [tab, List.map_const']
/-- How many before j are of the kind. -/
def rank (p : Nat → Bool) (j : Nat) : Nat := ((List.range j).filter p).length
theorem rank_get (p : Nat → Bool) (t j : Nat) : ∀ n, ((List.range n).filter p)[t]? = some j ↔ j < n ∧ p j = true ∧ rank p j = t
  | 0 => by simp
  | n + 1 => by
    rw [List.range_succ, List.filter_append]
    have ih := rank_get p t j n
    by_cases hn : p n = true
    · simp only [List.filter_cons, hn, if_true, List.filter_nil]
      by_cases ht : t < ((List.range n).filter p).length
      · rw [List.getElem?_append_left ht, ih]
        constructor
        · exact fun h => ⟨by omega, h.2⟩
        · rintro ⟨h1, h2, h3⟩
          refine ⟨?_, h2, h3⟩
          rcases Nat.lt_or_ge j n with h | h
          · exact h
          · obtain rfl : j = n := by omega
            unfold rank at h3
            omega
      · rw [List.getElem?_append_right (by omega)]
        constructor
        · intro h
          have h0 : t - ((List.range n).filter p).length = 0 := by
            rcases Nat.eq_zero_or_pos (t - ((List.range n).filter p).length) with h1 | h1
            · exact h1
            · rw [List.getElem?_eq_none (by simp; omega)] at h
              cases h
          rw [h0] at h
          have e : n = j := by simpa using h
          subst e
          exact ⟨by omega, hn, by unfold rank; omega⟩
        · rintro ⟨h1, h2, h3⟩
          rcases Nat.lt_or_ge j n with h | h
          · have h4 := ih.2 ⟨h, h2, h3⟩
            have := (List.getElem?_eq_some_iff.1 h4).1
            omega
          · obtain rfl : j = n := by omega
            have : t - ((List.range j).filter p).length = 0 := by unfold rank at h3; omega
            rw [this]
            rfl
    · simp only [List.filter_cons, hn, List.filter_nil, List.append_nil]
      simp only [Bool.false_eq_true, if_false, List.append_nil]
      rw [ih]
      constructor
      · exact fun h => ⟨by omega, h.2⟩
      · rintro ⟨h1, h2, h3⟩
        refine ⟨?_, h2, h3⟩
        rcases Nat.lt_or_ge j n with h | h
        · exact h
        · obtain rfl : j = n := by omega
          exact absurd h2 hn
def dlB (bs : List Bk) (i : Nat) : Bool := kindAt bs i == 2
def cpB (bs : List Bk) (i : Nat) : Bool := kindAt bs i == 11
def dlK (bs : List Bk) (k : Nat) : List Nat := (List.range k).filter (dlB bs)
def cpK (bs : List Bk) (k : Nat) : List Nat := (List.range k).filter (cpB bs)
theorem delL_is (bs : List Bk) : delL bs = dlK bs bs.length := rfl
theorem dlK_succ (bs : List Bk) (k : Nat) : dlK bs (k + 1) = if kindAt bs k = 2 then dlK bs k ++ [k] else dlK bs k := by
  unfold dlK
  rw [List.range_succ, List.filter_append]
  by_cases h : kindAt bs k = 2
  · rw [if_pos h]; simp [dlB, h]
  · rw [if_neg h]; simp [dlB, h]
theorem cpK_succ (bs : List Bk) (k : Nat) : cpK bs (k + 1) = if kindAt bs k = 11 then cpK bs k ++ [k] else cpK bs k := by
  unfold cpK
  rw [List.range_succ, List.filter_append]
  by_cases h : kindAt bs k = 11
  · rw [if_pos h]; simp [cpB, h]
  · rw [if_neg h]; simp [cpB, h]
theorem dlK_len (bs : List Bk) (k : Nat) : (dlK bs k).length ≤ k := by
  have := List.length_filter_le (dlB bs) (List.range k)
  simpa [dlK] using this
theorem cpK_len (bs : List Bk) (k : Nat) : (cpK bs k).length ≤ k := by
  have := List.length_filter_le (cpB bs) (List.range k)
  simpa [cpK] using this
/-- The cell of a delay's next value, or of a clip's lower bound. -/
def cellF (bs : List Bk) (j : Nat) : Int :=
  if kindAt bs j = 2 then (bs.length : Int) + (rank (dlB bs) j : Int) else if kindAt bs j = 11 then (bs.length : Int) + ((dlK bs bs.length).length : Int) + 2 * (rank (cpB bs) j : Int) else 0
def opM (k : Int) : Int := if k = 3 then 3 else if k = 4 then 4 else if k = 8 then 8 else if k = 9 then 9 else if k = 5 then 5 else 10
def arg0 (b : Bk) : Int := b.args[0]?.getD 0
def arg1 (b : Bk) : Int := b.args[1]?.getD 0
/-- The instructions of a block that is no delay; c: the cell of its lower bound. -/
def blkC (ps : List Prt) (bs : List Bk) (F : List Int) (j : Nat) (c : Int) : List Ins :=
  let b := blkA bs j
  let s := scA F j
  let s0 := scA F (arg0 b).toNat
  let s1 := scA F (arg1 b).toNat
  if b.kind = 0 then [⟨0, j, arg0 b, 0, s - portFr ps (arg0 b), 0, 0⟩]
  else if b.kind = 1 then [⟨1, j, 0, 0, 0, 0, rawVv bs F j⟩]
  else if b.kind = 6 then [⟨6, j, arg0 b, 0, s - s0 + b.ve, 0, b.vn⟩]
  else if b.kind = 7 then [⟨7, j, arg0 b, arg1 b, s - s0 - s1, 0, 0⟩]
  else if b.kind = 11 then [⟨9, j, arg0 b, c, s - s0, 0, 0⟩, ⟨8, j, j, c + 1, 0, 0, 0⟩]
  else if b.args.length = 2 then [⟨opM b.kind, j, arg0 b, arg1 b, s - s0, s - s1, 0⟩]
  else [⟨opM b.kind, j, arg0 b, 0, s - s0, 0, 0⟩]
def mv1 (bs : List Bk) (F : List Int) (j : Nat) : Ins := ⟨2, cellF bs j, arg0 (blkA bs j), 0, scA F j - scA F (arg0 (blkA bs j)).toNat, 0, 0⟩
def mv2 (bs : List Bk) (j : Nat) : Ins := ⟨2, j, cellF bs j, 0, 0, 0, 0⟩
def codeM (ps : List Prt) (bs : List Bk) (F : List Int) : List Ins :=
  (ordM bs).flatMap (fun j => blkC ps bs F j (cellF bs j)) ++ (delL bs).map (mv1 bs F) ++ (delL bs).map (mv2 bs)
def initM (bs : List Bk) (F : List Int) : List Int :=
  tab bs.length (fun j => if kindAt bs j = 2 then conV bs F j else 0) ++ List.replicate (delL bs).length 0 ++ (cpK bs bs.length).flatMap (fun j => [conV bs F j, conU bs F j])
def shOk (x : Ins) : Bool := decide (-62 ≤ x.sa ∧ x.sa ≤ 30 ∧ -62 ≤ x.sb ∧ x.sb ≤ 30)
def scOk30 (z : Int) : Bool := decide (0 ≤ z ∧ z ≤ 30)
/-- What is wrong, the diagram being accepted. -/
def cpErr (ps : List Prt) (bs : List Bk) (F : List Int) : Int :=
  if ¬ F.length = bs.length then 11 else if ¬ F.all scOk30 = true then 3 else if ¬ firstErr ((List.range bs.length).map (conE bs F)) = 0 then firstErr ((List.range bs.length).map (conE bs F))
  else if (codeM ps bs F).all shOk = true then 0 else 3
def cpE (d : Dg) (F : List Int) : Int := if dgErr d.ps d.bs d.os = 0 then cpErr d.ps d.bs F else dgErr d.ps d.bs d.os
theorem firstErr_at {l : List Int} {k : Nat} {e : Int} (h : ∀ j x, j < k → l[j]? = some x → x = 0) (hk : l[k]? = some e) (he : e ≠ 0) : firstErr l = e := by
  induction l generalizing k with
  | nil => simp at hk
  | cons x l ih =>
    unfold firstErr
    cases k with
    | zero =>
      have : x = e := by simpa using hk
      rw [if_neg (by rw [this]; exact he), this]
    | succ k =>
      have hx : x = 0 := h 0 x (by omega) rfl
      rw [if_pos hx]
      exact ih (k := k) (fun j y hj hy => h (j + 1) y (by omega) (by simpa using hy)) (by simpa using hk)
theorem firstErr_allz {l : List Int} (h : ∀ x ∈ l, x = 0) : firstErr l = 0 := by
  induction l with
  | nil => rfl
  | cons x l ih =>
    unfold firstErr
    rw [if_pos (h x (by simp))]
    exact ih fun y hy => h y (by simp [hy])
theorem con_at {bs : List Bk} {F : List Int} {k : Nat} (hk : k < bs.length) (h : ∀ j, j < k → conE bs F j = 0) (he : conE bs F k ≠ 0) : firstErr ((List.range bs.length).map (conE bs F)) = conE bs F k :=
  firstErr_at (k := k) (fun j x hj hx => by
    have hjn : j < bs.length := by omega
    simp [hjn] at hx
    rw [← hx]
    exact h j hj) (by simp [hk]) he
theorem con_all {bs : List Bk} {F : List Int} (h : ∀ j, j < bs.length → conE bs F j = 0) : firstErr ((List.range bs.length).map (conE bs F)) = 0 :=
  firstErr_allz fun x hx => by
    obtain ⟨j, hj, rfl⟩ := List.mem_map.1 hx
    exact h j (List.mem_range.1 hj)
section
variable {ps : List Prt} {bs : List Bk} {F : List Int}
theorem cp_1 (h : ¬ F.length = bs.length) : cpErr ps bs F = 11 := if_pos h
theorem cp_2 (h : F.length = bs.length) (h2 : ¬ F.all scOk30 = true) : cpErr ps bs F = 3 := by unfold cpErr; rw [if_neg (not_not_intro h), if_pos h2]
theorem cp_3 (h : F.length = bs.length) (h2 : F.all scOk30 = true) {k : Nat} (hk : k < bs.length) (h3 : ∀ j, j < k → conE bs F j = 0) (he : conE bs F k ≠ 0) : cpErr ps bs F = conE bs F k := by
  unfold cpErr
  rw [if_neg (not_not_intro h), if_neg (not_not_intro h2), con_at hk h3 he, if_pos he]
theorem cp_4 (h : F.length = bs.length) (h2 : F.all scOk30 = true) (h3 : ∀ j, j < bs.length → conE bs F j = 0) : cpErr ps bs F = if (codeM ps bs F).all shOk = true then 0 else 3 := by
  unfold cpErr
  rw [if_neg (not_not_intro h), if_neg (not_not_intro h2), con_all h3, if_neg (by simp)]
theorem sc_range (h2 : F.all scOk30 = true) (j : Nat) : 0 ≤ scA F j ∧ scA F j ≤ 30 := by
  unfold scA
  cases hj : F[j]? with
  | none => simp
  | some z =>
    have := List.all_eq_true.1 h2 z (List.mem_of_getElem? hj)
    have := of_decide_eq_true this
    simpa using this
theorem blkA_of {j : Nat} {y : Bk} (h : bs[j]? = some y) : blkA bs j = y := by unfold blkA; rw [h]; rfl
theorem kindA_of {j : Nat} {y : Bk} (h : bs[j]? = some y) : kindAt bs j = y.kind := by unfold kindAt; rw [h]; rfl
theorem scA_of {j : Nat} {z : Int} (h : F[j]? = some z) : scA F j = z := by unfold scA; rw [h]; rfl
end
end Go.Proofs.YtjlocofimlgaoaaDoor
namespace Go.Proofs.YtjlocofimlgaoaaDoor
set_option linter.unusedVariables false
set_option linter.unusedSimpArgs false
set_option linter.unusedSectionVars false
open Go.RowKit

section
variable {ps : List Prt} {bs : List Bk} {os : List Int}
theorem acc_blk (h : dgErr ps bs os = 0) {i : Nat} {y : Bk} (hy : bs[i]? = some y) : blkErr ps.length bs.length y = 0 :=
  firstErr_zero (pre_blk (pre_of h).2.1) _ (List.mem_map.2 ⟨y, List.mem_of_getElem? hy, rfl⟩)
theorem acc_args (h : dgErr ps bs os = 0) {i : Nat} {y : Bk} (hy : bs[i]? = some y) : 0 ≤ arityM y.kind ∧ ((y.args.length : Nat) : Int) = arityM y.kind ∧ ∀ a ∈ y.args, 0 ≤ a ∧ a < (mostM ps.length bs.length y.kind : Int) := blk_args (acc_blk h hy)
theorem acc_sc (h : dgErr ps bs os = 0) {i : Nat} {y : Bk} (hy : bs[i]? = some y) (hv : valU y.kind = true) : scOk y.vn y.ve := by
  have h1 := acc_blk h hy
  have ha := acc_args h hy
  unfold blkErr at h1
  rw [if_neg (by omega), if_neg (not_not_intro ha.2.1)] at h1
  by_cases h3 : firstErr (y.args.map (outE (mostM ps.length bs.length y.kind))) = 0
  · rw [if_neg (not_not_intro h3)] at h1
    by_cases h4 : scalE y.vn y.ve (valU y.kind) = 0
    · rw [hv] at h4
      unfold scalE at h4
      rw [if_pos rfl] at h4
      by_cases h5 : scOk y.vn y.ve
      · exact h5
      · rw [if_neg h5] at h4; cases h4
    · rw [if_pos h4] at h1
      exact absurd h1 h4
  · rw [if_pos h3] at h1
    cases h1
theorem acc_port (h : dgErr ps bs os = 0) {i : Nat} {p : Prt} (hp : ps[i]? = some p) : portE p = 0 := by
  have h1 := (pre_of h).2.1
  unfold preErr at h1
  rw [firstErr_append] at h1
  by_cases h2 : firstErr (ps.map portE) = 0
  · exact firstErr_zero h2 _ (List.mem_map.2 ⟨p, List.mem_of_getElem? hp, rfl⟩)
  · rw [if_neg h2] at h1
    exact absurd h1 h2
theorem ord_at {u i : Nat} (h : (ordM bs)[u]? = some i) : i < bs.length ∧ kindAt bs i ≠ 2 := (ordN_ok bs.length (OutOk.nil bs)).mem i (List.mem_of_getElem? h)
theorem ord_len : (ordM bs).length ≤ bs.length := Nat.le_trans (ordN_ok bs.length (OutOk.nil bs)).le (nonDel_le bs)
end
/-- The code of one more block of the order. -/
theorem code_next {ps : List Prt} {bs : List Bk} {F : List Int} {u i : Nat} (h : (ordM bs)[u]? = some i) :
    ((ordM bs).take (u + 1)).flatMap (fun j => blkC ps bs F j (cellF bs j)) = ((ordM bs).take u).flatMap (fun j => blkC ps bs F j (cellF bs j)) ++ blkC ps bs F i (cellF bs i) := by
  rw [List.take_add_one, h]
  simp
theorem blkC_len {ps : List Prt} {bs : List Bk} {F : List Int} (j : Nat) (c : Int) : (blkC ps bs F j c).length ≤ 2 := by
  unfold blkC
  dsimp only
  repeat' split
  all_goals simp
theorem code_len {ps : List Prt} {bs : List Bk} {F : List Int} (l : List Nat) : (l.flatMap (fun j => blkC ps bs F j (cellF bs j))).length ≤ 2 * l.length := by
  induction l with
  | nil => simp
  | cons x l ih =>
    have := blkC_len (ps := ps) (bs := bs) (F := F) x (cellF bs x)
    simp only [List.flatMap_cons, List.length_append, List.length_cons]
    omega
end Go.Proofs.YtjlocofimlgaoaaDoor
namespace Go.Proofs.YtjlocofimlgaoaaDoor
set_option linter.unusedVariables false
set_option linter.unusedSimpArgs false
set_option linter.unusedSectionVars false
open Go.RowKit

theorem op_eq {a b : Int} (h : a = b) : Ending.returned (.int .i64 a) = .returned (.int .i64 b) := by rw [h]
set_option maxHeartbeats 1000000 in
theorem operation_any (k : Int) (w : World) : Calls Tryd.prog 50 #[.int .i64 k] w fun e w' => e = .returned (.int .i64 (opM k)) ∧ w = w' := by
  go_enter Tryd.func50, Tryd.ntmps50
  go_wp2
  all_goals
    go_ret
    exact ⟨op_eq (by unfold opM; simp_all), rfl⟩
end Go.Proofs.YtjlocofimlgaoaaDoor
