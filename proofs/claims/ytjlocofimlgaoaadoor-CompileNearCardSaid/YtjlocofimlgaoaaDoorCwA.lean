/- Programs as data; the program's Raw told on values. No conditions. -/
import Derived.Test.YtjlocofimlgaoaaDoorVsP
import Derived.Test.YtjlocofimlgaoaaDoorRaB
import Derived.Test.YtjlocofimlgaoaaDoorCpO
namespace Go.Proofs.YtjlocofimlgaoaaDoor
set_option linter.unusedVariables false
set_option linter.unusedSimpArgs false
set_option linter.unusedSectionVars false
open Go.RowKit

def aProg (t : Bool) (ps : List Prt) (is : List Int) (xs : List Ins) (os : List Int) : A := .agg [rowP t ps, rowI t is, rowN t xs, rowI t os]
theorem raw_cv (n e f : Int) : CVF Tryd.prog TabAt 10 [.agg [dI n, dI e], aI f] [aI (rawV n e f), aE (rawErr n e f)] := fun w S vs hg hlt ha => by
  obtain ⟨v, vs', rfl, h1, ha⟩ := ha.uncons
  obtain ⟨u, hu, h2⟩ := one_arg ha
  subst hu
  obtain ⟨xs, rfl, h3⟩ := h1
  have h4 := vals_rel (vs := [.int .i64 n, .int .i64 e]) h3
  subst h4
  cases h2
  refine (praw_any n e f w hg).mono fun r w' ⟨he, hb⟩ => ?_
  exact ⟨_, he, two_rel (DRel.val rfl) (DRel.val (errV_one _)), hb⟩
theorem op_cv (k : Int) : CVF Tryd.prog TabAt 50 [aI k] [aI (opM k)] := fun w S vs hg hlt ha => by
  obtain ⟨u, hu, h2⟩ := one_arg ha
  subst hu
  cases h2
  refine (operation_any k w).mono fun r w' ⟨he, hw⟩ => ?_
  subst hw
  exact ⟨_, he, DRel.val rfl, Below.refl _ _⟩
theorem cI_app2 (xs : List Int) (y z : Int) : cI xs ++ [.d (.val (.int .i64 y)), .d (.val (.int .i64 z))] = cI (xs ++ [y, z]) := by simp [cI]
def cD (ds : List D) : List C := ds.map C.d
theorem cD_app (xs ys : List D) : cD xs ++ cD ys = cD (xs ++ ys) := (List.map_append ..).symm
theorem nat_at {l : List Nat} {t j : Nat} (h : l[t]? = some j) : (natI l)[t]? = some (j : Int) := by simp [natI, h]
/-- A rule up to k, 0 behind. -/
def upto (f : Nat → Int) (k j : Nat) : Int := if j < k then f j else 0
theorem upto_put {n k : Nat} {f : Nat → Int} : (tab n (upto f k)).set k (f k) = tab n (upto f (k + 1)) :=
  tab_set (by unfold upto; rw [if_pos (by omega)]) fun j hj => by
    unfold upto
    by_cases h : j < k
    · rw [if_pos h, if_pos (by omega)]
    · rw [if_neg h, if_neg (by omega)]
theorem upto_skip {n k : Nat} {f : Nat → Int} (h : f k = 0) : tab n (upto f k) = tab n (upto f (k + 1)) :=
  tab_same fun j _ => by
    unfold upto
    by_cases h1 : j < k
    · rw [if_pos h1, if_pos (by omega)]
    · by_cases h2 : j = k
      · subst h2
        rw [if_neg h1, if_pos (by omega), h]
      · rw [if_neg h1, if_neg (by omega)]
theorem upto_all {n : Nat} {f : Nat → Int} : tab n (upto f n) = tab n f := tab_same fun j hj => by unfold upto; rw [if_pos hj]
theorem upto_zero (n : Nat) (f : Nat → Int) : tab n (upto f 0) = List.replicate n 0 := by
  rw [← tab_zero]
  exact tab_same fun j _ => by unfold upto; rw [if_neg (by omega)]
def initF (bs : List Bk) (F : List Int) (j : Nat) : Int := if kindAt bs j = 2 then conV bs F j else 0
/-- The cells, t delays being numbered; then t clips. -/
def cellD (bs : List Bk) (t j : Nat) : Int := if kindAt bs j = 2 ∧ rank (dlB bs) j < t then (bs.length : Int) + (rank (dlB bs) j : Int) else 0
def cellC (bs : List Bk) (t j : Nat) : Int :=
  if kindAt bs j = 2 then (bs.length : Int) + (rank (dlB bs) j : Int) else if kindAt bs j = 11 ∧ rank (cpB bs) j < t then (bs.length : Int) + ((dlK bs bs.length).length : Int) + 2 * (rank (cpB bs) j : Int) else 0
theorem dl_at {bs : List Bk} {t j : Nat} : (dlK bs bs.length)[t]? = some j ↔ j < bs.length ∧ kindAt bs j = 2 ∧ rank (dlB bs) j = t := by
  unfold dlK
  rw [rank_get (dlB bs) t j]
  simp [dlB]
theorem cp_at {bs : List Bk} {t j : Nat} : (cpK bs bs.length)[t]? = some j ↔ j < bs.length ∧ kindAt bs j = 11 ∧ rank (cpB bs) j = t := by
  unfold cpK
  rw [rank_get (cpB bs) t j]
  simp [cpB]
theorem rank_dl_lt {bs : List Bk} {j : Nat} (h : j < bs.length) (hk : kindAt bs j = 2) : rank (dlB bs) j < (dlK bs bs.length).length :=
  (List.getElem?_eq_some_iff.1 (dl_at.2 ⟨h, hk, rfl⟩)).1
theorem rank_cp_lt {bs : List Bk} {j : Nat} (h : j < bs.length) (hk : kindAt bs j = 11) : rank (cpB bs) j < (cpK bs bs.length).length :=
  (List.getElem?_eq_some_iff.1 (cp_at.2 ⟨h, hk, rfl⟩)).1
theorem rank_inj (p : Nat → Bool) {i j : Nat} (hi : p i = true) (hj : p j = true) (h : rank p i = rank p j) : i = j := by
  have h1 := (rank_get p (rank p i) i (i + j + 1)).2 ⟨by omega, hi, rfl⟩
  have h2 := (rank_get p (rank p i) j (i + j + 1)).2 ⟨by omega, hj, h.symm⟩
  rw [h1] at h2
  exact Option.some.inj h2
theorem cellD_at {bs : List Bk} {t i : Nat} (h : (dlK bs bs.length)[t]? = some i) : cellD bs (t + 1) i = (bs.length : Int) + (t : Int) := by
  obtain ⟨_, h2, h3⟩ := dl_at.1 h
  unfold cellD
  rw [if_pos ⟨h2, by omega⟩, h3]
theorem cellD_far {bs : List Bk} {t i j : Nat} (h : (dlK bs bs.length)[t]? = some i) (hj : j ≠ i) : cellD bs (t + 1) j = cellD bs t j := by
  obtain ⟨_, h2, h3⟩ := dl_at.1 h
  unfold cellD
  by_cases hk : kindAt bs j = 2
  · by_cases hr : rank (dlB bs) j < t
    · rw [if_pos ⟨hk, by omega⟩, if_pos ⟨hk, hr⟩]
    · have hne : rank (dlB bs) j ≠ t := fun e => hj (rank_inj (dlB bs) (by simp [dlB, hk]) (by simp [dlB, h2]) (by rw [e, h3]))
      rw [if_neg (fun hc => by have := hc.2; omega), if_neg (fun hc => hr hc.2)]
  · rw [if_neg (fun hc => hk hc.1), if_neg (fun hc => hk hc.1)]
theorem cellD_zero (bs : List Bk) (n : Nat) (f : Nat → Int) : tab n (upto f 0) = tab n (cellD bs 0) := tab_same fun j _ => by
  unfold cellD upto
  rw [if_neg (by omega), if_neg (by omega)]
theorem cellC_zero (bs : List Bk) : tab bs.length (cellD bs (dlK bs bs.length).length) = tab bs.length (cellC bs 0) := tab_same fun j hj => by
  unfold cellC cellD
  by_cases hk : kindAt bs j = 2
  · rw [if_pos hk, if_pos ⟨hk, rank_dl_lt hj hk⟩]
  · rw [if_neg hk, if_neg (by omega), if_neg (fun hc => hk hc.1)]
theorem cellC_at {bs : List Bk} {t i : Nat} (h : (cpK bs bs.length)[t]? = some i) : cellC bs (t + 1) i = (bs.length : Int) + ((dlK bs bs.length).length : Int) + 2 * (t : Int) := by
  obtain ⟨_, h2, h3⟩ := cp_at.1 h
  unfold cellC
  rw [if_neg (by omega), if_pos ⟨h2, by omega⟩, h3]
theorem cellC_far {bs : List Bk} {t i j : Nat} (h : (cpK bs bs.length)[t]? = some i) (hj : j ≠ i) : cellC bs (t + 1) j = cellC bs t j := by
  obtain ⟨_, h2, h3⟩ := cp_at.1 h
  unfold cellC
  by_cases hd : kindAt bs j = 2
  · rw [if_pos hd, if_pos hd]
  · rw [if_neg hd, if_neg hd]
    by_cases hk : kindAt bs j = 11
    · by_cases hr : rank (cpB bs) j < t
      · rw [if_pos ⟨hk, by omega⟩, if_pos ⟨hk, hr⟩]
      · have hne : rank (cpB bs) j ≠ t := fun e => hj (rank_inj (cpB bs) (by simp [cpB, hk]) (by simp [cpB, h2]) (by rw [e, h3]))
        rw [if_neg (fun hc => by have := hc.2; omega), if_neg (fun hc => hr hc.2)]
    · rw [if_neg (fun hc => hk hc.1), if_neg (fun hc => hk hc.1)]
theorem cellC_all (bs : List Bk) : tab bs.length (cellC bs (cpK bs bs.length).length) = tab bs.length (cellF bs) := tab_same fun j hj => by
  unfold cellC cellF
  by_cases hd : kindAt bs j = 2
  · rw [if_pos hd, if_pos hd]
  · rw [if_neg hd, if_neg hd]
    by_cases hk : kindAt bs j = 11
    · rw [if_pos hk, if_pos ⟨hk, rank_cp_lt hj hk⟩]
    · rw [if_neg hk, if_neg (fun hc => hk hc.1)]
theorem flat2_len (f g : Nat → Int) (l : List Nat) : (l.flatMap fun j => [f j, g j]).length = 2 * l.length := by
  induction l with
  | nil => rfl
  | cons x l ih =>
    simp only [List.flatMap_cons, List.length_append, List.length_cons, List.length_nil, ih]
    omega
theorem flat2_next {f g : Nat → Int} {l : List Nat} {s i : Nat} (h : l[s]? = some i) : (l.take (s + 1)).flatMap (fun j => [f j, g j]) = (l.take s).flatMap (fun j => [f j, g j]) ++ [f i, g i] := by
  rw [List.take_add_one, h]
  simp
/-! The code as it grows. -/
def cdA (ps : List Prt) (bs : List Bk) (F : List Int) (t : Nat) : List Ins := ((ordM bs).take t).flatMap (fun j => blkC ps bs F j (cellF bs j))
def cdB (ps : List Prt) (bs : List Bk) (F : List Int) (t : Nat) : List Ins := cdA ps bs F (ordM bs).length ++ ((dlK bs bs.length).take t).map (mv1 bs F)
def cdC (ps : List Prt) (bs : List Bk) (F : List Int) (t : Nat) : List Ins := cdB ps bs F (dlK bs bs.length).length ++ ((dlK bs bs.length).take t).map (mv2 bs)
section
variable {ps : List Prt} {bs : List Bk} {F : List Int} {t j : Nat}
theorem cdB_zero : cdB ps bs F 0 = cdA ps bs F (ordM bs).length := by unfold cdB; rw [List.take_zero, List.map_nil, List.append_nil]
theorem cdC_zero : cdC ps bs F 0 = cdB ps bs F (dlK bs bs.length).length := by unfold cdC; rw [List.take_zero, List.map_nil, List.append_nil]
theorem cdC_all : cdC ps bs F (dlK bs bs.length).length = codeM ps bs F := by
  unfold cdC cdB cdA codeM
  rw [List.take_length, List.take_length, delL_is]
theorem cdA_next (h : (ordM bs)[t]? = some j) : cdA ps bs F (t + 1) = cdA ps bs F t ++ blkC ps bs F j (cellF bs j) := code_next h
theorem cdB_next (h : (dlK bs bs.length)[t]? = some j) : cdB ps bs F (t + 1) = cdB ps bs F t ++ [mv1 bs F j] := by
  unfold cdB
  rw [List.take_add_one, h]
  simp
theorem cdC_next (h : (dlK bs bs.length)[t]? = some j) : cdC ps bs F (t + 1) = cdC ps bs F t ++ [mv2 bs j] := by
  unfold cdC
  rw [List.take_add_one, h]
  simp
theorem cdA_len (t : Nat) : (cdA ps bs F t).length ≤ 2 * t := Nat.le_trans (code_len _) (by rw [List.length_take]; omega)
theorem cdB_len (t : Nat) : (cdB ps bs F t).length ≤ 2 * (ordM bs).length + t := by
  unfold cdB
  have := cdA_len (ps := ps) (bs := bs) (F := F) (ordM bs).length
  rw [List.length_append, List.length_map, List.length_take]
  omega
theorem cdC_len (t : Nat) : (cdC ps bs F t).length ≤ 2 * (ordM bs).length + (dlK bs bs.length).length + t := by
  unfold cdC
  have := cdB_len (ps := ps) (bs := bs) (F := F) (dlK bs bs.length).length
  rw [List.length_append, List.length_map, List.length_take]
  omega
/-- One instruction more, two more. -/
theorem ins_put {X Y : List Ins} {x : Ins} (h : Y = X ++ [x]) : cD (flatD dIns X) ++ [.d (dI x.op), .d (dI x.dst), .d (dI x.a), .d (dI x.b), .d (dI x.sa), .d (dI x.sb), .d (dI x.imm)] = cD (flatD dIns Y) := by
  rw [h, flatD_app, ← cD_app]
  rfl
theorem ins_put2 {X Y : List Ins} {x y : Ins} (h : Y = X ++ [x, y]) : cD (flatD dIns X) ++ ([.d (dI x.op), .d (dI x.dst), .d (dI x.a), .d (dI x.b), .d (dI x.sa), .d (dI x.sb), .d (dI x.imm)] ++ [.d (dI y.op), .d (dI y.dst), .d (dI y.a), .d (dI y.b), .d (dI y.sa), .d (dI y.sb), .d (dI y.imm)]) = cD (flatD dIns Y) := by
  rw [h, flatD_app, ← cD_app]
  rfl
theorem len_put {X Y : List Ins} {x : Ins} (h : Y = X ++ [x]) : X.length + 1 = Y.length := by rw [h, List.length_append]; rfl
theorem len_put2 {X Y : List Ins} {x y : Ins} (h : Y = X ++ [x, y]) : X.length + 2 = Y.length := by rw [h, List.length_append]; rfl
theorem insC_at {xs : List Ins} {k : Nat} {y : Ins} (h : xs[k]? = some y) : ((cD (flatD dIns xs)).drop (k * 7)).take 7 = cD (dIns y) := by
  unfold cD
  rw [← List.map_drop, ← List.map_take, ins_at h]
end
theorem ints_free (xs : List Int) : ∀ d ∈ xs.map dI, DFree d := fun d hd => by obtain ⟨z, _, rfl⟩ := List.mem_map.1 hd; exact .val _
theorem cI_D (xs : List Int) : cI xs = cD (xs.map dI) := by simp [cI, cD, dI]
theorem cexp_oD {t : Bool} {H : List Ob} {id ty s n : Nat} {c : C} {y : D} {ds : List D} (hc : c = .own id n) (hH : H[id]? = some (.row ty s n (cD ds))) (hy : y = .row t s n ds) (hf : t = false → ∀ d ∈ ds, DFree d) : CExp t H c y := by
  rw [hc, hy]
  exact .own hH (by simp [cD]) fun j c d h1 h2 => by
    have h3 : c = .d d := by
      simp only [cD, List.getElem?_map, h2, Option.map_some, Option.some.injEq] at h1
      exact h1.symm
    rw [h3]
    exact .d fun ht => hf ht d (List.mem_of_getElem? h2)
theorem cexp_oI {H : List Ob} {id ty n : Nat} {c : C} {y : D} {xs : List Int} (hc : c = .own id n) (hH : H[id]? = some (.row ty 1 n (cI xs))) (hn : n = xs.length) (hy : y = rowI false xs) : CExp false H c y := by
  subst hn
  exact cexp_oD hc (by rw [hH, cI_D]) hy fun _ d hd => by obtain ⟨z, _, rfl⟩ := List.mem_map.1 hd; exact .val _
end Go.Proofs.YtjlocofimlgaoaaDoor
