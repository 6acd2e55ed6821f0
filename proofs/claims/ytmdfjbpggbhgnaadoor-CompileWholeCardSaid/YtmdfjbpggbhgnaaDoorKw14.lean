/- What the proofs of this claim share, part 14. No conditions. -/
import Derived.Test.YtmdfjbpggbhgnaaDoorKw9
import Derived.Test.YtmdfjbpggbhgnaaDoorKw12
import Derived.Test.YtmdfjbpggbhgnaaDoorKw13
import Derived.Test.YtmdfjbpggbhgnaaDoorKw6
import Derived.Test.YtmdfjbpggbhgnaaDoorKw10
import Derived.Test.YtmdfjbpggbhgnaaDoorKw5
import Derived.Lib.AppendZerosOnto
import Derived.Maps.AppendAt
set_option maxRecDepth 100000
set_option maxHeartbeats 8000000
set_option linter.unusedVariables false
set_option linter.unusedSimpArgs false
set_option linter.unusedSectionVars false
namespace Go.Proofs.YtmdfjbpggbhgnaaDoor
open Go.RowKit
section
variable {P : Program} {G : World → Prop} {o : Oper} {F : Frm} {H : List Ob}
theorem to_apE {t e : TypeId} {x y : Operand} {id n m' n' s by_ : Nat} {tg : Bool} {z : Value} {cs cs2 : List C} {ds : List D} (ho : o.op = .call { callee := .builtin .append, args := #[x, y], argTypes := #[t, t] }) (hx : F.ev x = .one (.own id n)) (hH : H[id]? = some (.row e s n cs)) (hy : F.ev y = .one (.d (.row tg s m' ds))) (ht : TyS P t e s) (hz : TyZ P e z s by_) (hn : n + m' ≤ 100000000000) (hby : by_ ≤ 1000) (h0 : 0 < s) (hl : ds.length = m' * s) (hys : cs ++ ds.map C.d = cs2) (hn' : n + m' = n') : TOk P G o F H (.one (.own id n')) (H.set id (.row e s n' cs2)) := by
  subst hys
  subst hn'
  exact to_append ho hx hH hy .row ht hz hn h0 hby (by simp [hl])
end
end Go.Proofs.YtmdfjbpggbhgnaaDoor
namespace Go.Proofs.YtmdfjbpggbhgnaaDoor
open Go.RowKit
end Go.Proofs.YtmdfjbpggbhgnaaDoor
namespace Go.Proofs.YtmdfjbpggbhgnaaDoor
open Go.RowKit
end Go.Proofs.YtmdfjbpggbhgnaaDoor
namespace Go.Proofs.YtmdfjbpggbhgnaaDoor
open Go.RowKit Cd
theorem raw_short (n e f : Int) : shortB (rawV n e f) = true := by
  unfold rawV
  by_cases h : rawErr n e f = 0
  · rw [if_pos h]
    unfold rawErr at h
    by_cases h1 : rawOk n e f
    · rw [if_pos h1] at h
      by_cases h2 : -2147483648 ≤ shE n (e + f) ∧ shE n (e + f) < 2147483648
      · exact decide_eq_true h2
      · rw [if_neg h2] at h; cases h
    · rw [if_neg h1] at h; cases h
  · rw [if_neg h]; rfl
theorem conV_short (bs : List Bk) (F : List Int) (j : Nat) : shortB (conV bs F j) = true := by
  unfold conV
  split
  · exact raw_short _ _ _
  · rfl
theorem conU_short (bs : List Bk) (F : List Int) (j : Nat) : shortB (conU bs F j) = true := by
  unfold conU
  split
  · exact raw_short _ _ _
  · rfl
theorem init_short {bs : List Bk} {F : List Int} {z : Int} (h : z ∈ initM bs F) : shortB z = true := by
  unfold initM at h
  rcases List.mem_append.1 h with h | h
  · rcases List.mem_append.1 h with h | h
    · obtain ⟨j, _, rfl⟩ := List.mem_map.1 h
      split
      · exact conV_short _ _ _
      · rfl
    · rw [(List.mem_replicate.1 h).2]; rfl
  · obtain ⟨j, _, h⟩ := List.mem_flatMap.1 h
    simp only [List.mem_cons, List.not_mem_nil, or_false] at h
    rcases h with rfl | rfl
    · exact conV_short _ _ _
    · exact conU_short _ _ _
theorem init_len (bs : List Bk) (F : List Int) : (initM bs F).length = bs.length + (dlK bs bs.length).length + 2 * (cpK bs bs.length).length := by
  unfold initM
  rw [List.length_append, List.length_append, tab_len, List.length_replicate, flat2_len, delL_is]
theorem two_kinds (bs : List Bk) : ∀ k, (dlK bs k).length + (cpK bs k).length ≤ k
  | 0 => Nat.le_refl _
  | k + 1 => by
    have ih := two_kinds bs k
    rw [dlK_succ, cpK_succ]
    by_cases h : kindAt bs k = 2
    · rw [if_pos h, if_neg (by omega), List.length_append]
      simp
      omega
    · rw [if_neg h]
      split
      · rw [List.length_append]
        simp
        omega
      · omega
theorem parts_le (p q : Nat → Bool) (h : ∀ i, p i = true → q i = true → False) : ∀ l : List Nat, (l.filter p).length + (l.filter q).length ≤ l.length
  | [] => Nat.le_refl _
  | x :: l => by
    have ih := parts_le p q h l
    rw [List.filter_cons, List.filter_cons]
    cases hp : p x <;> cases hq : q x
    · simp only [Bool.false_eq_true, if_false, List.length_cons]; omega
    · simp only [Bool.false_eq_true, if_false, if_true, List.length_cons]; omega
    · simp only [Bool.false_eq_true, if_false, if_true, List.length_cons]; omega
    · exact (h x hp hq).elim
theorem ord_del (bs : List Bk) : (ordM bs).length + (dlK bs bs.length).length ≤ bs.length := by
  have h1 := (ordN_ok bs.length (OutOk.nil bs)).le
  have h2 : nonDel bs + (dlK bs bs.length).length ≤ bs.length := by
    have := parts_le (fun i => kindAt bs i != 2) (fun i => kindAt bs i == 2) (fun i h1 h2 => by simp at h1 h2; exact h1 h2) (List.range bs.length)
    rw [List.length_range] at this
    exact this
  have h3 : (ordM bs).length ≤ nonDel bs := h1
  omega
theorem ins_ok {np n : Nat} {op dst a b sa sb imm : Int} {u1 u2 u3 u4 u5 : Bool} (hu : usesR op = (u1, u2, u3, u4, u5, true)) (hd : 0 ≤ dst ∧ dst < n) (ha : if u1 = true then 0 ≤ a ∧ a < (if op = 0 then (np : Int) else n) else a = 0) (hb : if u2 = true then 0 ≤ b ∧ b < n else b = 0)
    (hsa : if u3 = true then shiftB sa = true else sa = 0) (hsb : if u4 = true then shiftB sb = true else sb = 0) (him : if u5 = true then shortB imm = true else imm = 0) : insErr np n op dst a b sa sb imm = 0 := by
  unfold insErr
  rw [hu]
  dsimp only
  rw [if_neg (by decide), if_neg (not_not_intro hd)]
  cases u1 <;> cases u2 <;> cases u3 <;> cases u4 <;> cases u5 <;> simp_all
theorem os_ok {ps : List Prt} {bs : List Bk} {os : List Int} (he : dgErr ps bs os = 0) : ∀ o ∈ os, 0 ≤ o ∧ o < (bs.length : Int) := fun o ho => by
  have h1 := (pre_of he).2.1
  unfold preErr at h1
  rw [firstErr_append] at h1
  by_cases h2 : firstErr (ps.map portE) = 0
  · rw [if_pos h2, firstErr_append] at h1
    by_cases h3 : firstErr (bs.map (blkErr ps.length bs.length)) = 0
    · rw [if_pos h3] at h1
      have h4 := firstErr_zero h1 _ (List.mem_map.2 ⟨o, ho, rfl⟩)
      unfold outE at h4
      by_cases h5 : 0 ≤ o ∧ o < (bs.length : Int)
      · exact h5
      · rw [if_neg h5] at h4; cases h4
    · rw [if_neg h3] at h1; exact absurd h1 h3
  · rw [if_neg h2] at h1; exact absurd h1 h2
section
variable {ps : List Prt} {bs : List Bk} {os F : List Int}
theorem blk_ok (he : dgErr ps bs os = 0) {j : Nat} (hjn : j < bs.length) (hk2 : kindAt bs j ≠ 2) (hsh : (blkC ps bs F j (cellF bs j)).all shOk = true) : ∀ x ∈ blkC ps bs F j (cellF bs j), Ins.err ps.length (initM bs F).length x = 0 := by
  obtain ⟨y, hy⟩ : ∃ y, bs[j]? = some y := ⟨_, List.getElem?_eq_getElem hjn⟩
  have hac := acc_args he hy
  have hYA := blkA_of hy
  have hYK := kindA_of hy
  have hM := init_len bs F
  have sh : ∀ x ∈ blkC ps bs F j (cellF bs j), shiftB x.sa = true ∧ shiftB x.sb = true := fun x hx => by
    have := of_decide_eq_true (List.all_eq_true.1 hsh x hx)
    exact ⟨decide_eq_true ⟨this.1, this.2.1⟩, decide_eq_true this.2.2⟩
  rw [hYK] at hk2
  have hjd : (0 : Int) ≤ (j : Int) ∧ (j : Int) < ((initM bs F).length : Int) := by omega
  have args : ∀ i a, y.args[i]? = some a → 0 ≤ a ∧ a < (mostM ps.length bs.length y.kind : Int) := fun i a h => hac.2.2 a (List.mem_of_getElem? h)
  have c11 : y.kind = 11 → 0 ≤ cellF bs j ∧ cellF bs j + 1 < ((initM bs F).length : Int) := fun k11 => by
    have hrk := rank_cp_lt hjn (hYK.trans k11)
    unfold cellF
    rw [hYK, if_neg (by omega), if_pos k11]
    omega
  have one : ∀ n : Nat, ((y.args.length : Nat) : Int) = arityM y.kind → arityM y.kind = n → ∀ i, i < n → ∃ a, y.args[i]? = some a := fun n h1 h2 i hi => ⟨_, List.getElem?_eq_getElem (by omega)⟩
  intro x hx
  have hs := sh x hx
  clear sh hsh
  unfold blkC at hx
  dsimp only at hx
  rw [hYA] at hx
  unfold Ins.err
  have a0 : 1 ≤ y.args.length → ∃ a, y.args[0]? = some a ∧ arg0 y = a := fun h => by
    obtain ⟨a, ha⟩ : ∃ a, y.args[0]? = some a := ⟨_, List.getElem?_eq_getElem (by omega)⟩
    exact ⟨a, ha, by unfold arg0; rw [ha]; rfl⟩
  have a1 : 2 ≤ y.args.length → ∃ a, y.args[1]? = some a ∧ arg1 y = a := fun h => by
    obtain ⟨a, ha⟩ : ∃ a, y.args[1]? = some a := ⟨_, List.getElem?_eq_getElem (by omega)⟩
    exact ⟨a, ha, by unfold arg1; rw [ha]; rfl⟩
  have hM0 : y.kind ≠ 0 → mostM ps.length bs.length y.kind = bs.length := fun h => if_neg h
  have har := hac.2.1
  have hge := hac.1
  by_cases k0 : y.kind = 0
  · rw [if_pos k0] at hx
    obtain ⟨a, h1, h2⟩ := a0 (by rw [k0] at har; simp [arityM] at har; omega)
    have h3 := args 0 a h1
    rw [show mostM ps.length bs.length y.kind = ps.length from if_pos k0] at h3
    simp only [List.mem_singleton] at hx
    subst hx
    exact ins_ok (u1 := true) (u2 := false) (u3 := true) (u4 := false) (u5 := false) rfl hjd (by simpa [h2] using h3) rfl hs.1 rfl rfl
  rw [if_neg k0] at hx
  have hm := hM0 k0
  by_cases k1 : y.kind = 1
  · rw [if_pos k1] at hx
    simp only [List.mem_singleton] at hx
    subst hx
    exact ins_ok (u1 := false) (u2 := false) (u3 := false) (u4 := false) (u5 := true) rfl hjd rfl rfl rfl rfl (raw_short _ _ _)
  rw [if_neg k1] at hx
  obtain ⟨a, h1, h2⟩ := a0 (by unfold arityM at har hge; (repeat' split at har) <;> omega)
  have h3 := args 0 a h1
  rw [hm] at h3
  by_cases k6 : y.kind = 6
  · rw [if_pos k6] at hx
    have hv := acc_sc he hy (by rw [k6]; rfl)
    unfold scOk at hv
    simp only [List.mem_singleton] at hx
    subst hx
    exact ins_ok (u1 := true) (u2 := false) (u3 := true) (u4 := false) (u5 := true) rfl hjd (by show 0 ≤ arg0 y ∧ arg0 y < (if (6 : Int) = 0 then (ps.length : Int) else ((initM bs F).length : Int)); rw [h2, if_neg (by decide)]; omega) rfl hs.1 rfl (decide_eq_true ⟨by show -2147483648 ≤ y.vn; omega, hv.2.1⟩)
  rw [if_neg k6] at hx
  by_cases k7 : y.kind = 7
  · rw [if_pos k7] at hx
    obtain ⟨b, g1, g2⟩ := a1 (by rw [k7] at har; simp [arityM] at har; omega)
    have g3 := args 1 b g1
    rw [hm] at g3
    simp only [List.mem_singleton] at hx
    subst hx
    exact ins_ok (u1 := true) (u2 := true) (u3 := true) (u4 := false) (u5 := false) rfl hjd (by show 0 ≤ arg0 y ∧ arg0 y < (if (7 : Int) = 0 then (ps.length : Int) else ((initM bs F).length : Int)); rw [h2, if_neg (by decide)]; omega) (by show 0 ≤ arg1 y ∧ arg1 y < ((initM bs F).length : Int); rw [g2]; omega) hs.1 rfl rfl
  rw [if_neg k7] at hx
  by_cases k11 : y.kind = 11
  · rw [if_pos k11] at hx
    have hc := c11 k11
    simp only [List.mem_cons, List.not_mem_nil, or_false] at hx
    rcases hx with rfl | rfl
    · exact ins_ok (u1 := true) (u2 := true) (u3 := true) (u4 := true) (u5 := false) rfl hjd (by show 0 ≤ arg0 y ∧ arg0 y < (if (9 : Int) = 0 then (ps.length : Int) else ((initM bs F).length : Int)); rw [h2, if_neg (by decide)]; omega) (by show 0 ≤ cellF bs j ∧ cellF bs j < ((initM bs F).length : Int); omega) hs.1 rfl rfl
    · exact ins_ok (u1 := true) (u2 := true) (u3 := true) (u4 := true) (u5 := false) rfl hjd (by show 0 ≤ (j : Int) ∧ (j : Int) < (if (8 : Int) = 0 then (ps.length : Int) else ((initM bs F).length : Int)); rw [if_neg (by decide)]; exact hjd) (by show 0 ≤ cellF bs j + 1 ∧ cellF bs j + 1 < ((initM bs F).length : Int); omega) rfl rfl rfl
  rw [if_neg k11] at hx
  by_cases hl2 : y.args.length = 2
  · rw [if_pos hl2] at hx
    obtain ⟨b, g1, g2⟩ := a1 (by omega)
    have g3 := args 1 b g1
    rw [hm] at g3
    simp only [List.mem_singleton] at hx
    subst hx
    have hk : y.kind = 3 ∨ y.kind = 4 ∨ y.kind = 8 ∨ y.kind = 9 := by
      unfold arityM at har
      (repeat' split at har) <;> omega
    have hop : opM y.kind = 3 ∨ opM y.kind = 4 ∨ opM y.kind = 8 ∨ opM y.kind = 9 := by rcases hk with h | h | h | h <;> rw [h] <;> decide
    have hus : usesR (opM y.kind) = (true, true, true, true, false, true) := by rcases hop with h | h | h | h <;> rw [h] <;> rfl
    exact ins_ok (u1 := true) (u2 := true) (u3 := true) (u4 := true) (u5 := false) hus hjd (by show 0 ≤ arg0 y ∧ arg0 y < (if opM y.kind = 0 then (ps.length : Int) else ((initM bs F).length : Int)); rw [h2, if_neg (by omega)]; omega) (by show 0 ≤ arg1 y ∧ arg1 y < ((initM bs F).length : Int); rw [g2]; omega) hs.1 hs.2 rfl
  rw [if_neg hl2] at hx
  simp only [List.mem_singleton] at hx
  subst hx
  have hk : y.kind = 5 ∨ y.kind = 10 := by
    clear hge h1 h2 h3 hs a0 a1 args c11 one
    unfold arityM at har
    (repeat' split at har) <;> omega
  have hop : opM y.kind = 5 ∨ opM y.kind = 10 := by rcases hk with h | h <;> rw [h] <;> decide
  have hus : usesR (opM y.kind) = (true, false, true, false, false, true) := by rcases hop with h | h <;> rw [h] <;> rfl
  exact ins_ok (u1 := true) (u2 := false) (u3 := true) (u4 := false) (u5 := false) hus hjd (by show 0 ≤ arg0 y ∧ arg0 y < (if opM y.kind = 0 then (ps.length : Int) else ((initM bs F).length : Int)); rw [h2, if_neg (by omega)]; omega) rfl hs.1 rfl rfl
theorem prog_ok (he : dgErr ps bs os = 0) (hsh : (codeM ps bs F).all shOk = true) : progErr ps (initM bs F) (codeM ps bs F) os = 0 := by
  have hsz := size_of_ok he
  unfold sizeOk at hsz
  have hM := init_len bs F
  have h2 := two_kinds bs bs.length
  have hdl := dlK_len bs bs.length
  have hcl := cpK_len bs bs.length
  have hcd := cdC_len (ps := ps) (bs := bs) (F := F) (dlK bs bs.length).length
  rw [cdC_all] at hcd
  have hol : (ordM bs).length + (dlK bs bs.length).length ≤ bs.length := ord_del bs
  unfold progErr
  rw [if_neg (not_not_intro ⟨by omega, by omega, by omega, by omega⟩)]
  refine firstErr_allz fun z hz => ?_
  rcases List.mem_append.1 hz with h | h
  · obtain ⟨p, hp, rfl⟩ := List.mem_map.1 h
    obtain ⟨i, hi⟩ := List.mem_iff_getElem?.1 hp
    have h1 := acc_port he hi
    unfold portE at h1
    by_cases h3 : -2147483648 ≤ p.lo ∧ p.lo ≤ p.hi ∧ p.hi < 2147483648 ∧ 0 ≤ p.fr ∧ p.fr ≤ 30
    · unfold portErr
      rw [if_pos ⟨decide_eq_true (by omega), decide_eq_true (by omega), by omega, by omega, by omega⟩]
    · rw [if_neg h3] at h1; cases h1
  rcases List.mem_append.1 h with h | h
  · obtain ⟨x, hx, rfl⟩ := List.mem_map.1 h
    unfold initErr
    rw [if_pos (init_short hx)]
  rcases List.mem_append.1 h with h | h
  · obtain ⟨x, hx, rfl⟩ := List.mem_map.1 h
    have hx0 := hx
    have hxs := of_decide_eq_true (List.all_eq_true.1 hsh x hx)
    unfold codeM at hx
    rcases List.mem_append.1 hx with hx | hx
    · rcases List.mem_append.1 hx with hx | hx
      · obtain ⟨j, hj, hx⟩ := List.mem_flatMap.1 hx
        obtain ⟨i, hi⟩ := List.mem_iff_getElem?.1 hj
        obtain ⟨hjn, hk2⟩ := ord_at hi
        refine blk_ok he hjn hk2 (List.all_eq_true.2 fun y hy => List.all_eq_true.1 hsh y ?_) x hx
        unfold codeM
        exact List.mem_append_left _ (List.mem_append_left _ (List.mem_flatMap.2 ⟨j, hj, hy⟩))
      · obtain ⟨j, hj, rfl⟩ := List.mem_map.1 hx
        obtain ⟨i, hi⟩ := List.mem_iff_getElem?.1 hj
        obtain ⟨hjn, hk2, hrk⟩ := dl_at.1 hi
        have hrl := rank_dl_lt hjn hk2
        obtain ⟨y, hy⟩ : ∃ y, bs[j]? = some y := ⟨_, List.getElem?_eq_getElem hjn⟩
        have hac := acc_args he hy
        rw [kindA_of hy] at hk2
        have hyl : y.args.length = 1 := by have h := hac.2.1; rw [hk2] at h; simp [arityM] at h; omega
        obtain ⟨a, ha⟩ : ∃ a, y.args[0]? = some a := ⟨_, List.getElem?_eq_getElem (by omega)⟩
        have hr := hac.2.2 a (List.mem_of_getElem? ha)
        rw [show mostM ps.length bs.length y.kind = bs.length from if_neg (by omega)] at hr
        have hg : arg0 (blkA bs j) = a := by rw [blkA_of hy]; unfold arg0; rw [ha]; rfl
        have hc : cellF bs j = (bs.length : Int) + (rank (dlB bs) j : Int) := by unfold cellF; rw [kindA_of hy, if_pos hk2]
        refine ins_ok (u1 := true) (u2 := false) (u3 := true) (u4 := false) (u5 := false) rfl ?_ ?_ rfl (decide_eq_true ⟨hxs.1, hxs.2.1⟩) rfl rfl
        · show 0 ≤ cellF bs j ∧ cellF bs j < ((initM bs F).length : Int)
          rw [hc]
          omega
        · show 0 ≤ arg0 (blkA bs j) ∧ arg0 (blkA bs j) < (if (2 : Int) = 0 then (ps.length : Int) else ((initM bs F).length : Int))
          rw [hg, if_neg (by decide)]
          omega
    · obtain ⟨j, hj, rfl⟩ := List.mem_map.1 hx
      obtain ⟨i, hi⟩ := List.mem_iff_getElem?.1 hj
      obtain ⟨hjn, hk2, hrk⟩ := dl_at.1 hi
      have hrl := rank_dl_lt hjn hk2
      have hc : cellF bs j = (bs.length : Int) + (rank (dlB bs) j : Int) := by unfold cellF; rw [if_pos hk2]
      refine ins_ok (u1 := true) (u2 := false) (u3 := true) (u4 := false) (u5 := false) rfl ?_ ?_ rfl rfl rfl rfl
      · show 0 ≤ (j : Int) ∧ (j : Int) < ((initM bs F).length : Int)
        omega
      · show 0 ≤ cellF bs j ∧ cellF bs j < (if (2 : Int) = 0 then (ps.length : Int) else ((initM bs F).length : Int))
        rw [hc, if_neg (by decide)]
        omega
  · obtain ⟨o, ho, rfl⟩ := List.mem_map.1 h
    have := os_ok he o ho
    unfold outErr
    rw [if_pos ⟨this.1, by omega⟩]
end
end Go.Proofs.YtmdfjbpggbhgnaaDoor
namespace Go.Proofs.YtmdfjbpggbhgnaaDoor
open Go.RowKit Cd
theorem shifts_ok {ps : List Prt} {bs : List Bk} {F : List Int} (h : cpErr ps bs F = 0) : (codeM ps bs F).all shOk = true := by
  unfold cpErr at h
  by_cases h1 : F.length = bs.length
  · rw [if_neg (not_not_intro h1)] at h
    by_cases h2 : F.all scOk30 = true
    · rw [if_neg (not_not_intro h2)] at h
      by_cases h3 : firstErr ((List.range bs.length).map (conE bs F)) = 0
      · rw [if_neg (not_not_intro h3)] at h
        by_cases h4 : (codeM ps bs F).all shOk = true
        · exact h4
        · rw [if_neg h4] at h; cases h
      · rw [if_pos h3] at h; exact absurd h h3
    · rw [if_pos h2] at h; cases h
  · rw [if_pos h1] at h; cases h
theorem pcheck_t (t : Bool) {ps : List Prt} {is : List Int} {xs : List Ins} {os : List Int} (l1 : ps.length ≤ 1000000) (l2 : is.length ≤ 1000000) (l3 : xs.length ≤ 1000000) (l4 : os.length ≤ 1000000) (h0 : progErr ps is xs os = 0) : CV Tryd.prog TabAt 24 [aProg t ps is xs os] [aE 0] := fun w S vs hg hlt ha => by
  obtain ⟨v, rfl, hv⟩ := one_arg ha
  obtain ⟨ys, rfl, hl0⟩ := hv
  obtain ⟨v0, x1, rfl, q0, h⟩ := LRel.uncons hl0
  obtain ⟨v1, x2, rfl, q1, h⟩ := h.uncons
  obtain ⟨v2, x3, rfl, q2, h⟩ := h.uncons
  obtain ⟨v3, x4, rfl, q3, h⟩ := h.uncons
  have := h.unnil
  subst this
  unfold rowP at q0
  rw [flatD_vals dPrt_vals] at q0
  unfold rowN at q2
  rw [flatD_vals dIns_vals] at q2
  obtain ⟨A1, c1, rfl, _, _, _, k1⟩ := row_vals hlt q0
  obtain ⟨A2, c2, rfl, _, _, k2⟩ := rowI_open hlt q1
  obtain ⟨A3, c3, rfl, _, _, _, k3⟩ := row_vals hlt q2
  obtain ⟨A4, c4, rfl, _, _, k4⟩ := rowI_open hlt q3
  refine (Cd.Check_any A1 A2 A3 A4 ps is xs os c1 c2 c3 c4 _ w (Nat.le_refl _) k1 k2 k3 k4).mono fun e w' ⟨he, hb⟩ => ?_
  rw [h0] at he
  exact ⟨_, he, DRel.val (errV_one _), hb⟩
end Go.Proofs.YtmdfjbpggbhgnaaDoor
namespace Go.Proofs.YtmdfjbpggbhgnaaDoor
open Go.RowKit
theorem cexp_oI2 {t : Bool} {H : List Ob} {id ty n : Nat} {c : C} {y : D} {xs : List Int} (hc : c = .own id n) (hH : H[id]? = some (.row ty 1 n (cI xs))) (hn : n = xs.length) (hy : y = rowI t xs) : CExp t H c y := by
  subst hn hy
  refine cexp_o hc hH rfl (LRel.map_l.2 ⟨by simp, fun j a b ha hb => ?_⟩)
  rw [List.getElem?_map, ha] at hb
  cases hb
  exact .d fun _ => .val _
theorem inputs_cv (t u : Bool) {ps : List Prt} {bs : List Bk} {os : List Int} (inn : List Int) (hl : DgLen ps bs os) (h2 : inn.length ≤ 1000000) : CV Tryd.prog TabAt 11 [aDg t ps bs os, .one (rowI u inn)] [.one (rowI false (inpV ps inn ps.length))] := by
  refine cvz Tryd.func11 Tryd.ntmps11 ?_
  have hl1 := hl.l1
  repeat' (with_reducible first | apply qa | apply qb | apply qc | apply qd | apply qe | apply qf | apply qg | apply qh | apply qi | apply qj | apply qk | apply ql rfl | apply qm rfl | apply qn rfl | apply Je | (refine Tx 0 ?_; refine Jn xBo ?_; refine Ja ?_) | (refine Tx 1 ?_; refine Ja ?_) | (refine Tx 2 ?_; refine Jo (xFa tf_Diagram0 tk_s_Port) ?_; refine Jo (xLd tk_s_Port) ?_; refine Jo (xLn ts_s_Port) ?_; refine Jm ?_))
  refine cw_wk (wk_nil 5 3 1 rfl) ?_
  refine cw_wk (F' := ofL [(1, vd (rowI u inn)), (2, vr 0), (5, vo 1 ((inpV ps inn 0).length)), (10, vd (rowP t ps)), (11, vi ps.length), (12, vi ((0 : Nat)))]) (H' := [.box 26 [.d (rowP t ps), .d (rowB t bs), .d (rowI t os)], .row 3 1 (inpV ps inn (0)).length (cI (inpV ps inn (0)))]) (wk_go _ 2 ?_ ?_ ?_) ?_
  · rfl
  · exact mB rfl rfl
  · exact ⟨bel_lit rfl, bel_cI, trivial⟩
  refine cw_loopW (fun n Fr H => ∃ k : Nat, k ≤ ps.length ∧ n = ps.length - k ∧ Fr = ofL [(1, vd (rowI u inn)), (2, vr 0), (5, vo 1 ((inpV ps inn k).length)), (10, vd (rowP t ps)), (11, vi ps.length), (12, vi ((k : Nat)))] ∧ H = [.box 26 [.d (rowP t ps), .d (rowB t bs), .d (rowI t os)], .row 3 1 (inpV ps inn (k)).length (cI (inpV ps inn (k)))]) (n0 := ps.length) ⟨0, Nat.zero_le _, rfl, rfl, rfl⟩ ?_
  rintro n Fr H ⟨k, hk, rfl, rfl, rfl⟩
  by_cases hlt : k < ps.length
  case pos =>
    obtain ⟨p, hp⟩ : ∃ p, ps[k]? = some p := ⟨_, List.getElem?_eq_getElem hlt⟩
    have hol : (inpV ps inn (k)).length ≤ k := inpV_len _ _ _
    by_cases hki : k < inn.length
    case pos =>
      obtain ⟨z, hz⟩ : ∃ z, inn[k]? = some z := ⟨_, List.getElem?_eq_getElem hki⟩
      have hap : (inpV ps inn (k)) ++ [clipI z p.lo p.hi] = (inpV ps inn (k + 1)) := (inpV_step hp (by rw [hz]; rfl)).symm
      have hap2 : (inpV ps inn (k)).length + 1 = (inpV ps inn (k + 1)).length := by rw [← hap]; simp
      have BC := bclip_cv z p.lo p.hi
      repeat' (with_reducible first | apply qa | apply qb | apply qc | apply qd | apply qe | apply qf | apply qg | apply qh | apply qi | apply qj | apply qk | apply ql rfl | apply qm rfl | apply qn rfl | apply Je | (refine Tx 3 ?_; refine Jo xLt ?_) | (refine Tx 4 ?_; refine Jm ?_; refine Jo (xIr ts_s_Port (prt_at hp)) ?_; refine Jo (xLa tk_Port) ?_; refine Jn (xAl tz_Port) ?_; refine Ja ?_; refine Js (xSk tk_Port) ?_) | (refine Tx 5 ?_; refine Ja ?_) | (refine Tx 6 ?_; refine Jm ?_; refine Jm ?_; refine Jo (xLn ts_s_int) ?_; refine Jo xLt ?_) | (refine Tx 7 ?_; refine Jm ?_; refine Jm ?_; refine Jo (xIr ts_s_int (int_at hz)) ?_; refine Jo (xLd tk_int) ?_; refine Ja ?_) | (refine Tx 8 ?_; refine Jm ?_; refine Jm ?_; refine Jo (xFa tf_Port0 tk_int) ?_; refine Jo (xLd tk_int) ?_; refine Jo (xFa tf_Port1 tk_int) ?_; refine Jo (xLd tk_int) ?_; refine Jo (xCl Tryd.func25 (BC.cv)) ?_; refine Jn (by exact ok_build1 rfl ts_s_int tz_int rfl rfl (by decide) (by decide)) ?_; refine Jt (by exact to_apI rfl rfl rfl rfl rfl rfl ts_s_int tz_int (by omega) (by decide) hap hap2) ?_; refine Ja ?_) | (refine Tx 9 ?_; refine Jo xAd ?_; refine Jm ?_))
      refine ⟨_, _, wk_go _ 2 ?_ ?_ ?_, _, ?_, k + 1, by omega, rfl, rfl, rfl⟩
      · rfl
      · exact mB rfl rfl
      · exact ⟨bel_lit rfl, bel_cI, trivial⟩
      · omega
    case neg =>
      have hap : (inpV ps inn (k)) ++ [clipI 0 p.lo p.hi] = (inpV ps inn (k + 1)) := (inpV_step hp (by rw [List.getElem?_eq_none (by omega)]; rfl)).symm
      have hap2 : (inpV ps inn (k)).length + 1 = (inpV ps inn (k + 1)).length := by rw [← hap]; simp
      have BC := bclip_cv 0 p.lo p.hi
      repeat' (with_reducible first | apply qa | apply qb | apply qc | apply qd | apply qe | apply qf | apply qg | apply qh | apply qi | apply qj | apply qk | apply ql rfl | apply qm rfl | apply qn rfl | apply Je | (refine Tx 3 ?_; refine Jo xLt ?_) | (refine Tx 4 ?_; refine Jm ?_; refine Jo (xIr ts_s_Port (prt_at hp)) ?_; refine Jo (xLa tk_Port) ?_; refine Jn (xAl tz_Port) ?_; refine Ja ?_; refine Js (xSk tk_Port) ?_) | (refine Tx 5 ?_; refine Ja ?_) | (refine Tx 6 ?_; refine Jm ?_; refine Jm ?_; refine Jo (xLn ts_s_int) ?_; refine Jo xLt ?_) | (refine Tx 8 ?_; refine Jm ?_; refine Jm ?_; refine Jo (xFa tf_Port0 tk_int) ?_; refine Jo (xLd tk_int) ?_; refine Jo (xFa tf_Port1 tk_int) ?_; refine Jo (xLd tk_int) ?_; refine Jo (xCl Tryd.func25 (BC.cv)) ?_; refine Jn (by exact ok_build1 rfl ts_s_int tz_int rfl rfl (by decide) (by decide)) ?_; refine Jt (by exact to_apI rfl rfl rfl rfl rfl rfl ts_s_int tz_int (by omega) (by decide) hap hap2) ?_; refine Ja ?_) | (refine Tx 9 ?_; refine Jo xAd ?_; refine Jm ?_))
      refine ⟨_, _, wk_go _ 2 ?_ ?_ ?_, _, ?_, k + 1, by omega, rfl, rfl, rfl⟩
      · rfl
      · exact mB rfl rfl
      · exact ⟨bel_lit rfl, bel_cI, trivial⟩
      · omega
  obtain rfl : k = ps.length := by omega
  clear hlt hk
  repeat' (with_reducible first | apply qa | apply qb | apply qc | apply qd | apply qe | apply qf | apply qg | apply qh | apply qi | apply qj | apply qk | apply ql rfl | apply qm rfl | apply qn rfl | apply Je | (refine Tx 3 ?_; refine Jo xLt ?_) | (refine Tx 10 ?_; refine Jm ?_; refine Ja ?_))
  exact ret_q rfl (.cons_ (.tmp (.one (cexp_oI2 rfl rfl rfl rfl))) .nil_)
def fitV (n : Int) : Int := max (-2147483648) (min n 2147483647)
def fitB (n : Int) : Bool := decide (-2147483648 ≤ n ∧ n < 2147483648)
end Go.Proofs.YtmdfjbpggbhgnaaDoor
namespace Go.Proofs.YtmdfjbpggbhgnaaDoor
open Go.RowKit
end Go.Proofs.YtmdfjbpggbhgnaaDoor
namespace Go.Proofs.YtmdfjbpggbhgnaaDoor
open Go.RowKit
def wds (x : Int) : List D := (w32 (canon x.natAbs)).map D.val
def dDy (t : Bool) (x : Int) (d : Nat) : List D := [.val (.bool (decide (x < 0))), .row t 1 (canon x.natAbs).length (wds x), .val (.int .i64 (d : Int))]
def aDy (t : Bool) (x : Int) (d : Nat) : A := .agg (dDy t x d)
def Nf (x : Int) (d : Nat) : Prop := d ≤ 65536 ∧ (d ≠ 0 → x % 2 = 1)
theorem dy_in {w : World} {S : Sets} {t : Bool} {x : Int} {d : Nat} {v : Value} (h : ARel w S (aDy t x d) v) (hS : ∀ t b, S t b → b < w.heap.size) (hn : Nf x d) : DyR w 0 w.heap.size v x d := by
  obtain ⟨xs, rfl, h1⟩ := h
  obtain ⟨a, l1, rfl, ha, h2⟩ := h1.uncons
  obtain ⟨b, l2, rfl, hb, h3⟩ := h2.uncons
  obtain ⟨c, l3, rfl, hc, h4⟩ := h3.uncons
  rw [h4.unnil]
  cases ha
  cases hc
  cases hb with
  | @row _ _ _ c cs A xs hc hA hl hx hm hr =>
    have hw : xs = w32 (canon x.natAbs) := vals_rel (vs := w32 (canon x.natAbs)) ⟨hx, hr⟩
    subst hw
    refine ⟨A, c, rfl, hA, hc, fun hne => ?_, fun a _ => Nat.zero_le _, hn.1, hn.2⟩
    obtain ⟨b, off, rfl, hb, hcell⟩ := hm (fun h => hne (List.map_eq_nil_iff.1 h))
    exact ⟨b, off, rfl, hS _ _ hb, hS _ _ hb, hcell⟩
theorem w32_one {l : List Nat} {v : Value} (h : v ∈ w32 l) : v.oneCell' = true := by
  simp only [w32, List.mem_map] at h
  obtain ⟨n, _, rfl⟩ := h
  rfl
theorem dy_out {w w' : World} {v : Value} {x : Int} {d : Nat} (h : DyR w' w.heap.size w'.heap.size v x d) : ARel w' (Fresh w w') (aDy false x d) v := by
  obtain ⟨A, c, rfl, h1, h2, h3, h4, h5, h6⟩ := h
  refine ⟨[.bool (decide (x < 0)), .slice A (canon x.natAbs).length c, .int .i64 (d : Int)], rfl, .cons_ (.val rfl) (.cons_ (.row (w32 (canon x.natAbs)) h2 h1 ?_ ?_ ?_ ?_) (.cons_ (.val rfl) .nil_))⟩
  · rw [wds, List.length_map, w32_len, Nat.mul_one]
  · rw [wds, List.length_map]
  · intro hne
    obtain ⟨b, off, rfl, h7, h8, h9⟩ := h3 (fun h => hne (by rw [wds, h]; rfl))
    exact ⟨b, off, rfl, ⟨rfl, h4 _ rfl, h8⟩, h9⟩
  · intro j u y hu hy
    rw [wds, List.getElem?_map, hy] at hu
    cases hu
    exact .val (w32_one (List.mem_of_getElem? hy))
theorem Nf.nf {m : Int} {p : Nat} (h : p ≤ 65536) : Nf (nf m p).1 (nf m p).2 := ⟨Nat.le_trans (nf_le m p) h, nf_odd m p⟩
theorem sgI_eq {a b : Int} {p q : Nat} (h : a * 2 ^ p = b * 2 ^ q) : sgI a = sgI b := by rw [← sgI_mul a p, h, sgI_mul b q]
theorem cmp_sgn {a b A B : Int} {da db q : Nat} (ha : a * 2 ^ q = A * 2 ^ da) (hb : b * 2 ^ q = B * 2 ^ db) : dyCmp a da b db = sgI (A - B) := by
  unfold dyCmp dySum
  rw [sgI_eq (nf_eq _ _)]
  refine sgI_eq (p := q) (q := max da db) ?_
  have e1 : a * 2 ^ (max da db - da) * 2 ^ q = A * 2 ^ max da db := by
    rw [Int.mul_right_comm, ha, Int.mul_assoc, ← Int.pow_add]; congr 2; omega
  have e2 : b * 2 ^ (max da db - db) * 2 ^ q = B * 2 ^ max da db := by
    rw [Int.mul_right_comm, hb, Int.mul_assoc, ← Int.pow_add]; congr 2; omega
  rw [Int.add_mul, Int.neg_mul, Int.neg_mul, e1, e2, Int.sub_mul]
  omega
def dW (n : Nat) : D := .val (.int .u32 (n : Int))
def rowW (t : Bool) (ws : List Nat) : D := .row t 1 ws.length (ws.map dW)
def cW (ws : List Nat) : List C := ws.map fun n => .d (dW n)
theorem w32_D (ws : List Nat) : (w32 ws).map D.val = ws.map dW := by simp [w32, dW]
theorem cW_zero (n : Nat) : valsC (madeCells (Value.int .u32 0).cells (n * 1)).toList = cW (List.replicate n 0) := by
  rw [Nat.mul_one, show (Value.int .u32 0).cells = #[Value.int .u32 0] from rfl, toList_madeCells_one]
  simp [valsC, cW, dW]
theorem bel_cW {n : Nat} {l : List Nat} : ∀ c ∈ cW l, C.bel n c := fun c hc => by obtain ⟨z, _, rfl⟩ := List.mem_map.1 hc; trivial
theorem word_at {ws : List Nat} {k x : Nat} (h : ws[k]? = some x) : ((ws.map dW).drop (k * 1)).take 1 = [dW x] := map_at h
section
variable {P : Program} {G : World → Prop} {o : Oper} {F : Frm} {H : List Ob}
theorem ok_makeW {t e : TypeId} {x y : Operand} {by_ n : Nat} {k k' : IntKind} {z : Int} (ho : o.op = .makeSlice t x y) (hx : F.ev x = .one (.d (.val (.int k z)))) (hy : F.ev y = .one (.d (.val (.int k' z)))) (hz' : z = (n : Int)) (ht : TyS P t e 1) (hz : TyZ P e (.int .u32 0) 1 by_) (hn : n ≤ 1000000) (hby : by_ ≤ 1000) :
    OpOk P G o F H (.one (.own H.length n)) [.row e 1 n (cW (List.replicate n 0))] := by
  subst hz'
  have := ok_makeSlice (P := P) (G := G) (H := H) ho hx hy ht hz hn hby
  rwa [cW_zero] at this
theorem ok_ldW {t ty : TypeId} {x : Operand} {id s n i k : Nat} {xs : List Nat} {z : Nat} (ho : o.op = .load t x) (hx : F.ev x = .one (.ref id (i * 1) (some n))) (hH : H[id]? = some (.row ty s n (cW xs))) (hz : xs[i]? = some z) (hk : TyK P t false k) : OpOk P G o F H (.one (.d (.val (.int .u32 (z : Int))))) [] :=
  ok_load1 ho hx (.row hH) (by simp [cW, hz, dW]) hk
theorem to_stW {t ty : TypeId} {x y : Operand} {id s n i : Nat} {xs : List Nat} {z : Int} {u : Nat} {b : Bool} (ho : o.op = .store t x y) (hx : F.ev x = .one (.ref id (i * 1) (some n))) (hH : H[id]? = some (.row ty s n (cW xs))) (hy : F.ev y = .one (.d (.val (.int .u32 z)))) (hz : z = (u : Int)) (hty : TyK P t b 1) (hi : i < xs.length) {ys : List Nat} (hys : xs.set i u = ys) : TOk P G o F H .any (H.set id (.row ty s n (cW ys))) := by
  subst hz
  have := to_store1 (P := P) (G := G) ho hx hH rfl hy hty (by simp [Ob.cs, cW, hi])
  have e : (cW xs).set (i * 1) (.d (.val (.int .u32 (u : Int)))) = cW ys := by rw [← hys, Nat.mul_one]; simp [cW, List.map_set, dW]
  simp only [Ob.cs, Ob.setC, e] at this
  exact this
theorem ok_convR {s t : TypeId} {x : Operand} {k k' : IntKind} {p r : Int} (ho : o.op = .convert s t x) (hs : P.underlying s = some (.int k)) (ht : P.underlying t = some (.int k')) (hx : F.ev x = .one (.d (.val (.int k p)))) (hr : k'.wrap p = r) : OpOk P G o F H (.one (.d (.val (.int k' r)))) [] := hr ▸ ok_conv ho hs ht hx
theorem ok_mulR {t t' : TypeId} {x y : Operand} {k : IntKind} {p q r : Int} (ho : o.op = .binOp .mul t x y t') (hx : F.ev x = .one (.d (.val (.int k p)))) (hy : F.ev y = .one (.d (.val (.int k q)))) (hr : k.wrap (p * q) = r) : OpOk P G o F H (.one (.d (.val (.int k r)))) [] := hr ▸ ok_mul ho hx hy
theorem ok_addR {t t' : TypeId} {x y : Operand} {k : IntKind} {p q r : Int} (ho : o.op = .binOp .add t x y t') (hx : F.ev x = .one (.d (.val (.int k p)))) (hy : F.ev y = .one (.d (.val (.int k q)))) (hr : k.wrap (p + q) = r) : OpOk P G o F H (.one (.d (.val (.int k r)))) [] := hr ▸ ok_add ho hx hy
theorem ok_shr32 {t t' : TypeId} {x : Operand} {k' : IntKind} {p : Nat} {r : Int} (ho : o.op = .binOp .shr t x (.const (.int k' 32)) t') (hx : F.ev x = .one (.d (.val (.int .u64 (p : Int))))) (hr : ((p / 4294967296 : Nat) : Int) = r) : OpOk P G o F H (.one (.d (.val (.int .u64 r)))) [] := by
  subst hr
  refine ok_bin (y := .const (.int k' 32)) (u' := .int k' 32) ho hx rfl (fun w => ?_) rfl
  have e : (p : Int).fdiv 4294967296 = ((p / 4294967296 : Nat) : Int) := by rw [Int.fdiv_eq_ediv_of_nonneg _ (by decide)]; rfl
  simp [eqGuard, binOp, Op.shift, IntKind.bits, e]
theorem ok_neqB {t t' : TypeId} {x y : Operand} {p q : Bool} (ho : o.op = .binOp .neq t x y t') (ht : P.underlying t = some .bool) (hx : F.ev x = .one (.d (.val (.bool p)))) (hy : F.ev y = .one (.d (.val (.bool q)))) : OpOk P G o F H (.one (.d (.val (.bool (p != q))))) [] := by
  refine ok_bin ho hx hy (fun w => ?_) rfl
  have h1 : (Op.equal t (.bool p) (.bool q)).run P w = .ok (p == q) w := by
    have key : ∀ d : Nat, (Op.equalIn (d + 1) t (.bool p) (.bool q)).run P w = .ok (p == q) w := fun d => by simp [Op.equalIn, run_underlying ht]
    exact key 9999
  simp [eqGuard, binOp, h1, bne]
end
theorem u64_in {z : Int} (h0 : 0 ≤ z) (h1 : z < 18446744073709551616) : IntKind.wrap .u64 z = z := by rw [IntKind.wrap_u64]; omega
theorem u32_cut (n : Nat) : IntKind.wrap .u32 (n : Int) = ((n % 4294967296 : Nat) : Int) := by rw [IntKind.wrap_u32]; omega
theorem wval_set {o : List Nat} : ∀ {j u v : Nat}, o[j]? = some v → wval (o.set j u) + v * 4294967296 ^ j = wval o + u * 4294967296 ^ j := by
  induction o with
  | nil => intro j u v h; simp at h
  | cons y o ih =>
    intro j u v h
    cases j with
    | zero =>
      simp only [List.getElem?_cons_zero, Option.some.injEq] at h
      subst h
      simp only [List.set_cons_zero, wval]
      omega
    | succ j =>
      simp only [List.getElem?_cons_succ] at h
      have := ih (u := u) h
      simp only [List.set_cons_succ, wval, Nat.pow_succ]
      rw [← Nat.mul_assoc, ← Nat.mul_assoc]
      omega
theorem words_set {o : List Nat} {j u : Nat} (h : wordsOk o) (hu : u < 4294967296) : wordsOk (o.set j u) := fun x hx => by
  rcases List.mem_or_eq_of_mem_set hx with hx | rfl
  · exact h x hx
  · exact hu
structure MulIn (b o0 : List Nat) (i x k : Nat) (o : List Nat) (c : Nat) : Prop where
  len : o.length = o0.length
  ok : wordsOk o
  car : c < 4294967296
  val : wval o + c * 4294967296 ^ (i + k) = wval o0 + x * wval (b.take k) * 4294967296 ^ i
  zero : ∀ j, i + b.length ≤ j → j < o0.length → o[j]? = some 0
theorem MulIn.fit {b o0 : List Nat} {i x k : Nat} {o : List Nat} {c y u : Nat} (h : MulIn b o0 i x k o c) (hx : x < 4294967296) (hy : y < 4294967296) (hu : o[i + k]? = some u) : x * y + u < 18446744073709551616 ∧ c + (x * y + u) < 18446744073709551616 := by
  have h1 : x * y ≤ 4294967295 * 4294967295 := Nat.mul_le_mul (by omega) (by omega)
  have h2 := h.ok u (List.mem_of_getElem? hu)
  have h3 := h.car
  omega
theorem MulIn.step {b o0 : List Nat} {i x k : Nat} {o : List Nat} {c y u : Nat} (h : MulIn b o0 i x k o c) (hx : x < 4294967296) (hb : wordsOk b) (hy : b[k]? = some y) (hu : o[i + k]? = some u) : MulIn b o0 i x (k + 1) (o.set (i + k) ((c + (x * y + u)) % 4294967296)) ((c + (x * y + u)) / 4294967296) := by
  obtain ⟨f1, f2⟩ := h.fit hx (hb y (List.mem_of_getElem? hy)) hu
  have hkb := (List.getElem?_eq_some_iff.1 hy).1
  refine ⟨by rw [List.length_set]; exact h.len, words_set h.ok (by omega), by omega, ?_, fun j h1 h2 => by rw [List.getElem?_set, if_neg (by omega)]; exact h.zero j h1 h2⟩
  have hs := wval_set (u := (c + (x * y + u)) % 4294967296) hu
  have hv := h.val
  have ht := wval_take_succ b k
  rw [hy, Option.getD_some] at ht
  have hdm := Nat.div_add_mod (c + (x * y + u)) 4294967296
  rw [ht, Nat.mul_add, Nat.add_mul, show i + (k + 1) = (i + k) + 1 by omega, Nat.pow_succ]
  generalize hP : 4294967296 ^ (i + k) = p at hs hv ⊢
  have e1 : x * (4294967296 ^ k * y) * 4294967296 ^ i = x * y * p := by
    rw [← hP, Nat.pow_add]
    simp only [Nat.mul_assoc, Nat.mul_comm, Nat.mul_left_comm]
  rw [e1]
  generalize (c + (x * y + u)) / 4294967296 = q at hdm ⊢
  generalize (c + (x * y + u)) % 4294967296 = r at hs hdm ⊢
  have e2 : q * (p * 4294967296) + r * p = (c + (x * y + u)) * p := by
    rw [← hdm, Nat.add_mul, Nat.mul_comm p 4294967296, ← Nat.mul_assoc, Nat.mul_comm q 4294967296]
  rw [Nat.add_mul, Nat.add_mul] at e2
  omega
structure MulOut (a b : List Nat) (i : Nat) (o : List Nat) : Prop where
  len : o.length = a.length + b.length
  ok : wordsOk o
  val : wval o = wval (a.take i) * wval b
  zero : ∀ j, i + b.length ≤ j → j < a.length + b.length → o[j]? = some 0
theorem MulOut.start (a b : List Nat) : MulOut a b 0 (List.replicate (a.length + b.length) 0) := by
  refine ⟨by simp, fun x hx => by rw [(List.mem_replicate.1 hx).2]; decide, by rw [wval_zeros]; simp [wval], fun j _ h2 => by simp [h2]⟩
theorem MulOut.enter {a b : List Nat} {i x : Nat} {o : List Nat} (h : MulOut a b i o) : MulIn b o i x 0 o 0 :=
  ⟨rfl, h.ok, by decide, by simp [wval], fun j h1 h2 => h.zero j h1 (by rw [← h.len]; exact h2)⟩
theorem MulOut.leave {a b : List Nat} {i x : Nat} {o0 o : List Nat} {c : Nat} (h : MulOut a b i o0) (hx : a[i]? = some x) (h2 : MulIn b o0 i x b.length o c) : MulOut a b (i + 1) (o.set (i + b.length) c) := by
  have hi := (List.getElem?_eq_some_iff.1 hx).1
  have hz := h2.zero (i + b.length) (Nat.le_refl _) (by rw [h.len]; omega)
  have hs := wval_set (u := c) hz
  refine ⟨by rw [List.length_set, h2.len]; exact h.len, words_set h2.ok h2.car, ?_, fun j h3 h4 => by rw [List.getElem?_set, if_neg (by omega)]; exact h2.zero j (by omega) (by rw [h.len]; exact h4)⟩
  have hv := h2.val
  rw [List.take_length] at hv
  have ht := wval_take_succ a i
  rw [hx, Option.getD_some] at ht
  rw [ht, Nat.add_mul, ← h.val]
  have e : x * wval b * 4294967296 ^ i = 4294967296 ^ i * x * wval b := by simp only [Nat.mul_assoc, Nat.mul_comm, Nat.mul_left_comm]
  omega
theorem sg_prod (x y : Int) : sg (decide (x < 0) != decide (y < 0)) (x.natAbs * y.natAbs) = x * y := by
  unfold sg
  have hx : x = if x < 0 then -(x.natAbs : Int) else x.natAbs := by split <;> omega
  have hy : y = if y < 0 then -(y.natAbs : Int) else y.natAbs := by split <;> omega
  by_cases h1 : x < 0 <;> by_cases h2 : y < 0
  all_goals
    simp only [h1, h2, decide_true, decide_false, bne_self_eq_false, Bool.false_eq_true, if_true, if_false, Bool.true_bne, Bool.false_bne, Bool.not_false] at hx hy ⊢
    conv => rhs; rw [hx, hy]
    simp [Int.neg_mul, Int.mul_neg]
def dyMul (x : Int) (dx : Nat) (y : Int) (dy : Nat) : Int × Nat := nf (x * y) (dx + dy)
theorem free_w (x : Int) : DFree (.row false 1 (canon x.natAbs).length (wds x)) := .row fun d hd => by obtain ⟨v, _, rfl⟩ := List.mem_map.1 hd; exact .val _
theorem rvW {P : Program} {F : Frm} {H : List Ob} {t : Tmp} {ty ty' id k : Nat} {x : Int} {d : Nat} (hk : TyK P ty true k) (hi : 3 = k) (hF : F t = .one (.ref id 0 none) := by with_unfolding_all exact rfl) (hH : H[id]? = some (.box ty' ((dDy false x d).map C.d)) := by with_unfolding_all exact rfl) : RV P F H (.cell t ty) (aDy false x d) :=
  rv_box hF hH hk hi rfl (.cons_ (cexp_d rfl fun _ => .val _) (.cons_ (cexp_d rfl fun _ => free_w x) (.cons_ (cexp_d rfl fun _ => .val _) .nil_)))
def Rp (p : Int × Nat) (X : Int) : Prop := p.1 * 2 ^ 200 = X * 2 ^ p.2
structure Sm (p : Int × Nat) (n d : Nat) : Prop where
  ok : Nf p.1 p.2
  n : p.1.natAbs < 2 ^ n
  d : p.2 ≤ d
theorem pow_words {n : Nat} (k : Nat) (h : n ≤ 32 * k) : 2 ^ n ≤ 4294967296 ^ k := by
  rw [show (4294967296 : Nat) = 2 ^ 32 from rfl, ← Nat.pow_mul]
  exact Nat.pow_le_pow_right (by decide) h
theorem Sm.len {p : Int × Nat} {n d : Nat} (h : Sm p n d) (hn : n ≤ 1600) : (canon p.1.natAbs).length ≤ 50 := canon_len_le (Nat.lt_of_lt_of_le h.n (pow_words 50 (by omega)))
theorem Sm.lenN {p : Int × Nat} {n d : Nat} (h : Sm p n d) (k : Nat) (hn : n ≤ 32 * k) : (canon p.1.natAbs).length ≤ k := canon_len_le (Nat.lt_of_lt_of_le h.n (pow_words k hn))
theorem Sm.l4 {p : Int × Nat} {n d : Nat} (h : Sm p n d) (hn : n ≤ 32 * 625 := by decide) : (canon p.1.natAbs).length ≤ 40000 := Nat.le_trans (h.lenN 625 hn) (by decide)
theorem Sm.more {p : Int × Nat} {n d n' d' : Nat} (h : Sm p n d) (h1 : n ≤ n') (h2 : d ≤ d') : Sm p n' d' := ⟨h.ok, Nat.lt_of_lt_of_le h.n (Nat.pow_le_pow_right (by decide) h1), Nat.le_trans h.d h2⟩
theorem Sm.mk_nf {m : Int} {p n d : Nat} (hd : p ≤ d) (h : p ≤ 65536) (hm : m.natAbs < 2 ^ n) : Sm (nf m p) n d := ⟨Nf.nf h, Nat.lt_of_le_of_lt (nf_abs_le m p) hm, Nat.le_trans (nf_le m p) hd⟩
theorem Sm.shift {x k : Int} {n : Nat} (h1 : -200 ≤ k) (h2 : k ≤ 200) (hx : x.natAbs < 2 ^ n) : Sm (dyShift x 0 k) (n + 200) 200 := by
  unfold dyShift
  rw [show max (-65536) (min k 65536) = k by omega]
  split
  · exact (Sm.mk_nf (by omega) (by omega) hx).more (by omega) (Nat.le_refl _)
  · refine Sm.mk_nf (by omega) (by omega) ?_
    rw [Int.natAbs_mul, Int.natAbs_pow, Nat.pow_add]
    exact Nat.lt_of_le_of_lt (Nat.mul_le_mul_left _ (Nat.pow_le_pow_right (by decide) (show k.toNat ≤ 200 by omega))) (Nat.mul_lt_mul_of_pos_right hx (Nat.pow_pos (by decide)))
section
variable {p q : Int × Nat} {X Y Z : Int} {n m d : Nat}
theorem Sm.neg (h : Sm p n d) : Sm (-p.1, p.2) n d := ⟨⟨h.ok.1, fun h0 => by have := h.ok.2 h0; show (-p.1) % 2 = 1; omega⟩, by show (-p.1).natAbs < _; rw [Int.natAbs_neg]; exact h.n, h.d⟩
theorem Sm.abs (h : Sm p n d) : Sm (((p.1.natAbs : Nat) : Int), p.2) n d := ⟨⟨h.ok.1, fun h0 => by have := h.ok.2 h0; show ((p.1.natAbs : Nat) : Int) % 2 = 1; omega⟩, h.n, h.d⟩
theorem Sm.sum (h : Sm p n d) (h2 : Sm q n d) (hd : d ≤ 65536) : Sm (dySum p.1 p.2 q.1 q.2) (n + d + 1) d := by
  have e : ∀ r : Int × Nat, Sm r n d → (r.1 * 2 ^ (Max.max p.2 q.2 - r.2)).natAbs < 2 ^ (n + d) := fun r hr => by
    rw [Int.natAbs_mul, Int.natAbs_pow, Nat.pow_add]
    have hpd := h.d
    have hqd := h2.d
    exact Nat.lt_of_le_of_lt (Nat.mul_le_mul_left _ (Nat.pow_le_pow_right (by decide) (show Max.max p.2 q.2 - r.2 ≤ d by omega))) (Nat.mul_lt_mul_of_pos_right hr.n (Nat.pow_pos (by decide)))
  have hpd := h.d
  have hqd := h2.d
  refine Sm.mk_nf (by omega) (by omega) ?_
  have h3 := e p h
  have h4 := e q h2
  have h5 := Int.natAbs_add_le (p.1 * 2 ^ (Max.max p.2 q.2 - p.2)) (q.1 * 2 ^ (Max.max p.2 q.2 - q.2))
  rw [Nat.pow_succ]
  omega
theorem Sm.mul (h : Sm p n d) (h2 : Sm q n d) (hd : d ≤ 30000) : Sm (dyMul p.1 p.2 q.1 q.2) (n + n) (d + d) := by
  have hpd := h.d
  have hqd := h2.d
  refine Sm.mk_nf (by omega) (by omega) ?_
  rw [Int.natAbs_mul, Nat.pow_add]
  exact Nat.mul_lt_mul'' h.n h2.n
theorem Sm.min (h : Sm p n d) (h2 : Sm q n d) : Sm (dyMin p.1 p.2 q.1 q.2) n d := by
  unfold dyMin
  split
  · exact h2
  · exact h
theorem Sm.max (h : Sm p n d) (h2 : Sm q n d) : Sm (dyMax p.1 p.2 q.1 q.2) n d := by
  unfold dyMax
  split
  · exact h2
  · exact h
end
def dyP (p : Int × Nat) : List D := dDy false p.1 p.2
theorem dy_at {l : List (Int × Nat)} {k : Nat} {p : Int × Nat} (h : l[k]? = some p) : ((flatD dyP l).drop (k * 3)).take 3 = dyP p := flatD_at (f := dyP) (s := 3) (fun _ => rfl) h
def blkD (y : Bk) (l : List (Int × Nat)) : Int × Nat :=
  if y.kind = 1 then dyShift y.vn 0 y.ve
  else if y.kind = 3 then dySum (l[0]?.getD (0, 0)).1 (l[0]?.getD (0, 0)).2 (l[1]?.getD (0, 0)).1 (l[1]?.getD (0, 0)).2
  else if y.kind = 4 then dySum (l[0]?.getD (0, 0)).1 (l[0]?.getD (0, 0)).2 (-(l[1]?.getD (0, 0)).1) (l[1]?.getD (0, 0)).2
  else if y.kind = 5 then (-(l[0]?.getD (0, 0)).1, (l[0]?.getD (0, 0)).2)
  else if y.kind = 6 then dyMul (dyShift y.vn 0 y.ve).1 (dyShift y.vn 0 y.ve).2 (l[0]?.getD (0, 0)).1 (l[0]?.getD (0, 0)).2
  else if y.kind = 7 then dyMul (l[0]?.getD (0, 0)).1 (l[0]?.getD (0, 0)).2 (l[1]?.getD (0, 0)).1 (l[1]?.getD (0, 0)).2
  else if y.kind = 8 then dyMin (l[0]?.getD (0, 0)).1 (l[0]?.getD (0, 0)).2 (l[1]?.getD (0, 0)).1 (l[1]?.getD (0, 0)).2
  else if y.kind = 9 then dyMax (l[0]?.getD (0, 0)).1 (l[0]?.getD (0, 0)).2 (l[1]?.getD (0, 0)).1 (l[1]?.getD (0, 0)).2
  else if y.kind = 10 then ((((l[0]?.getD (0, 0)).1.natAbs : Nat) : Int), (l[0]?.getD (0, 0)).2)
  else dyMin (dyMax (l[0]?.getD (0, 0)).1 (l[0]?.getD (0, 0)).2 (dyShift y.vn 0 y.ve).1 (dyShift y.vn 0 y.ve).2).1 (dyMax (l[0]?.getD (0, 0)).1 (l[0]?.getD (0, 0)).2 (dyShift y.vn 0 y.ve).1 (dyShift y.vn 0 y.ve).2).2 (dyShift y.un 0 y.ue).1 (dyShift y.un 0 y.ue).2
theorem ord_split {bs : List Bk} : ∀ (f : Nat) (out : List Nat), (∀ l1 j l2, out = l1 ++ j :: l2 → rdy bs l1 j = true) → ∀ l1 j l2, ordN bs f out = l1 ++ j :: l2 → rdy bs l1 j = true
  | 0, out, h, l1, j, l2, e => h l1 j l2 e
  | f + 1, out, h, l1, j, l2, e => by
    unfold ordN at e
    cases hn : nxt bs out with
    | none => rw [hn] at e; exact h l1 j l2 e
    | some i =>
      rw [hn] at e
      refine ord_split f (out ++ [i]) (fun m1 q m2 he => ?_) l1 j l2 e
      rcases List.eq_nil_or_concat m2 with rfl | ⟨m3, q', rfl⟩
      · have h1 := List.append_inj' he rfl
        obtain ⟨rfl, h2⟩ := h1
        cases h2
        exact (nxt_some hn).2
      · have h1 : out ++ [i] = (m1 ++ q :: m3) ++ [q'] := by rw [he]; simp
        exact h m1 q m3 (List.append_inj' h1 rfl).1
theorem ord_done {bs : List Bk} {l1 l2 : List Nat} {j : Nat} (h : ordM bs = l1 ++ j :: l2) {a : Int} (ha : a ∈ preds bs j) : kindAt bs a.toNat = 2 ∨ a.toNat ∈ l1 := by
  have h1 := ord_split bs.length [] (fun m1 q m2 he => by simp at he) l1 j l2 h
  unfold rdy at h1
  rw [Bool.and_eq_true] at h1
  have h2 := List.all_eq_true.1 h1.2 a ha
  unfold doneB at h2
  simpa using h2
theorem ord_all {bs : List Bk} (h : ordErr bs = 0) {j : Nat} (hj : j < bs.length) (hk : kindAt bs j ≠ 2) : j ∈ ordM bs := Classical.byContradiction fun hn => by
  have hlen : (ordM bs).length = nonDel bs := by
    unfold ordErr at h
    exact Classical.byContradiction fun hx => by rw [if_neg hx] at h; cases h
  have ho := ordN_ok bs.length (OutOk.nil bs)
  have := OutOk.le (bs := bs) (out := j :: ordM bs) ⟨List.nodup_cons.2 ⟨hn, ho.nodup⟩, fun i hi => by
    rcases List.mem_cons.1 hi with rfl | hi
    · exact ⟨hj, hk⟩
    · exact ho.mem i hi⟩
  rw [List.length_cons] at this
  omega
end Go.Proofs.YtmdfjbpggbhgnaaDoor
namespace Go.Proofs.YtmdfjbpggbhgnaaDoor
open Go.RowKit Cd
theorem cw_cutK {P : Program} {G : World → Prop} {N : Nat} {x y : Code} {F : Frm} {H : List Ob} {Q : Post} (K : Frm → List Ob → Prop) (h : CW P G N x F H (thenC (wkC N K) Q)) (k : ∀ F' H', K F' H' → CW P G N y F' H' Q) : CW P G N x F H (thenC (fun F' H' => CW P G N y F' H' Q) Q) :=
  cw_mono h fun e F H h3 => by
    cases e with
    | normal =>
      obtain ⟨F3, H3, k4, hK⟩ := h3
      exact cw_wk k4 (k _ _ hK)
    | _ => exact h3
theorem vshort_cv (n : Int) : CVF Tryd.prog TabAt 26 [aI n] [aB (shortB n)] := fun w S vs hg hlt ha => by
  obtain ⟨u, hu, h2⟩ := one_arg ha
  subst hu
  cases h2
  refine (short_any n w).mono fun r w' ⟨he, hw⟩ => ?_
  subst hw
  exact ⟨_, he, DRel.val rfl, Below.refl _ _⟩
theorem vscaled_cv (x : Int) {k : Int} (h1 : -62 ≤ k) (h2 : k ≤ 30) : CVF Tryd.prog TabAt 27 [aI x, aI k] [aI (scl x k)] := fun w S vs hg hlt ha => by
  obtain ⟨v, vs', rfl, q1, ha⟩ := ha.uncons
  obtain ⟨u, hu, q2⟩ := one_arg ha
  subst hu
  cases q1
  cases q2
  refine (scaled_any x k w h1 h2).mono fun r w' ⟨he, hw⟩ => ?_
  subst hw
  exact ⟨_, he, DRel.val rfl, Below.refl _ _⟩
def insV (x : Ins) (cs inn : List Int) : Int :=
  if x.op = 0 then scl (inn[x.a.toNat]?.getD 0) x.sa
  else if x.op = 1 then x.imm
  else if x.op = 2 then scl (cs[x.a.toNat]?.getD 0) x.sa
  else if x.op = 3 then scl (cs[x.a.toNat]?.getD 0) x.sa + scl (cs[x.b.toNat]?.getD 0) x.sb
  else if x.op = 4 then scl (cs[x.a.toNat]?.getD 0) x.sa - scl (cs[x.b.toNat]?.getD 0) x.sb
  else if x.op = 5 then -scl (cs[x.a.toNat]?.getD 0) x.sa
  else if x.op = 6 then scl (cs[x.a.toNat]?.getD 0 * x.imm) x.sa
  else if x.op = 7 then scl (cs[x.a.toNat]?.getD 0 * cs[x.b.toNat]?.getD 0) x.sa
  else if x.op = 8 then min (scl (cs[x.a.toNat]?.getD 0) x.sa) (scl (cs[x.b.toNat]?.getD 0) x.sb)
  else if x.op = 9 then max (scl (cs[x.a.toNat]?.getD 0) x.sa) (scl (cs[x.b.toNat]?.getD 0) x.sb)
  else max (scl (cs[x.a.toNat]?.getD 0) x.sa) (-scl (cs[x.a.toNat]?.getD 0) x.sa)
section
variable {x : Ins} {cs inn : List Int} {w y : Int}
theorem iv_in (h : x.op = 0) (hw : inn[x.a.toNat]? = some w) : insV x cs inn = scl w x.sa := by simp [insV, h, hw]
theorem iv_const (h : x.op = 1) : insV x cs inn = x.imm := by simp [insV, h]
theorem iv_move (h : x.op = 2) (hw : cs[x.a.toNat]? = some w) : insV x cs inn = scl w x.sa := by simp [insV, h, hw]
theorem iv_add (h : x.op = 3) (hw : cs[x.a.toNat]? = some w) (hy : cs[x.b.toNat]? = some y) : insV x cs inn = scl w x.sa + scl y x.sb := by simp [insV, h, hw, hy]
theorem iv_sub (h : x.op = 4) (hw : cs[x.a.toNat]? = some w) (hy : cs[x.b.toNat]? = some y) : insV x cs inn = scl w x.sa - scl y x.sb := by simp [insV, h, hw, hy]
theorem iv_neg (h : x.op = 5) (hw : cs[x.a.toNat]? = some w) : insV x cs inn = -scl w x.sa := by simp [insV, h, hw]
theorem iv_gain (h : x.op = 6) (hw : cs[x.a.toNat]? = some w) : insV x cs inn = scl (w * x.imm) x.sa := by simp [insV, h, hw]
theorem iv_mul (h : x.op = 7) (hw : cs[x.a.toNat]? = some w) (hy : cs[x.b.toNat]? = some y) : insV x cs inn = scl (w * y) x.sa := by simp [insV, h, hw, hy]
theorem iv_min (h : x.op = 8) (hw : cs[x.a.toNat]? = some w) (hy : cs[x.b.toNat]? = some y) : insV x cs inn = min (scl w x.sa) (scl y x.sb) := by simp [insV, h, hw, hy]
theorem iv_max (h : x.op = 9) (hw : cs[x.a.toNat]? = some w) (hy : cs[x.b.toNat]? = some y) : insV x cs inn = max (scl w x.sa) (scl y x.sb) := by simp [insV, h, hw, hy]
theorem iv_abs (h : x.op = 10) (hw : cs[x.a.toNat]? = some w) : insV x cs inn = max (scl w x.sa) (-scl w x.sa) := by simp [insV, h, hw]
end
def cutV (n : Int) : Int := max (-2147483648) (min n 2147483647)
theorem cutV_in {n : Int} (h : shortB n = true) : cutV n = n := by have := shortB_t h; unfold cutV; omega
theorem cutV_short (n : Int) : shortB (cutV n) = true := by unfold shortB cutV; rw [decide_eq_true_eq]; omega
def stepV (inn : List Int) (st : List Int × Bool) (x : Ins) : List Int × Bool := (st.1.set x.dst.toNat (cutV (insV x st.1 inn)), st.2 || !shortB (insV x st.1 inn))
def runV (inn : List Int) (xs : List Ins) (cs : List Int) : List Int × Bool := xs.foldl (stepV inn) (cs, false)
theorem runV_snoc (inn : List Int) (xs : List Ins) (x : Ins) (cs : List Int) : runV inn (xs ++ [x]) cs = stepV inn (runV inn xs cs) x := by simp [runV, List.foldl_append]
theorem runV_step {inn : List Int} {xs : List Ins} {cs : List Int} {k : Nat} {x : Ins} (h : xs[k]? = some x) : runV inn (xs.take (k + 1)) cs = ((runV inn (xs.take k) cs).1.set x.dst.toNat (cutV (insV x (runV inn (xs.take k) cs).1 inn)), (runV inn (xs.take k) cs).2 || !shortB (insV x (runV inn (xs.take k) cs).1 inn)) := by
  rw [List.take_add_one, h]
  exact runV_snoc _ _ _ _
theorem runV_len (inn : List Int) (xs : List Ins) (cs : List Int) : (runV inn xs cs).1.length = cs.length := by
  unfold runV
  suffices h : ∀ (l : List Ins) (st : List Int × Bool), (l.foldl (stepV inn) st).1.length = st.1.length from h xs (cs, false)
  intro l
  induction l with
  | nil => exact fun _ => rfl
  | cons x l ih =>
    intro st
    rw [List.foldl_cons, ih]
    simp [stepV]
theorem runV_short {inn : List Int} {xs : List Ins} {cs : List Int} (h : ∀ z ∈ cs, shortB z = true) : ∀ z ∈ (runV inn xs cs).1, -2147483648 ≤ z ∧ z < 2147483648 := by
  suffices hh : ∀ (l : List Ins) (st : List Int × Bool), (∀ z ∈ st.1, shortB z = true) → ∀ z ∈ (l.foldl (stepV inn) st).1, shortB z = true from fun z hz => shortB_t (hh xs (cs, false) h z hz)
  intro l
  induction l with
  | nil => exact fun _ h => h
  | cons x l ih =>
    intro st hst
    refine ih _ fun z hz => ?_
    rcases List.mem_or_eq_of_mem_set hz with hz | rfl
    · exact hst z hz
    · exact cutV_short _
def outsV (C os : List Int) : List Int := os.map fun o => C[o.toNat]?.getD 0
theorem outsV_step {C os : List Int} {k : Nat} {o w : Int} (h : os[k]? = some o) (hw : C[o.toNat]? = some w) : outsV C (os.take (k + 1)) = outsV C (os.take k) ++ [w] := by
  rw [List.take_add_one, h]
  simp [outsV, hw]
theorem outsV_len (C os : List Int) (k : Nat) : (outsV C (os.take k)).length ≤ k := by simp [outsV]; omega
theorem mul_fit {x y : Int} (x0 : -2147483648 ≤ x) (x1 : x < 2147483648) (y0 : -2147483648 ≤ y) (y1 : y < 2147483648) : -9223372036854775808 ≤ x * y ∧ x * y ≤ 9223372036854775807 := by
  have h : (x * y).natAbs ≤ 2147483648 * 2147483648 := by
    rw [Int.natAbs_mul]
    exact Nat.mul_le_mul (by omega) (by omega)
  omega
theorem scl_fit {x k : Int} (x0 : -2147483648 ≤ x) (x1 : x < 2147483648) (h1 : -62 ≤ k) (h2 : k ≤ 30) : -2305843009213693952 ≤ scl x k ∧ scl x k ≤ 2305843009213693952 := by
  unfold scl
  split
  · have := abs_div_le (x := x) (-k).toNat
    omega
  · rw [show max (-4294967296) (min x 4294967296) = x by omega]
    have h : (x * 2 ^ k.toNat).natAbs ≤ 2147483648 * 2 ^ 30 := by
      rw [Int.natAbs_mul, Int.natAbs_pow]
      exact Nat.mul_le_mul (by omega) (Nat.pow_le_pow_right (by decide) (by omega))
    omega
theorem prog_len {ps : List Prt} {is : List Int} {xs : List Ins} {os : List Int} (h : progErr ps is xs os = 0) : ps.length ≤ 16 ∧ is.length ≤ 192 ∧ xs.length ≤ 256 ∧ os.length ≤ 16 := Classical.byContradiction fun hn => by
  unfold progErr at h
  rw [if_pos hn] at h
  cases h
theorem prog_zero {ps : List Prt} {is : List Int} {xs : List Ins} {os : List Int} (h : progErr ps is xs os = 0) : ∀ e ∈ ps.map portErr ++ (is.map initErr ++ (xs.map (Ins.err ps.length is.length) ++ os.map (outErr is.length))), e = 0 := by
  have hl := prog_len h
  unfold progErr at h
  rw [if_neg (not_not_intro hl)] at h
  exact firstErr_zero h
theorem out_facts {ps : List Prt} {is : List Int} {xs : List Ins} {os : List Int} {k : Nat} {o : Int} (h : progErr ps is xs os = 0) (ho : os[k]? = some o) : 0 ≤ o ∧ o < is.length := by
  have := prog_zero h (outErr is.length o) (by simp only [List.mem_append, List.mem_map]; exact .inr (.inr (.inr ⟨o, List.mem_of_getElem? ho, rfl⟩)))
  unfold outErr at this
  exact Classical.byContradiction fun hn => by rw [if_neg hn] at this; cases this
theorem ins_facts {ps : List Prt} {is : List Int} {xs : List Ins} {os : List Int} {k : Nat} {x : Ins} (h : progErr ps is xs os = 0) (hx : xs[k]? = some x) :
    (x.op = 0 ∨ x.op = 1 ∨ x.op = 2 ∨ x.op = 3 ∨ x.op = 4 ∨ x.op = 5 ∨ x.op = 6 ∨ x.op = 7 ∨ x.op = 8 ∨ x.op = 9 ∨ x.op = 10) ∧ 0 ≤ x.dst ∧ x.dst < is.length ∧
    (x.op ≠ 1 → 0 ≤ x.a ∧ x.a < (if x.op = 0 then (ps.length : Int) else is.length) ∧ -62 ≤ x.sa ∧ x.sa ≤ 30) ∧
    ((x.op = 3 ∨ x.op = 4 ∨ x.op = 7 ∨ x.op = 8 ∨ x.op = 9) → 0 ≤ x.b ∧ x.b < is.length ∧ (x.op ≠ 7 → -62 ≤ x.sb ∧ x.sb ≤ 30)) ∧
    ((x.op = 1 ∨ x.op = 6) → -2147483648 ≤ x.imm ∧ x.imm < 2147483648) := by
  have h0 : insErr ps.length is.length x.op x.dst x.a x.b x.sa x.sb x.imm = 0 := prog_zero h (Ins.err ps.length is.length x) (by simp only [List.mem_append, List.mem_map]; exact .inr (.inr (.inl ⟨x, List.mem_of_getElem? hx, rfl⟩)))
  have hu : (usesR x.op).2.2.2.2.2 = true := by
    cases hb : (usesR x.op).2.2.2.2.2 with
    | true => rfl
    | false => unfold insErr at h0; rw [if_pos hb] at h0; cases h0
  have hop : x.op = 0 ∨ x.op = 1 ∨ x.op = 2 ∨ x.op = 3 ∨ x.op = 4 ∨ x.op = 5 ∨ x.op = 6 ∨ x.op = 7 ∨ x.op = 8 ∨ x.op = 9 ∨ x.op = 10 := by
    unfold usesR at hu
    (repeat' split at hu) <;> first | omega | (simp at hu)
  have sh : ∀ n : Int, ¬ (shiftB n = false) → -62 ≤ n ∧ n ≤ 30 := fun n hn => by
    have : shiftB n = true := by cases hb : shiftB n with | true => rfl | false => exact absurd hb hn
    simpa [shiftB] using this
  have si : ∀ n : Int, ¬ (shortB n = false) → -2147483648 ≤ n ∧ n < 2147483648 := fun n hn => by
    have : shortB n = true := by cases hb : shortB n with | true => rfl | false => exact absurd hb hn
    exact shortB_t this
  unfold insErr at h0
  rw [if_neg (by rw [hu]; decide)] at h0
  by_cases c1 : ¬ (0 ≤ x.dst ∧ x.dst < is.length)
  · rw [if_pos c1] at h0; cases h0
  rw [if_neg c1] at h0
  by_cases c2 : (usesR x.op).1 = true ∧ ¬ (0 ≤ x.a ∧ x.a < (if x.op = 0 then (ps.length : Int) else is.length))
  · rw [if_pos c2] at h0; cases h0
  rw [if_neg c2] at h0
  by_cases c3 : (usesR x.op).2.1 = true ∧ ¬ (0 ≤ x.b ∧ x.b < is.length)
  · rw [if_pos c3] at h0; cases h0
  rw [if_neg c3] at h0
  by_cases c4 : (usesR x.op).2.2.1 = true ∧ shiftB x.sa = false
  · rw [if_pos c4] at h0; cases h0
  rw [if_neg c4] at h0
  by_cases c5 : (usesR x.op).2.2.2.1 = true ∧ shiftB x.sb = false
  · rw [if_pos c5] at h0; cases h0
  rw [if_neg c5] at h0
  by_cases c6 : (usesR x.op).2.2.2.2.1 = true ∧ shortB x.imm = false
  · rw [if_pos c6] at h0; cases h0
  have c1' := Classical.not_not.1 c1
  refine ⟨hop, c1'.1, c1'.2, fun h1 => ?_, fun h1 => ?_, fun h1 => ?_⟩
  · have ua : (usesR x.op).1 = true ∧ (usesR x.op).2.2.1 = true := by rcases hop with h | h | h | h | h | h | h | h | h | h | h <;> first | exact absurd h h1 | (rw [h]; exact ⟨rfl, rfl⟩)
    have ha : 0 ≤ x.a ∧ x.a < (if x.op = 0 then (ps.length : Int) else is.length) := Classical.byContradiction fun hn => c2 ⟨ua.1, hn⟩
    have hs := sh x.sa fun hn => c4 ⟨ua.2, hn⟩
    exact ⟨ha.1, ha.2, hs.1, hs.2⟩
  · have ub : (usesR x.op).2.1 = true := by rcases h1 with h | h | h | h | h <;> (rw [h]; rfl)
    have hb : 0 ≤ x.b ∧ x.b < is.length := Classical.byContradiction fun hn => c3 ⟨ub, hn⟩
    refine ⟨hb.1, hb.2, fun h7 => sh x.sb fun hn => c5 ⟨?_, hn⟩⟩
    rcases h1 with h | h | h | h | h <;> first | exact absurd h h7 | (rw [h]; rfl)
  · have ui : (usesR x.op).2.2.2.2.1 = true := by rcases h1 with h | h <;> (rw [h]; rfl)
    exact si x.imm fun hn => c6 ⟨ui, hn⟩
theorem run_cv (t u v : Bool) {ps : List Prt} {is : List Int} {xs : List Ins} {os cs inn : List Int} (hp : progErr ps is xs os = 0) (hcl : cs.length = is.length) (hs : ∀ z ∈ cs, shortB z = true) (hil : inn.length = ps.length) (hr : ∀ (k : Nat) (p : Prt) (z : Int), ps[k]? = some p → inn[k]? = some z → p.lo ≤ z ∧ z ≤ p.hi) :
    CV Tryd.prog TabAt 12 [aProg t ps is xs os, .one (rowI u cs), .one (rowI v inn)] [.agg [rowI false (runV inn xs cs).1, rowI false (outsV (runV inn xs cs).1 os), .val (.bool (runV inn xs cs).2)], aE 0] := by
  refine cvz Tryd.func12 Tryd.ntmps12 ?_
  obtain ⟨hp1, hi1, hx1, ho1⟩ := prog_len hp
  have CK := pcheck_t t (Nat.le_trans hp1 (by decide)) (Nat.le_trans hi1 (by decide)) (Nat.le_trans hx1 (by decide)) (Nat.le_trans ho1 (by decide)) hp
  repeat' (with_reducible first | apply qa | apply qb | apply qc | apply qd | apply qe | apply qf | apply qg | apply qh | apply qi | apply qj | apply qk | apply ql rfl | apply qm rfl | apply qn rfl | apply Je | (refine Tx 0 ?_; refine Jn xBo ?_; refine Jn (xAl tz_CodeRun) ?_; refine Ja ?_) | (refine Tx 1 ?_; refine Jo (xLa tk_Program) ?_; refine Jo (xCl Tryd.func24 (CK)) ?_; refine Ja ?_) | (refine Tx 2 ?_; refine Jm ?_; refine Jo (xNE ti_error) ?_) | (refine Tx 4 ?_; refine Jm ?_; refine Jo (xLn ts_s_int) ?_; refine Jo (xFa tf_Program1 tk_s_int) ?_; refine Jo (xLd tk_s_int) ?_; refine Jo (xLn ts_s_int) ?_; refine Jo xNe ?_) | (refine Tx 6 ?_; refine Jm ?_; refine Jo (xLn ts_s_int) ?_; refine Jm ?_))
  refine cw_wk (F' := ofL [(1, vd (rowI u cs)), (2, vd (rowI v inn)), (3, vr 0), (6, vr 1), (33, vd (rowI u cs)), (34, vi cs.length), (35, vi ((0 : Nat)))]) (H' := [.box 42 [.d (rowP t ps), .d (rowI t is), .d (rowN t xs), .d (rowI t os)], .box 52 [.d (.val (.slice none 0 0)), .d (.val (.slice none 0 0)), .d (.val (.bool false))]]) (wk_go _ 2 ?_ ?_ ?_) ?_
  · rfl
  · exact mB rfl rfl
  · exact ⟨bel_lit rfl, bel_lit rfl, trivial⟩
  refine cw_loopW (fun n Fr H => ∃ k : Nat, k ≤ cs.length ∧ n = cs.length - k ∧ Fr = ofL [(1, vd (rowI u cs)), (2, vd (rowI v inn)), (3, vr 0), (6, vr 1), (33, vd (rowI u cs)), (34, vi cs.length), (35, vi ((k : Nat)))] ∧ H = [.box 42 [.d (rowP t ps), .d (rowI t is), .d (rowN t xs), .d (rowI t os)], .box 52 [.d (.val (.slice none 0 0)), .d (.val (.slice none 0 0)), .d (.val (.bool false))]]) (n0 := cs.length) ⟨0, Nat.zero_le _, rfl, rfl, rfl⟩ ?_
  rintro n Fr H ⟨k, hk, rfl, rfl, rfl⟩
  by_cases hlt : k < cs.length
  case pos =>
    obtain ⟨z, hz⟩ : ∃ z, cs[k]? = some z := ⟨_, List.getElem?_eq_getElem hlt⟩
    have SH := vshort_cv z
    rw [hs z (List.mem_of_getElem? hz)] at SH
    repeat' (with_reducible first | apply qa | apply qb | apply qc | apply qd | apply qe | apply qf | apply qg | apply qh | apply qi | apply qj | apply qk | apply ql rfl | apply qm rfl | apply qn rfl | apply Je | (refine Tx 7 ?_; refine Jo xLt ?_) | (refine Tx 8 ?_; refine Jo (xIr ts_s_int (int_at hz)) ?_; refine Jo (xLd tk_int) ?_; refine Ja ?_) | (refine Tx 9 ?_; refine Jm ?_; refine Jo (xCl Tryd.func26 (SH.cv)) ?_; refine Jo (by first | exact xNt | exact xNg) ?_) | (refine Tx 11 ?_; refine Jo xAd ?_; refine Jm ?_))
    refine ⟨_, _, wk_go _ 2 ?_ ?_ ?_, _, ?_, k + 1, by omega, rfl, rfl, rfl⟩
    · rfl
    · exact mB rfl rfl
    · exact ⟨bel_lit rfl, bel_lit rfl, trivial⟩
    · omega
  repeat' (with_reducible first | apply qa | apply qb | apply qc | apply qd | apply qe | apply qf | apply qg | apply qh | apply qi | apply qj | apply qk | apply ql rfl | apply qm rfl | apply qn rfl | apply Je | (refine Tx 7 ?_; refine Jo xLt ?_) | (refine Tx 12 ?_; refine Jm ?_; refine Jo (xLn ts_s_int) ?_; refine Jo (xFa tf_Program0 tk_s_Port) ?_; refine Jo (xLd tk_s_Port) ?_; refine Jo (xLn ts_s_Port) ?_; refine Jo xNe ?_) | (refine Tx 14 ?_; refine Jm ?_; refine Jo (xLn ts_s_int) ?_; refine Jm ?_))
  refine cw_wk (F' := ofL [(1, vd (rowI u cs)), (2, vd (rowI v inn)), (3, vr 0), (6, vr 1), (53, vd (rowI v inn)), (54, vi inn.length), (55, vi ((0 : Nat)))]) (H' := [.box 42 [.d (rowP t ps), .d (rowI t is), .d (rowN t xs), .d (rowI t os)], .box 52 [.d (.val (.slice none 0 0)), .d (.val (.slice none 0 0)), .d (.val (.bool false))]]) (wk_go _ 2 ?_ ?_ ?_) ?_
  · rfl
  · exact mB rfl rfl
  · exact ⟨bel_lit rfl, bel_lit rfl, trivial⟩
  refine cw_loopW (fun n Fr H => ∃ k : Nat, k ≤ inn.length ∧ n = inn.length - k ∧ Fr = ofL [(1, vd (rowI u cs)), (2, vd (rowI v inn)), (3, vr 0), (6, vr 1), (53, vd (rowI v inn)), (54, vi inn.length), (55, vi ((k : Nat)))] ∧ H = [.box 42 [.d (rowP t ps), .d (rowI t is), .d (rowN t xs), .d (rowI t os)], .box 52 [.d (.val (.slice none 0 0)), .d (.val (.slice none 0 0)), .d (.val (.bool false))]]) (n0 := inn.length) ⟨0, Nat.zero_le _, rfl, rfl, rfl⟩ ?_
  clear hk
  rintro n Fr H ⟨k, hk, rfl, rfl, rfl⟩
  by_cases hlt : k < inn.length
  case pos =>
    obtain ⟨z, hz⟩ : ∃ z, inn[k]? = some z := ⟨_, List.getElem?_eq_getElem hlt⟩
    obtain ⟨p, hp0⟩ : ∃ p, ps[k]? = some p := ⟨_, List.getElem?_eq_getElem (by omega)⟩
    obtain ⟨hz1, hz2⟩ := hr k p z hp0 hz
    repeat' (with_reducible first | apply qa | apply qb | apply qc | apply qd | apply qe | apply qf | apply qg | apply qh | apply qi | apply qj | apply qk | apply ql rfl | apply qm rfl | apply qn rfl | apply Je | (refine Tx 15 ?_; refine Jo xLt ?_) | (refine Tx 16 ?_; refine Jm ?_; refine Jo (xIr ts_s_int (int_at hz)) ?_; refine Jo (xLd tk_int) ?_; refine Ja ?_; refine Ja ?_) | (refine Tx 17 ?_; refine Jm ?_; refine Jo (xFa tf_Program0 tk_s_Port) ?_; refine Jo (xLd tk_s_Port) ?_; refine Jm ?_; refine Jo (xIr ts_s_Port (prt_at hp0)) ?_; refine Jo (xFa tf_Port0 tk_int) ?_; refine Jo (xLd tk_int) ?_; refine Jo xLt ?_; refine Jm ?_; (first | iterate 8 refine Jd ?_ | (refine Jy xM1 ?_; refine Jy (xFa tf_Program0 tk_s_Port) ?_; refine Jy (xLd tk_s_Port) ?_; refine Jy xM1 ?_; refine Jy (xIr ts_s_Port (prt_at hp0)) ?_; refine Jy (xFa tf_Port1 tk_int) ?_; refine Jy (xLd tk_int) ?_; refine Jy xGt ?_)); refine Jo xPk ?_) | (refine Tx 19 ?_; refine Jo xAd ?_; refine Jm ?_))
    refine ⟨_, _, wk_go _ 2 ?_ ?_ ?_, _, ?_, k + 1, by omega, rfl, rfl, rfl⟩
    · rfl
    · exact mB rfl rfl
    · exact ⟨bel_lit rfl, bel_lit rfl, trivial⟩
    · omega
  clear hk
  have hc1 : cs.length ≤ 1000000 := by omega
  repeat' (with_reducible first | apply qa | apply qb | apply qc | apply qd | apply qe | apply qf | apply qg | apply qh | apply qi | apply qj | apply qk | apply ql rfl | apply qm rfl | apply qn rfl | apply Je | (refine Tx 15 ?_; refine Jo xLt ?_) | (refine Tx 20 ?_; refine Jn (by first | exact ok_buildSlice (ps := []) (cs := []) rfl ts_s_int tz_int (by decide) (by decide) rfl rfl rfl (by decide) | exact ok_buildN rfl rfl ts_s_int tz_int (by decide) (by decide) (by decide) rfl rfl rfl) ?_; refine Jm ?_; refine Jt (by exact to_apE rfl rfl rfl rfl ts_s_int tz_int (by omega) (by decide) (by decide) (by simp) (cI_D cs).symm (Nat.zero_add _)) ?_; refine Jo (by exact ok_build rfl tb_CodeRun rfl rfl) ?_; refine Jn (xAl tz_CodeRun) ?_; refine Js (xSk tk_CodeRun) ?_) | (refine Tx 21 ?_; refine Jo (xFa tf_Program2 tk_s_Instr) ?_; refine Jo (xLd tk_s_Instr) ?_; refine Jo (xLn ts_s_Instr) ?_; refine Jm ?_))
  refine cw_wk (F' := ofL [(2, vd (rowI v inn)), (3, vr 0), (6, vr 1), (13, vr 3), (86, vd (rowN t xs)), (87, vi xs.length), (88, vi ((0 : Nat)))]) (H' := [.box 42 [.d (rowP t ps), .d (rowI t is), .d (rowN t xs), .d (rowI t os)], .box 52 [.d (.val (.slice none 0 0)), .d (.val (.slice none 0 0)), .d (.val (.bool false))], .row 3 1 cs.length (cI (runV inn (xs.take (0)) cs).1), .box 52 [.own 2 cs.length, .d (.val (.slice none 0 0)), .d (.val (.bool (runV inn (xs.take (0)) cs).2))]]) (wk_go _ 4 ?_ ?_ ?_) ?_
  · rfl
  · exact mB rfl rfl
  · exact ⟨bel_lit rfl, bel_lit rfl, bel_cI, bel_lit rfl, trivial⟩
  refine cw_loopW (fun n Fr H => ∃ k : Nat, k ≤ xs.length ∧ n = xs.length - k ∧ Fr = ofL [(2, vd (rowI v inn)), (3, vr 0), (6, vr 1), (13, vr 3), (86, vd (rowN t xs)), (87, vi xs.length), (88, vi ((k : Nat)))] ∧ H = [.box 42 [.d (rowP t ps), .d (rowI t is), .d (rowN t xs), .d (rowI t os)], .box 52 [.d (.val (.slice none 0 0)), .d (.val (.slice none 0 0)), .d (.val (.bool false))], .row 3 1 cs.length (cI (runV inn (xs.take (k)) cs).1), .box 52 [.own 2 cs.length, .d (.val (.slice none 0 0)), .d (.val (.bool (runV inn (xs.take (k)) cs).2))]]) (n0 := xs.length) ⟨0, Nat.zero_le _, rfl, rfl, rfl⟩ ?_
  rintro n Fr H ⟨k, hk, rfl, rfl, rfl⟩
  by_cases hlt : k < xs.length
  case pos =>
    obtain ⟨x, hx⟩ : ∃ x, xs[k]? = some x := ⟨_, List.getElem?_eq_getElem hlt⟩
    obtain ⟨hop, hd0, hd1, hA, hB, hI⟩ := ins_facts hp hx
    have hst := runV_step (inn := inn) (cs := cs) hx
    have hCl : (runV inn (xs.take (k)) cs).1.length = cs.length := runV_len _ _ _
    have hCs := runV_short hs (inn := inn) (xs := xs.take k)
    generalize hC : (runV inn (xs.take (k)) cs).1 = Z at hst hCl hCs ⊢
    generalize hO : (runV inn (xs.take (k)) cs).2 = O at hst ⊢
    repeat' (with_reducible first | apply qa | apply qb | apply qc | apply qd | apply qe | apply qf | apply qg | apply qh | apply qi | apply qj | apply qk | apply ql rfl | apply qm rfl | apply qn rfl | apply Je | (refine Tx 22 ?_; refine Jo xLt ?_) | (refine Tx 23 ?_; refine Jo (xIr ts_s_Instr (ins_at hx)) ?_; refine Jo (xLa tk_Instr) ?_; refine Jn (xAl tz_Instr) ?_; refine Js (xSk tk_Instr) ?_) | (refine Tx 24 ?_; refine Ja ?_))
    with_reducible refine Tx 25 ?_
    with_reducible refine Jo (xFa tf_Instr0 tk_int) ?_
    with_reducible refine Jo (xLd tk_int) ?_
    with_reducible refine Je ?_
    refine qb ?_
    refine cw_cutK (fun F' H' => ∃ V : Int, insV x Z inn = V ∧ F' = ofL [(2, vd (rowI v inn)), (3, vr 0), (6, vr 1), (13, vr 3), (15, vr 4), (16, vi V), (86, vd (rowN t xs)), (87, vi xs.length), (88, vi ((k : Nat)))] ∧ H' = [.box 42 [.d (rowP t ps), .d (rowI t is), .d (rowN t xs), .d (rowI t os)], .box 52 [.d (.val (.slice none 0 0)), .d (.val (.slice none 0 0)), .d (.val (.bool false))], .row 3 1 cs.length (cI Z), .box 52 [.own 2 cs.length, .d (.val (.slice none 0 0)), .d (.val (.bool O))], .box 67 ((dIns x).map C.d)]) ?_ ?_
    ·
      rcases hop with h | h | h | h | h | h | h | h | h | h | h
      ·
        obtain ⟨ha0, ha1, hs0, hs1⟩ := hA (by omega)
        rw [if_pos h] at ha1
        obtain ⟨w, hw⟩ : ∃ w, inn[x.a.toNat]? = some w := ⟨_, List.getElem?_eq_getElem (by omega)⟩
        have SA := vscaled_cv w hs0 hs1
        repeat' (with_reducible first | apply qa | apply qb | apply qc | apply qd | apply qe | apply qf | apply qg | apply qh | apply qi | apply qj | apply qk | apply ql rfl | apply qm rfl | apply qn rfl | apply Je | (refine Tx 26 ?_; refine Jo xEq ?_; refine Ja ?_) | (refine cw_any (id := 27) mixed (by kernel_rfl) ?_; refine Km ?_; refine Ko (xFa tf_Instr2 tk_int) ?_; refine Ko (xLd tk_int) ?_; refine Ko (xIr ts_s_int (int_at hw)) ?_; refine Ko (xLd tk_int) ?_; refine Ko (xFa tf_Instr4 tk_int) ?_; refine Ko (xLd tk_int) ?_; refine Ko (xCl Tryd.func27 (SA.cv)) ?_; refine Ka ?_; refine Ke ?_))
        refine ⟨_, _, wk_go _ 5 ?_ ?_ ?_, scl w x.sa, iv_in h hw, rfl, rfl⟩
        · rfl
        · exact mB rfl rfl
        · exact ⟨bel_lit rfl, bel_lit rfl, bel_cI, bel_lit rfl, bel_lit rfl, trivial⟩
      ·
        repeat' (with_reducible first | apply qa | apply qb | apply qc | apply qd | apply qe | apply qf | apply qg | apply qh | apply qi | apply qj | apply qk | apply ql rfl | apply qm rfl | apply qn rfl | apply Je | (refine Tx 26 ?_; refine Jo xEq ?_; refine Ja ?_) | (refine Tx 28 ?_; refine Jo xEq ?_; refine Ja ?_) | (refine Tx 29 ?_; refine Jo (xFa tf_Instr6 tk_int) ?_; refine Jo (xLd tk_int) ?_; refine Ja ?_))
        refine ⟨_, _, wk_go _ 5 ?_ ?_ ?_, x.imm, iv_const h, rfl, rfl⟩
        · rfl
        · exact mB rfl rfl
        · exact ⟨bel_lit rfl, bel_lit rfl, bel_cI, bel_lit rfl, bel_lit rfl, trivial⟩
      ·
        obtain ⟨ha0, ha1, hs0, hs1⟩ := hA (by omega)
        rw [if_neg (by omega)] at ha1
        obtain ⟨w, hw⟩ : ∃ w, Z[x.a.toNat]? = some w := ⟨_, List.getElem?_eq_getElem (by omega)⟩
        obtain ⟨w0, w1⟩ := hCs w (List.mem_of_getElem? hw)
        have SA := vscaled_cv w hs0 hs1
        have b1 := scl_fit w0 w1 hs0 hs1
        repeat' (with_reducible first | apply qa | apply qb | apply qc | apply qd | apply qe | apply qf | apply qg | apply qh | apply qi | apply qj | apply qk | apply ql rfl | apply qm rfl | apply qn rfl | apply Je | (refine Tx 26 ?_; refine Jo xEq ?_; refine Ja ?_) | (refine Tx 28 ?_; refine Jo xEq ?_; refine Ja ?_) | (refine Tx 30 ?_; refine Jo xEq ?_; refine Ja ?_) | (refine cw_any (id := 31) mixed (by kernel_rfl) ?_; refine Ko (xFa tf_CodeRun0 tk_s_int) ?_; refine Ko (xLd tk_s_int) ?_; refine Ko (xFa tf_Instr2 tk_int) ?_; refine Ko (xLd tk_int) ?_; refine Ko (by exact ok_ixO (i := x.a.toNat) rfl rfl rfl rfl (by omega) ts_s_int (by omega) (by decide)) ?_; refine Ko (by first | exact xLi hw tk_int | exact xLd tk_int) ?_; refine Ko (xFa tf_Instr4 tk_int) ?_; refine Ko (xLd tk_int) ?_; refine Ko (xCl Tryd.func27 (SA.cv)) ?_; refine Ka ?_; refine Ke ?_))
        refine ⟨_, _, wk_go _ 5 ?_ ?_ ?_, (scl w x.sa), iv_move h hw, rfl, rfl⟩
        · rfl
        · exact mB rfl rfl
        · exact ⟨bel_lit rfl, bel_lit rfl, bel_cI, bel_lit rfl, bel_lit rfl, trivial⟩
      ·
        obtain ⟨ha0, ha1, hs0, hs1⟩ := hA (by omega)
        rw [if_neg (by omega)] at ha1
        obtain ⟨w, hw⟩ : ∃ w, Z[x.a.toNat]? = some w := ⟨_, List.getElem?_eq_getElem (by omega)⟩
        obtain ⟨w0, w1⟩ := hCs w (List.mem_of_getElem? hw)
        obtain ⟨hb0, hb1, hbs⟩ := hB (by omega)
        obtain ⟨y, hy⟩ : ∃ y, Z[x.b.toNat]? = some y := ⟨_, List.getElem?_eq_getElem (by omega)⟩
        obtain ⟨y0, y1⟩ := hCs y (List.mem_of_getElem? hy)
        have SA := vscaled_cv w hs0 hs1
        have b1 := scl_fit w0 w1 hs0 hs1
        obtain ⟨hb2, hb3⟩ := hbs (by omega)
        have SB := vscaled_cv y hb2 hb3
        have b2 := scl_fit y0 y1 hb2 hb3
        repeat' (with_reducible first | apply qa | apply qb | apply qc | apply qd | apply qe | apply qf | apply qg | apply qh | apply qi | apply qj | apply qk | apply ql rfl | apply qm rfl | apply qn rfl | apply Je | (refine Tx 26 ?_; refine Jo xEq ?_; refine Ja ?_) | (refine Tx 28 ?_; refine Jo xEq ?_; refine Ja ?_) | (refine Tx 30 ?_; refine Jo xEq ?_; refine Ja ?_) | (refine Tx 32 ?_; refine Jo xEq ?_; refine Ja ?_) | (refine cw_any (id := 33) mixed (by kernel_rfl) ?_; refine Ko (xFa tf_CodeRun0 tk_s_int) ?_; refine Ko (xLd tk_s_int) ?_; refine Ko (xFa tf_Instr2 tk_int) ?_; refine Ko (xLd tk_int) ?_; refine Ko (by first | exact ok_ixO (i := x.a.toNat) rfl rfl rfl rfl (by omega) ts_s_int (by omega) (by decide) | exact ok_ixO (i := x.b.toNat) rfl rfl rfl rfl (by omega) ts_s_int (by omega) (by decide)) ?_; refine Ko (by first | exact xLi hw tk_int | exact xLi hy tk_int | exact xLd tk_int) ?_; refine Ko (xFa tf_Instr4 tk_int) ?_; refine Ko (xLd tk_int) ?_; refine Ko (by first | exact xCl Tryd.func27 (SA.cv) | exact xCl Tryd.func27 (SB.cv)) ?_; refine Ko (xFa tf_CodeRun0 tk_s_int) ?_; refine Ko (xLd tk_s_int) ?_; refine Ko (xFa tf_Instr3 tk_int) ?_; refine Ko (xLd tk_int) ?_; refine Ko (by first | exact ok_ixO (i := x.a.toNat) rfl rfl rfl rfl (by omega) ts_s_int (by omega) (by decide) | exact ok_ixO (i := x.b.toNat) rfl rfl rfl rfl (by omega) ts_s_int (by omega) (by decide)) ?_; refine Ko (by first | exact xLi hw tk_int | exact xLi hy tk_int | exact xLd tk_int) ?_; refine Ko (xFa tf_Instr5 tk_int) ?_; refine Ko (xLd tk_int) ?_; refine Ko (by first | exact xCl Tryd.func27 (SA.cv) | exact xCl Tryd.func27 (SB.cv)) ?_; refine Ko xAd ?_; refine Ka ?_; refine Ke ?_))
        refine ⟨_, _, wk_go _ 5 ?_ ?_ ?_, (scl w x.sa + scl y x.sb), iv_add h hw hy, rfl, rfl⟩
        · rfl
        · exact mB rfl rfl
        · exact ⟨bel_lit rfl, bel_lit rfl, bel_cI, bel_lit rfl, bel_lit rfl, trivial⟩
      ·
        obtain ⟨ha0, ha1, hs0, hs1⟩ := hA (by omega)
        rw [if_neg (by omega)] at ha1
        obtain ⟨w, hw⟩ : ∃ w, Z[x.a.toNat]? = some w := ⟨_, List.getElem?_eq_getElem (by omega)⟩
        obtain ⟨w0, w1⟩ := hCs w (List.mem_of_getElem? hw)
        obtain ⟨hb0, hb1, hbs⟩ := hB (by omega)
        obtain ⟨y, hy⟩ : ∃ y, Z[x.b.toNat]? = some y := ⟨_, List.getElem?_eq_getElem (by omega)⟩
        obtain ⟨y0, y1⟩ := hCs y (List.mem_of_getElem? hy)
        have SA := vscaled_cv w hs0 hs1
        have b1 := scl_fit w0 w1 hs0 hs1
        obtain ⟨hb2, hb3⟩ := hbs (by omega)
        have SB := vscaled_cv y hb2 hb3
        have b2 := scl_fit y0 y1 hb2 hb3
        repeat' (with_reducible first | apply qa | apply qb | apply qc | apply qd | apply qe | apply qf | apply qg | apply qh | apply qi | apply qj | apply qk | apply ql rfl | apply qm rfl | apply qn rfl | apply Je | (refine Tx 26 ?_; refine Jo xEq ?_; refine Ja ?_) | (refine Tx 28 ?_; refine Jo xEq ?_; refine Ja ?_) | (refine Tx 30 ?_; refine Jo xEq ?_; refine Ja ?_) | (refine Tx 32 ?_; refine Jo xEq ?_; refine Ja ?_) | (refine Tx 34 ?_; refine Jo xEq ?_; refine Ja ?_) | (refine cw_any (id := 35) mixed (by kernel_rfl) ?_; refine Ko (xFa tf_CodeRun0 tk_s_int) ?_; refine Ko (xLd tk_s_int) ?_; refine Ko (xFa tf_Instr2 tk_int) ?_; refine Ko (xLd tk_int) ?_; refine Ko (by first | exact ok_ixO (i := x.a.toNat) rfl rfl rfl rfl (by omega) ts_s_int (by omega) (by decide) | exact ok_ixO (i := x.b.toNat) rfl rfl rfl rfl (by omega) ts_s_int (by omega) (by decide)) ?_; refine Ko (by first | exact xLi hw tk_int | exact xLi hy tk_int | exact xLd tk_int) ?_; refine Ko (xFa tf_Instr4 tk_int) ?_; refine Ko (xLd tk_int) ?_; refine Ko (by first | exact xCl Tryd.func27 (SA.cv) | exact xCl Tryd.func27 (SB.cv)) ?_; refine Ko (xFa tf_CodeRun0 tk_s_int) ?_; refine Ko (xLd tk_s_int) ?_; refine Ko (xFa tf_Instr3 tk_int) ?_; refine Ko (xLd tk_int) ?_; refine Ko (by first | exact ok_ixO (i := x.a.toNat) rfl rfl rfl rfl (by omega) ts_s_int (by omega) (by decide) | exact ok_ixO (i := x.b.toNat) rfl rfl rfl rfl (by omega) ts_s_int (by omega) (by decide)) ?_; refine Ko (by first | exact xLi hw tk_int | exact xLi hy tk_int | exact xLd tk_int) ?_; refine Ko (xFa tf_Instr5 tk_int) ?_; refine Ko (xLd tk_int) ?_; refine Ko (by first | exact xCl Tryd.func27 (SA.cv) | exact xCl Tryd.func27 (SB.cv)) ?_; refine Ko xSb ?_; refine Ka ?_; refine Ke ?_))
        refine ⟨_, _, wk_go _ 5 ?_ ?_ ?_, (scl w x.sa - scl y x.sb), iv_sub h hw hy, rfl, rfl⟩
        · rfl
        · exact mB rfl rfl
        · exact ⟨bel_lit rfl, bel_lit rfl, bel_cI, bel_lit rfl, bel_lit rfl, trivial⟩
      ·
        obtain ⟨ha0, ha1, hs0, hs1⟩ := hA (by omega)
        rw [if_neg (by omega)] at ha1
        obtain ⟨w, hw⟩ : ∃ w, Z[x.a.toNat]? = some w := ⟨_, List.getElem?_eq_getElem (by omega)⟩
        obtain ⟨w0, w1⟩ := hCs w (List.mem_of_getElem? hw)
        have SA := vscaled_cv w hs0 hs1
        have b1 := scl_fit w0 w1 hs0 hs1
        repeat' (with_reducible first | apply qa | apply qb | apply qc | apply qd | apply qe | apply qf | apply qg | apply qh | apply qi | apply qj | apply qk | apply ql rfl | apply qm rfl | apply qn rfl | apply Je | (refine Tx 26 ?_; refine Jo xEq ?_; refine Ja ?_) | (refine Tx 28 ?_; refine Jo xEq ?_; refine Ja ?_) | (refine Tx 30 ?_; refine Jo xEq ?_; refine Ja ?_) | (refine Tx 32 ?_; refine Jo xEq ?_; refine Ja ?_) | (refine Tx 34 ?_; refine Jo xEq ?_; refine Ja ?_) | (refine Tx 36 ?_; refine Jo xEq ?_; refine Ja ?_) | (refine cw_any (id := 37) mixed (by kernel_rfl) ?_; refine Ko (xFa tf_CodeRun0 tk_s_int) ?_; refine Ko (xLd tk_s_int) ?_; refine Ko (xFa tf_Instr2 tk_int) ?_; refine Ko (xLd tk_int) ?_; refine Ko (by exact ok_ixO (i := x.a.toNat) rfl rfl rfl rfl (by omega) ts_s_int (by omega) (by decide)) ?_; refine Ko (by first | exact xLi hw tk_int | exact xLd tk_int) ?_; refine Ko (xFa tf_Instr4 tk_int) ?_; refine Ko (xLd tk_int) ?_; refine Ko (xCl Tryd.func27 (SA.cv)) ?_; refine Ko (by first | exact xNt | exact xNg) ?_; refine Ka ?_; refine Ke ?_))
        refine ⟨_, _, wk_go _ 5 ?_ ?_ ?_, (-scl w x.sa), iv_neg h hw, rfl, rfl⟩
        · rfl
        · exact mB rfl rfl
        · exact ⟨bel_lit rfl, bel_lit rfl, bel_cI, bel_lit rfl, bel_lit rfl, trivial⟩
      ·
        obtain ⟨ha0, ha1, hs0, hs1⟩ := hA (by omega)
        rw [if_neg (by omega)] at ha1
        obtain ⟨w, hw⟩ : ∃ w, Z[x.a.toNat]? = some w := ⟨_, List.getElem?_eq_getElem (by omega)⟩
        obtain ⟨w0, w1⟩ := hCs w (List.mem_of_getElem? hw)
        obtain ⟨i0, i1⟩ := hI (.inr h)
        have hm := mul_fit w0 w1 i0 i1
        have SA := vscaled_cv (w * x.imm) hs0 hs1
        repeat' (with_reducible first | apply qa | apply qb | apply qc | apply qd | apply qe | apply qf | apply qg | apply qh | apply qi | apply qj | apply qk | apply ql rfl | apply qm rfl | apply qn rfl | apply Je | (refine Tx 26 ?_; refine Jo xEq ?_; refine Ja ?_) | (refine Tx 28 ?_; refine Jo xEq ?_; refine Ja ?_) | (refine Tx 30 ?_; refine Jo xEq ?_; refine Ja ?_) | (refine Tx 32 ?_; refine Jo xEq ?_; refine Ja ?_) | (refine Tx 34 ?_; refine Jo xEq ?_; refine Ja ?_) | (refine Tx 36 ?_; refine Jo xEq ?_; refine Ja ?_) | (refine Tx 38 ?_; refine Jo xEq ?_; refine Ja ?_) | (refine Tx 41 ?_; refine Jo xEq ?_; refine Ja ?_) | (refine cw_any (id := 42) mixed (by kernel_rfl) ?_; refine Ko (xFa tf_CodeRun0 tk_s_int) ?_; refine Ko (xLd tk_s_int) ?_; refine Ko (xFa tf_Instr2 tk_int) ?_; refine Ko (xLd tk_int) ?_; refine Ko (by exact ok_ixO (i := x.a.toNat) rfl rfl rfl rfl (by omega) ts_s_int (by omega) (by decide)) ?_; refine Ko (by first | exact xLi hw tk_int | exact xLd tk_int) ?_; refine Ko (xFa tf_Instr6 tk_int) ?_; refine Ko (xLd tk_int) ?_; refine Ko (by first | exact ok_mul64 rfl rfl rfl hm | exact ok_mul64 rfl rfl rfl (by omega)) ?_; refine Ko (xFa tf_Instr4 tk_int) ?_; refine Ko (xLd tk_int) ?_; refine Ko (xCl Tryd.func27 (SA.cv)) ?_; refine Ka ?_; refine Ke ?_))
        refine ⟨_, _, wk_go _ 5 ?_ ?_ ?_, scl (w * x.imm) x.sa, iv_gain h hw, rfl, rfl⟩
        · rfl
        · exact mB rfl rfl
        · exact ⟨bel_lit rfl, bel_lit rfl, bel_cI, bel_lit rfl, bel_lit rfl, trivial⟩
      ·
        obtain ⟨ha0, ha1, hs0, hs1⟩ := hA (by omega)
        rw [if_neg (by omega)] at ha1
        obtain ⟨w, hw⟩ : ∃ w, Z[x.a.toNat]? = some w := ⟨_, List.getElem?_eq_getElem (by omega)⟩
        obtain ⟨w0, w1⟩ := hCs w (List.mem_of_getElem? hw)
        obtain ⟨hb0, hb1, hbs⟩ := hB (by omega)
        obtain ⟨y, hy⟩ : ∃ y, Z[x.b.toNat]? = some y := ⟨_, List.getElem?_eq_getElem (by omega)⟩
        obtain ⟨y0, y1⟩ := hCs y (List.mem_of_getElem? hy)
        have hm := mul_fit w0 w1 y0 y1
        have SA := vscaled_cv (w * y) hs0 hs1
        repeat' (with_reducible first | apply qa | apply qb | apply qc | apply qd | apply qe | apply qf | apply qg | apply qh | apply qi | apply qj | apply qk | apply ql rfl | apply qm rfl | apply qn rfl | apply Je | (refine Tx 26 ?_; refine Jo xEq ?_; refine Ja ?_) | (refine Tx 28 ?_; refine Jo xEq ?_; refine Ja ?_) | (refine Tx 30 ?_; refine Jo xEq ?_; refine Ja ?_) | (refine Tx 32 ?_; refine Jo xEq ?_; refine Ja ?_) | (refine Tx 34 ?_; refine Jo xEq ?_; refine Ja ?_) | (refine Tx 36 ?_; refine Jo xEq ?_; refine Ja ?_) | (refine Tx 38 ?_; refine Jo xEq ?_; refine Ja ?_) | (refine Tx 41 ?_; refine Jo xEq ?_; refine Ja ?_) | (refine Tx 43 ?_; refine Jo xEq ?_; refine Ja ?_) | (refine cw_any (id := 44) mixed (by kernel_rfl) ?_; refine Ko (xFa tf_CodeRun0 tk_s_int) ?_; refine Ko (xLd tk_s_int) ?_; refine Ko (xFa tf_Instr2 tk_int) ?_; refine Ko (xLd tk_int) ?_; refine Ko (by first | exact ok_ixO (i := x.a.toNat) rfl rfl rfl rfl (by omega) ts_s_int (by omega) (by decide) | exact ok_ixO (i := x.b.toNat) rfl rfl rfl rfl (by omega) ts_s_int (by omega) (by decide)) ?_; refine Ko (by first | exact xLi hw tk_int | exact xLi hy tk_int | exact xLd tk_int) ?_; refine Ko (xFa tf_CodeRun0 tk_s_int) ?_; refine Ko (xLd tk_s_int) ?_; refine Ko (xFa tf_Instr3 tk_int) ?_; refine Ko (xLd tk_int) ?_; refine Ko (by first | exact ok_ixO (i := x.a.toNat) rfl rfl rfl rfl (by omega) ts_s_int (by omega) (by decide) | exact ok_ixO (i := x.b.toNat) rfl rfl rfl rfl (by omega) ts_s_int (by omega) (by decide)) ?_; refine Ko (by first | exact xLi hw tk_int | exact xLi hy tk_int | exact xLd tk_int) ?_; refine Ko (by first | exact ok_mul64 rfl rfl rfl hm | exact ok_mul64 rfl rfl rfl (by omega)) ?_; refine Ko (xFa tf_Instr4 tk_int) ?_; refine Ko (xLd tk_int) ?_; refine Ko (xCl Tryd.func27 (SA.cv)) ?_; refine Ka ?_; refine Ke ?_))
        refine ⟨_, _, wk_go _ 5 ?_ ?_ ?_, scl (w * y) x.sa, iv_mul h hw hy, rfl, rfl⟩
        · rfl
        · exact mB rfl rfl
        · exact ⟨bel_lit rfl, bel_lit rfl, bel_cI, bel_lit rfl, bel_lit rfl, trivial⟩
      ·
        obtain ⟨ha0, ha1, hs0, hs1⟩ := hA (by omega)
        rw [if_neg (by omega)] at ha1
        obtain ⟨w, hw⟩ : ∃ w, Z[x.a.toNat]? = some w := ⟨_, List.getElem?_eq_getElem (by omega)⟩
        obtain ⟨w0, w1⟩ := hCs w (List.mem_of_getElem? hw)
        obtain ⟨hb0, hb1, hbs⟩ := hB (by omega)
        obtain ⟨y, hy⟩ : ∃ y, Z[x.b.toNat]? = some y := ⟨_, List.getElem?_eq_getElem (by omega)⟩
        obtain ⟨y0, y1⟩ := hCs y (List.mem_of_getElem? hy)
        have SA := vscaled_cv w hs0 hs1
        have b1 := scl_fit w0 w1 hs0 hs1
        obtain ⟨hb2, hb3⟩ := hbs (by omega)
        have SB := vscaled_cv y hb2 hb3
        have b2 := scl_fit y0 y1 hb2 hb3
        repeat' (with_reducible first | apply qa | apply qb | apply qc | apply qd | apply qe | apply qf | apply qg | apply qh | apply qi | apply qj | apply qk | apply ql rfl | apply qm rfl | apply qn rfl | apply Je | (refine Tx 26 ?_; refine Jo xEq ?_; refine Ja ?_) | (refine Tx 28 ?_; refine Jo xEq ?_; refine Ja ?_) | (refine Tx 30 ?_; refine Jo xEq ?_; refine Ja ?_) | (refine Tx 32 ?_; refine Jo xEq ?_; refine Ja ?_) | (refine Tx 34 ?_; refine Jo xEq ?_; refine Ja ?_) | (refine Tx 36 ?_; refine Jo xEq ?_; refine Ja ?_) | (refine Tx 38 ?_; refine Jo xEq ?_; refine Ja ?_) | (refine Tx 41 ?_; refine Jo xEq ?_; refine Ja ?_) | (refine Tx 43 ?_; refine Jo xEq ?_; refine Ja ?_) | (refine Tx 45 ?_; refine Jo xEq ?_; refine Ja ?_) | (refine cw_any (id := 46) mixed (by kernel_rfl) ?_; refine Ko (xFa tf_CodeRun0 tk_s_int) ?_; refine Ko (xLd tk_s_int) ?_; refine Ko (xFa tf_Instr2 tk_int) ?_; refine Ko (xLd tk_int) ?_; refine Ko (by first | exact ok_ixO (i := x.a.toNat) rfl rfl rfl rfl (by omega) ts_s_int (by omega) (by decide) | exact ok_ixO (i := x.b.toNat) rfl rfl rfl rfl (by omega) ts_s_int (by omega) (by decide)) ?_; refine Ko (by first | exact xLi hw tk_int | exact xLi hy tk_int | exact xLd tk_int) ?_; refine Ko (xFa tf_Instr4 tk_int) ?_; refine Ko (xLd tk_int) ?_; refine Ko (by first | exact xCl Tryd.func27 (SA.cv) | exact xCl Tryd.func27 (SB.cv)) ?_; refine Ko (xFa tf_CodeRun0 tk_s_int) ?_; refine Ko (xLd tk_s_int) ?_; refine Ko (xFa tf_Instr3 tk_int) ?_; refine Ko (xLd tk_int) ?_; refine Ko (by first | exact ok_ixO (i := x.a.toNat) rfl rfl rfl rfl (by omega) ts_s_int (by omega) (by decide) | exact ok_ixO (i := x.b.toNat) rfl rfl rfl rfl (by omega) ts_s_int (by omega) (by decide)) ?_; refine Ko (by first | exact xLi hw tk_int | exact xLi hy tk_int | exact xLd tk_int) ?_; refine Ko (xFa tf_Instr5 tk_int) ?_; refine Ko (xLd tk_int) ?_; refine Ko (by first | exact xCl Tryd.func27 (SA.cv) | exact xCl Tryd.func27 (SB.cv)) ?_; refine Ko (by exact ok_min2 rfl rfl rfl) ?_; refine Ka ?_; refine Ke ?_))
        refine ⟨_, _, wk_go _ 5 ?_ ?_ ?_, (min (scl w x.sa) (scl y x.sb)), iv_min h hw hy, rfl, rfl⟩
        · rfl
        · exact mB rfl rfl
        · exact ⟨bel_lit rfl, bel_lit rfl, bel_cI, bel_lit rfl, bel_lit rfl, trivial⟩
      ·
        obtain ⟨ha0, ha1, hs0, hs1⟩ := hA (by omega)
        rw [if_neg (by omega)] at ha1
        obtain ⟨w, hw⟩ : ∃ w, Z[x.a.toNat]? = some w := ⟨_, List.getElem?_eq_getElem (by omega)⟩
        obtain ⟨w0, w1⟩ := hCs w (List.mem_of_getElem? hw)
        obtain ⟨hb0, hb1, hbs⟩ := hB (by omega)
        obtain ⟨y, hy⟩ : ∃ y, Z[x.b.toNat]? = some y := ⟨_, List.getElem?_eq_getElem (by omega)⟩
        obtain ⟨y0, y1⟩ := hCs y (List.mem_of_getElem? hy)
        have SA := vscaled_cv w hs0 hs1
        have b1 := scl_fit w0 w1 hs0 hs1
        obtain ⟨hb2, hb3⟩ := hbs (by omega)
        have SB := vscaled_cv y hb2 hb3
        have b2 := scl_fit y0 y1 hb2 hb3
        repeat' (with_reducible first | apply qa | apply qb | apply qc | apply qd | apply qe | apply qf | apply qg | apply qh | apply qi | apply qj | apply qk | apply ql rfl | apply qm rfl | apply qn rfl | apply Je | (refine Tx 26 ?_; refine Jo xEq ?_; refine Ja ?_) | (refine Tx 28 ?_; refine Jo xEq ?_; refine Ja ?_) | (refine Tx 30 ?_; refine Jo xEq ?_; refine Ja ?_) | (refine Tx 32 ?_; refine Jo xEq ?_; refine Ja ?_) | (refine Tx 34 ?_; refine Jo xEq ?_; refine Ja ?_) | (refine Tx 36 ?_; refine Jo xEq ?_; refine Ja ?_) | (refine Tx 38 ?_; refine Jo xEq ?_; refine Ja ?_) | (refine Tx 41 ?_; refine Jo xEq ?_; refine Ja ?_) | (refine Tx 43 ?_; refine Jo xEq ?_; refine Ja ?_) | (refine Tx 45 ?_; refine Jo xEq ?_; refine Ja ?_) | (refine Tx 47 ?_; refine Jo xEq ?_; refine Ja ?_) | (refine cw_any (id := 48) mixed (by kernel_rfl) ?_; refine Ko (xFa tf_CodeRun0 tk_s_int) ?_; refine Ko (xLd tk_s_int) ?_; refine Ko (xFa tf_Instr2 tk_int) ?_; refine Ko (xLd tk_int) ?_; refine Ko (by first | exact ok_ixO (i := x.a.toNat) rfl rfl rfl rfl (by omega) ts_s_int (by omega) (by decide) | exact ok_ixO (i := x.b.toNat) rfl rfl rfl rfl (by omega) ts_s_int (by omega) (by decide)) ?_; refine Ko (by first | exact xLi hw tk_int | exact xLi hy tk_int | exact xLd tk_int) ?_; refine Ko (xFa tf_Instr4 tk_int) ?_; refine Ko (xLd tk_int) ?_; refine Ko (by first | exact xCl Tryd.func27 (SA.cv) | exact xCl Tryd.func27 (SB.cv)) ?_; refine Ko (xFa tf_CodeRun0 tk_s_int) ?_; refine Ko (xLd tk_s_int) ?_; refine Ko (xFa tf_Instr3 tk_int) ?_; refine Ko (xLd tk_int) ?_; refine Ko (by first | exact ok_ixO (i := x.a.toNat) rfl rfl rfl rfl (by omega) ts_s_int (by omega) (by decide) | exact ok_ixO (i := x.b.toNat) rfl rfl rfl rfl (by omega) ts_s_int (by omega) (by decide)) ?_; refine Ko (by first | exact xLi hw tk_int | exact xLi hy tk_int | exact xLd tk_int) ?_; refine Ko (xFa tf_Instr5 tk_int) ?_; refine Ko (xLd tk_int) ?_; refine Ko (by first | exact xCl Tryd.func27 (SA.cv) | exact xCl Tryd.func27 (SB.cv)) ?_; refine Ko (by exact ok_max2 rfl rfl rfl) ?_; refine Ka ?_; refine Ke ?_))
        refine ⟨_, _, wk_go _ 5 ?_ ?_ ?_, (max (scl w x.sa) (scl y x.sb)), iv_max h hw hy, rfl, rfl⟩
        · rfl
        · exact mB rfl rfl
        · exact ⟨bel_lit rfl, bel_lit rfl, bel_cI, bel_lit rfl, bel_lit rfl, trivial⟩
      ·
        obtain ⟨ha0, ha1, hs0, hs1⟩ := hA (by omega)
        rw [if_neg (by omega)] at ha1
        obtain ⟨w, hw⟩ : ∃ w, Z[x.a.toNat]? = some w := ⟨_, List.getElem?_eq_getElem (by omega)⟩
        obtain ⟨w0, w1⟩ := hCs w (List.mem_of_getElem? hw)
        have SA := vscaled_cv w hs0 hs1
        have b1 := scl_fit w0 w1 hs0 hs1
        repeat' (with_reducible first | apply qa | apply qb | apply qc | apply qd | apply qe | apply qf | apply qg | apply qh | apply qi | apply qj | apply qk | apply ql rfl | apply qm rfl | apply qn rfl | apply Je | (refine Tx 26 ?_; refine Jo xEq ?_; refine Ja ?_) | (refine Tx 28 ?_; refine Jo xEq ?_; refine Ja ?_) | (refine Tx 30 ?_; refine Jo xEq ?_; refine Ja ?_) | (refine Tx 32 ?_; refine Jo xEq ?_; refine Ja ?_) | (refine Tx 34 ?_; refine Jo xEq ?_; refine Ja ?_) | (refine Tx 36 ?_; refine Jo xEq ?_; refine Ja ?_) | (refine Tx 38 ?_; refine Jo xEq ?_; refine Ja ?_) | (refine cw_any (id := 39) mixed (by kernel_rfl) ?_; refine Ko (xFa tf_CodeRun0 tk_s_int) ?_; refine Ko (xLd tk_s_int) ?_; refine Ko (xFa tf_Instr2 tk_int) ?_; refine Ko (xLd tk_int) ?_; refine Ko (by exact ok_ixO (i := x.a.toNat) rfl rfl rfl rfl (by omega) ts_s_int (by omega) (by decide)) ?_; refine Ko (by first | exact xLi hw tk_int | exact xLd tk_int) ?_; refine Ko (xFa tf_Instr4 tk_int) ?_; refine Ko (xLd tk_int) ?_; refine Ko (xCl Tryd.func27 (SA.cv)) ?_; refine Ka ?_; refine Ke ?_) | (refine Tx 40 ?_; refine Jm ?_; refine Jm ?_; refine Jo (by first | exact xNt | exact xNg) ?_; refine Jo (by exact ok_max2 rfl rfl rfl) ?_; refine Ja ?_))
        refine ⟨_, _, wk_go _ 5 ?_ ?_ ?_, (max (scl w x.sa) (-scl w x.sa)), iv_abs h hw, rfl, rfl⟩
        · rfl
        · exact mB rfl rfl
        · exact ⟨bel_lit rfl, bel_lit rfl, bel_cI, bel_lit rfl, bel_lit rfl, trivial⟩
    ·
      rintro F' H' ⟨V, hV, rfl, rfl⟩
      have SH := vshort_cv V
      rw [hV] at hst
      have tl : x.dst.toNat < Z.length := by omega
      by_cases hsv : shortB V = true
      case pos =>
        rw [hsv] at SH
        have st : Z.set x.dst.toNat V = (runV inn (xs.take (k + 1)) cs).1 := by rw [hst, cutV_in hsv]
        have hO2 : (runV inn (xs.take (k + 1)) cs).2 = O := by rw [hst, hsv]; simp
        repeat' (with_reducible first | apply qa | apply qb | apply qc | apply qd | apply qe | apply qf | apply qg | apply qh | apply qi | apply qj | apply qk | apply ql rfl | apply qm rfl | apply qn rfl | apply Je | (refine Tx 49 ?_; refine Jm ?_; refine Jo (xCl Tryd.func26 (SH.cv)) ?_; refine Jo (by first | exact xNt | exact xNg) ?_) | (refine Tx 52 ?_; refine Jo (xFa tf_CodeRun0 tk_s_int) ?_; refine Jo (xLd tk_s_int) ?_; refine Jo (xFa tf_Instr1 tk_int) ?_; refine Jo (xLd tk_int) ?_; refine Jm ?_; refine Jo (by exact ok_ixO (i := x.dst.toNat) rfl rfl rfl rfl (by omega) ts_s_int (by omega) (by decide)) ?_; refine Js (by first | exact to_stI rfl rfl rfl rfl tk_int tl st | exact xS1 tk_int | exact xSk tk_int) ?_) | (refine Tx 53 ?_; refine Jo xAd ?_; refine Jm ?_))
        refine ⟨_, _, wk_go _ 4 ?_ ?_ ?_, _, ?_, k + 1, by omega, rfl, rfl, rfl⟩
        · rw [hO2]; rfl
        · exact mB rfl rfl
        · exact ⟨bel_lit rfl, bel_lit rfl, bel_cI, bel_lit rfl, trivial⟩
        · omega
      case neg =>
        rw [Bool.not_eq_true] at hsv
        rw [hsv] at SH
        have st : Z.set x.dst.toNat (max (-2147483648) (min V 2147483647)) = (runV inn (xs.take (k + 1)) cs).1 := by rw [hst, show cutV V = max (-2147483648) (min V 2147483647) from rfl]
        have hO2 : (runV inn (xs.take (k + 1)) cs).2 = true := by rw [hst, hsv]; simp
        repeat' (with_reducible first | apply qa | apply qb | apply qc | apply qd | apply qe | apply qf | apply qg | apply qh | apply qi | apply qj | apply qk | apply ql rfl | apply qm rfl | apply qn rfl | apply Je | (refine Tx 49 ?_; refine Jm ?_; refine Jo (xCl Tryd.func26 (SH.cv)) ?_; refine Jo (by first | exact xNt | exact xNg) ?_) | (refine Tx 50 ?_; refine Jm ?_; refine Jo (by exact ok_min2 rfl rfl rfl) ?_; refine Jo (by exact ok_max2 rfl rfl rfl) ?_; refine Ja ?_) | (refine Tx 51 ?_; refine Jo (xFa tf_CodeRun2 tk_bool) ?_; refine Js (by first | exact xS1 tk_bool | exact xSk tk_bool) ?_) | (refine Tx 52 ?_; refine Jo (xFa tf_CodeRun0 tk_s_int) ?_; refine Jo (xLd tk_s_int) ?_; refine Jo (xFa tf_Instr1 tk_int) ?_; refine Jo (xLd tk_int) ?_; refine Jm ?_; refine Jo (by exact ok_ixO (i := x.dst.toNat) rfl rfl rfl rfl (by omega) ts_s_int (by omega) (by decide)) ?_; refine Js (by first | exact to_stI rfl rfl rfl rfl tk_int tl st | exact xS1 tk_int | exact xSk tk_int) ?_) | (refine Tx 53 ?_; refine Jo xAd ?_; refine Jm ?_))
        refine ⟨_, _, wk_go _ 4 ?_ ?_ ?_, _, ?_, k + 1, by omega, rfl, rfl, rfl⟩
        · rw [hO2]; rfl
        · exact mB rfl rfl
        · exact ⟨bel_lit rfl, bel_lit rfl, bel_cI, bel_lit rfl, trivial⟩
        · omega
  obtain rfl : k = xs.length := by omega
  clear hlt hk
  rw [List.take_length]
  have hCl : (runV inn xs cs).1.length = cs.length := runV_len _ _ _
  generalize hC : (runV inn xs cs).1 = Z at hCl ⊢
  generalize hO : (runV inn xs cs).2 = O
  repeat' (with_reducible first | apply qa | apply qb | apply qc | apply qd | apply qe | apply qf | apply qg | apply qh | apply qi | apply qj | apply qk | apply ql rfl | apply qm rfl | apply qn rfl | apply Je | (refine Tx 22 ?_; refine Jo xLt ?_) | (refine Tx 54 ?_; refine Jo (xFa tf_Program3 tk_s_int) ?_; refine Jo (xLd tk_s_int) ?_; refine Jo (xLn ts_s_int) ?_; refine Jm ?_))
  refine cw_wk (wk_nilbox 3 1 3 1 rfl rfl) ?_
  refine cw_wk (F' := ofL [(3, vr 0), (6, vr 1), (13, vr 3), (277, vd (rowI t os)), (278, vi os.length), (279, vi ((0 : Nat)))]) (H' := [.box 42 [.d (rowP t ps), .d (rowI t is), .d (rowN t xs), .d (rowI t os)], .box 52 [.d (.val (.slice none 0 0)), .d (.val (.slice none 0 0)), .d (.val (.bool false))], .row 3 1 cs.length (cI Z), .box 52 [.own 2 cs.length, .own 4 (outsV Z (os.take (0))).length, .d (.val (.bool O))], .row 3 1 (outsV Z (os.take (0))).length (cI (outsV Z (os.take (0))))]) (wk_go _ 5 ?_ ?_ ?_) ?_
  · rfl
  · exact mB rfl rfl
  · exact ⟨bel_lit rfl, bel_lit rfl, bel_cI, bel_lit rfl, bel_cI, trivial⟩
  refine cw_loopW (fun n Fr H => ∃ k : Nat, k ≤ os.length ∧ n = os.length - k ∧ Fr = ofL [(3, vr 0), (6, vr 1), (13, vr 3), (277, vd (rowI t os)), (278, vi os.length), (279, vi ((k : Nat)))] ∧ H = [.box 42 [.d (rowP t ps), .d (rowI t is), .d (rowN t xs), .d (rowI t os)], .box 52 [.d (.val (.slice none 0 0)), .d (.val (.slice none 0 0)), .d (.val (.bool false))], .row 3 1 cs.length (cI Z), .box 52 [.own 2 cs.length, .own 4 (outsV Z (os.take (k))).length, .d (.val (.bool O))], .row 3 1 (outsV Z (os.take (k))).length (cI (outsV Z (os.take (k))))]) (n0 := os.length) ⟨0, Nat.zero_le _, rfl, rfl, rfl⟩ ?_
  rintro n Fr H ⟨k, hk, rfl, rfl, rfl⟩
  by_cases hlt : k < os.length
  case pos =>
    obtain ⟨o, ho⟩ : ∃ o, os[k]? = some o := ⟨_, List.getElem?_eq_getElem hlt⟩
    obtain ⟨o0, o2⟩ := out_facts hp ho
    obtain ⟨w, hw⟩ : ∃ w, Z[o.toNat]? = some w := ⟨_, List.getElem?_eq_getElem (by omega)⟩
    have hap : (outsV Z (os.take (k))) ++ [w] = (outsV Z (os.take (k + 1))) := (outsV_step ho hw).symm
    have hap2 : (outsV Z (os.take (k))).length + 1 = (outsV Z (os.take (k + 1))).length := by rw [← hap]; simp
    have hol : (outsV Z (os.take (k))).length ≤ k := outsV_len _ _ _
    repeat' (with_reducible first | apply qa | apply qb | apply qc | apply qd | apply qe | apply qf | apply qg | apply qh | apply qi | apply qj | apply qk | apply ql rfl | apply qm rfl | apply qn rfl | apply Je | (refine Tx 55 ?_; refine Jo xLt ?_) | (refine Tx 56 ?_; refine Jo (by first | exact xIr ts_s_int (int_at ho) | exact ok_ixO (i := o.toNat) rfl rfl rfl rfl (by omega) ts_s_int (by omega) (by decide)) ?_; refine Jo (by first | exact xLi hw tk_int | exact xLd tk_int) ?_; refine Ja ?_) | (refine cw_part (id := 57) 8 mixed (by kernel_rfl) ?_; dsimp only [List.take, List.drop]; refine Ko (xFa tf_CodeRun1 tk_s_int) ?_; refine Ko (xLd tk_s_int) ?_; refine Ko (xFa tf_CodeRun0 tk_s_int) ?_; refine Ko (xLd tk_s_int) ?_; refine Km ?_; refine Ko (by first | exact xIr ts_s_int (int_at ho) | exact ok_ixO (i := o.toNat) rfl rfl rfl rfl (by omega) ts_s_int (by omega) (by decide)) ?_; refine Ko (by first | exact xLi hw tk_int | exact xLd tk_int) ?_; refine Kn (by exact ok_build1 rfl ts_s_int tz_int rfl rfl (by decide) (by decide)) ?_; refine Ke ?_; refine Jt (by exact to_apI rfl rfl rfl rfl rfl rfl ts_s_int tz_int (by omega) (by decide) hap hap2) ?_; refine Jo (xFa tf_CodeRun1 tk_s_int) ?_; refine Js (by first | exact xS1 tk_s_int | exact xSk tk_s_int) ?_) | (refine Tx 58 ?_; refine Jo xAd ?_; refine Jm ?_))
    refine ⟨_, _, wk_go _ 5 ?_ ?_ ?_, _, ?_, k + 1, by omega, rfl, rfl, rfl⟩
    · rfl
    · exact mB rfl rfl
    · exact ⟨bel_lit rfl, bel_lit rfl, bel_cI, bel_lit rfl, bel_cI, trivial⟩
    · omega
  obtain rfl : k = os.length := by omega
  clear hlt hk
  rw [List.take_length]
  repeat' (with_reducible first | apply qa | apply qb | apply qc | apply qd | apply qe | apply qf | apply qg | apply qh | apply qi | apply qj | apply qk | apply ql rfl | apply qm rfl | apply qn rfl | apply Je | (refine Tx 55 ?_; refine Jo xLt ?_) | (refine Tx 59 ?_; refine Jo (xLa tk_CodeRun) ?_; refine Js (xSk tk_CodeRun) ?_; refine Ja ?_))
  exact ret_q rfl (.cons_ (rv_box rfl rfl tk_CodeRun rfl rfl (lrel_c rfl rfl (cexp_oI rfl rfl hCl.symm rfl) (lrel_c rfl rfl (cexp_oI rfl rfl rfl rfl) (lrel_c rfl rfl (cexp_d rfl (fun _ => .val _)) (lrel_n rfl rfl))))) (.cons_ (rv_e0 rfl rfl) .nil_))
end Go.Proofs.YtmdfjbpggbhgnaaDoor
namespace Go.Proofs.YtmdfjbpggbhgnaaDoor
open Go.RowKit Cd
def cB (l : List Bool) : List C := l.map fun b => .d (.val (.bool b))
def wrP (xs : List Ins) (i : Nat) : Bool := xs.any fun x => x.dst == (i : Int)
def wrM (xs : List Ins) (n : Nat) : List Bool := (List.range n).map (wrP xs)
def wrL (xs : List Ins) (n : Nat) : List Int := ((List.range n).filter (wrP xs)).map fun i : Nat => (i : Int)
end Go.Proofs.YtmdfjbpggbhgnaaDoor
namespace Go.Proofs.YtmdfjbpggbhgnaaDoor
open Go.RowKit Cd
theorem blk_dst {ps : List Prt} {bs : List Bk} {F : List Int} {j : Nat} {c : Int} : (∀ x ∈ blkC ps bs F j c, x.dst = (j : Int)) ∧ ∃ x, x ∈ blkC ps bs F j c ∧ x.dst = (j : Int) := by
  unfold blkC
  dsimp only
  repeat' split
  all_goals simp
theorem del_mem {bs : List Bk} {j : Nat} : j ∈ delL bs ↔ j < bs.length ∧ kindAt bs j = 2 := by
  rw [delL_is]
  unfold dlK dlB
  simp
theorem cell_del {bs : List Bk} {t j : Nat} (h : (delL bs)[t]? = some j) : cellF bs j = (bs.length : Int) + (t : Int) := by
  rw [delL_is] at h
  obtain ⟨_, h2, h3⟩ := dl_at.1 h
  unfold cellF
  rw [if_pos h2, h3]
theorem code_dst {ps : List Prt} {bs : List Bk} {F : List Int} {x : Ins} (h : x ∈ codeM ps bs F) : 0 ≤ x.dst ∧ x.dst < (bs.length : Int) + ((delL bs).length : Int) := by
  unfold codeM at h
  rcases List.mem_append.1 h with h | h
  · rcases List.mem_append.1 h with h | h
    · obtain ⟨j, hj, hx⟩ := List.mem_flatMap.1 h
      have h1 := (ordN_ok bs.length (OutOk.nil bs)).mem j hj
      rw [blk_dst.1 x hx]
      omega
    · obtain ⟨j, hj, rfl⟩ := List.mem_map.1 h
      obtain ⟨t, ht⟩ := List.getElem?_of_mem hj
      have hlt := (List.getElem?_eq_some_iff.1 ht).1
      show 0 ≤ cellF bs j ∧ cellF bs j < _
      rw [cell_del ht]
      omega
  · obtain ⟨j, hj, rfl⟩ := List.mem_map.1 h
    have := (del_mem.1 hj).1
    show 0 ≤ (j : Int) ∧ (j : Int) < _
    omega
theorem run_free {inn : List Int} {j : Nat} : ∀ {xs : List Ins} {st : List Int × Bool}, (∀ x ∈ xs, x.dst.toNat ≠ j) → (xs.foldl (stepV inn) st).1[j]? = st.1[j]?
  | [], _, _ => rfl
  | x :: xs, st, h => by
    rw [List.foldl_cons, run_free fun y hy => h y (List.mem_cons_of_mem _ hy)]
    show (st.1.set x.dst.toNat _)[j]? = _
    rw [List.getElem?_set, if_neg (h x (List.mem_cons_self ..))]
theorem scl_zero {z : Int} (h : shortB z = true) : scl z 0 = z := by
  have := shortB_t h
  unfold scl
  rw [if_neg (by decide)]
  show _ * 1 = z
  rw [Int.mul_one]
  omega
theorem run_moves {bs : List Bk} {inn : List Int} {st : List Int × Bool} (hlen : bs.length + (delL bs).length ≤ st.1.length) (hs : ∀ z ∈ st.1, shortB z = true) : ∀ t, t ≤ (delL bs).length →
    (((delL bs).take t).map (mv2 bs)).foldl (stepV inn) st = ((((delL bs).take t).map (mv2 bs)).foldl (stepV inn) st) ∧
    (∀ k, k < (delL bs).length → ((((delL bs).take t).map (mv2 bs)).foldl (stepV inn) st).1[bs.length + k]? = st.1[bs.length + k]?) ∧
    ((((delL bs).take t).map (mv2 bs)).foldl (stepV inn) st).1.length = st.1.length ∧
    (∀ k j, k < t → (delL bs)[k]? = some j → ((((delL bs).take t).map (mv2 bs)).foldl (stepV inn) st).1[j]? = st.1[bs.length + k]?)
  | 0, _ => ⟨rfl, fun _ _ => rfl, rfl, fun _ _ h => absurd h (Nat.not_lt_zero _)⟩
  | t + 1, ht => by
    obtain ⟨_, ih1, ih2, ih3⟩ := run_moves (inn := inn) hlen hs t (by omega)
    obtain ⟨d, hd⟩ : ∃ d, (delL bs)[t]? = some d := ⟨_, List.getElem?_eq_getElem (by omega)⟩
    have hdn := (del_mem.1 (List.mem_of_getElem? hd)).1
    have hc := cell_del hd
    obtain ⟨z, hz⟩ : ∃ z, st.1[bs.length + t]? = some z := ⟨_, List.getElem?_eq_getElem (by omega)⟩
    have hzs := hs z (List.mem_of_getElem? hz)
    have e : (((delL bs).take (t + 1)).map (mv2 bs)).foldl (stepV inn) st = stepV inn ((((delL bs).take t).map (mv2 bs)).foldl (stepV inn) st) (mv2 bs d) := by
      rw [List.take_add_one, hd]
      simp [List.foldl_append]
    generalize (((delL bs).take t).map (mv2 bs)).foldl (stepV inn) st = A at ih1 ih2 ih3 e
    have hv : insV (mv2 bs d) A.1 inn = z := by
      rw [iv_move (w := z) rfl (by show A.1[(cellF bs d).toNat]? = _; rw [hc, show ((bs.length : Int) + (t : Int)).toNat = bs.length + t by omega, ih1 t (by omega)]; exact hz)]
      exact scl_zero hzs
    have hA : (stepV inn A (mv2 bs d)).1 = A.1.set d z := by
      show A.1.set ((d : Int)).toNat (cutV (insV (mv2 bs d) A.1 inn)) = _
      rw [hv, cutV_in hzs]
      rfl
    rw [e, hA]
    refine ⟨rfl, fun k hk => ?_, by rw [List.length_set]; exact ih2, fun k j hk hj => ?_⟩
    · rw [List.getElem?_set, if_neg (by omega)]
      exact ih1 k hk
    · by_cases hjd : d = j
      · subst hjd
        have hkt : k = t := by
          have h1 := hj; have h2 := hd
          rw [delL_is] at h1 h2
          have := (dl_at.1 h1).2.2; have := (dl_at.1 h2).2.2; omega
        subst hkt
        rw [List.getElem?_set, if_pos rfl, if_pos (by omega)]
        exact hz.symm
      · rw [List.getElem?_set, if_neg hjd]
        refine ih3 k j ?_ hj
        rcases Nat.lt_or_ge k t with h | h
        · exact h
        · exfalso
          have : k = t := by omega
          subst this
          rw [hd] at hj
          exact hjd (Option.some.inj hj)
theorem inp_fit {ps : List Prt} {is : List Int} {xs : List Ins} {os inn : List Int} (hp : progErr ps is xs os = 0) (k : Nat) (p : Prt) (z : Int) (h1 : ps[k]? = some p) (h2 : (inpV ps inn ps.length)[k]? = some z) : p.lo ≤ z ∧ z ≤ p.hi := by
  have hk := (List.getElem?_eq_some_iff.1 h1).1
  have := prog_zero hp (portErr p) (by simp only [List.mem_append, List.mem_map]; exact .inl ⟨p, List.mem_of_getElem? h1, rfl⟩)
  have hle : p.lo ≤ p.hi := by
    unfold portErr at this
    exact Classical.byContradiction fun hn => by rw [if_neg (fun h => hn h.2.2.1)] at this; cases this
  unfold inpV at h2
  rw [List.getElem?_map, List.getElem?_range hk] at h2
  simp only [Option.map_some, Option.some.injEq, h1, Option.getD_some] at h2
  subst h2
  unfold clipI
  omega
end Go.Proofs.YtmdfjbpggbhgnaaDoor
namespace Go.Proofs.YtmdfjbpggbhgnaaDoor
open Go.RowKit
end Go.Proofs.YtmdfjbpggbhgnaaDoor
namespace Go.Proofs.YtmdfjbpggbhgnaaDoor
open Go.RowKit Cd
theorem start_cv (t : Bool) {ps : List Prt} {is : List Int} {xs : List Ins} {os : List Int} (hp : progErr ps is xs os = 0) : CV Tryd.prog TabAt 10 [aProg t ps is xs os] [.one (rowI false is), aE 0] := by
  refine cvz Tryd.func10 Tryd.ntmps10 ?_
  obtain ⟨hp1, hi1, hx1, ho1⟩ := prog_len hp
  have CK := pcheck_t t (Nat.le_trans hp1 (by decide)) (Nat.le_trans hi1 (by decide)) (Nat.le_trans hx1 (by decide)) (Nat.le_trans ho1 (by decide)) hp
  have hc1 : is.length ≤ 1000000 := by omega
  repeat' (with_reducible first | apply qa | apply qb | apply qc | apply qd | apply qe | apply qf | apply qg | apply qh | apply qi | apply qj | apply qk | apply ql rfl | apply qm rfl | apply qn rfl | apply Je | (refine Tx 0 ?_; refine Jn xBo ?_; refine Ja ?_; refine Ja ?_) | (refine Tx 1 ?_; refine Jo (xLa tk_Program) ?_; refine Jo (xCl Tryd.func24 (CK)) ?_; refine Ja ?_) | (refine Tx 2 ?_; refine Jm ?_; refine Jo (xNE ti_error) ?_) | (refine Tx 4 ?_; refine Jo (by exact ok_build0 rfl ts_s_int) ?_; refine Jo (xFa tf_Program1 tk_s_int) ?_; refine Jo (xLd tk_s_int) ?_; refine Jo (by exact ok_append0 rfl rfl (.inl rfl) rfl (ints_free _) ts_s_int tz_int (hc1) (by decide) (by decide)) ?_; refine Ja ?_; refine Ja ?_))
  exact ret_q rfl (.cons_ (.tmp (.one (cexp_d rfl fun _ => free_I _))) (.cons_ (rv_e0 rfl rfl) .nil_))
end Go.Proofs.YtmdfjbpggbhgnaaDoor
namespace Go.Proofs.YtmdfjbpggbhgnaaDoor
open Go.RowKit Cd
theorem fold_flag {inn : List Int} : ∀ {xs : List Ins} {st : List Int × Bool}, (xs.foldl (stepV inn) st).2 = false → st.2 = false
  | [], _, h => h
  | x :: xs, st, h => by
    have h1 := fold_flag (xs := xs) (st := stepV inn st x) h
    simp only [stepV, Bool.or_eq_false_iff] at h1
    exact h1.1
theorem fold_len {inn : List Int} : ∀ {xs : List Ins} {st : List Int × Bool}, (xs.foldl (stepV inn) st).1.length = st.1.length
  | [], _ => rfl
  | x :: xs, st => by rw [List.foldl_cons, fold_len]; simp [stepV]
theorem fold_short {inn : List Int} : ∀ {xs : List Ins} {st : List Int × Bool}, (∀ z ∈ st.1, shortB z = true) → ∀ z ∈ (xs.foldl (stepV inn) st).1, shortB z = true
  | [], _, h => h
  | x :: xs, st, h => fold_short (xs := xs) (st := stepV inn st x) fun z hz => by
    rcases List.mem_or_eq_of_mem_set hz with hz | rfl
    · exact h z hz
    · exact cutV_short _
section
variable {ps : List Prt} {bs : List Bk} {F inn : List Int}
def bef (bs : List Bk) (F V : List Int) (a : Nat) : Option Int := if kindAt bs a = 2 then (initM bs F)[a]? else V[a]?
structure AtBlk (ps : List Prt) (bs : List Bk) (F inn : List Int) (j : Nat) (st : List Int × Bool) : Prop where
  arg : ∀ a ∈ preds bs j, 0 ≤ a → a < bs.length → st.1[a.toNat]? = bef bs F (runV inn (codeM ps bs F) (initM bs F)).1 a.toNat
  up : ∀ c, bs.length ≤ c → st.1[c]? = (initM bs F)[c]?
  len : st.1.length = (initM bs F).length
  short : ∀ z ∈ st.1, shortB z = true
  flag : ((blkC ps bs F j (cellF bs j)).foldl (stepV inn) st).2 = false
  out : (runV inn (codeM ps bs F) (initM bs F)).1[j]? = ((blkC ps bs F j (cellF bs j)).foldl (stepV inn) st).1[j]?
end
theorem pw2 (n : Nat) : (0 : Int) < 2 ^ n := Int.pow_pos (by decide)
theorem scl_unclamped {z k : Int} (h : shortB (scl z k) = true) : k < 0 ∨ (-4294967296 ≤ z ∧ z ≤ 4294967296) := by
  by_cases hk : k < 0
  · exact .inl hk
  · refine .inr (Classical.byContradiction fun hn => ?_)
    have h1 := shortB_t h
    unfold scl at h1
    rw [if_neg hk] at h1
    have hp : (1 : Int) ≤ 2 ^ k.toNat := pw2 _
    rcases (show max (-4294967296) (min z 4294967296) = 4294967296 ∨ max (-4294967296) (min z 4294967296) = -4294967296 by omega) with e | e
    · rw [e] at h1; omega
    · rw [e] at h1; omega
end Go.Proofs.YtmdfjbpggbhgnaaDoor
namespace Go.Proofs.YtmdfjbpggbhgnaaDoor
open Go.RowKit Cd
theorem cp_facts {ps : List Prt} {bs : List Bk} {F : List Int} (h : cpErr ps bs F = 0) : F.length = bs.length ∧ F.all scOk30 = true ∧ ∀ j, j < bs.length → conE bs F j = 0 := by
  unfold cpErr at h
  by_cases h1 : F.length = bs.length
  · rw [if_neg (not_not_intro h1)] at h
    by_cases h2 : F.all scOk30 = true
    · rw [if_neg (not_not_intro h2)] at h
      by_cases h3 : firstErr ((List.range bs.length).map (conE bs F)) = 0
      · exact ⟨h1, h2, fun j hj => firstErr_zero h3 _ (List.mem_map.2 ⟨j, List.mem_range.2 hj, rfl⟩)⟩
      · rw [if_pos h3] at h; exact absurd h h3
    · rw [if_pos h2] at h; cases h
  · rw [if_pos h1] at h; cases h
def zA (bs : List Bk) (F V : List Int) (a : Int) : Int := (bef bs F V a.toNat).getD 0
def argL (bs : List Bk) (F V : List Int) (y : Bk) : List (Int × Nat) := y.args.map fun a => dyShift (zA bs F V a) 0 (-(scA F a.toNat))
def unitsB (y : Bk) : Int := max (y.args.length : Int) 1 + (if y.kind = 11 then 1 else 0)
def un (s : Int) : Int := 2 ^ (-s + 200).toNat
section
variable {ps : List Prt} {bs : List Bk} {os F inn : List Int}
theorem flat2_get {α β : Type} (f g : α → β) : ∀ (l : List α) (t : Nat), (l.flatMap fun j => [f j, g j])[2 * t]? = (l[t]?).map f ∧ (l.flatMap fun j => [f j, g j])[2 * t + 1]? = (l[t]?).map g
  | [], t => by simp
  | x :: l, 0 => by simp
  | x :: l, t + 1 => by
    have ih := flat2_get f g l t
    rw [List.flatMap_cons, show 2 * (t + 1) = 2 * t + 2 by omega]
    exact ih
theorem clip_init {j : Nat} (hj : j < bs.length) (hk : kindAt bs j = 11) : bs.length ≤ (cellF bs j).toNat ∧ (initM bs F)[(cellF bs j).toNat]? = some (conV bs F j) ∧ (initM bs F)[(cellF bs j + 1).toNat]? = some (conU bs F j) := by
  have ht : (cpK bs bs.length)[rank (cpB bs) j]? = some j := cp_at.2 ⟨hj, hk, rfl⟩
  have hc : cellF bs j = (bs.length : Int) + ((dlK bs bs.length).length : Int) + 2 * (rank (cpB bs) j : Int) := by unfold cellF; rw [if_neg (by omega), if_pos hk]
  have hg := flat2_get (fun j => conV bs F j) (fun j => conU bs F j) (cpK bs bs.length) (rank (cpB bs) j)
  rw [ht] at hg
  have hpre : (tab bs.length (fun j => if kindAt bs j = 2 then conV bs F j else 0) ++ List.replicate (delL bs).length 0).length = bs.length + (dlK bs bs.length).length := by rw [List.length_append, tab_len, List.length_replicate, delL_is]
  refine ⟨by omega, ?_, ?_⟩
  · unfold initM
    rw [List.getElem?_append_right (by omega), hpre, show (cellF bs j).toNat - (bs.length + (dlK bs bs.length).length) = 2 * rank (cpB bs) j by omega]
    exact hg.1
  · unfold initM
    rw [List.getElem?_append_right (by omega), hpre, show (cellF bs j + 1).toNat - (bs.length + (dlK bs bs.length).length) = 2 * rank (cpB bs) j + 1 by omega]
    exact hg.2
def NearB (bs : List Bk) (F V : List Int) (y : Bk) (j : Nat) (s : Int) : Prop :=
  ∃ C W : Int, V[j]? = some C ∧ Rp (blkD y (argL bs F V y)) W ∧ Sm (blkD y (argL bs F V y)) 1000 400 ∧ (((C * un s - W).natAbs : Nat) : Int) ≤ unitsB y * un s
end
end Go.Proofs.YtmdfjbpggbhgnaaDoor
namespace Go.Proofs.YtmdfjbpggbhgnaaDoor
open Go.RowKit Cd
end Go.Proofs.YtmdfjbpggbhgnaaDoor
namespace Go.Proofs.YtmdfjbpggbhgnaaDoor
open Go.RowKit Cd
end Go.Proofs.YtmdfjbpggbhgnaaDoor
namespace Go.Proofs.YtmdfjbpggbhgnaaDoor
open Go.RowKit
theorem wk_freeze {N : Nat} {F : Frm} {H : List Ob} {ty s n : Nat} {ds : List D} (t id : Nat) (h : F t = .one (.own id n)) (hH : H[id]? = some (.row ty s n (ds.map C.d))) : Wk N F H (F.put (some t) (.one (.d (.row false s n ds)))) (H.set id .dead) := fun b0 w0 S0 a m hm hs => by
  subst hm
  have hv := hs.frame t
  rw [h] at hv
  obtain ⟨xs, hE, hat, hl⟩ := own_form hs.cx hv hH
  generalize hvv : a.tmps.getD t undef = v at hv hE hat
  have hidl := (List.getElem?_eq_some_iff.1 hH).1
  have hset : ∀ i ob, (m.H.set id .dead)[i]? = some ob → (i = id ∧ ob = .dead) ∨ (i ≠ id ∧ m.H[i]? = some ob) := fun i ob hi => by
    rw [List.getElem?_set] at hi
    by_cases e : id = i
    · rw [if_pos e, if_pos (by omega)] at hi
      exact .inl ⟨e.symm, (Option.some.inj hi).symm⟩
    · rw [if_neg e] at hi
      exact .inr ⟨fun h => e h.symm, hi⟩
  have hget : ∀ i e, (if i = id then none else m.E i) = some e → i ≠ id ∧ m.E i = some e := fun i e hi => by
    by_cases q : i = id
    · rw [if_pos q] at hi; cases hi
    · rw [if_neg q] at hi; exact ⟨q, hi⟩
  have hle : Le m { m with S := fun t b => m.S t b ∨ (t = false ∧ v.ownBlock = some b), H := m.H.set id .dead, E := fun i => if i = id then none else m.E i } := by
    refine ⟨fun t b h => .inl h, ?_, fun _ _ _ => rfl, fun i ob hob => ?_⟩
    · funext b
      simp
    · by_cases q : i = id
      · subst q
        exact ⟨.dead, by show (m.H.set i .dead)[i]? = _; rw [List.getElem?_set, if_pos rfl, if_pos hidl], fun k hk => by cases hk⟩
      · exact ⟨ob, by show (m.H.set id .dead)[i]? = _; rw [List.getElem?_set, if_neg (fun h => q h.symm)]; exact hob, Newer.same fun e he => by show (if i = id then none else m.E i) = some e; rw [if_neg q]; exact he⟩
  refine ⟨{ m with S := fun t b => m.S t b ∨ (t = false ∧ v.ownBlock = some b), H := m.H.set id .dead, E := fun i => if i = id then none else m.E i }, rfl, rfl, ⟨⟨fun i e hi => ?_, fun i j e e' hij hi hj => ?_, fun i e g t' hi hg => ?_, fun t' b hb => ?_⟩, fun i ob hob hk => ?_, fun t' => ?_, hs.size, hs.defers, hs.below, hs.base, fun b hb => ?_, ?_⟩⟩
  · obtain ⟨q, hi⟩ := hget i e hi
    obtain ⟨h1, ob, h2, h3⟩ := hs.cx.each i e hi
    exact ⟨h1, ob, by show (m.H.set id .dead)[i]? = _; rw [List.getElem?_set, if_neg (fun h => q h.symm)]; exact h2, h3.le hle⟩
  · exact hs.cx.apart i j e e' hij (hget i e hi).2 (hget j e' hj).2
  · obtain ⟨q, hi⟩ := hget i e hi
    rintro (hb | ⟨rfl, hb⟩)
    · exact hs.cx.far i e g t' hi hg hb
    · exact hs.cx.apart i id e _ q hi hE g hg hb
  · rcases hb with hb | ⟨_, hb⟩
    · exact hs.cx.lt t' b hb
    · exact (World.ownsRow.lt hat b hb).2
  · rcases hset i ob hob with ⟨_, rfl⟩ | ⟨q, h1⟩
    · cases hk
    · show (if i = id then none else m.E i).isSome = true
      rw [if_neg q]
      exact hs.tot i ob h1 hk
  · rw [put_at]
    split
    · rename_i ht
      cases ht
      rw [hvv]
      have hld : LRel (DRel m.w m.S) ds xs := ⟨by have := hl.1; simpa using this, fun j x y hx hy => hl.2 j (.d x) y (by simp [hx]) hy⟩
      show DRel _ _ (.row false s n ds) v
      rcases hat.2 with ⟨rfl, h0⟩ | ⟨g, cap, cur, rfl, hb, hg, hnc, _, hcur, hxs⟩
      · subst h0
        have hx0 : xs = [] := List.eq_nil_of_length_eq_zero (by have := hat.1; simpa using this)
        subst hx0
        have hd0 : ds = [] := List.eq_nil_of_length_eq_zero (by have := hld.1; simpa using this)
        subst hd0
        exact .row [] (Nat.le_refl _) (fun _ => rfl) (by simp) rfl (fun h => absurd rfl h) (fun j u x hu => by simp at hu)
      · refine .row xs hnc (by simp) (by rw [hld.1]; exact hat.1) hld.1 (fun _ => ⟨g, 0, rfl, .inr ⟨rfl, rfl⟩, fun j x hj => ?_⟩) (fun j u x hu hx => DRel.le hle (hld.2 j u x hu hx))
        rw [Nat.zero_add, cell_of_row _ g j _ ty (0, 0) hg]
        have hj' : (cur.toList.take (n * s))[j]? = some x := by rw [hxs]; exact hj
        rw [List.getElem?_take] at hj'
        split at hj'
        · simpa using hj'
        · cases hj'
    · exact (hs.frame t').le hle
  · rcases hb with hb | ⟨_, hb⟩
    · exact hs.S b hb
    · exact .inr (World.ownsRow.lt hat b hb).1
  · exact hle.T.trans hs.T
def wdN (n : Nat) : List D := (w32 (canon n)).map D.val
def rowC (t : Bool) (n : Nat) : D := .row t 1 (canon n).length (wdN n)
theorem wdN_D (n : Nat) : wdN n = (canon n).map dW := w32_D _
theorem wdN_at {n k p : Nat} (h : (canon n)[k]? = some p) : ((wdN n).drop (k * 1)).take 1 = [dW p] := by
  rw [wdN_D]
  exact word_at h
theorem cW_D (ws : List Nat) : cW ws = (ws.map dW).map C.d := by simp [cW]
theorem words_in {w : World} {S : Sets} {t : Bool} {n : Nat} {ws : List Nat} {v : Value} (h : DRel w S (.row t 1 n (ws.map dW)) v) (hS : ∀ t b, S t b → b < w.heap.size) (hn : n = ws.length) : ∃ A c, v = .slice A ws.length c ∧ (A = none → c = 0) ∧ ws.length ≤ c ∧ CellsAt w w.heap.size A (w32 ws) ∧ (ws ≠ [] → ∃ b off, A = some ⟨b, off, none⟩ ∧ S t b ∧ ∀ (j : Nat) (x : Value), (w32 ws)[j]? = some x → w.cell? ⟨b, off + j, none⟩ = some x) := by
  subst hn
  cases h with
  | @row _ _ _ c cs A xs hc hA hl hx hm hr =>
    have hw : xs = w32 ws := vals_rel (vs := w32 ws) (by rw [w32_D]; exact ⟨hx, hr⟩)
    subst hw
    refine ⟨A, c, rfl, hA, hc, fun hne => ?_, fun hne => hm fun h => hne (List.map_eq_nil_iff.1 h)⟩
    obtain ⟨b, off, rfl, hb, hcell⟩ := hm (fun h => hne (by rw [List.map_eq_nil_iff.1 h]; rfl))
    exact ⟨b, off, rfl, hS _ _ hb, hS _ _ hb, hcell⟩
theorem wd_in {w : World} {S : Sets} {t : Bool} {n : Nat} {v : Value} (h : DRel w S (rowC t n) v) (hS : ∀ t b, S t b → b < w.heap.size) : WdR w w.heap.size v n := by
  unfold rowC at h
  rw [wdN_D] at h
  obtain ⟨A, c, rfl, h1, h2, h3, _⟩ := words_in h hS rfl
  exact ⟨A, c, rfl, h1, h2, h3⟩
theorem words_rel {w : World} {S : Sets} {t : Bool} {A : Option Addr} {c n : Nat} {ws : List Nat} (hn : n = ws.length) (hc : n ≤ c) (hA : A = none → c = 0) (hm : ws ≠ [] → ∃ b off, A = some ⟨b, off, none⟩ ∧ S t b ∧ ∀ (j : Nat) (x : Value), (w32 ws)[j]? = some x → w.cell? ⟨b, off + j, none⟩ = some x) : DRel w S (.row t 1 n (ws.map dW)) (.slice A n c) := by
  subst hn
  refine .row (w32 ws) hc hA (by simp) (by simp [w32]) (fun hne => hm fun h => hne (by rw [h]; rfl)) (fun j u x hu hx => ?_)
  rw [← w32_D, List.getElem?_map, hx] at hu
  cases hu
  exact .val (w32_one (List.mem_of_getElem? hx))
section
variable {G : World → Prop}
theorem ptrim_cv (ws : List Nat) (n : Nat) (hn : n = ws.length) (hw : wordsOk ws) (hl : ws.length ≤ 1000000) : CV Tryd.prog G 57 [.one (.row false 1 n (ws.map dW))] [.one (rowC false (wval ws))] := fun w S vs hg hlt ha => by
  obtain ⟨u, hu, h2⟩ := one_arg ha
  subst hu
  obtain ⟨A, c, rfl, h1, h3, h4, h5⟩ := words_in h2 hlt hn
  refine (ptrim_any A ws c w.heap.size w h4 h3 hl).mono fun r w' ⟨he, hww⟩ => ?_
  subst hww
  refine ⟨_, he, ?_, Below.refl _ _⟩
  show DRel _ _ (rowC false (wval ws)) _
  have hcan := trim_canon hw
  have hle : (trimL ws).length ≤ ws.length := by rw [trimL_len]; exact trimN_le _ _
  unfold rowC
  rw [wdN_D, ← hcan]
  refine words_rel rfl (by omega) h1 fun hne => ?_
  obtain ⟨b, off, hA, hb, hc⟩ := h5 (fun h => hne (by rw [h]; rfl))
  refine ⟨b, off, hA, ⟨rfl, .inl hb⟩, fun j x hj => hc j x ?_⟩
  have : w32 (trimL ws) = (w32 ws).take (trimN ws ws.length) := by unfold w32 trimL; rw [List.map_take]
  rw [this, List.getElem?_take] at hj
  split at hj
  · exact hj
  · cases hj
theorem parts_cv (x : Int) (d : Nat) (hn : Nf x d) (hl : (canon x.natAbs).length ≤ 100000) : CV Tryd.prog G 46 [aDy false x d] [aB (decide (x < 0)), .one (rowC false x.natAbs), aI (d : Int)] := fun w S vs hg hlt ha => by
  obtain ⟨u, hu, h3⟩ := one_arg ha
  subst hu
  have hD := dy_in h3 hlt hn
  obtain ⟨xs, rfl, h4⟩ := h3
  obtain ⟨a, l1, rfl, q0, h5⟩ := h4.uncons
  obtain ⟨b, l2, rfl, q1, h6⟩ := h5.uncons
  obtain ⟨c, l3, rfl, q2, h7⟩ := h6.uncons
  rw [h7.unnil] at hD ⊢
  refine (parts_w hD (Nat.le_refl _) hl).mono fun r w' ⟨nb, A, L, cc, e, he, hb⟩ => ?_
  injection e with e
  have e2 := congrArg Array.toList e
  simp only [List.cons.injEq, and_true] at e2
  obtain ⟨rfl, rfl, rfl⟩ := e2
  refine ⟨_, he, ⟨[_, _, _], rfl, .cons_ ?_ (.cons_ ?_ (.cons_ ?_ .nil_))⟩, hb⟩
  · cases q0; exact DRel.val rfl
  · have h8 : DRel w (fun t b => t = false ∧ S false b) (rowC false x.natAbs) (.slice A L cc) := DRel.free (fun b h => ⟨rfl, h⟩) q1 (.row fun d hd => by obtain ⟨v, _, rfl⟩ := List.mem_map.1 hd; exact .val _)
    exact h8.mono (fun t b h => ⟨h.1, .inl h.2⟩) (fun t b h => hb.block b (hlt _ _ h.2))
  · exact DRel.val rfl
theorem pcompare_cv (t t' : Bool) (a b : Nat) (l1 : (canon a).length ≤ 100000) (l2 : (canon b).length ≤ 100000) : CVF Tryd.prog G 35 [.one (rowC t a), .one (rowC t' b)] [aI (sgI ((a : Int) - (b : Int)))] := fun w S vs hg hlt ha => by
  obtain ⟨v, vs', rfl, h1, ha⟩ := ha.uncons
  obtain ⟨u, hu, h2⟩ := one_arg ha
  subst hu
  exact (pcompare_w (wd_in h1 hlt) (wd_in h2 hlt) l1 l2).mono fun r w' ⟨he, hb⟩ => ⟨_, he, DRel.val rfl, hb⟩
end
theorem presult_cv (t neg : Bool) (n d : Nat) (hl : (canon n).length ≤ 100000) (hd : d ≤ 65536) : CVF Tryd.prog TabAt 36 [aB neg, .one (rowC t n), aI (d : Int)] [aDy false (nf (sg neg n) d).1 (nf (sg neg n) d).2] := fun w S vs hg hlt hv => by
  obtain ⟨v, vs', rfl, q1, hv⟩ := hv.uncons
  obtain ⟨v2, vs', rfl, q2, hv⟩ := hv.uncons
  obtain ⟨u, hu, q3⟩ := one_arg hv
  subst hu
  cases q1
  cases q3
  exact (presult_v (neg := neg) (wd_in q2 hlt) (Nat.le_refl _) hl hd hg).mono fun r w' ⟨v, he, hd, hb⟩ => ⟨v, he, dy_out hd, hb⟩
theorem patt_cv (t : Bool) (ws : List Nat) (n i : Nat) (hn : n = ws.length) (hi : i ≤ 1000000) (hl : ws.length ≤ 1000000) : CVF Tryd.prog TabAt 68 [.one (.row t 1 n (ws.map dW)), aI (i : Int)] [.one (dW (ws[i]?.getD 0))] := fun w S vs hg hlt hv => by
  obtain ⟨v, vs', rfl, q1, hv⟩ := hv.uncons
  obtain ⟨u, hu, q3⟩ := one_arg hv
  subst hu
  cases q3
  obtain ⟨A, c, rfl, h1, h3, h4, h5⟩ := words_in q1 hlt hn
  refine (at_any A ws c i w.heap.size w h4 hi hl).mono fun r w' ⟨he, hb⟩ => ?_
  subst hb
  exact ⟨_, he, DRel.val rfl, Below.refl _ _⟩
theorem add32_cv (x y c : Nat) (hx : x < 4294967296) (hy : y < 4294967296) (hc : c ≤ 1) : CVF Tryd.prog TabAt 69 [.one (dW x), .one (dW y), .one (dW c)] [.one (dW ((x + y + c) % 4294967296)), .one (dW ((x + y + c) / 4294967296))] := fun w S vs hg hlt hv => by
  obtain ⟨v, vs', rfl, q1, hv⟩ := hv.uncons
  obtain ⟨v2, vs', rfl, q2, hv⟩ := hv.uncons
  obtain ⟨u, hu, q3⟩ := one_arg hv
  subst hu
  cases q1
  cases q2
  cases q3
  refine (add32_any x y c w hx hy hc).mono fun r w' ⟨he, hw⟩ => ?_
  subst hw
  exact ⟨_, he, two_rel (DRel.val rfl) (DRel.val rfl), Below.refl _ _⟩
theorem free_C (n : Nat) : DFree (rowC false n) := .row fun d hd => by obtain ⟨v, _, rfl⟩ := List.mem_map.1 hd; exact .val _
theorem ts_dyadic_nat : TyS Tryd.prog 85 101 1 := ⟨Tryd.underlying85, by kernel_rfl⟩
theorem nmul_cv (a b : Nat) (l1 : (canon a).length ≤ 100000) (l2 : (canon b).length ≤ 100000) : CV Tryd.prog TabAt 66 [.one (rowC false a), .one (rowC false b)] [.one (rowC false (a * b))] := by
  refine cvz Tryd.func66 Tryd.ntmps66 ?_
  have hax := canon_ok a
  have hay := canon_ok b
  repeat' (with_reducible first | apply qa | apply qb | apply qc | apply qd | apply qe | apply qf | apply qg | apply qh | apply qi | apply qj | apply qk | apply ql rfl | apply qm rfl | apply qn rfl | apply Je | (refine Tx 0 ?_; refine Ja ?_) | (refine Tx 1 ?_; refine Jm ?_; refine Jo (xLn ts_dyadic_nat) ?_; refine Jm ?_; refine Jo (xLn ts_dyadic_nat) ?_; refine Jo xAd ?_; refine Jn (by first | exact ok_makeW (n := (canon a).length + (canon b).length) rfl rfl rfl (by omega) ts_dyadic_nat tz_uint32 (by omega) (by decide) | exact ok_makeSlice rfl rfl rfl ts_dyadic_nat tz_uint32 (by omega) (by decide)) ?_; refine Ja ?_) | (refine Tx 2 ?_; refine Jm ?_; refine Jo (xLn ts_dyadic_nat) ?_; refine Jm ?_))
  refine cw_wk (F' := ofL [(0, vd (rowC false a)), (1, vd (rowC false b)), (5, vo 0 (((canon a).length + (canon b).length))), (17, vi ((canon a).length)), (18, vi ((0 : Nat)))]) (H' := [.row 101 1 ((canon a).length + (canon b).length) (cW (List.replicate ((canon a).length + (canon b).length) 0))]) (wk_go _ 1 ?_ ?_ ?_) ?_
  · rfl
  · exact mB rfl rfl
  · exact ⟨bel_cW, trivial⟩
  refine cw_loopW (fun n Fr H => ∃ (i : Nat) (o : List Nat), i ≤ (canon a).length ∧ n = (canon a).length - i ∧ MulOut (canon a) (canon b) i o ∧ Fr = ofL [(0, vd (rowC false a)), (1, vd (rowC false b)), (5, vo 0 (((canon a).length + (canon b).length))), (17, vi ((canon a).length)), (18, vi ((i : Nat)))] ∧ H = [.row 101 1 ((canon a).length + (canon b).length) (cW o)]) (n0 := (canon a).length) ⟨0, (List.replicate ((canon a).length + (canon b).length) 0), Nat.zero_le _, rfl, MulOut.start _ _, rfl, rfl⟩ ?_
  rintro n Fr H ⟨i, o, hi, rfl, ho, rfl, rfl⟩
  by_cases hlt : i < (canon a).length
  case pos =>
    obtain ⟨p, hp⟩ : ∃ p, (canon a)[i]? = some p := ⟨_, List.getElem?_eq_getElem hlt⟩
    have hpk := hax p (List.mem_of_getElem? hp)
    have hp2 := wdN_at hp
    repeat' (with_reducible first | apply qa | apply qb | apply qc | apply qd | apply qe | apply qf | apply qg | apply qh | apply qi | apply qj | apply qk | apply ql rfl | apply qm rfl | apply qn rfl | apply Je | (refine Tx 3 ?_; refine Jo xLt ?_) | (refine Tx 4 ?_; refine Jm ?_; refine Ja ?_) | (refine Tx 5 ?_; refine Ja ?_) | (refine Tx 6 ?_; refine Jm ?_; refine Jo (xLn ts_dyadic_nat) ?_; refine Jm ?_))
    refine cw_wk (F' := ofL [(0, vd (rowC false a)), (1, vd (rowC false b)), (5, vo 0 (((canon a).length + (canon b).length))), (6, vi i), (17, vi ((canon a).length)), (18, vi ((i : Nat))), (7, vd (.val (.int .u64 ((0 : Nat) : Int)))), (22, vi ((canon b).length)), (23, vi ((0 : Nat)))]) (H' := [.row 101 1 ((canon a).length + (canon b).length) (cW o)]) (wk_go _ 1 ?_ ?_ ?_) ?_
    · rfl
    · exact mB rfl rfl
    · exact ⟨bel_cW, trivial⟩
    refine cw_loopW (fun n Fr H => ∃ (k : Nat) (q : List Nat) (c : Nat), k ≤ (canon b).length ∧ n = (canon b).length - k ∧ MulIn (canon b) o i p k q c ∧ Fr = ofL [(0, vd (rowC false a)), (1, vd (rowC false b)), (5, vo 0 (((canon a).length + (canon b).length))), (6, vi i), (17, vi ((canon a).length)), (18, vi ((i : Nat))), (7, vd (.val (.int .u64 ((c : Nat) : Int)))), (22, vi ((canon b).length)), (23, vi ((k : Nat)))] ∧ H = [.row 101 1 ((canon a).length + (canon b).length) (cW q)]) (n0 := (canon b).length) ⟨0, o, 0, Nat.zero_le _, rfl, ho.enter, rfl, rfl⟩ ?_
    rintro n Fr H ⟨k, q, c, hk, rfl, hq, rfl, rfl⟩
    by_cases hlt2 : k < (canon b).length
    case pos =>
      obtain ⟨r, hr⟩ : ∃ r, (canon b)[k]? = some r := ⟨_, List.getElem?_eq_getElem hlt2⟩
      have hrk := hay r (List.mem_of_getElem? hr)
      have hr2 := wdN_at hr
      have hql := hq.len
      have hol := ho.len
      obtain ⟨u, hu⟩ : ∃ u, q[i + k]? = some u := ⟨_, List.getElem?_eq_getElem (by omega)⟩
      have hu2 := hq.ok u (List.mem_of_getElem? hu)
      obtain ⟨f1, f2⟩ := hq.fit hpk hrk hu
      have hst := hq.step hpk hay hr hu
      have m1 : IntKind.wrap .u64 (p : Int) = (p : Int) := u64_in (by omega) (by omega)
      have m2 : IntKind.wrap .u64 (r : Int) = (r : Int) := u64_in (by omega) (by omega)
      have m3 : IntKind.wrap .u64 ((p : Int) * (r : Int)) = ((p * r : Nat) : Int) := by rw [← Int.natCast_mul]; exact u64_in (by omega) (by omega)
      have m4 : IntKind.wrap .u64 (u : Int) = (u : Int) := u64_in (by omega) (by omega)
      have m5 : IntKind.wrap .u64 (((p * r : Nat) : Int) + (u : Int)) = ((p * r + u : Nat) : Int) := u64_in (by omega) (by omega)
      have m6 : IntKind.wrap .u64 (((p * r + u : Nat) : Int) + (c : Int)) = ((c + (p * r + u) : Nat) : Int) := by rw [u64_in (by omega) (by omega)]; omega
      have m7 := u32_cut (c + (p * r + u))
      have tl : i + k < q.length := by omega
      generalize hm : p * r + u = m at *
      repeat' (with_reducible first | apply qa | apply qb | apply qc | apply qd | apply qe | apply qf | apply qg | apply qh | apply qi | apply qj | apply qk | apply ql rfl | apply qm rfl | apply qn rfl | apply Je | (refine Tx 7 ?_; refine Jo xLt ?_) | (refine Tx 8 ?_; refine Jm ?_; refine Ja ?_) | (refine cw_any (id := 9) mixed (by kernel_rfl) ?_; refine Km ?_; refine Km ?_; refine Ko (by first | exact xIr ts_dyadic_nat (hp2) | exact xIr ts_dyadic_nat (hr2) | exact ok_ixO (i := i + k) rfl rfl rfl rfl (by omega) ts_dyadic_nat (by omega) (by decide)) ?_; refine Ko (by first | exact ok_ldW rfl rfl rfl hu tk_uint32 | exact xLd tk_uint32) ?_; refine Ko (by first | exact ok_convR rfl Tryd.underlying101 Tryd.underlying89 rfl m1 | exact ok_conv rfl Tryd.underlying101 Tryd.underlying89 rfl) ?_; refine Km ?_; refine Km ?_; refine Ko (by first | exact xIr ts_dyadic_nat (hp2) | exact xIr ts_dyadic_nat (hr2) | exact ok_ixO (i := i + k) rfl rfl rfl rfl (by omega) ts_dyadic_nat (by omega) (by decide)) ?_; refine Ko (by first | exact ok_ldW rfl rfl rfl hu tk_uint32 | exact xLd tk_uint32) ?_; refine Ko (by first | exact ok_convR rfl Tryd.underlying101 Tryd.underlying89 rfl m2 | exact ok_conv rfl Tryd.underlying101 Tryd.underlying89 rfl) ?_; refine Ko (by first | exact ok_mulR rfl rfl rfl m3 | exact ok_mul64 rfl rfl rfl (by omega)) ?_; refine Km ?_; refine Km ?_; refine Km ?_; refine Ko xAd ?_; refine Ko (by first | exact xIr ts_dyadic_nat (hp2) | exact xIr ts_dyadic_nat (hr2) | exact ok_ixO (i := i + k) rfl rfl rfl rfl (by omega) ts_dyadic_nat (by omega) (by decide)) ?_; refine Ko (by first | exact ok_ldW rfl rfl rfl hu tk_uint32 | exact xLd tk_uint32) ?_; refine Ko (by first | exact ok_convR rfl Tryd.underlying101 Tryd.underlying89 rfl m4 | exact ok_conv rfl Tryd.underlying101 Tryd.underlying89 rfl) ?_; refine Ko (by first | exact ok_addR rfl rfl rfl m5 | exact xAd) ?_; refine Km ?_; refine Ko (by first | exact ok_addR rfl rfl rfl m6 | exact xAd) ?_; refine Ka ?_; refine Ke ?_) | (refine Tx 10 ?_; refine Jm ?_; refine Jm ?_; refine Jm ?_; refine Jo xAd ?_; refine Jm ?_; refine Jo (by first | exact ok_convR rfl Tryd.underlying89 Tryd.underlying101 rfl m7 | exact ok_conv rfl Tryd.underlying89 Tryd.underlying101 rfl) ?_; refine Jo (by first | exact xIr ts_dyadic_nat (hp2) | exact xIr ts_dyadic_nat (hr2) | exact ok_ixO (i := i + k) rfl rfl rfl rfl (by omega) ts_dyadic_nat (by omega) (by decide)) ?_; refine Js (by first | exact to_stW rfl rfl rfl rfl rfl tk_uint32 tl rfl | exact xS1 tk_uint32 | exact xSk tk_uint32) ?_) | (refine Tx 11 ?_; refine Jm ?_; refine Jo (by exact ok_shr32 rfl rfl rfl) ?_; refine Ja ?_) | (refine Tx 12 ?_; refine Jo xAd ?_; refine Jm ?_))
      refine ⟨_, _, wk_go _ 1 ?_ ?_ ?_, _, by omega, k + 1, _, _, by omega, rfl, hst, rfl, rfl⟩
      · rfl
      · exact mB rfl rfl
      · exact ⟨bel_cW, trivial⟩
    obtain rfl : k = (canon b).length := by omega
    have hql := hq.len
    have hol := ho.len
    have hlv := ho.leave hp hq
    have tl : i + (canon b).length < q.length := by omega
    have hck := hq.car
    have m8 : IntKind.wrap .u32 (c : Int) = (c : Int) := by rw [u32_cut, Nat.mod_eq_of_lt hck]
    repeat' (with_reducible first | apply qa | apply qb | apply qc | apply qd | apply qe | apply qf | apply qg | apply qh | apply qi | apply qj | apply qk | apply ql rfl | apply qm rfl | apply qn rfl | apply Je | (refine Tx 7 ?_; refine Jo xLt ?_) | (refine Tx 13 ?_; refine Jm ?_; refine Jm ?_; refine Jm ?_; refine Jo (xLn ts_dyadic_nat) ?_; refine Jo xAd ?_; refine Jm ?_; refine Jo (by first | exact ok_convR rfl Tryd.underlying89 Tryd.underlying101 rfl m8 | exact ok_conv rfl Tryd.underlying89 Tryd.underlying101 rfl) ?_; refine Jo (by exact ok_ixO (i := i + (canon b).length) rfl rfl rfl rfl (by omega) ts_dyadic_nat (by omega) (by decide)) ?_; refine Js (by first | exact to_stW rfl rfl rfl rfl rfl tk_uint32 tl rfl | exact xS1 tk_uint32 | exact xSk tk_uint32) ?_) | (refine Tx 14 ?_; refine Jo xAd ?_; refine Jm ?_))
    refine ⟨_, _, wk_go _ 1 ?_ ?_ ?_, _, by omega, i + 1, _, by omega, rfl, hlv, rfl, rfl⟩
    · rfl
    · exact mB rfl rfl
    · exact ⟨bel_cW, trivial⟩
  obtain rfl : i = (canon a).length := by omega
  have hv := ho.val
  rw [List.take_length, wval_canon, wval_canon] at hv
  have hol := ho.len
  have TC := ptrim_cv (G := TabAt) o ((canon a).length + (canon b).length) hol.symm ho.ok (by omega)
  rw [hv] at TC
  repeat' (with_reducible first | apply qa | apply qb | apply qc | apply qd | apply qe | apply qf | apply qg | apply qh | apply qi | apply qj | apply qk | apply ql rfl | apply qm rfl | apply qn rfl | apply Je | (refine Tx 3 ?_; refine Jo xLt ?_))
  refine cw_wk (wk_freeze (ds := o.map dW) 5 0 rfl (by rw [← cW_D]; rfl)) ?_
  repeat' (with_reducible first | apply qa | apply qb | apply qc | apply qd | apply qe | apply qf | apply qg | apply qh | apply qi | apply qj | apply qk | apply ql rfl | apply qm rfl | apply qn rfl | apply Je | (refine Tx 15 ?_; refine Jm ?_; refine Jo (xCl Tryd.func57 (TC)) ?_; refine Ja ?_))
  exact ret_q rfl (.cons_ (.tmp (.one (cexp_d rfl fun _ => free_C _))) .nil_)
theorem canon_mul_len {a b : Nat} (ha : (canon a).length ≤ 40000) (hb : (canon b).length ≤ 40000) : (canon (a * b)).length ≤ 100000 := by
  have h1 := wval_lt (canon_ok a)
  have h2 := wval_lt (canon_ok b)
  rw [wval_canon] at h1 h2
  refine Nat.le_trans (canon_len_le (k := (canon a).length + (canon b).length) ?_) (by omega)
  rw [Nat.pow_add]
  exact Nat.mul_lt_mul'' h1 h2
theorem pmul_cv (x : Int) (dx : Nat) (y : Int) (dy : Nat) (hnx : Nf x dx) (hny : Nf y dy) (lx : (canon x.natAbs).length ≤ 40000) (ly : (canon y.natAbs).length ≤ 40000) (hd : dx + dy ≤ 65536) : CV Tryd.prog TabAt 52 [aDy false x dx, aDy false y dy] [aDy false (dyMul x dx y dy).1 (dyMul x dx y dy).2] := by
  refine cvz Tryd.func52 Tryd.ntmps52 ?_
  have PX := parts_cv (G := TabAt) x dx hnx (Nat.le_trans lx (by decide))
  have PY := parts_cv (G := TabAt) y dy hny (Nat.le_trans ly (by decide))
  have NM := nmul_cv x.natAbs y.natAbs (Nat.le_trans lx (by decide)) (Nat.le_trans ly (by decide))
  have hlm : (canon (x.natAbs * y.natAbs)).length ≤ 100000 := canon_mul_len lx ly
  have RS := presult_cv false (decide (x < 0) != decide (y < 0)) (x.natAbs * y.natAbs) (dx + dy) hlm hd
  rw [sg_prod] at RS
  have hdx := hnx.1
  have hdy := hny.1
  repeat' (with_reducible first | apply qa | apply qb | apply qc | apply qd | apply qe | apply qf | apply qg | apply qh | apply qi | apply qj | apply qk | apply ql rfl | apply qm rfl | apply qn rfl | apply Je | (refine Tx 0 ?_; refine Jn xBo ?_; refine Jn xBo ?_; refine Jn (xAl tz_Dyadic) ?_) | (refine Tx 1 ?_; refine Jo (xLa tk_Dyadic) ?_; refine Jo (by first | exact xCl Tryd.func46 (PX) | exact xCl Tryd.func46 (PY)) ?_; refine Jo xMt ?_; refine Jo xEx ?_; refine Jo xEx ?_; refine Jo xEx ?_; refine Ja ?_; refine Ja ?_; refine Ja ?_) | (refine Tx 2 ?_; refine Jo (xLa tk_Dyadic) ?_; refine Jo (by first | exact xCl Tryd.func46 (PX) | exact xCl Tryd.func46 (PY)) ?_; refine Jo xMt ?_; refine Jo xEx ?_; refine Jo xEx ?_; refine Jo xEx ?_; refine Ja ?_; refine Ja ?_; refine Ja ?_) | (refine Tx 3 ?_; refine Jm ?_; refine Jm ?_; refine Jo (by first | exact ok_neqB rfl Tryd.underlying4 rfl rfl | exact xNe) ?_; refine Jm ?_; refine Jm ?_; refine Jo (xCl Tryd.func66 (NM)) ?_; refine Jm ?_; refine Jm ?_; refine Jo xAd ?_; refine Jo (xCl Tryd.func36 (RS.cv)) ?_; refine Js (xSk tk_Dyadic) ?_))
  exact ret_q rfl (.cons_ (rvW tk_Dyadic rfl) .nil_)
theorem put_val {o : List Nat} {k u : Nat} (h : o[k]? = some 0) : wval (o.set k u) = wval o + u * 4294967296 ^ k := by
  have := wval_set (u := u) h
  omega
structure SumAt (a b : List Nat) (L k : Nat) (o : List Nat) (c : Nat) : Prop where
  len : o.length = L
  ok : wordsOk o
  car : c ≤ 1
  val : wval o + c * 4294967296 ^ k = wval (a.take k) + wval (b.take k)
  zero : ∀ j, k ≤ j → j < L → o[j]? = some 0
theorem getD_lt {a : List Nat} (h : wordsOk a) (k : Nat) : a[k]?.getD 0 < 4294967296 := by
  cases hx : a[k]? with
  | none => decide
  | some x => exact h x (List.mem_of_getElem? hx)
theorem zeros_at (L : Nat) : ∀ j, 0 ≤ j → j < L → (List.replicate L 0)[j]? = some 0 := fun j _ h => by simp [h]
theorem zeros_ok (L : Nat) : wordsOk (List.replicate L 0) := fun x hx => by rw [(List.mem_replicate.1 hx).2]; decide
theorem SumAt.start (a b : List Nat) (L : Nat) : SumAt a b L 0 (List.replicate L 0) 0 := ⟨by simp, zeros_ok L, by decide, by rw [wval_zeros]; simp [wval], zeros_at L⟩
theorem SumAt.step {a b : List Nat} {L k : Nat} {o : List Nat} {c : Nat} (h : SumAt a b L k o c) (ha : wordsOk a) (hb : wordsOk b) (hk : k < L) : SumAt a b L (k + 1) (o.set k ((a[k]?.getD 0 + b[k]?.getD 0 + c) % 4294967296)) ((a[k]?.getD 0 + b[k]?.getD 0 + c) / 4294967296) := by
  have x1 := getD_lt ha k
  have y1 := getD_lt hb k
  have hc := h.car
  refine ⟨by rw [List.length_set]; exact h.len, words_set h.ok (by omega), by omega, ?_, fun j h1 h2 => by rw [List.getElem?_set, if_neg (by omega)]; exact h.zero j (by omega) h2⟩
  rw [put_val (h.zero k (Nat.le_refl _) hk), wval_take_succ, wval_take_succ, Nat.pow_succ]
  have hv := h.val
  generalize a[k]?.getD 0 = x at *
  generalize b[k]?.getD 0 = y at *
  have hd := Nat.div_add_mod (x + y + c) 4294967296
  generalize (x + y + c) / 4294967296 = q at *
  generalize (x + y + c) % 4294967296 = r at *
  generalize 4294967296 ^ k = P at *
  have e : q * (P * 4294967296) + r * P = (x + y + c) * P := by rw [← hd, Nat.add_mul, Nat.mul_comm P 4294967296, ← Nat.mul_assoc, Nat.mul_comm q 4294967296]
  rw [Nat.add_mul, Nat.add_mul] at e
  rw [Nat.mul_comm P x, Nat.mul_comm P y]
  omega
theorem SumAt.done {a b : List Nat} {o : List Nat} {c : Nat} (h : SumAt a b (max a.length b.length + 1) (max a.length b.length + 1) o c) (ha : wordsOk a) (hb : wordsOk b) : wval o = wval a + wval b := by
  have hv := h.val
  rw [List.take_of_length_le (by omega), List.take_of_length_le (by omega)] at hv
  have h1 := wval_lt ha
  have h2 := wval_lt hb
  have p1 : 4294967296 ^ a.length ≤ 4294967296 ^ (max a.length b.length) := Nat.pow_le_pow_right (by decide) (by omega)
  have p2 : 4294967296 ^ b.length ≤ 4294967296 ^ (max a.length b.length) := Nat.pow_le_pow_right (by decide) (by omega)
  have hc := h.car
  rw [Nat.pow_succ] at hv
  rcases (show c = 0 ∨ c = 1 by omega) with rfl | rfl <;> omega
structure DifAt (a b : List Nat) (k : Nat) (o : List Nat) (c : Nat) : Prop where
  len : o.length = a.length
  ok : wordsOk o
  car : c ≤ 1
  val : wval o + wval (b.take k) = wval (a.take k) + c * 4294967296 ^ k
  zero : ∀ j, k ≤ j → j < a.length → o[j]? = some 0
theorem DifAt.start (a b : List Nat) : DifAt a b 0 (List.replicate a.length 0) 0 := ⟨by simp, zeros_ok _, by decide, by rw [wval_zeros]; simp [wval], zeros_at _⟩
def borr (x y c : Nat) : Nat := if x < y + c then 1 else 0
theorem borr_le (x y c : Nat) : borr x y c ≤ 1 := by unfold borr; split <;> omega
theorem DifAt.step {a b : List Nat} {k : Nat} {o : List Nat} {c x : Nat} (h : DifAt a b k o c) (ha : wordsOk a) (hb : wordsOk b) (hx : a[k]? = some x) : DifAt a b (k + 1) (o.set k ((x + 4294967296 - b[k]?.getD 0 - c) % 4294967296)) (borr x (b[k]?.getD 0) c) := by
  have hk := (List.getElem?_eq_some_iff.1 hx).1
  have x1 := ha x (List.mem_of_getElem? hx)
  have y1 := getD_lt hb k
  have hc := h.car
  refine ⟨by rw [List.length_set]; exact h.len, words_set h.ok (by omega), borr_le _ _ _, ?_, fun j h1 h2 => by rw [List.getElem?_set, if_neg (by omega)]; exact h.zero j (by omega) h2⟩
  rw [put_val (h.zero k (Nat.le_refl _) hk), wval_take_succ, wval_take_succ, Nat.pow_succ, hx, Option.getD_some]
  have hv := h.val
  generalize b[k]?.getD 0 = y at *
  have hd : (x + 4294967296 - y - c) % 4294967296 + y + c = x + borr x y c * 4294967296 := by unfold borr; split <;> omega
  generalize borr x y c = q at *
  generalize (x + 4294967296 - y - c) % 4294967296 = r at *
  generalize 4294967296 ^ k = P at *
  have e : (r + y + c) * P = (x + q * 4294967296) * P := by rw [hd]
  rw [Nat.add_mul, Nat.add_mul, Nat.add_mul, Nat.mul_assoc q 4294967296 P, Nat.mul_comm 4294967296 P] at e
  rw [Nat.mul_comm P x, Nat.mul_comm P y]
  omega
theorem DifAt.done {a b : List Nat} {o : List Nat} {c : Nat} (h : DifAt a b a.length o c) (ha : wordsOk a) (hle : wval b ≤ wval a) (hl : b.length ≤ a.length) : wval o = wval a - wval b := by
  have hv := h.val
  rw [List.take_length, List.take_of_length_le hl] at hv
  have h1 := wval_lt h.ok
  rw [h.len] at h1
  have hc := h.car
  rcases (show c = 0 ∨ c = 1 by omega) with rfl | rfl <;> omega
structure ShlAt (a : List Nat) (q r k : Nat) (o : List Nat) : Prop where
  len : o.length = a.length + q + 1
  ok : wordsOk o
  val : wval o = wval (a.take k) * (2 ^ r * 4294967296 ^ q)
  top : ∃ cy, o[q + k]? = some cy ∧ cy < 2 ^ r
  zero : ∀ j, q + k < j → j < a.length + q + 1 → o[j]? = some 0
theorem ShlAt.start (a : List Nat) (q r : Nat) : ShlAt a q r 0 (List.replicate (a.length + q + 1) 0) := ⟨by simp, zeros_ok _, by rw [wval_zeros]; simp [wval], ⟨0, by rw [Nat.add_zero]; exact zeros_at _ q (Nat.zero_le _) (by omega), Nat.two_pow_pos r⟩, fun j _ h => zeros_at _ j (Nat.zero_le _) h⟩
theorem ShlAt.step {a : List Nat} {q r k : Nat} {o : List Nat} {x cy : Nat} (h : ShlAt a q r k o) (ha : wordsOk a) (hr : r < 32) (hx : a[k]? = some x) (hcy : o[q + k]? = some cy) (hlt : cy < 2 ^ r) (hfit : cy + x * 2 ^ r % 4294967296 < 4294967296) :
    ShlAt a q r (k + 1) ((o.set (q + k) (cy + x * 2 ^ r % 4294967296)).set (q + k + 1) (x * 2 ^ r / 4294967296)) := by
  have hk := (List.getElem?_eq_some_iff.1 hx).1
  have x1 := ha x (List.mem_of_getElem? hx)
  have hhi : x * 2 ^ r / 4294967296 < 2 ^ r := by
    rw [Nat.div_lt_iff_lt_mul (by decide), Nat.mul_comm (2 ^ r)]
    exact Nat.mul_lt_mul_of_pos_right x1 (Nat.two_pow_pos r)
  have h32 : 2 ^ r ≤ 4294967296 := by rw [show (4294967296 : Nat) = 2 ^ 32 from rfl]; exact Nat.pow_le_pow_right (by decide) (by omega)
  refine ⟨by rw [List.length_set, List.length_set]; exact h.len, words_set (words_set h.ok hfit) (by omega), ?_, ⟨_, by rw [show q + (k + 1) = q + k + 1 by omega, List.getElem?_set, if_pos rfl, if_pos (by rw [List.length_set, h.len]; omega)], hhi⟩, fun j h1 h2 => by rw [List.getElem?_set, if_neg (by omega), List.getElem?_set, if_neg (by omega)]; exact h.zero j (by omega) h2⟩
  have e1 := wval_set (u := cy + x * 2 ^ r % 4294967296) hcy
  have e2 : wval ((o.set (q + k) (cy + x * 2 ^ r % 4294967296)).set (q + k + 1) (x * 2 ^ r / 4294967296)) = _ := put_val (by rw [List.getElem?_set, if_neg (by omega)]; exact h.zero _ (by omega) (by omega))
  rw [e2, wval_take_succ, hx, Option.getD_some, Nat.add_mul, ← h.val, Nat.pow_succ]
  have hd := Nat.div_add_mod (x * 2 ^ r) 4294967296
  have e3 : 4294967296 ^ k * x * (2 ^ r * 4294967296 ^ q) = (x * 2 ^ r) * 4294967296 ^ (q + k) := by rw [Nat.pow_add]; simp only [Nat.mul_assoc, Nat.mul_comm, Nat.mul_left_comm]
  rw [e3]
  generalize x * 2 ^ r = t at *
  generalize t / 4294967296 = u at *
  generalize t % 4294967296 = l at *
  generalize 4294967296 ^ (q + k) = P at *
  have e4 : u * (P * 4294967296) + l * P = t * P := by rw [← hd, Nat.add_mul, Nat.mul_comm P 4294967296, ← Nat.mul_assoc, Nat.mul_comm u 4294967296]
  rw [Nat.add_mul] at e1
  omega
theorem msb_div (v : BitVec 32) : v.toNat / 2147483648 = if v.msb = true then 1 else 0 := by
  have h := BitVec.msb_eq_decide v
  have hl := v.isLt
  rw [h]
  by_cases hc : 2147483648 ≤ v.toNat
  · rw [if_pos (decide_eq_true hc)]; omega
  · rw [if_neg (by rw [decide_eq_true_eq]; exact hc)]; omega
theorem borrow_bv (X Y D : BitVec 32) (x y c : Nat) (hx : X.toNat = x) (hy : Y.toNat = y) (hd : D.toNat = (x + 4294967296 - y - c) % 4294967296) (hc : c ≤ 1) : ((~~~X &&& Y) ||| (~~~(X ^^^ Y) &&& D)).toNat / 2147483648 = borr x y c := by
  rw [msb_div]
  have hX := BitVec.msb_eq_decide X
  have hY := BitVec.msb_eq_decide Y
  have hD := BitVec.msb_eq_decide D
  rw [hx] at hX
  rw [hy] at hY
  rw [hd] at hD
  have lx := X.isLt
  have ly := Y.isLt
  rw [hx] at lx
  rw [hy] at ly
  simp only [BitVec.msb_or, BitVec.msb_and, BitVec.msb_not, BitVec.msb_xor, hX, hY, hD]
  unfold borr
  by_cases h1 : 2 ^ 31 ≤ x <;> by_cases h2 : 2 ^ 31 ≤ y <;> by_cases h3 : 2 ^ 31 ≤ (x + 4294967296 - y - c) % 4294967296
  all_goals
    simp only [Nat.reduceSub, h1, h2, h3, decide_true, decide_false]
    by_cases h4 : x < y + c
    · simp [h4]
      try omega
    · simp [h4]
      try omega
def nB (v : BitVec 32) : Int := (v.toNat : Int)
theorem nB_back (v : BitVec 32) : BitVec.ofInt 32 (nB v) = v := by
  unfold nB
  rw [BitVec.ofInt_natCast]
  exact BitVec.eq_of_toNat_eq (by rw [BitVec.toNat_ofNat]; exact Nat.mod_eq_of_lt v.isLt)
theorem nB_wrap (v : BitVec 32) : IntKind.wrap .u32 ((v.toNat : Nat) : Int) = nB v := by
  have := v.isLt
  rw [IntKind.wrap_u32]
  unfold nB
  omega
theorem nB_and (u v : BitVec 32) : bits .and .u32 (nB u) (nB v) = nB (u &&& v) := by
  show IntKind.wrap .u32 (((BitVec.ofInt 32 (nB u) &&& BitVec.ofInt 32 (nB v)).toNat : Nat) : Int) = _
  rw [nB_back, nB_back, nB_wrap]
theorem nB_or (u v : BitVec 32) : bits .or .u32 (nB u) (nB v) = nB (u ||| v) := by
  show IntKind.wrap .u32 (((BitVec.ofInt 32 (nB u) ||| BitVec.ofInt 32 (nB v)).toNat : Nat) : Int) = _
  rw [nB_back, nB_back, nB_wrap]
theorem nB_xor (u v : BitVec 32) : bits .xor .u32 (nB u) (nB v) = nB (u ^^^ v) := by
  show IntKind.wrap .u32 (((BitVec.ofInt 32 (nB u) ^^^ BitVec.ofInt 32 (nB v)).toNat : Nat) : Int) = _
  rw [nB_back, nB_back, nB_wrap]
theorem nB_not (v : BitVec 32) : bits .xor .u32 IntKind.u32.max (nB v) = nB (~~~v) := by
  rw [show IntKind.u32.max = nB (BitVec.allOnes 32) from rfl, nB_xor, BitVec.allOnes_xor]
theorem nB_of {x : Nat} (h : x < 4294967296) : ((x : Nat) : Int) = nB (BitVec.ofNat 32 x) := by
  unfold nB
  rw [BitVec.toNat_ofNat, Nat.mod_eq_of_lt h]
theorem sub32_any (x y c : Nat) (w : World) (hx : x < 4294967296) (hy : y < 4294967296) (hc : c ≤ 1) :
    Calls Tryd.prog 71 #[.int .u32 (x : Int), .int .u32 (y : Int), .int .u32 (c : Int)] w fun e w' => e = .returned (.tuple #[.int .u32 (((x + 4294967296 - y - c) % 4294967296 : Nat) : Int), .int .u32 ((borr x y c : Nat) : Int)]) ∧ w = w' := by
  go_enter Tryd.func71, Tryd.ntmps71
  go_wp2_with fail
  refine bodyPost_ret (v := .tuple #[.int .u32 (((x + 4294967296 - y - c) % 4294967296 : Nat) : Int), .int .u32 ((borr x y c : Nat) : Int)]) ?_ rfl ⟨rfl, rfl⟩
  simp [results, Tryd.results71, go_sem]
  refine ⟨by omega, ?_⟩
  have hd : ((x : Int) - (y : Int) - (c : Int)) % 4294967296 = (((x + 4294967296 - y - c) % 4294967296 : Nat) : Int) := by omega
  rw [hd, nB_of hx, nB_of hy, nB_of (x := (x + 4294967296 - y - c) % 4294967296) (by omega), nB_not, nB_and, nB_xor, nB_not, nB_and, nB_or]
  have key := borrow_bv (BitVec.ofNat 32 x) (BitVec.ofNat 32 y) (BitVec.ofNat 32 ((x + 4294967296 - y - c) % 4294967296)) x y c (by rw [BitVec.toNat_ofNat, Nat.mod_eq_of_lt hx]) (by rw [BitVec.toNat_ofNat, Nat.mod_eq_of_lt hy]) (by rw [BitVec.toNat_ofNat]; omega) hc
  rw [← key]
  rfl
theorem sub32_cv (x y c : Nat) (hx : x < 4294967296) (hy : y < 4294967296) (hc : c ≤ 1) : CVF Tryd.prog TabAt 71 [.one (dW x), .one (dW y), .one (dW c)] [.one (dW ((x + 4294967296 - y - c) % 4294967296)), .one (dW (borr x y c))] := fun w S vs hg hlt hv => by
  obtain ⟨v, vs', rfl, q1, hv⟩ := hv.uncons
  obtain ⟨v2, vs', rfl, q2, hv⟩ := hv.uncons
  obtain ⟨u, hu, q3⟩ := one_arg hv
  subst hu
  cases q1
  cases q2
  cases q3
  refine (sub32_any x y c w hx hy hc).mono fun r w' ⟨he, hw⟩ => ?_
  subst hw
  exact ⟨_, he, two_rel (DRel.val rfl) (DRel.val rfl), Below.refl _ _⟩
section
variable {P : Program} {G : World → Prop} {o : Oper} {F : Frm} {H : List Ob}
theorem ok_or32 {t t' : TypeId} {x y : Operand} {p q r : Int} (ho : o.op = .binOp .or t x y t') (hx : F.ev x = .one (.d (.val (.int .u32 p)))) (hy : F.ev y = .one (.d (.val (.int .u32 q)))) (hr : bits .or .u32 p q = r) : OpOk P G o F H (.one (.d (.val (.int .u32 r)))) [] := by
  subst hr
  refine ok_bin ho hx hy (fun w => ?_) rfl
  simp [eqGuard, binOp, intBits_or]
theorem ok_shlR {t t' : TypeId} {x y : Operand} {k k' : IntKind} {p r : Int} {n : Nat} (ho : o.op = .binOp .shl t x y t') (hx : F.ev x = .one (.d (.val (.int k p)))) (hy : F.ev y = .one (.d (.val (.int k' (n : Int))))) (hn : n ≤ k.bits) (hr : k.wrap (p * 2 ^ n) = r) : OpOk P G o F H (.one (.d (.val (.int k r)))) [] := by
  subst hr
  refine ok_bin ho hx hy (fun w => ?_) rfl
  have h1 : ¬ ((n : Int) < 0) := by omega
  simp [eqGuard, binOp, Op.shift, h1, Nat.min_eq_left hn]
theorem ok_quoR {t t' : TypeId} {x y : Operand} {k : IntKind} {p q r : Int} (ho : o.op = .binOp .quo t x y t') (hx : F.ev x = .one (.d (.val (.int k p)))) (hy : F.ev y = .one (.d (.val (.int k q)))) (h0 : q ≠ 0) (hr : k.wrap (p.tdiv q) = r) : OpOk P G o F H (.one (.d (.val (.int k r)))) [] := hr ▸ ok_quo ho hx hy h0
theorem ok_remR {t t' : TypeId} {x y : Operand} {k : IntKind} {p q r : Int} (ho : o.op = .binOp .rem t x y t') (hx : F.ev x = .one (.d (.val (.int k p)))) (hy : F.ev y = .one (.d (.val (.int k q)))) (h0 : q ≠ 0) (hr : p.tmod q = r) : OpOk P G o F H (.one (.d (.val (.int k r)))) [] := hr ▸ ok_rem ho hx hy h0
end
theorem nadd_cv (a b : Nat) (l1 : (canon a).length ≤ 200000) (l2 : (canon b).length ≤ 200000) : CV Tryd.prog TabAt 60 [.one (rowC false a), .one (rowC false b)] [.one (rowC false (a + b))] := by
  refine cvz Tryd.func60 Tryd.ntmps60 ?_
  have ha := canon_ok a
  have hb := canon_ok b
  repeat' (with_reducible first | apply qa | apply qb | apply qc | apply qd | apply qe | apply qf | apply qg | apply qh | apply qi | apply qj | apply qk | apply ql rfl | apply qm rfl | apply qn rfl | apply Je | (refine Tx 0 ?_; refine Ja ?_) | (refine Tx 1 ?_; refine Jm ?_; refine Jo (xLn ts_dyadic_nat) ?_; refine Jm ?_; refine Jo (xLn ts_dyadic_nat) ?_; refine Jo (by exact ok_max2 rfl rfl rfl) ?_; refine Jo xAd ?_; refine Jn (by first | exact ok_makeW (n := (max (canon a).length (canon b).length + 1)) rfl rfl rfl (by omega) ts_dyadic_nat tz_uint32 (by omega) (by decide) | exact ok_makeSlice rfl rfl rfl ts_dyadic_nat tz_uint32 (by omega) (by decide)) ?_; refine Ja ?_) | (refine Tx 2 ?_; refine Ja ?_) | (refine Tx 3 ?_; refine Jm ?_; refine Jo (xLn ts_dyadic_nat) ?_; refine Jm ?_))
  refine cw_wk (F' := ofL [(0, vd (rowC false a)), (1, vd (rowC false b)), (5, vo 0 ((max (canon a).length (canon b).length + 1))), (6, vd (dW 0)), (16, vi ((max (canon a).length (canon b).length + 1))), (17, vi ((0 : Nat)))]) (H' := [.row 101 1 (max (canon a).length (canon b).length + 1) (cW (List.replicate (max (canon a).length (canon b).length + 1) 0))]) (wk_go _ 1 ?_ ?_ ?_) ?_
  · rfl
  · exact mB rfl rfl
  · exact ⟨bel_cW, trivial⟩
  refine cw_loopW (fun n Fr H => ∃ (k : Nat) (o : List Nat) (c : Nat), k ≤ (max (canon a).length (canon b).length + 1) ∧ n = (max (canon a).length (canon b).length + 1) - k ∧ SumAt (canon a) (canon b) (max (canon a).length (canon b).length + 1) k o c ∧ Fr = ofL [(0, vd (rowC false a)), (1, vd (rowC false b)), (5, vo 0 ((max (canon a).length (canon b).length + 1))), (6, vd (dW c)), (16, vi ((max (canon a).length (canon b).length + 1))), (17, vi ((k : Nat)))] ∧ H = [.row 101 1 (max (canon a).length (canon b).length + 1) (cW o)]) (n0 := (max (canon a).length (canon b).length + 1)) ⟨0, (List.replicate (max (canon a).length (canon b).length + 1) 0), 0, Nat.zero_le _, rfl, SumAt.start _ _ _, rfl, rfl⟩ ?_
  rintro n Fr H ⟨k, o, c, hk, rfl, ho, rfl, rfl⟩
  by_cases hlt : k < (max (canon a).length (canon b).length + 1)
  case pos =>
    have hst := ho.step ha hb hlt
    have hol := ho.len
    have A1 := patt_cv false (canon a) (canon a).length k rfl (by omega) (by omega)
    have A2 := patt_cv false (canon b) (canon b).length k rfl (by omega) (by omega)
    rw [← wdN_D] at A1 A2
    have AD := add32_cv ((canon a)[k]?.getD 0) ((canon b)[k]?.getD 0) c (getD_lt ha k) (getD_lt hb k) ho.car
    have tl : k < o.length := by omega
    generalize (canon a)[k]?.getD 0 = x at *
    generalize (canon b)[k]?.getD 0 = y at *
    generalize (x + y + c) % 4294967296 = r at *
    generalize (x + y + c) / 4294967296 = q at *
    repeat' (with_reducible first | apply qa | apply qb | apply qc | apply qd | apply qe | apply qf | apply qg | apply qh | apply qi | apply qj | apply qk | apply ql rfl | apply qm rfl | apply qn rfl | apply Je | (refine Tx 4 ?_; refine Jo xLt ?_) | (refine Tx 5 ?_; refine Jm ?_; refine Ja ?_) | (refine Tx 6 ?_; refine Jm ?_; refine Jm ?_; refine Jm ?_; refine Jm ?_; refine Jo (by first | exact xCl Tryd.func68 (A1.cv) | exact xCl Tryd.func68 (A2.cv)) ?_; refine Jm ?_; refine Jm ?_; refine Jo (by first | exact xCl Tryd.func68 (A1.cv) | exact xCl Tryd.func68 (A2.cv)) ?_; refine Jm ?_; refine Jo (xCl Tryd.func69 (AD.cv)) ?_; refine Jo xMt ?_; refine Jo xEx ?_; refine Jo xEx ?_; refine Jo (xIo (i := k) ts_dyadic_nat) ?_; refine Js (by first | exact to_stW rfl rfl rfl rfl rfl tk_uint32 tl rfl | exact xS1 tk_uint32 | exact xSk tk_uint32) ?_; refine Ja ?_) | (refine Tx 7 ?_; refine Jo xAd ?_; refine Jm ?_))
    refine ⟨_, _, wk_go _ 1 ?_ ?_ ?_, _, by omega, k + 1, _, _, by omega, rfl, hst, rfl, rfl⟩
    · rfl
    · exact mB rfl rfl
    · exact ⟨bel_cW, trivial⟩
  obtain rfl : k = (max (canon a).length (canon b).length + 1) := by omega
  have hv := ho.done ha hb
  rw [wval_canon, wval_canon] at hv
  have hol := ho.len
  have TC := ptrim_cv (G := TabAt) o (max (canon a).length (canon b).length + 1) hol.symm ho.ok (by omega)
  rw [hv] at TC
  repeat' (with_reducible first | apply qa | apply qb | apply qc | apply qd | apply qe | apply qf | apply qg | apply qh | apply qi | apply qj | apply qk | apply ql rfl | apply qm rfl | apply qn rfl | apply Je | (refine Tx 4 ?_; refine Jo xLt ?_))
  refine cw_wk (wk_freeze (ds := o.map dW) 5 0 rfl (by rw [← cW_D]; rfl)) ?_
  repeat' (with_reducible first | apply qa | apply qb | apply qc | apply qd | apply qe | apply qf | apply qg | apply qh | apply qi | apply qj | apply qk | apply ql rfl | apply qm rfl | apply qn rfl | apply Je | (refine Tx 8 ?_; refine Jm ?_; refine Jo (xCl Tryd.func57 (TC)) ?_; refine Ja ?_))
  exact ret_q rfl (.cons_ (.tmp (.one (cexp_d rfl fun _ => free_C _))) .nil_)
theorem nsub_cv (a b : Nat) (hle : b ≤ a) (l1 : (canon a).length ≤ 200000) : CV Tryd.prog TabAt 65 [.one (rowC false a), .one (rowC false b)] [.one (rowC false (a - b))] := by
  refine cvz Tryd.func65 Tryd.ntmps65 ?_
  have ha := canon_ok a
  have hb := canon_ok b
  have hlb : (canon b).length ≤ (canon a).length := canon_len_mono hle
  repeat' (with_reducible first | apply qa | apply qb | apply qc | apply qd | apply qe | apply qf | apply qg | apply qh | apply qi | apply qj | apply qk | apply ql rfl | apply qm rfl | apply qn rfl | apply Je | (refine Tx 0 ?_; refine Ja ?_) | (refine Tx 1 ?_; refine Jm ?_; refine Jo (xLn ts_dyadic_nat) ?_; refine Jn (by first | exact ok_makeW (n := (canon a).length) rfl rfl rfl rfl ts_dyadic_nat tz_uint32 (by omega) (by decide) | exact ok_makeSlice rfl rfl rfl ts_dyadic_nat tz_uint32 (by omega) (by decide)) ?_; refine Ja ?_) | (refine Tx 2 ?_; refine Ja ?_) | (refine Tx 3 ?_; refine Jm ?_; refine Jo (xLn ts_dyadic_nat) ?_; refine Jm ?_))
  refine cw_wk (F' := ofL [(0, vd (rowC false a)), (1, vd (rowC false b)), (5, vo 0 ((canon a).length)), (6, vd (dW 0)), (12, vi ((canon a).length)), (13, vi ((0 : Nat)))]) (H' := [.row 101 1 (canon a).length (cW (List.replicate (canon a).length 0))]) (wk_go _ 1 ?_ ?_ ?_) ?_
  · rfl
  · exact mB rfl rfl
  · exact ⟨bel_cW, trivial⟩
  refine cw_loopW (fun n Fr H => ∃ (k : Nat) (o : List Nat) (c : Nat), k ≤ (canon a).length ∧ n = (canon a).length - k ∧ DifAt (canon a) (canon b) k o c ∧ Fr = ofL [(0, vd (rowC false a)), (1, vd (rowC false b)), (5, vo 0 ((canon a).length)), (6, vd (dW c)), (12, vi ((canon a).length)), (13, vi ((k : Nat)))] ∧ H = [.row 101 1 (canon a).length (cW o)]) (n0 := (canon a).length) ⟨0, (List.replicate (canon a).length 0), 0, Nat.zero_le _, rfl, DifAt.start _ _, rfl, rfl⟩ ?_
  rintro n Fr H ⟨k, o, c, hk, rfl, ho, rfl, rfl⟩
  by_cases hlt : k < (canon a).length
  case pos =>
    obtain ⟨x, hx⟩ : ∃ x, (canon a)[k]? = some x := ⟨_, List.getElem?_eq_getElem hlt⟩
    have hx1 := ha x (List.mem_of_getElem? hx)
    have hx2 := wdN_at hx
    have hst := ho.step ha hb hx
    have hol := ho.len
    have A2 := patt_cv false (canon b) (canon b).length k rfl (by omega) (by omega)
    rw [← wdN_D] at A2
    have SB := sub32_cv x ((canon b)[k]?.getD 0) c hx1 (getD_lt hb k) ho.car
    have tl : k < o.length := by omega
    generalize (canon b)[k]?.getD 0 = y at *
    generalize (x + 4294967296 - y - c) % 4294967296 = r at *
    generalize borr x y c = q at *
    repeat' (with_reducible first | apply qa | apply qb | apply qc | apply qd | apply qe | apply qf | apply qg | apply qh | apply qi | apply qj | apply qk | apply ql rfl | apply qm rfl | apply qn rfl | apply Je | (refine Tx 4 ?_; refine Jo xLt ?_) | (refine Tx 5 ?_; refine Jm ?_; refine Ja ?_) | (refine cw_partE (id := 6) 15 [(15, 13)] mixed (by kernel_rfl) ?_; dsimp only [List.take, List.drop]; refine Km ?_; refine Km ?_; refine Km ?_; refine Km ?_; refine Ko (by first | exact xIr ts_dyadic_nat (hx2) | exact xIo (i := k) ts_dyadic_nat) ?_; refine Ko (xLd tk_uint32) ?_; refine Km ?_; refine Km ?_; refine Ko (xCl Tryd.func68 (A2.cv)) ?_; refine Km ?_; refine Ko (xCl Tryd.func71 (SB.cv)) ?_; refine Ko xMt ?_; refine Ko xEx ?_; refine Ko xEx ?_; refine Ko (by first | exact xIr ts_dyadic_nat (hx2) | exact xIo (i := k) ts_dyadic_nat) ?_; refine Ke ?_; refine Js (by first | exact to_stW rfl rfl rfl rfl rfl tk_uint32 tl rfl | exact xS1 tk_uint32 | exact xSk tk_uint32) ?_; refine Ja ?_) | (refine Tx 7 ?_; refine Jo xAd ?_; refine Jm ?_))
    refine ⟨_, _, wk_go _ 1 ?_ ?_ ?_, _, by omega, k + 1, _, _, by omega, rfl, hst, rfl, rfl⟩
    · rfl
    · exact mB rfl rfl
    · exact ⟨bel_cW, trivial⟩
  obtain rfl : k = (canon a).length := by omega
  have hv := ho.done ha (by rw [wval_canon, wval_canon]; exact hle) hlb
  rw [wval_canon, wval_canon] at hv
  have hol := ho.len
  have TC := ptrim_cv (G := TabAt) o (canon a).length hol.symm ho.ok (by omega)
  rw [hv] at TC
  repeat' (with_reducible first | apply qa | apply qb | apply qc | apply qd | apply qe | apply qf | apply qg | apply qh | apply qi | apply qj | apply qk | apply ql rfl | apply qm rfl | apply qn rfl | apply Je | (refine Tx 4 ?_; refine Jo xLt ?_))
  refine cw_wk (wk_freeze (ds := o.map dW) 5 0 rfl (by rw [← cW_D]; rfl)) ?_
  repeat' (with_reducible first | apply qa | apply qb | apply qc | apply qd | apply qe | apply qf | apply qg | apply qh | apply qi | apply qj | apply qk | apply ql rfl | apply qm rfl | apply qn rfl | apply Je | (refine Tx 8 ?_; refine Jm ?_; refine Jo (xCl Tryd.func57 (TC)) ?_; refine Ja ?_))
  exact ret_q rfl (.cons_ (.tmp (.one (cexp_d rfl fun _ => free_C _))) .nil_)
theorem nleft_cv (a n : Nat) (l1 : (canon a).length ≤ 200000) (ln : n ≤ 1000000) : CV Tryd.prog TabAt 47 [.one (rowC false a), aI (n : Int)] [.one (rowC false (a * 2 ^ n))] := by
  refine cvz Tryd.func47 Tryd.ntmps47 ?_
  have ha := canon_ok a
  by_cases h0 : n = 0
  case pos =>
    subst h0
    rw [Nat.pow_zero, Nat.mul_one]
    repeat' (with_reducible first | apply qa | apply qb | apply qc | apply qd | apply qe | apply qf | apply qg | apply qh | apply qi | apply qj | apply qk | apply ql rfl | apply qm rfl | apply qn rfl | apply Je | (refine Tx 0 ?_; refine Ja ?_) | (refine Tx 1 ?_; refine Jm ?_; refine Jo xEq ?_; refine Jm ?_; (first | iterate 3 refine Jd ?_ | (refine Jy xM1 ?_; refine Jy (xLn ts_dyadic_nat) ?_; refine Jy xEq ?_)); refine Jo xPk ?_) | (refine Tx 2 ?_; refine Jm ?_; refine Ja ?_))
    exact ret_q rfl (.cons_ (.tmp (.one (cexp_d rfl fun _ => free_C _))) .nil_)
  by_cases h1 : (canon a).length = 0
  case pos =>
    have ha0 : a = 0 := Classical.byContradiction fun h => by have := canon_ne h; omega
    subst ha0
    rw [Nat.zero_mul]
    have h1i : ((canon 0).length : Int) = 0 := by omega
    repeat' (with_reducible first | apply qa | apply qb | apply qc | apply qd | apply qe | apply qf | apply qg | apply qh | apply qi | apply qj | apply qk | apply ql rfl | apply qm rfl | apply qn rfl | apply Je | (refine Tx 0 ?_; refine Ja ?_) | (refine Tx 1 ?_; refine Jm ?_; refine Jo xEq ?_; refine Jm ?_; (first | iterate 3 refine Jd ?_ | (refine Jy xM1 ?_; refine Jy (xLn ts_dyadic_nat) ?_; refine Jy xEq ?_)); refine Jo xPk ?_) | (refine Tx 2 ?_; refine Jm ?_; refine Ja ?_))
    exact ret_q rfl (.cons_ (.tmp (.one (cexp_d rfl fun _ => free_C _))) .nil_)
  obtain ⟨q, r, hn, hr⟩ : ∃ q r, n = 32 * q + r ∧ r < 32 := ⟨n / 32, n % 32, by omega, by omega⟩
  have hq : IntKind.wrap .i64 ((n : Int).tdiv 32) = (q : Int) := by rw [Int.tdiv_eq_ediv_of_nonneg (by omega)]; rw [show (n : Int) / 32 = (q : Int) by omega]; rw [IntKind.wrap_i64]; omega
  have hm : (n : Int).tmod 32 = (r : Int) := by rw [Int.tmod_eq_emod_of_nonneg (by omega)]; omega
  have hmw : IntKind.wrap .u64 (r : Int) = (r : Int) := u64_in (by omega) (by omega)
  repeat' (with_reducible first | apply qa | apply qb | apply qc | apply qd | apply qe | apply qf | apply qg | apply qh | apply qi | apply qj | apply qk | apply ql rfl | apply qm rfl | apply qn rfl | apply Je | (refine Tx 0 ?_; refine Ja ?_) | (refine Tx 1 ?_; refine Jm ?_; refine Jo xEq ?_; refine Jm ?_; (first | iterate 3 refine Jd ?_ | (refine Jy xM1 ?_; refine Jy (xLn ts_dyadic_nat) ?_; refine Jy xEq ?_)); refine Jo xPk ?_) | (refine Tx 3 ?_; refine Jm ?_; refine Jo (by first | exact ok_quoR rfl rfl rfl (by decide) hq | exact ok_quo rfl rfl rfl (by omega)) ?_; refine Jm ?_; refine Jo (by first | exact ok_remR rfl rfl rfl (by decide) hm | exact ok_rem rfl rfl rfl (by omega)) ?_; refine Jo (by first | exact ok_convR rfl Tryd.underlying3 Tryd.underlying108 rfl hmw | exact ok_conv rfl Tryd.underlying3 Tryd.underlying108 rfl) ?_; refine Ja ?_; refine Ja ?_) | (refine Tx 4 ?_; refine Jm ?_; refine Jo (xLn ts_dyadic_nat) ?_; refine Jm ?_; refine Jo xAd ?_; refine Jo xAd ?_; refine Jn (by first | exact ok_makeW (n := ((canon a).length + q + 1)) rfl rfl rfl (by omega) ts_dyadic_nat tz_uint32 (by omega) (by decide) | exact ok_makeSlice rfl rfl rfl ts_dyadic_nat tz_uint32 (by omega) (by decide)) ?_; refine Ja ?_) | (refine Tx 5 ?_; refine Jm ?_; refine Jo (xLn ts_dyadic_nat) ?_; refine Jm ?_))
  refine cw_wk (F' := ofL [(5, vi q), (6, vd (.val (.int .u64 (r : Int)))), (7, vo 0 (((canon a).length + q + 1))), (30, vd (rowC false a)), (31, vi ((canon a).length)), (32, vi ((0 : Nat)))]) (H' := [.row 101 1 ((canon a).length + q + 1) (cW (List.replicate ((canon a).length + q + 1) 0))]) (wk_go _ 1 ?_ ?_ ?_) ?_
  · rfl
  · exact mB rfl rfl
  · exact ⟨bel_cW, trivial⟩
  refine cw_loopW (fun n Fr H => ∃ (k : Nat) (o : List Nat), k ≤ (canon a).length ∧ n = (canon a).length - k ∧ ShlAt (canon a) q r k o ∧ Fr = ofL [(5, vi q), (6, vd (.val (.int .u64 (r : Int)))), (7, vo 0 (((canon a).length + q + 1))), (30, vd (rowC false a)), (31, vi ((canon a).length)), (32, vi ((k : Nat)))] ∧ H = [.row 101 1 ((canon a).length + q + 1) (cW o)]) (n0 := (canon a).length) ⟨0, (List.replicate ((canon a).length + q + 1) 0), Nat.zero_le _, rfl, ShlAt.start _ _ _, rfl, rfl⟩ ?_
  rintro nn Fr H ⟨k, o, hk, rfl, ho, rfl, rfl⟩
  by_cases hlt : k < (canon a).length
  case pos =>
    obtain ⟨x, hx⟩ : ∃ x, (canon a)[k]? = some x := ⟨_, List.getElem?_eq_getElem hlt⟩
    have hx1 := ha x (List.mem_of_getElem? hx)
    have hx2 := wdN_at hx
    obtain ⟨cy, hcy, hcl⟩ := ho.top
    have hol := ho.len
    obtain ⟨hor, hfit⟩ := or_low32 (l := x * 2 ^ r % 4294967296) hcl (Nat.mod_lt _ (by decide)) (Nat.le_of_lt hr) (pl_low (Nat.le_of_lt hr))
    have hst := ho.step ha hr hx hcy hcl hfit
    have h32 : 2 ^ r ≤ 2147483648 := by rw [show (2147483648 : Nat) = 2 ^ 31 from rfl]; exact Nat.pow_le_pow_right (by decide) (by omega)
    have hxm : x * 2 ^ r ≤ 4294967295 * 2147483648 := Nat.mul_le_mul (by omega) h32
    have w1 : IntKind.wrap .u64 (x : Int) = (x : Int) := u64_in (by omega) (by omega)
    have w2 : IntKind.wrap .u64 ((x : Int) * 2 ^ r) = ((x * 2 ^ r : Nat) : Int) := by rw [show ((x : Int) * 2 ^ r) = ((x * 2 ^ r : Nat) : Int) by push_cast; rfl]; exact u64_in (by omega) (by omega)
    have w3 := u32_cut (x * 2 ^ r)
    have w4 : IntKind.wrap .u32 ((x * 2 ^ r / 4294967296 : Nat) : Int) = ((x * 2 ^ r / 4294967296 : Nat) : Int) := by rw [u32_cut, Nat.mod_eq_of_lt (by omega)]
    have tl : q + k < o.length := by omega
    have tl2 : q + k + 1 < (o.set (q + k) (cy + x * 2 ^ r % 4294967296)).length := by rw [List.length_set]; omega
    generalize x * 2 ^ r = t at *
    repeat' (with_reducible first | apply qa | apply qb | apply qc | apply qd | apply qe | apply qf | apply qg | apply qh | apply qi | apply qj | apply qk | apply ql rfl | apply qm rfl | apply qn rfl | apply Je | (refine Tx 6 ?_; refine Jo xLt ?_) | (refine Tx 7 ?_; refine Jm ?_; refine Jo (by first | exact xIr ts_dyadic_nat (hx2) | exact ok_ixO (i := q + k) rfl rfl rfl rfl (by omega) ts_dyadic_nat (by omega) (by decide) | exact ok_ixO (i := q + k + 1) rfl rfl rfl rfl (by omega) ts_dyadic_nat (by omega) (by decide)) ?_; refine Jo (by first | exact ok_ldW rfl rfl rfl hcy tk_uint32 | exact xLd tk_uint32) ?_; refine Ja ?_; refine Ja ?_) | (refine Tx 8 ?_; refine Jm ?_; refine Jo (by first | exact ok_convR rfl Tryd.underlying101 Tryd.underlying89 rfl w1 | exact ok_conv rfl Tryd.underlying101 Tryd.underlying89 rfl) ?_; refine Jm ?_; refine Jo (by exact ok_shlR rfl rfl rfl (Nat.le_trans (Nat.le_of_lt hr) (by decide)) w2) ?_; refine Ja ?_) | (refine Tx 9 ?_; refine Jm ?_; refine Jm ?_; refine Jm ?_; refine Jo xAd ?_; refine Jo (by first | exact xIr ts_dyadic_nat (hx2) | exact ok_ixO (i := q + k) rfl rfl rfl rfl (by omega) ts_dyadic_nat (by omega) (by decide) | exact ok_ixO (i := q + k + 1) rfl rfl rfl rfl (by omega) ts_dyadic_nat (by omega) (by decide)) ?_; refine Jo (by first | exact ok_ldW rfl rfl rfl hcy tk_uint32 | exact xLd tk_uint32) ?_; refine Jm ?_; refine Jo (by first | exact ok_convR rfl Tryd.underlying89 Tryd.underlying101 rfl w3 | exact ok_conv rfl Tryd.underlying89 Tryd.underlying101 rfl) ?_; refine Jo (by exact ok_or32 rfl rfl rfl hor) ?_; refine Jo (by first | exact xIr ts_dyadic_nat (hx2) | exact ok_ixO (i := q + k) rfl rfl rfl rfl (by omega) ts_dyadic_nat (by omega) (by decide) | exact ok_ixO (i := q + k + 1) rfl rfl rfl rfl (by omega) ts_dyadic_nat (by omega) (by decide)) ?_; refine Js (by first | exact to_stW rfl rfl rfl rfl rfl tk_uint32 tl rfl | exact to_stW rfl rfl rfl rfl rfl tk_uint32 tl2 rfl | exact xS1 tk_uint32 | exact xSk tk_uint32) ?_) | (refine Tx 10 ?_; refine Jm ?_; refine Jm ?_; refine Jm ?_; refine Jo xAd ?_; refine Jo xAd ?_; refine Jm ?_; refine Jo (by exact ok_shr32 rfl rfl rfl) ?_; refine Jo (by first | exact ok_convR rfl Tryd.underlying89 Tryd.underlying101 rfl w4 | exact ok_conv rfl Tryd.underlying89 Tryd.underlying101 rfl) ?_; refine Jo (by first | exact xIr ts_dyadic_nat (hx2) | exact ok_ixO (i := q + k) rfl rfl rfl rfl (by omega) ts_dyadic_nat (by omega) (by decide) | exact ok_ixO (i := q + k + 1) rfl rfl rfl rfl (by omega) ts_dyadic_nat (by omega) (by decide)) ?_; refine Js (by first | exact to_stW rfl rfl rfl rfl rfl tk_uint32 tl rfl | exact to_stW rfl rfl rfl rfl rfl tk_uint32 tl2 rfl | exact xS1 tk_uint32 | exact xSk tk_uint32) ?_) | (refine Tx 11 ?_; refine Jo xAd ?_; refine Jm ?_))
    refine ⟨_, _, wk_go _ 1 ?_ ?_ ?_, _, by omega, k + 1, _, by omega, rfl, hst, rfl, rfl⟩
    · rfl
    · exact mB rfl rfl
    · exact ⟨bel_cW, trivial⟩
  obtain rfl : k = (canon a).length := by omega
  have hv := ho.val
  rw [List.take_length, wval_canon] at hv
  have hv2 : wval o = a * 2 ^ n := by rw [hv, hn, Nat.pow_add, Nat.pow_mul, Nat.mul_comm (2 ^ r)]
  have hol := ho.len
  have TC := ptrim_cv (G := TabAt) o ((canon a).length + q + 1) hol.symm ho.ok (by omega)
  rw [hv2] at TC
  repeat' (with_reducible first | apply qa | apply qb | apply qc | apply qd | apply qe | apply qf | apply qg | apply qh | apply qi | apply qj | apply qk | apply ql rfl | apply qm rfl | apply qn rfl | apply Je | (refine Tx 6 ?_; refine Jo xLt ?_))
  refine cw_wk (wk_freeze (ds := o.map dW) 7 0 rfl (by rw [← cW_D]; rfl)) ?_
  repeat' (with_reducible first | apply qa | apply qb | apply qc | apply qd | apply qe | apply qf | apply qg | apply qh | apply qi | apply qj | apply qk | apply ql rfl | apply qm rfl | apply qn rfl | apply Je | (refine Tx 12 ?_; refine Jm ?_; refine Jo (xCl Tryd.func57 (TC)) ?_; refine Ja ?_))
  exact ret_q rfl (.cons_ (.tmp (.one (cexp_d rfl fun _ => free_C _))) .nil_)
end Go.Proofs.YtmdfjbpggbhgnaaDoor
namespace Go.Proofs.YtmdfjbpggbhgnaaDoor
open Go.ChangeShapes Go.WideShapes Go.ChangeAt Go.RowKit Go.Joins Go.Deep
structure Rw where
  nb : Bool
  A : Option Addr
  ws : List Nat
  cap : Nat
  den : Int
def Rw.cells (r : Rw) : List Value := [.bool r.nb, .slice r.A r.ws.length r.cap, .int .i64 r.den]
def Rw.val (r : Rw) : Value := .agg #[.bool r.nb, .slice r.A r.ws.length r.cap, .int .i64 r.den]
def rw0 : Rw := ⟨false, none, [], 0, 0⟩
instance : Inhabited Rw := ⟨rw0⟩
structure RwAt (w : World) (m : Nat) (r : Rw) : Prop where
  nul : r.A = none → r.cap = 0
  fit : r.ws.length ≤ r.cap
  at_ : CellsAt w m r.A (w32 r.ws)
  ok : wordsOk r.ws
def vdP (r : Rw) : Prop := if r.ws.length = 0 then r.nb = false ∧ r.den = 0 else r.ws[r.ws.length - 1]?.getD 0 ≠ 0 ∧ 0 ≤ r.den ∧ r.den ≤ 65536 ∧ (r.den = 0 ∨ r.ws[0]?.getD 0 % 2 = 1)
instance (r : Rw) : Decidable (vdP r) := by unfold vdP; infer_instance
def vdB (r : Rw) : Bool := decide (vdP r)
def Rw.x (r : Rw) : Int := sg r.nb (wval r.ws)
def Rw.d (r : Rw) : Nat := r.den.toNat
theorem vdP_0 {r : Rw} (h : r.ws.length = 0) : vdP r ↔ r.nb = false ∧ r.den = 0 := by unfold vdP; rw [if_pos h]
theorem vdP_n {r : Rw} (h : ¬ r.ws.length = 0) : vdP r ↔ r.ws[r.ws.length - 1]?.getD 0 ≠ 0 ∧ 0 ≤ r.den ∧ r.den ≤ 65536 ∧ (r.den = 0 ∨ r.ws[0]?.getD 0 % 2 = 1) := by unfold vdP; rw [if_neg h]
theorem vd_yes {r : Rw} (h : vdP r) : vdB r = true := decide_eq_true h
theorem vd_no {r : Rw} (h : ¬ vdP r) : vdB r = false := decide_eq_false h
theorem vd_canon {r : Rw} (hok : wordsOk r.ws) (h : vdB r = true) : canon (wval r.ws) = r.ws := by
  have h := of_decide_eq_true h
  refine canon_wval hok fun hne => ?_
  have hl : ¬ r.ws.length = 0 := fun h0 => hne (List.eq_nil_of_length_eq_zero h0)
  exact ((vdP_n hl).1 h).1
theorem x_abs (r : Rw) : r.x.natAbs = wval r.ws := sg_abs _ _
structure Iv where
  lo : Rw
  hi : Rw
def Iv.cells (a : Iv) : List Value := [.bool a.lo.nb, .slice a.lo.A a.lo.ws.length a.lo.cap, .int .i64 a.lo.den, .bool a.hi.nb, .slice a.hi.A a.hi.ws.length a.hi.cap, .int .i64 a.hi.den]
def Iv.val (a : Iv) : Value := .agg #[.bool a.lo.nb, .slice a.lo.A a.lo.ws.length a.lo.cap, .int .i64 a.lo.den, .bool a.hi.nb, .slice a.hi.A a.hi.ws.length a.hi.cap, .int .i64 a.hi.den]
def iv0 : Iv := ⟨rw0, rw0⟩
instance : Inhabited Iv := ⟨iv0⟩
structure IvAt (w : World) (m : Nat) (a : Iv) : Prop where
  lo : RwAt w m a.lo
  hi : RwAt w m a.hi
def ivP (a : Iv) : Prop := vdB a.lo = true ∧ vdB a.hi = true ∧ pCmp a.lo.x a.lo.d a.hi.x a.hi.d ≤ 0
instance (a : Iv) : Decidable (ivP a) := by unfold ivP; infer_instance
def ivB (a : Iv) : Bool := decide (ivP a)
def leanB (r : Rw) : Bool := decide (r.ws.length ≤ 140 ∧ r.den ≤ 9000)
def leanI (a : Iv) : Bool := decide (a.lo.ws.length ≤ 140 ∧ a.hi.ws.length ≤ 140 ∧ a.lo.den ≤ 9000 ∧ a.hi.den ≤ 9000)
/- What came in. -/
set_option maxRecDepth 100000
section
variable {H : Type} {enc : TypeId × Value → H} {w : World} {spare : Nat → Bool} {held : Bool}
def IvIn (w : World) (a : Iv) : Prop := IvAt w w.heap.size a ∧ a.lo.ws.length ≤ maxLen ∧ a.hi.ws.length ≤ maxLen ∧ (-9223372036854775808 ≤ a.lo.den ∧ a.lo.den ≤ 9223372036854775807) ∧ -9223372036854775808 ≤ a.hi.den ∧ a.hi.den ≤ 9223372036854775807
end
end Go.Proofs.YtmdfjbpggbhgnaaDoor
namespace Go.Proofs.YtmdfjbpggbhgnaaDoor
open Go.RowKit
def NoW (vs : List Value) : Prop := ∀ u ∈ vs, ∀ z, u ≠ .int .u32 z
def IvR (w : World) (lo hi : Nat) (v : Value) (x : Int) (dx : Nat) (y : Int) (dy : Nat) : Prop :=
  ∃ r s : Rw, v = (Iv.mk r s).val ∧ DyR w lo hi r.val x dx ∧ DyR w lo hi s.val y dy
structure SKn (W : World) (m r n t : Nat) (w : World) : Prop where
  is : Below m W w
  fits : m ≤ w.heap.size
  own : ∃ vs : List Value, vs.length = n ∧ RowD w r vs t
def setAll (w : World) (b : Nat) : Nat → List Value → World
  | _, [] => w
  | j, v :: vs => setAll (w.setCell ⟨b, j, none⟩ v) b (j + 1) vs
end Go.Proofs.YtmdfjbpggbhgnaaDoor
namespace Go.Proofs.YtmdfjbpggbhgnaaDoor
open Go.RowKit
theorem pvalid_raw (r : Rw) (m : Nat) (w : World) (hm : m ≤ w.heap.size) (h : RwAt w m r) (hl : r.ws.length ≤ 1000000) :
    Calls Tryd.prog 28 #[r.val] w fun e w' => e = .returned (.bool (vdB r)) ∧ Below w.heap.size w w' := by
  have hat := h.at_
  have hok := h.ok
  obtain ⟨nb, A, ws, cap, den⟩ := r
  dsimp only at hat hok hl
  simp only [Rw.val]
  have key : den < 0 ∨ den = 0 ∨ (0 < den ∧ den ≤ 65536) ∨ 65536 < den := by omega
  by_cases h0 : ws.length = 0
  · have hp := vdP_0 (r := ⟨nb, A, ws, cap, den⟩) h0
    dsimp only at hp
    have hz : (ws.length : Int) = 0 := by omega
    have hzb : ((ws.length : Int) == 0) = true := by rw [hz]; rfl
    rw [h0] at hzb ⊢
    clear hat hok hl h hz h0
    cases nb with
    | true =>
      rcases key with k1 | k1 | k1 | k1
      all_goals
        have HV := Lib.hid (show vdB ⟨true, A, ws, cap, den⟩ = false from vd_no (fun hv => by have := (hp.1 hv).1; cases this))
        clear hp
        go_enter Tryd.func28, Tryd.ntmps28
        go_wp2_with fail
        all_goals first
          | (exfalso; omega)
          | (go_ret
             exact ⟨by rw [HV.out]; rfl, al_ _ _⟩)
    | false =>
      rcases key with k1 | k1 | k1 | k1
      · have d0 : (den == 0) = false := by rw [beq_eq_false_iff_ne]; omega
        have HV := Lib.hid (show vdB ⟨false, A, ws, cap, den⟩ = false from vd_no (fun hv => by have := (hp.1 hv).2; omega))
        clear hp
        go_enter Tryd.func28, Tryd.ntmps28
        go_wp2_with fail
        all_goals first
          | (exfalso; omega)
          | (go_ret
             exact ⟨by rw [HV.out]; rfl, al_ _ _⟩)
      · have d0 : (den == 0) = true := by simp; omega
        have HV := Lib.hid (show vdB ⟨false, A, ws, cap, den⟩ = true from vd_yes (hp.2 ⟨rfl, k1⟩))
        clear hp
        go_enter Tryd.func28, Tryd.ntmps28
        go_wp2_with fail
        all_goals first
          | (exfalso; omega)
          | (go_ret
             exact ⟨by rw [HV.out]; rfl, al_ _ _⟩)
      · have d0 : (den == 0) = false := by rw [beq_eq_false_iff_ne]; omega
        have HV := Lib.hid (show vdB ⟨false, A, ws, cap, den⟩ = false from vd_no (fun hv => by have := (hp.1 hv).2; omega))
        clear hp
        go_enter Tryd.func28, Tryd.ntmps28
        go_wp2_with fail
        all_goals first
          | (exfalso; omega)
          | (go_ret
             exact ⟨by rw [HV.out]; rfl, al_ _ _⟩)
      · have d0 : (den == 0) = false := by rw [beq_eq_false_iff_ne]; omega
        have HV := Lib.hid (show vdB ⟨false, A, ws, cap, den⟩ = false from vd_no (fun hv => by have := (hp.1 hv).2; omega))
        clear hp
        go_enter Tryd.func28, Tryd.ntmps28
        go_wp2_with fail
        all_goals first
          | (exfalso; omega)
          | (go_ret
             exact ⟨by rw [HV.out]; rfl, al_ _ _⟩)
  · have hp := vdP_n (r := ⟨nb, A, ws, cap, den⟩) h0
    dsimp only at hp
    obtain ⟨b, off, z, hA, q1, q2, hz, g1⟩ := hat.w32_ (k := ws.length - 1) (by omega)
    subst hA
    obtain ⟨b', off', y, hA', _, _, hy, g0⟩ := hat.w32_ (k := 0) (by omega)
    cases hA'
    rw [Nat.add_zero] at g0
    obtain ⟨L, hL⟩ : ∃ L, L = ws.length - 1 := ⟨_, rfl⟩
    have hlen : ws.length = L + 1 := by omega
    have hl' : L ≤ 1000000 := by omega
    have e0 : ((L : Int) + 1 == 0) = false := by simp; omega
    rw [← hL] at g1
    rw [hz, hy] at hp
    simp only [Option.getD_some] at hp
    rw [hlen]
    clear hat hok hl h hz hy hL q1 q2 h0 hlen
    by_cases hz0 : z = 0
    · subst hz0
      have hzb : (((0 : Nat) : Int) != 0) = false := by rfl
      rcases key with k1 | k1 | k1 | k1
      all_goals
        have HV := Lib.hid (show vdB ⟨nb, some ⟨b, off, none⟩, ws, cap, den⟩ = false from vd_no (fun hv => (hp.1 hv).1 rfl))
        clear hp
        go_enter Tryd.func28, Tryd.ntmps28
        go_wp2_with fail
        all_goals first
          | (exfalso; omega)
          | (go_ret
             exact ⟨by rw [HV.out]; rfl, al_ _ _⟩)
    · have hzb : ((z : Int) != 0) = true := by simp; omega
      rcases key with k1 | k1 | k1 | k1
      · have HV := Lib.hid (show vdB ⟨nb, some ⟨b, off, none⟩, ws, cap, den⟩ = false from vd_no (fun hv => by have := (hp.1 hv).2.1; omega))
        clear hp
        go_enter Tryd.func28, Tryd.ntmps28
        go_wp2_with fail
        all_goals first
          | (exfalso; omega)
          | (go_ret
             exact ⟨by rw [HV.out]; rfl, al_ _ _⟩)
      · have d0 : (den == 0) = true := by simp; omega
        have HV := Lib.hid (show vdB ⟨nb, some ⟨b, off, none⟩, ws, cap, den⟩ = true from vd_yes (hp.2 ⟨hz0, by omega, by omega, .inl k1⟩))
        clear hp
        go_enter Tryd.func28, Tryd.ntmps28
        go_wp2_with fail
        all_goals first
          | (exfalso; omega)
          | (go_ret
             exact ⟨by rw [HV.out]; rfl, al_ _ _⟩)
      · have d0 : (den == 0) = false := by rw [beq_eq_false_iff_ne]; omega
        have d1 : decide (den ≤ 65536) = true := decide_eq_true k1.2
        have d2 : decide (0 ≤ den) = true := decide_eq_true (by omega)
        by_cases ho : y % 2 = 1
        · have hoi : (y : Int) % 2 = 1 := by omega
          have HV := Lib.hid (show vdB ⟨nb, some ⟨b, off, none⟩, ws, cap, den⟩ = true from vd_yes (hp.2 ⟨hz0, by omega, k1.2, .inr ho⟩))
          clear hp
          go_enter Tryd.func28, Tryd.ntmps28
          go_wp2_with fail
          all_goals first
            | (exfalso; omega)
            | (go_ret
               exact ⟨by rw [HV.out]; rfl, al_ _ _⟩)
        · have hoi : (y : Int) % 2 = 0 := by omega
          have HV := Lib.hid (show vdB ⟨nb, some ⟨b, off, none⟩, ws, cap, den⟩ = false from vd_no (fun hv => by have := (hp.1 hv).2.2.2; omega))
          clear hp
          go_enter Tryd.func28, Tryd.ntmps28
          go_wp2_with fail
          all_goals first
            | (exfalso; omega)
            | (go_ret
               exact ⟨by rw [HV.out]; rfl, al_ _ _⟩)
      · have HV := Lib.hid (show vdB ⟨nb, some ⟨b, off, none⟩, ws, cap, den⟩ = false from vd_no (fun hv => by have := (hp.1 hv).2.2.1; omega))
        clear hp
        go_enter Tryd.func28, Tryd.ntmps28
        go_wp2_with fail
        all_goals first
          | (exfalso; omega)
          | (go_ret
             exact ⟨by rw [HV.out]; rfl, al_ _ _⟩)
end Go.Proofs.YtmdfjbpggbhgnaaDoor
namespace Go.Proofs.YtmdfjbpggbhgnaaDoor
open Go.RowKit
end Go.Proofs.YtmdfjbpggbhgnaaDoor
