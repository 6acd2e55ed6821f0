/- The law CompileCells on values. No conditions. -/
import Derived.Test.YtjlocofimlgaoaaDoorRnW
namespace Go.Proofs.YtjlocofimlgaoaaDoor
set_option linter.unusedVariables false
set_option linter.unusedSimpArgs false
set_option linter.unusedSectionVars false
open Go.RowKit Cd
theorem ok_sliceL {P : Program} {G : World → Prop} {o : Oper} {F : Frm} {H : List Ob} {t e : TypeId} {x l : Operand} {tg : Bool} {n s lo : Nat} {k : IntKind} {z : Int} {cs : List D} (ho : o.op = .slice t x (some l) none none) (hx : F.ev x = .one (.d (.row tg s n cs))) (hl : F.ev l = .one (.d (.val (.int k z)))) (hz : z = (lo : Int)) (ht : TyS P t e s) (h1 : lo ≤ n) :
    OpOk P G o F H (.one (.d (.row tg s (n - lo) (cs.drop (lo * s))))) [] := ok_same fun b0 m a hp hcx hor => by
  subst hz
  have hv := ev_rel hor (x := x) (by rw [ho]; simp [Op.operands])
  have el := val_of (m := m) (v := a.eval l) (by rw [← hl]; exact ev_rel hor (by rw [ho]; simp [Op.operands]))
  rw [hx] at hv
  have hv' : DRel m.w m.S (.row tg s n cs) (a.eval x) := hv
  generalize hxe : a.eval x = u at hv'
  cases hv' with
  | @row _ _ _ cap _ A xs hc hA hln hxl hm hr =>
    obtain ⟨ie, hi1, hi2⟩ := Option.map_eq_some_iff.1 ht.s
    have hls : lo * s ≤ n * s := Nat.mul_le_mul_right _ h1
    have e3 : (n : Int) ≤ (cap : Int) := by omega
    have e4 : (lo : Int) ≤ (n : Int) := by omega
    have e6 : (0 : Int) ≤ (lo : Int) := by omega
    refine ⟨.slice (if cap = lo then A else A.map (·.add (lo * s))) (n - lo) (cap - lo), ?_, DRel.row (xs.drop (lo * s)) (by omega) (fun h0 => ?_) ?_ ?_ (fun hne => ?_) (fun j u x hu hj => ?_)⟩
    · unfold execOp
      simp [ho, hxe, el, Instr.sliceAt, Instr.slice, run_underlying ht.h, Instr.sliceBounds, Instr.sliceBound, asIntOf, sizeOf, typeInfo, hi1, hi2, h1, hc]
    · split at h0
      · omega
      · cases A with
        | none => have := hA rfl; omega
        | some p => simp at h0
    · rw [List.length_drop, hln, Nat.sub_mul]
    · simp [hxl]
    · have hcne : cs ≠ [] := fun h0 => hne (by rw [h0]; simp)
      obtain ⟨b, off, rfl, hb, hcells⟩ := hm hcne
      have hcl : cap ≠ lo := fun h0 => hne (by
        refine List.eq_nil_of_length_eq_zero ?_
        rw [List.length_drop, hln, show n = lo by omega, Nat.sub_self])
      rw [if_neg hcl]
      refine ⟨b, off + lo * s, by simp [Addr.add_mid], hb, fun j x hj => ?_⟩
      rw [List.getElem?_drop] at hj
      rw [Nat.add_assoc]
      exact hcells _ x hj
    · rw [List.getElem?_drop] at hu hj
      exact hr _ u x hu hj
theorem bints_cv (t u : Bool) (xs ys : List Int) (l1 : xs.length ≤ 1000000) (l2 : ys.length ≤ 1000000) : CVF Tryd.prog TabAt 32 [.one (rowI t xs), .one (rowI u ys)] [aB (intsB xs ys)] := fun w S vs hg hlt ha => by
  obtain ⟨v, vs', rfl, q1, ha⟩ := ha.uncons
  obtain ⟨u, hu, q2⟩ := one_arg ha
  subst hu
  obtain ⟨A1, c1, rfl, _, _, k1⟩ := rowI_open hlt q1
  obtain ⟨A2, c2, rfl, _, _, k2⟩ := rowI_open hlt q2
  exact (ints_any A1 A2 xs ys c1 c2 _ w k1 k2 (by omega) (by omega)).mono fun r w' ⟨he, hb⟩ => ⟨_, he, DRel.val rfl, hb⟩
theorem rowI_drop (t : Bool) (xs : List Int) (n k : Nat) (hn : n = xs.length) : D.row t 1 (n - k) ((xs.map dI).drop (k * 1)) = rowI t (xs.drop k) := by
  subst hn
  unfold rowI
  rw [List.length_drop, Nat.mul_one, List.map_drop]
/-! what Compile's code writes -/
theorem ord_all {bs : List Bk} (h : ordErr bs = 0) {j : Nat} (hj : j < bs.length) (hk : kindAt bs j ≠ 2) : j ∈ ordM bs := Classical.byContradiction fun hn => by
  have hlen : (ordM bs).length = nonDel bs := by
    unfold ordErr at h
    exact Classical.byContradiction fun hx => by rw [if_neg hx] at h; cases h
  have ho := ordN_ok bs.length (OutOk.nil bs)
  have := OutOk.le (bs := bs) (out := j :: ordM bs) ⟨List.nodup_cons.2 ⟨hn, ho.nodup⟩, fun i hi => by
    rcases List.mem_cons.1 hi with rfl | hi
    · exact ⟨hj, hk⟩
    · exact ho.mem i hi⟩
  rw [List.length_cons] at this
  omega
theorem blk_dst {ps : List Prt} {bs : List Bk} {F : List Int} {j : Nat} {c : Int} : (∀ x ∈ blkC ps bs F j c, x.dst = (j : Int)) ∧ ∃ x, x ∈ blkC ps bs F j c ∧ x.dst = (j : Int) := by
  unfold blkC
  dsimp only
  repeat' split
  all_goals simp
theorem del_mem {bs : List Bk} {j : Nat} : j ∈ delL bs ↔ j < bs.length ∧ kindAt bs j = 2 := by
  rw [delL_is]
  unfold dlK dlB
  simp
theorem cell_del {bs : List Bk} {t j : Nat} (h : (delL bs)[t]? = some j) : cellF bs j = (bs.length : Int) + (t : Int) := by
  rw [delL_is] at h
  obtain ⟨_, h2, h3⟩ := dl_at.1 h
  unfold cellF
  rw [if_pos h2, h3]
theorem code_dst {ps : List Prt} {bs : List Bk} {F : List Int} {x : Ins} (h : x ∈ codeM ps bs F) : 0 ≤ x.dst ∧ x.dst < (bs.length : Int) + ((delL bs).length : Int) := by
  unfold codeM at h
  rcases List.mem_append.1 h with h | h
  · rcases List.mem_append.1 h with h | h
    · obtain ⟨j, hj, hx⟩ := List.mem_flatMap.1 h
      have h1 := (ordN_ok bs.length (OutOk.nil bs)).mem j hj
      rw [blk_dst.1 x hx]
      omega
    · obtain ⟨j, hj, rfl⟩ := List.mem_map.1 h
      obtain ⟨t, ht⟩ := List.getElem?_of_mem hj
      have hlt := (List.getElem?_eq_some_iff.1 ht).1
      show 0 ≤ cellF bs j ∧ cellF bs j < _
      rw [cell_del ht]
      omega
  · obtain ⟨j, hj, rfl⟩ := List.mem_map.1 h
    have := (del_mem.1 hj).1
    show 0 ≤ (j : Int) ∧ (j : Int) < _
    omega
theorem code_wr {ps : List Prt} {bs : List Bk} {F : List Int} (h0 : ordErr bs = 0) (i : Nat) : wrP (codeM ps bs F) i = decide (i < bs.length + (delL bs).length) := by
  rw [Bool.eq_iff_iff, decide_eq_true_eq]
  unfold wrP
  rw [List.any_eq_true]
  constructor
  · rintro ⟨x, hx, he⟩
    have h1 := code_dst hx
    have h2 : x.dst = (i : Int) := by simpa using he
    omega
  · intro hi
    have key : ∃ x, x ∈ codeM ps bs F ∧ x.dst = (i : Int) := by
      unfold codeM
      by_cases hn : i < bs.length
      · by_cases hk : kindAt bs i = 2
        · exact ⟨mv2 bs i, List.mem_append_right _ (List.mem_map.2 ⟨i, del_mem.2 ⟨hn, hk⟩, rfl⟩), rfl⟩
        · obtain ⟨x, hx, hd⟩ := (blk_dst (ps := ps) (bs := bs) (F := F) (j := i) (c := cellF bs i)).2
          exact ⟨x, List.mem_append_left _ (List.mem_append_left _ (List.mem_flatMap.2 ⟨i, ord_all h0 hn hk, hx⟩)), hd⟩
      · obtain ⟨j, hj⟩ : ∃ j, (delL bs)[i - bs.length]? = some j := ⟨_, List.getElem?_eq_getElem (by omega)⟩
        refine ⟨mv1 bs F j, List.mem_append_left _ (List.mem_append_right _ (List.mem_map.2 ⟨j, List.mem_of_getElem? hj, rfl⟩)), ?_⟩
        show cellF bs j = _
        rw [cell_del hj]
        omega
    obtain ⟨x, hx, hd⟩ := key
    exact ⟨x, hx, by simp [hd]⟩
theorem range_filter (m : Nat) : ∀ n, m ≤ n → (List.range n).filter (fun i => decide (i < m)) = List.range m
  | 0, h => by rw [Nat.le_zero.1 h]; rfl
  | n + 1, h => by
    rw [List.range_succ, List.filter_append]
    by_cases hm : m ≤ n
    · rw [range_filter m n hm]
      have : decide (n < m) = false := decide_eq_false (by omega)
      simp [this]
    · have e : m = n + 1 := by omega
      subst e
      rw [List.range_succ]
      congr 1
      · exact List.filter_eq_self.2 fun a ha => decide_eq_true (by have := List.mem_range.1 ha; omega)
      · simp
theorem code_writes {ps : List Prt} {bs : List Bk} {F : List Int} (h0 : ordErr bs = 0) : wrL (codeM ps bs F) (initM bs F).length = tab (bs.length + (delL bs).length) fun i => (i : Int) := by
  unfold wrL tab
  rw [show wrP (codeM ps bs F) = fun i => decide (i < bs.length + (delL bs).length) from funext (code_wr h0), range_filter _ _ (by rw [init_len, delL_is]; omega)]
theorem run_free {inn : List Int} {j : Nat} : ∀ {xs : List Ins} {st : List Int × Bool}, (∀ x ∈ xs, x.dst.toNat ≠ j) → (xs.foldl (stepV inn) st).1[j]? = st.1[j]?
  | [], _, _ => rfl
  | x :: xs, st, h => by
    rw [List.foldl_cons, run_free fun y hy => h y (List.mem_cons_of_mem _ hy)]
    show (st.1.set x.dst.toNat _)[j]? = _
    rw [List.getElem?_set, if_neg (h x (List.mem_cons_self ..))]
theorem scl_zero {z : Int} (h : shortB z = true) : scl z 0 = z := by
  have := shortB_t h
  unfold scl
  rw [if_neg (by decide)]
  show _ * 1 = z
  rw [Int.mul_one]
  omega
theorem run_moves {bs : List Bk} {inn : List Int} {st : List Int × Bool} (hlen : bs.length + (delL bs).length ≤ st.1.length) (hs : ∀ z ∈ st.1, shortB z = true) : ∀ t, t ≤ (delL bs).length →
    (((delL bs).take t).map (mv2 bs)).foldl (stepV inn) st = ((((delL bs).take t).map (mv2 bs)).foldl (stepV inn) st) ∧
    (∀ k, k < (delL bs).length → ((((delL bs).take t).map (mv2 bs)).foldl (stepV inn) st).1[bs.length + k]? = st.1[bs.length + k]?) ∧
    ((((delL bs).take t).map (mv2 bs)).foldl (stepV inn) st).1.length = st.1.length ∧
    (∀ k j, k < t → (delL bs)[k]? = some j → ((((delL bs).take t).map (mv2 bs)).foldl (stepV inn) st).1[j]? = st.1[bs.length + k]?)
  | 0, _ => ⟨rfl, fun _ _ => rfl, rfl, fun _ _ h => absurd h (Nat.not_lt_zero _)⟩
  | t + 1, ht => by
    obtain ⟨_, ih1, ih2, ih3⟩ := run_moves (inn := inn) hlen hs t (by omega)
    obtain ⟨d, hd⟩ : ∃ d, (delL bs)[t]? = some d := ⟨_, List.getElem?_eq_getElem (by omega)⟩
    have hdn := (del_mem.1 (List.mem_of_getElem? hd)).1
    have hc := cell_del hd
    obtain ⟨z, hz⟩ : ∃ z, st.1[bs.length + t]? = some z := ⟨_, List.getElem?_eq_getElem (by omega)⟩
    have hzs := hs z (List.mem_of_getElem? hz)
    have e : (((delL bs).take (t + 1)).map (mv2 bs)).foldl (stepV inn) st = stepV inn ((((delL bs).take t).map (mv2 bs)).foldl (stepV inn) st) (mv2 bs d) := by
      rw [List.take_add_one, hd]
      simp [List.foldl_append]
    generalize (((delL bs).take t).map (mv2 bs)).foldl (stepV inn) st = A at ih1 ih2 ih3 e
    have hv : insV (mv2 bs d) A.1 inn = z := by
      rw [iv_move (w := z) rfl (by show A.1[(cellF bs d).toNat]? = _; rw [hc, show ((bs.length : Int) + (t : Int)).toNat = bs.length + t by omega, ih1 t (by omega)]; exact hz)]
      exact scl_zero hzs
    have hA : (stepV inn A (mv2 bs d)).1 = A.1.set d z := by
      show A.1.set ((d : Int)).toNat (cutV (insV (mv2 bs d) A.1 inn)) = _
      rw [hv, cutV_in hzs]
      rfl
    rw [e, hA]
    refine ⟨rfl, fun k hk => ?_, by rw [List.length_set]; exact ih2, fun k j hk hj => ?_⟩
    · rw [List.getElem?_set, if_neg (by omega)]
      exact ih1 k hk
    · by_cases hjd : d = j
      · subst hjd
        have hkt : k = t := by
          have h1 := hj; have h2 := hd
          rw [delL_is] at h1 h2
          have := (dl_at.1 h1).2.2; have := (dl_at.1 h2).2.2; omega
        subst hkt
        rw [List.getElem?_set, if_pos rfl, if_pos (by omega)]
        exact hz.symm
      · rw [List.getElem?_set, if_neg hjd]
        refine ih3 k j ?_ hj
        rcases Nat.lt_or_ge k t with h | h
        · exact h
        · exfalso
          have : k = t := by omega
          subst this
          rw [hd] at hj
          exact hjd (Option.some.inj hj)
section
variable {ps : List Prt} {bs : List Bk} {F inn : List Int}
theorem run_delay {k j : Nat} (hj : (delL bs)[k]? = some j) : (runV inn (codeM ps bs F) (initM bs F)).1[j]? = (runV inn (codeM ps bs F) (initM bs F)).1[bs.length + k]? := by
  have hk := (List.getElem?_eq_some_iff.1 hj).1
  have hsplit : runV inn (codeM ps bs F) (initM bs F) = ((delL bs).map (mv2 bs)).foldl (stepV inn) (runV inn ((ordM bs).flatMap (fun j => blkC ps bs F j (cellF bs j)) ++ (delL bs).map (mv1 bs F)) (initM bs F)) := by
    unfold runV codeM
    rw [List.foldl_append]
  have hs := runV_short (inn := inn) (xs := (ordM bs).flatMap (fun j => blkC ps bs F j (cellF bs j)) ++ (delL bs).map (mv1 bs F)) (cs := initM bs F) (fun z hz => init_short hz)
  have hlen := runV_len inn ((ordM bs).flatMap (fun j => blkC ps bs F j (cellF bs j)) ++ (delL bs).map (mv1 bs F)) (initM bs F)
  rw [init_len, ← delL_is] at hlen
  rw [hsplit]
  generalize runV inn ((ordM bs).flatMap (fun j => blkC ps bs F j (cellF bs j)) ++ (delL bs).map (mv1 bs F)) (initM bs F) = st at hs hlen ⊢
  obtain ⟨_, h1, _, h3⟩ := run_moves (bs := bs) (inn := inn) (st := st) (by omega) (fun z hz => decide_eq_true (hs z hz)) (delL bs).length (Nat.le_refl _)
  rw [List.take_length] at h1 h3
  rw [h3 k j hk hj, h1 k hk]
theorem run_rest : (runV inn (codeM ps bs F) (initM bs F)).1.drop (bs.length + (delL bs).length) = (initM bs F).drop (bs.length + (delL bs).length) := by
  refine List.ext_getElem? fun i => ?_
  rw [List.getElem?_drop, List.getElem?_drop]
  exact run_free fun x hx => by
    have := code_dst hx
    omega
end
theorem inp_fit {ps : List Prt} {is : List Int} {xs : List Ins} {os inn : List Int} (hp : progErr ps is xs os = 0) (k : Nat) (p : Prt) (z : Int) (h1 : ps[k]? = some p) (h2 : (inpV ps inn ps.length)[k]? = some z) : p.lo ≤ z ∧ z ≤ p.hi := by
  have hk := (List.getElem?_eq_some_iff.1 h1).1
  have := prog_zero hp (portErr p) (by simp only [List.mem_append, List.mem_map]; exact .inl ⟨p, List.mem_of_getElem? h1, rfl⟩)
  have hle : p.lo ≤ p.hi := by
    unfold portErr at this
    exact Classical.byContradiction fun hn => by rw [if_neg (fun h => hn h.2.2.1)] at this; cases this
  unfold inpV at h2
  rw [List.getElem?_map, List.getElem?_range hk] at h2
  simp only [Option.map_some, Option.some.injEq, h1, Option.getD_some] at h2
  subst h2
  unfold clipI
  omega
theorem inp_len (ps : List Prt) (inn : List Int) : (inpV ps inn ps.length).length = ps.length := by simp [inpV]
set_option maxRecDepth 100000 in
set_option maxHeartbeats 4000000 in
theorem compileCells_cv (ps : List Prt) (bs : List Bk) (os F inn : List Int) : CV Tryd.prog TabAt 7 [aDg true ps bs os, .one (rowI true F), .one (rowI true inn)] [aB true] := by
  refine cv_of tab_G Tryd.func7 rfl Tryd.ntmps7 (Nat.le_of_ble_eq_true rfl) ?_
  have LT := light_cv ps bs os
  by_cases hlt : lightB ps bs os = true
  case neg =>
    rw [Bool.not_eq_true] at hlt
    rw [hlt] at LT
    repeat' (with_reducible first | apply qa | apply qb | apply qc | apply qd | apply qe | apply qf | apply qg | apply qh | apply qi | apply qj | apply qk | apply ql rfl | apply qm rfl | apply qn rfl | (refine Tx 0 ?_; refine Jn xBo ?_; refine Ja ?_; refine Je ?_) | (refine Tx 1 ?_; refine Jo (xCl Tryd.func9 (awake15_cv)) ?_; refine Jo (by first | exact ok_not rfl rfl | exact ok_neg64 rfl rfl (by omega)) ?_; refine Jm ?_; (first | refine Jd ?_ | refine Jy (xLa tk_Diagram) ?_); (first | refine Jd ?_ | refine Jy (xCl Tryd.func17 (LT)) ?_); (first | refine Jd ?_ | refine Jy (by first | exact ok_not rfl rfl | exact ok_neg64 rfl rfl (by omega)) ?_); refine Jo xPk ?_; refine Jm ?_; (first | refine Jd ?_ | refine Jy (by exact ok_mv1 rfl rfl) ?_); (first | refine Jd ?_ | refine Jy (xLn ts_s_int) ?_); (first | refine Jd ?_ | refine Jy xGt ?_); refine Jo xPk ?_; refine Jm ?_; (first | refine Jd ?_ | refine Jy (by exact ok_mv1 rfl rfl) ?_); (first | refine Jd ?_ | refine Jy (xLn ts_s_int) ?_); (first | refine Jd ?_ | refine Jy xGt ?_); refine Jo xPk ?_; refine Jm ?_; (first | refine Jd ?_ | refine Jy (xLa tk_Diagram) ?_); (first | refine Jd ?_ | refine Jy (xCl Tryd.func19 (RC.cv)) ?_); (first | refine Jd ?_ | refine Jy xNe ?_); refine Jo xPk ?_; refine Je ?_) | (refine Tx 2 ?_; refine Jo (xCl Tryd.func9 (awake15_cv)) ?_; refine Ja ?_; refine Je ?_))
    exact ret_q rfl (.cons_ (rv_b rfl (rfl)) .nil_)
  rw [hlt] at LT
  by_cases hF : 100 < F.length
  case pos =>
    repeat' (with_reducible first | apply qa | apply qb | apply qc | apply qd | apply qe | apply qf | apply qg | apply qh | apply qi | apply qj | apply qk | apply ql rfl | apply qm rfl | apply qn rfl | (refine Tx 0 ?_; refine Jn xBo ?_; refine Ja ?_; refine Je ?_) | (refine Tx 1 ?_; refine Jo (xCl Tryd.func9 (awake15_cv)) ?_; refine Jo (by first | exact ok_not rfl rfl | exact ok_neg64 rfl rfl (by omega)) ?_; refine Jm ?_; (first | refine Jd ?_ | refine Jy (xLa tk_Diagram) ?_); (first | refine Jd ?_ | refine Jy (xCl Tryd.func17 (LT)) ?_); (first | refine Jd ?_ | refine Jy (by first | exact ok_not rfl rfl | exact ok_neg64 rfl rfl (by omega)) ?_); refine Jo xPk ?_; refine Jm ?_; (first | refine Jd ?_ | refine Jy (by exact ok_mv1 rfl rfl) ?_); (first | refine Jd ?_ | refine Jy (xLn ts_s_int) ?_); (first | refine Jd ?_ | refine Jy xGt ?_); refine Jo xPk ?_; refine Jm ?_; (first | refine Jd ?_ | refine Jy (by exact ok_mv1 rfl rfl) ?_); (first | refine Jd ?_ | refine Jy (xLn ts_s_int) ?_); (first | refine Jd ?_ | refine Jy xGt ?_); refine Jo xPk ?_; refine Jm ?_; (first | refine Jd ?_ | refine Jy (xLa tk_Diagram) ?_); (first | refine Jd ?_ | refine Jy (xCl Tryd.func19 (RC.cv)) ?_); (first | refine Jd ?_ | refine Jy xNe ?_); refine Jo xPk ?_; refine Je ?_) | (refine Tx 2 ?_; refine Jo (xCl Tryd.func9 (awake15_cv)) ?_; refine Ja ?_; refine Je ?_))
    exact ret_q rfl (.cons_ (rv_b rfl (rfl)) .nil_)
  by_cases hI : 40 < inn.length
  case pos =>
    repeat' (with_reducible first | apply qa | apply qb | apply qc | apply qd | apply qe | apply qf | apply qg | apply qh | apply qi | apply qj | apply qk | apply ql rfl | apply qm rfl | apply qn rfl | (refine Tx 0 ?_; refine Jn xBo ?_; refine Ja ?_; refine Je ?_) | (refine Tx 1 ?_; refine Jo (xCl Tryd.func9 (awake15_cv)) ?_; refine Jo (by first | exact ok_not rfl rfl | exact ok_neg64 rfl rfl (by omega)) ?_; refine Jm ?_; (first | refine Jd ?_ | refine Jy (xLa tk_Diagram) ?_); (first | refine Jd ?_ | refine Jy (xCl Tryd.func17 (LT)) ?_); (first | refine Jd ?_ | refine Jy (by first | exact ok_not rfl rfl | exact ok_neg64 rfl rfl (by omega)) ?_); refine Jo xPk ?_; refine Jm ?_; (first | refine Jd ?_ | refine Jy (by exact ok_mv1 rfl rfl) ?_); (first | refine Jd ?_ | refine Jy (xLn ts_s_int) ?_); (first | refine Jd ?_ | refine Jy xGt ?_); refine Jo xPk ?_; refine Jm ?_; (first | refine Jd ?_ | refine Jy (by exact ok_mv1 rfl rfl) ?_); (first | refine Jd ?_ | refine Jy (xLn ts_s_int) ?_); (first | refine Jd ?_ | refine Jy xGt ?_); refine Jo xPk ?_; refine Jm ?_; (first | refine Jd ?_ | refine Jy (xLa tk_Diagram) ?_); (first | refine Jd ?_ | refine Jy (xCl Tryd.func19 (RC.cv)) ?_); (first | refine Jd ?_ | refine Jy xNe ?_); refine Jo xPk ?_; refine Je ?_) | (refine Tx 2 ?_; refine Jo (xCl Tryd.func9 (awake15_cv)) ?_; refine Ja ?_; refine Je ?_))
    exact ret_q rfl (.cons_ (rv_b rfl (rfl)) .nil_)
  obtain ⟨hl, hb⟩ := light_len hlt
  have RC := rcheck_cv true hl
  by_cases he : dgErr ps bs os = 0
  case neg =>
    repeat' (with_reducible first | apply qa | apply qb | apply qc | apply qd | apply qe | apply qf | apply qg | apply qh | apply qi | apply qj | apply qk | apply ql rfl | apply qm rfl | apply qn rfl | (refine Tx 0 ?_; refine Jn xBo ?_; refine Ja ?_; refine Je ?_) | (refine Tx 1 ?_; refine Jo (xCl Tryd.func9 (awake15_cv)) ?_; refine Jo (by first | exact ok_not rfl rfl | exact ok_neg64 rfl rfl (by omega)) ?_; refine Jm ?_; (first | refine Jd ?_ | refine Jy (xLa tk_Diagram) ?_); (first | refine Jd ?_ | refine Jy (xCl Tryd.func17 (LT)) ?_); (first | refine Jd ?_ | refine Jy (by first | exact ok_not rfl rfl | exact ok_neg64 rfl rfl (by omega)) ?_); refine Jo xPk ?_; refine Jm ?_; (first | refine Jd ?_ | refine Jy (by exact ok_mv1 rfl rfl) ?_); (first | refine Jd ?_ | refine Jy (xLn ts_s_int) ?_); (first | refine Jd ?_ | refine Jy xGt ?_); refine Jo xPk ?_; refine Jm ?_; (first | refine Jd ?_ | refine Jy (by exact ok_mv1 rfl rfl) ?_); (first | refine Jd ?_ | refine Jy (xLn ts_s_int) ?_); (first | refine Jd ?_ | refine Jy xGt ?_); refine Jo xPk ?_; refine Jm ?_; (first | refine Jd ?_ | refine Jy (xLa tk_Diagram) ?_); (first | refine Jd ?_ | refine Jy (xCl Tryd.func19 (RC.cv)) ?_); (first | refine Jd ?_ | refine Jy xNe ?_); refine Jo (by first | exact ok_neqD rfl rfl rfl (bne_t he) | exact xPk) ?_; refine Je ?_) | (refine Tx 2 ?_; refine Jo (xCl Tryd.func9 (awake15_cv)) ?_; refine Ja ?_; refine Je ?_))
    exact ret_q rfl (.cons_ (rv_b rfl (rfl)) .nil_)
  rw [he] at RC
  have CP := compile_t true true (ps := ps) (bs := bs) (os := os) (F := F) hl (by omega)
  have hE : cpE' ps bs os F = cpErr ps bs F := if_pos he
  rw [hE] at CP
  by_cases h0 : cpErr ps bs F = 0
  case neg =>
    rw [okL_n h0, okL_n h0, okL_n h0, okL_n h0] at CP
    repeat' (with_reducible first | apply qa | apply qb | apply qc | apply qd | apply qe | apply qf | apply qg | apply qh | apply qi | apply qj | apply qk | apply ql rfl | apply qm rfl | apply qn rfl | (refine Tx 0 ?_; refine Jn xBo ?_; refine Ja ?_; refine Je ?_) | (refine Tx 1 ?_; refine Jo (xCl Tryd.func9 (awake15_cv)) ?_; refine Jo (by first | exact ok_not rfl rfl | exact ok_neg64 rfl rfl (by omega)) ?_; refine Jm ?_; (first | refine Jd ?_ | refine Jy (xLa tk_Diagram) ?_); (first | refine Jd ?_ | refine Jy (xCl Tryd.func17 (LT)) ?_); (first | refine Jd ?_ | refine Jy (by first | exact ok_not rfl rfl | exact ok_neg64 rfl rfl (by omega)) ?_); refine Jo xPk ?_; refine Jm ?_; (first | refine Jd ?_ | refine Jy (by exact ok_mv1 rfl rfl) ?_); (first | refine Jd ?_ | refine Jy (xLn ts_s_int) ?_); (first | refine Jd ?_ | refine Jy xGt ?_); refine Jo xPk ?_; refine Jm ?_; (first | refine Jd ?_ | refine Jy (by exact ok_mv1 rfl rfl) ?_); (first | refine Jd ?_ | refine Jy (xLn ts_s_int) ?_); (first | refine Jd ?_ | refine Jy xGt ?_); refine Jo xPk ?_; refine Jm ?_; (first | refine Jd ?_ | refine Jy (xLa tk_Diagram) ?_); (first | refine Jd ?_ | refine Jy (xCl Tryd.func19 (RC.cv)) ?_); (first | refine Jd ?_ | refine Jy xNe ?_); refine Jo (by first | exact ok_neqD rfl rfl rfl (bne_f rfl) | exact xPk) ?_; refine Je ?_) | (refine Tx 3 ?_; refine Jo (xLa tk_Diagram) ?_; refine Jm ?_; refine Jo (xCl Tryd.func18 (CP)) ?_; refine Jo (by exact ok_mvT rfl rfl) ?_; refine Jo (by exact ok_exA rfl rfl rfl) ?_; refine Jo xEx ?_; refine Jn (by exact ok_alloc rfl tz_Program) ?_; refine Js (xSk tk_Program) ?_; refine Ja ?_; refine Je ?_) | (refine Tx 4 ?_; refine Jm ?_; refine Jo (by first | exact ok_neqE rfl ti_error rfl (bne_t h0) | exact ok_neqE rfl ti_error rfl (bne_f (by first | rfl | omega)) | exact ok_neqE rfl ti_error rfl (bne_t (by first | assumption | omega)) | exact ok_neqE rfl ti_error rfl rfl) ?_; refine Je ?_) | (refine Tx 5 ?_; refine Ja ?_; refine Je ?_))
    exact ret_q rfl (.cons_ (rv_b rfl (rfl)) .nil_)
  rw [h0, okL_z rfl, okL_z rfl, okL_z rfl, okL_z rfl] at CP
  have hpr := prog_ok (F := F) he (shifts_ok h0)
  have RD := rdelays_cv true hl
  have WR := writes_cv false hpr
  have IN := inputs_cv true true inn hl (by omega)
  have RU := run_cv false false false hpr rfl (fun z hz => init_short hz) (inp_len ps inn) (inp_fit (inn := inn) hpr)
  have ho : ordErr bs = 0 := (pre_of he).2.2
  have hW := code_writes (ps := ps) (F := F) ho
  have hIL := init_len bs F
  rw [← delL_is] at hIL
  have hdn := natI_len (delL bs)
  have hcl := cpK_len bs bs.length
  have hdl := dlK_len bs bs.length
  rw [← delL_is] at hdl
  rw [hW] at WR
  have hRL := runV_len (inpV ps inn ps.length) (codeM ps bs F) (initM bs F)
  have hRD := fun (k j : Nat) => run_delay (ps := ps) (F := F) (inn := inpV ps inn ps.length) (bs := bs) (k := k) (j := j)
  have hRR := run_rest (ps := ps) (F := F) (inn := inpV ps inn ps.length) (bs := bs)
  generalize hV : (runV (inpV ps inn ps.length) (codeM ps bs F) (initM bs F)).1 = V at RU hRL hRD hRR
  generalize (runV (inpV ps inn ps.length) (codeM ps bs F) (initM bs F)).2 = ov at RU
  generalize outsV V os = out at RU
  have hWl : (tab (bs.length + (delL bs).length) fun i => (i : Int)).length = bs.length + (delL bs).length := tab_len ..
  repeat' (with_reducible first | apply qa | apply qb | apply qc | apply qd | apply qe | apply qf | apply qg | apply qh | apply qi | apply qj | apply qk | apply ql rfl | apply qm rfl | apply qn rfl | (refine Tx 0 ?_; refine Jn xBo ?_; refine Ja ?_; refine Je ?_) | (refine Tx 1 ?_; refine Jo (xCl Tryd.func9 (awake15_cv)) ?_; refine Jo (by first | exact ok_not rfl rfl | exact ok_neg64 rfl rfl (by omega)) ?_; refine Jm ?_; (first | refine Jd ?_ | refine Jy (xLa tk_Diagram) ?_); (first | refine Jd ?_ | refine Jy (xCl Tryd.func17 (LT)) ?_); (first | refine Jd ?_ | refine Jy (by first | exact ok_not rfl rfl | exact ok_neg64 rfl rfl (by omega)) ?_); refine Jo xPk ?_; refine Jm ?_; (first | refine Jd ?_ | refine Jy (by exact ok_mv1 rfl rfl) ?_); (first | refine Jd ?_ | refine Jy (xLn ts_s_int) ?_); (first | refine Jd ?_ | refine Jy xGt ?_); refine Jo xPk ?_; refine Jm ?_; (first | refine Jd ?_ | refine Jy (by exact ok_mv1 rfl rfl) ?_); (first | refine Jd ?_ | refine Jy (xLn ts_s_int) ?_); (first | refine Jd ?_ | refine Jy xGt ?_); refine Jo xPk ?_; refine Jm ?_; (first | refine Jd ?_ | refine Jy (xLa tk_Diagram) ?_); (first | refine Jd ?_ | refine Jy (xCl Tryd.func19 (RC.cv)) ?_); (first | refine Jd ?_ | refine Jy xNe ?_); refine Jo (by first | exact ok_neqD rfl rfl rfl (bne_f rfl) | exact xPk) ?_; refine Je ?_) | (refine Tx 3 ?_; refine Jo (xLa tk_Diagram) ?_; refine Jm ?_; refine Jo (xCl Tryd.func18 (CP)) ?_; refine Jo (by exact ok_mvT rfl rfl) ?_; refine Jo (by exact ok_exA rfl rfl rfl) ?_; refine Jo xEx ?_; refine Jn (by exact ok_alloc rfl tz_Program) ?_; refine Js (xSk tk_Program) ?_; refine Ja ?_; refine Je ?_) | (refine Tx 4 ?_; refine Jm ?_; refine Jo (by first | exact ok_neqE rfl ti_error rfl (bne_f rfl) | exact ok_neqE rfl ti_error rfl (bne_f (by first | rfl | omega)) | exact ok_neqE rfl ti_error rfl (bne_t (by first | assumption | omega)) | exact ok_neqE rfl ti_error rfl rfl) ?_; refine Je ?_) | (refine cw_any (id := 6) mixed (by kernel_rfl) ?_; refine Ko (xFa tf_Diagram1 tk_s_Block) ?_; refine Ko (xLd tk_s_Block) ?_; refine Ko (xLn ts_s_Block) ?_; refine Ko (xLa tk_Diagram) ?_; refine Ko (xCl Tryd.func30 (RD.cv)) ?_; refine Ka ?_; refine Ka ?_; refine Ke ?_) | (refine Tx 7 ?_; refine Jo (xLa tk_Program) ?_; refine Jo (xCl Tryd.func31 (WR)) ?_; refine Jo (by exact ok_mvT rfl rfl) ?_; refine Jo xEx ?_; refine Jo xEx ?_; refine Ja ?_; refine Ja ?_; refine Je ?_) | (refine cw_partE (id := 8) 11 [(11, 9)] mixed (by kernel_rfl) ?_; dsimp only [List.take, List.drop]; refine Ko (xLa tk_Program) ?_; refine Ko (xFa tf_Program1 tk_s_int) ?_; refine Ko (xLd tk_s_int) ?_; refine Ko (xLa tk_Diagram) ?_; refine Km ?_; refine Ko (xCl Tryd.func24 (IN)) ?_; refine Ko (xCl Tryd.func25 (RU)) ?_; refine Ko (by exact ok_mvT rfl rfl) ?_; refine Ko (by exact ok_exA rfl rfl rfl) ?_; refine Ko xEx ?_; refine Kn (by exact ok_alloc rfl tz_CodeRun) ?_; refine Ke ?_; refine Js (xSk tk_CodeRun) ?_; refine Ja ?_; refine Je ?_) | (refine Tx 9 ?_; refine Jm ?_; refine Jo (by first | exact ok_neqE rfl ti_error rfl (bne_f rfl) | exact ok_neqE rfl ti_error rfl (bne_f (by first | rfl | omega)) | exact ok_neqE rfl ti_error rfl (bne_t (by first | assumption | omega)) | exact ok_neqE rfl ti_error rfl rfl) ?_; refine Jm ?_; (first | refine Jd ?_ | refine Jy (by exact ok_mv1 rfl rfl) ?_); (first | refine Jd ?_ | refine Jy (by first | exact ok_neqE rfl ti_error rfl (bne_f rfl) | exact ok_neqE rfl ti_error rfl (bne_f (by first | rfl | omega)) | exact ok_neqE rfl ti_error rfl (bne_t (by first | assumption | omega)) | exact ok_neqE rfl ti_error rfl rfl) ?_); refine Jo xPk ?_; refine Jm ?_; (first | refine Jd ?_ | refine Jy (by exact ok_mv1 rfl rfl) ?_); (first | refine Jd ?_ | refine Jy (xLn ts_s_int) ?_); (first | refine Jd ?_ | refine Jy (by exact ok_mv1 rfl rfl) ?_); (first | refine Jd ?_ | refine Jy (by exact ok_mv1 rfl rfl) ?_); (first | refine Jd ?_ | refine Jy (xLn ts_s_int) ?_); (first | refine Jd ?_ | refine Jy xAd ?_); (first | refine Jd ?_ | refine Jy xNe ?_); refine Jo xPk ?_; refine Jm ?_; (first | refine Jd ?_ | refine Jy (xFa tf_CodeRun0 tk_s_int) ?_); (first | refine Jd ?_ | refine Jy (xLd tk_s_int) ?_); (first | refine Jd ?_ | refine Jy (xLn ts_s_int) ?_); (first | refine Jd ?_ | refine Jy (xFa tf_Program1 tk_s_int) ?_); (first | refine Jd ?_ | refine Jy (xLd tk_s_int) ?_); (first | refine Jd ?_ | refine Jy (xLn ts_s_int) ?_); (first | refine Jd ?_ | refine Jy xNe ?_); refine Jo xPk ?_; refine Jm ?_; (first | refine Jd ?_ | refine Jy (xFa tf_CodeRun0 tk_s_int) ?_); (first | refine Jd ?_ | refine Jy (xLd tk_s_int) ?_); (first | refine Jd ?_ | refine Jy (xLn ts_s_int) ?_); (first | refine Jd ?_ | refine Jy (by exact ok_mv1 rfl rfl) ?_); (first | refine Jd ?_ | refine Jy (by exact ok_mv1 rfl rfl) ?_); (first | refine Jd ?_ | refine Jy (xLn ts_s_int) ?_); (first | refine Jd ?_ | refine Jy xAd ?_); (first | refine Jd ?_ | refine Jy xLt ?_); refine Jo xPk ?_; refine Je ?_) | (refine Tx 11 ?_; refine Jm ?_; refine Jo (xLn ts_s_int) ?_; refine Jm ?_; refine Je ?_))
  refine cw_wk (F' := ofL [(3, vr 0), (7, vr 1), (9, vi bs.length), (10, vd (rowI false (natI (delL bs)))), (13, vr 2), (107, vd (rowI false (tab (bs.length + (delL bs).length) fun i => (i : Int)))), (108, vi ((tab (bs.length + (delL bs).length) fun i => (i : Int)).length)), (109, vi ((0 : Nat)))]) (H' := [.box 46 [.d (rowP true ps), .d (rowB true bs), .d (rowI true os)], .box 50 [.d (rowP false ps), .d (rowI false (initM bs F)), .d (rowN false (codeM ps bs F)), .d (rowI false os)], .box 63 [.d (rowI false V), .d (rowI false out), .d (.val (.bool ov))]]) (wk_go [(3, vr 0), (7, vr 1), (9, vi bs.length), (10, vd (rowI false (natI (delL bs)))), (13, vr 2), (107, vd (rowI false (tab (bs.length + (delL bs).length) fun i => (i : Int)))), (108, vi ((tab (bs.length + (delL bs).length) fun i => (i : Int)).length)), (109, vi ((0 : Nat)))] 3 ?_ ?_ ?_) ?_
  · rfl
  · exact mB rfl rfl
  · exact ⟨bel_lit rfl, bel_lit rfl, bel_lit rfl, trivial⟩
  refine cw_loopW (fun n Fr H => ∃ k : Nat, k ≤ (tab (bs.length + (delL bs).length) fun i => (i : Int)).length ∧ n = (tab (bs.length + (delL bs).length) fun i => (i : Int)).length - k ∧ Fr = ofL [(3, vr 0), (7, vr 1), (9, vi bs.length), (10, vd (rowI false (natI (delL bs)))), (13, vr 2), (107, vd (rowI false (tab (bs.length + (delL bs).length) fun i => (i : Int)))), (108, vi ((tab (bs.length + (delL bs).length) fun i => (i : Int)).length)), (109, vi ((k : Nat)))] ∧ H = [.box 46 [.d (rowP true ps), .d (rowB true bs), .d (rowI true os)], .box 50 [.d (rowP false ps), .d (rowI false (initM bs F)), .d (rowN false (codeM ps bs F)), .d (rowI false os)], .box 63 [.d (rowI false V), .d (rowI false out), .d (.val (.bool ov))]]) (n0 := (tab (bs.length + (delL bs).length) fun i => (i : Int)).length) ⟨0, Nat.zero_le _, rfl, rfl, rfl⟩ ?_
  rintro n Fr H ⟨k, hk, rfl, rfl, rfl⟩
  by_cases hlt : k < (tab (bs.length + (delL bs).length) fun i => (i : Int)).length
  case pos =>
    have hz : (tab (bs.length + (delL bs).length) fun i => (i : Int))[k]? = some (k : Int) := tab_get (by omega)
    repeat' (with_reducible first | apply qa | apply qb | apply qc | apply qd | apply qe | apply qf | apply qg | apply qh | apply qi | apply qj | apply qk | apply ql rfl | apply qm rfl | apply qn rfl | (refine Tx 12 ?_; refine Jo xLt ?_; refine Je ?_) | (refine Tx 13 ?_; refine Jm ?_; refine Jo (xIr ts_s_int (int_at hz)) ?_; refine Jo (xLd tk_int) ?_; refine Ja ?_; refine Ja ?_; refine Je ?_) | (refine Tx 14 ?_; refine Jm ?_; refine Jm ?_; refine Jo xNe ?_; refine Je ?_) | (refine Tx 16 ?_; refine Jo xAd ?_; refine Jm ?_; refine Je ?_))
    refine ⟨_, _, wk_go [(3, vr 0), (7, vr 1), (9, vi bs.length), (10, vd (rowI false (natI (delL bs)))), (13, vr 2), (107, vd (rowI false (tab (bs.length + (delL bs).length) fun i => (i : Int)))), (108, vi ((tab (bs.length + (delL bs).length) fun i => (i : Int)).length)), (109, vi (((k + 1) : Nat)))] 3 ?_ ?_ ?_, _, ?_, k + 1, by omega, rfl, rfl, rfl⟩
    · rfl
    · exact mB rfl rfl
    · exact ⟨bel_lit rfl, bel_lit rfl, bel_lit rfl, trivial⟩
    · omega
  obtain rfl : k = (tab (bs.length + (delL bs).length) fun i => (i : Int)).length := by omega
  clear hlt hk
  repeat' (with_reducible first | apply qa | apply qb | apply qc | apply qd | apply qe | apply qf | apply qg | apply qh | apply qi | apply qj | apply qk | apply ql rfl | apply qm rfl | apply qn rfl | (refine Tx 12 ?_; refine Jo xLt ?_; refine Je ?_) | (refine Tx 17 ?_; refine Jm ?_; refine Jo (xLn ts_s_int) ?_; refine Jm ?_; refine Je ?_))
  refine cw_wk (F' := ofL [(3, vr 0), (7, vr 1), (9, vi bs.length), (10, vd (rowI false (natI (delL bs)))), (13, vr 2), (118, vd (rowI false (natI (delL bs)))), (119, vi ((natI (delL bs)).length)), (120, vi ((0 : Nat)))]) (H' := [.box 46 [.d (rowP true ps), .d (rowB true bs), .d (rowI true os)], .box 50 [.d (rowP false ps), .d (rowI false (initM bs F)), .d (rowN false (codeM ps bs F)), .d (rowI false os)], .box 63 [.d (rowI false V), .d (rowI false out), .d (.val (.bool ov))]]) (wk_go [(3, vr 0), (7, vr 1), (9, vi bs.length), (10, vd (rowI false (natI (delL bs)))), (13, vr 2), (118, vd (rowI false (natI (delL bs)))), (119, vi ((natI (delL bs)).length)), (120, vi ((0 : Nat)))] 3 ?_ ?_ ?_) ?_
  · rfl
  · exact mB rfl rfl
  · exact ⟨bel_lit rfl, bel_lit rfl, bel_lit rfl, trivial⟩
  refine cw_loopW (fun n Fr H => ∃ k : Nat, k ≤ (natI (delL bs)).length ∧ n = (natI (delL bs)).length - k ∧ Fr = ofL [(3, vr 0), (7, vr 1), (9, vi bs.length), (10, vd (rowI false (natI (delL bs)))), (13, vr 2), (118, vd (rowI false (natI (delL bs)))), (119, vi ((natI (delL bs)).length)), (120, vi ((k : Nat)))] ∧ H = [.box 46 [.d (rowP true ps), .d (rowB true bs), .d (rowI true os)], .box 50 [.d (rowP false ps), .d (rowI false (initM bs F)), .d (rowN false (codeM ps bs F)), .d (rowI false os)], .box 63 [.d (rowI false V), .d (rowI false out), .d (.val (.bool ov))]]) (n0 := (natI (delL bs)).length) ⟨0, Nat.zero_le _, rfl, rfl, rfl⟩ ?_
  rintro n Fr H ⟨k, hk, rfl, rfl, rfl⟩
  by_cases hlt : k < (natI (delL bs)).length
  case pos =>
    obtain ⟨j, hj⟩ : ∃ j, (delL bs)[k]? = some j := ⟨_, List.getElem?_eq_getElem (by omega)⟩
    have hjn := (del_mem.1 (List.mem_of_getElem? hj)).1
    obtain ⟨z, hz⟩ : ∃ z, V[bs.length + k]? = some z := ⟨_, List.getElem?_eq_getElem (by omega)⟩
    have hz2 : V[j]? = some z := (hRD k j hj).trans hz
    repeat' (with_reducible first | apply qa | apply qb | apply qc | apply qd | apply qe | apply qf | apply qg | apply qh | apply qi | apply qj | apply qk | apply ql rfl | apply qm rfl | apply qn rfl | (refine Tx 18 ?_; refine Jo xLt ?_; refine Je ?_) | (refine Tx 19 ?_; refine Jm ?_; refine Jo (by first | exact xIr ts_s_int (int_at (nat_at hj)) | exact xIr ts_s_int (int_at hz2) | exact xIr ts_s_int (int_at hz)) ?_; refine Jo (xLd tk_int) ?_; refine Ja ?_; refine Ja ?_; refine Je ?_) | (refine cw_any (id := 20) mixed (by kernel_rfl) ?_; refine Ko (xFa tf_CodeRun0 tk_s_int) ?_; refine Ko (xLd tk_s_int) ?_; refine Km ?_; refine Ko (by first | exact xIr ts_s_int (int_at (nat_at hj)) | exact xIr ts_s_int (int_at hz2) | exact xIr ts_s_int (int_at hz)) ?_; refine Ko (xLd tk_int) ?_; refine Ko (xFa tf_CodeRun0 tk_s_int) ?_; refine Ko (xLd tk_s_int) ?_; refine Km ?_; refine Km ?_; refine Ko xAd ?_; refine Ko (by first | exact xIr ts_s_int (int_at (nat_at hj)) | exact xIr ts_s_int (int_at hz2) | exact xIr ts_s_int (int_at hz)) ?_; refine Ko (xLd tk_int) ?_; refine Ko xNe ?_; refine Ke ?_) | (refine Tx 22 ?_; refine Jo xAd ?_; refine Jm ?_; refine Je ?_))
    refine ⟨_, _, wk_go [(3, vr 0), (7, vr 1), (9, vi bs.length), (10, vd (rowI false (natI (delL bs)))), (13, vr 2), (118, vd (rowI false (natI (delL bs)))), (119, vi ((natI (delL bs)).length)), (120, vi (((k + 1) : Nat)))] 3 ?_ ?_ ?_, _, ?_, k + 1, by omega, rfl, rfl, rfl⟩
    · rfl
    · exact mB rfl rfl
    · exact ⟨bel_lit rfl, bel_lit rfl, bel_lit rfl, trivial⟩
    · omega
  obtain rfl : k = (natI (delL bs)).length := by omega
  clear hlt hk
  repeat' (with_reducible first | apply qa | apply qb | apply qc | apply qd | apply qe | apply qf | apply qg | apply qh | apply qi | apply qj | apply qk | apply ql rfl | apply qm rfl | apply qn rfl | (refine Tx 18 ?_; refine Jo xLt ?_; refine Je ?_) | (refine Tx 23 ?_; refine Ja ?_; refine Je ?_) | (refine Tx 24 ?_; refine Jo (xFa tf_Diagram1 tk_s_Block) ?_; refine Jo (xLd tk_s_Block) ?_; refine Jo (xLn ts_s_Block) ?_; refine Jm ?_; refine Je ?_))
  refine cw_wk (F' := ofL [(3, vr 0), (7, vr 1), (9, vi bs.length), (10, vd (rowI false (natI (delL bs)))), (13, vr 2), (19, vi (((cpK bs 0).length : Nat))), (140, vd (rowB true bs)), (141, vi bs.length), (142, vi ((0 : Nat)))]) (H' := [.box 46 [.d (rowP true ps), .d (rowB true bs), .d (rowI true os)], .box 50 [.d (rowP false ps), .d (rowI false (initM bs F)), .d (rowN false (codeM ps bs F)), .d (rowI false os)], .box 63 [.d (rowI false V), .d (rowI false out), .d (.val (.bool ov))]]) (wk_go [(3, vr 0), (7, vr 1), (9, vi bs.length), (10, vd (rowI false (natI (delL bs)))), (13, vr 2), (19, vi (((cpK bs 0).length : Nat))), (140, vd (rowB true bs)), (141, vi bs.length), (142, vi ((0 : Nat)))] 3 ?_ ?_ ?_) ?_
  · rfl
  · exact mB rfl rfl
  · exact ⟨bel_lit rfl, bel_lit rfl, bel_lit rfl, trivial⟩
  refine cw_loopW (fun n Fr H => ∃ k : Nat, k ≤ bs.length ∧ n = bs.length - k ∧ Fr = ofL [(3, vr 0), (7, vr 1), (9, vi bs.length), (10, vd (rowI false (natI (delL bs)))), (13, vr 2), (19, vi (((cpK bs k).length : Nat))), (140, vd (rowB true bs)), (141, vi bs.length), (142, vi ((k : Nat)))] ∧ H = [.box 46 [.d (rowP true ps), .d (rowB true bs), .d (rowI true os)], .box 50 [.d (rowP false ps), .d (rowI false (initM bs F)), .d (rowN false (codeM ps bs F)), .d (rowI false os)], .box 63 [.d (rowI false V), .d (rowI false out), .d (.val (.bool ov))]]) (n0 := bs.length) ⟨0, Nat.zero_le _, rfl, rfl, rfl⟩ ?_
  rintro n Fr H ⟨k, hk, rfl, rfl, rfl⟩
  by_cases hlt : k < bs.length
  case pos =>
    obtain ⟨y, hy⟩ : ∃ y, bs[k]? = some y := ⟨_, List.getElem?_eq_getElem hlt⟩
    have hYK := kindA_of hy
    have hck := cpK_len bs k
    by_cases h11 : y.kind = 11
    case pos =>
      have hc : ((cpK bs (k + 1)).length : Int) = ((cpK bs k).length : Int) + 1 := by rw [cpK_succ, hYK, if_pos h11]; simp
      repeat' (with_reducible first | apply qa | apply qb | apply qc | apply qd | apply qe | apply qf | apply qg | apply qh | apply qi | apply qj | apply qk | apply ql rfl | apply qm rfl | apply qn rfl | (refine Tx 25 ?_; refine Jo xLt ?_; refine Je ?_) | (refine Tx 26 ?_; refine Jo (xIr ts_s_Block (bk_at hy)) ?_; refine Jo (xLa tk_Block) ?_; refine Jn (by exact ok_alloc rfl tz_Block) ?_; refine Js (xSk tk_Block) ?_; refine Je ?_) | (refine Tx 27 ?_; refine Jo (xFa tf_Block0 tk_int) ?_; refine Jo (xLd tk_int) ?_; refine Jo xEq ?_; refine Je ?_) | (refine Tx 28 ?_; refine Jm ?_; refine Jo xAd ?_; refine Ja ?_; refine Je ?_) | (refine Tx 29 ?_; refine Jo xAd ?_; refine Jm ?_; refine Je ?_))
      refine ⟨_, _, wk_go [(3, vr 0), (7, vr 1), (9, vi bs.length), (10, vd (rowI false (natI (delL bs)))), (13, vr 2), (19, vi (((cpK bs ((k + 1))).length : Nat))), (140, vd (rowB true bs)), (141, vi bs.length), (142, vi (((k + 1) : Nat)))] 3 ?_ ?_ ?_, _, ?_, k + 1, by omega, rfl, rfl, rfl⟩
      · rfl
      · rw [hc]; exact mB rfl rfl
      · exact ⟨bel_lit rfl, bel_lit rfl, bel_lit rfl, trivial⟩
      · omega
    case neg =>
      have hc : ((cpK bs (k + 1)).length : Int) = ((cpK bs k).length : Int) := by rw [cpK_succ, hYK, if_neg h11]
      repeat' (with_reducible first | apply qa | apply qb | apply qc | apply qd | apply qe | apply qf | apply qg | apply qh | apply qi | apply qj | apply qk | apply ql rfl | apply qm rfl | apply qn rfl | (refine Tx 25 ?_; refine Jo xLt ?_; refine Je ?_) | (refine Tx 26 ?_; refine Jo (xIr ts_s_Block (bk_at hy)) ?_; refine Jo (xLa tk_Block) ?_; refine Jn (by exact ok_alloc rfl tz_Block) ?_; refine Js (xSk tk_Block) ?_; refine Je ?_) | (refine Tx 27 ?_; refine Jo (xFa tf_Block0 tk_int) ?_; refine Jo (xLd tk_int) ?_; refine Jo xEq ?_; refine Je ?_) | (refine Tx 29 ?_; refine Jo xAd ?_; refine Jm ?_; refine Je ?_))
      refine ⟨_, _, wk_go [(3, vr 0), (7, vr 1), (9, vi bs.length), (10, vd (rowI false (natI (delL bs)))), (13, vr 2), (19, vi (((cpK bs ((k + 1))).length : Nat))), (140, vd (rowB true bs)), (141, vi bs.length), (142, vi (((k + 1) : Nat)))] 3 ?_ ?_ ?_, _, ?_, k + 1, by omega, rfl, rfl, rfl⟩
      · rfl
      · rw [hc]; exact mB rfl rfl
      · exact ⟨bel_lit rfl, bel_lit rfl, bel_lit rfl, trivial⟩
      · omega
  obtain rfl : k = bs.length := by omega
  clear hlt hk
  have BI := bints_cv false false (V.drop (bs.length + (delL bs).length)) ((initM bs F).drop (bs.length + (delL bs).length)) (by rw [List.length_drop]; omega) (by rw [List.length_drop]; omega)
  rw [hRR, show intsB ((initM bs F).drop (bs.length + (delL bs).length)) ((initM bs F).drop (bs.length + (delL bs).length)) = true from decide_eq_true rfl] at BI
  have s1 := rowI_drop false V V.length (bs.length + (delL bs).length) rfl
  have s2 := rowI_drop false (initM bs F) (initM bs F).length (bs.length + (delL bs).length) rfl
  rw [hRR] at s1
  repeat' (with_reducible first | apply qa | apply qb | apply qc | apply qd | apply qe | apply qf | apply qg | apply qh | apply qi | apply qj | apply qk | apply ql rfl | apply qm rfl | apply qn rfl | (refine Tx 25 ?_; refine Jo xLt ?_; refine Je ?_) | (refine cw_any (id := 30) mixed (by kernel_rfl) ?_; refine Ko (xFa tf_Program1 tk_s_int) ?_; refine Ko (xLd tk_s_int) ?_; refine Ko (xLn ts_s_int) ?_; refine Km ?_; refine Km ?_; refine Ko (xLn ts_s_int) ?_; refine Ko xAd ?_; refine Km ?_; refine Ko (by exact ok_mul64 rfl rfl rfl (by omega)) ?_; refine Ko xAd ?_; refine Ko xEq ?_; refine Km ?_; (first | refine Kd ?_ | refine Ky (xFa tf_CodeRun0 tk_s_int) ?_); (first | refine Kd ?_ | refine Ky (xLd tk_s_int) ?_); (first | refine Kd ?_ | refine Ky (by exact ok_mv1 rfl rfl) ?_); (first | refine Kd ?_ | refine Ky (by exact ok_mv1 rfl rfl) ?_); (first | refine Kd ?_ | refine Ky (xLn ts_s_int) ?_); (first | refine Kd ?_ | refine Ky xAd ?_); (first | refine Kd ?_ | refine Ky (by exact s1 ▸ ok_sliceL (lo := bs.length + (delL bs).length) rfl rfl rfl (by omega) ts_s_int (by omega)) ?_); (first | refine Kd ?_ | refine Ky (xFa tf_Program1 tk_s_int) ?_); (first | refine Kd ?_ | refine Ky (xLd tk_s_int) ?_); (first | refine Kd ?_ | refine Ky (by exact ok_mv1 rfl rfl) ?_); (first | refine Kd ?_ | refine Ky (by exact ok_mv1 rfl rfl) ?_); (first | refine Kd ?_ | refine Ky (xLn ts_s_int) ?_); (first | refine Kd ?_ | refine Ky xAd ?_); (first | refine Kd ?_ | refine Ky (by exact s2 ▸ ok_sliceL (lo := bs.length + (delL bs).length) rfl rfl rfl (by omega) ts_s_int (by omega)) ?_); (first | refine Kd ?_ | refine Ky (xCl Tryd.func32 (BI.cv)) ?_); refine Ko xPk ?_; refine Ka ?_; refine Ke ?_))
  exact ret_q rfl (.cons_ (rv_b rfl (rfl)) .nil_)
end Go.Proofs.YtjlocofimlgaoaaDoor
