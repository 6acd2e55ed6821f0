/- What the proofs of this claim share, part 19. No conditions. -/
import Derived.Test.YtmdfjbpggbhgnaaDoorKw18
import Derived.Test.YtmdfjbpggbhgnaaDoorKw9
import Derived.Test.YtmdfjbpggbhgnaaDoorKw8
import Derived.Test.YtmdfjbpggbhgnaaDoorKw7
import Derived.Test.YtmdfjbpggbhgnaaDoorKw12
import Derived.Test.YtmdfjbpggbhgnaaDoorKw14
import Derived.Test.YtmdfjbpggbhgnaaDoorKw10
import Derived.Test.YtmdfjbpggbhgnaaDoorKw16
set_option maxRecDepth 100000
set_option maxHeartbeats 4000000
set_option linter.unusedVariables false
set_option linter.unusedSimpArgs false
set_option linter.unusedSectionVars false
namespace Go.Proofs.YtmdfjbpggbhgnaaDoor
open Go.RowKit Cd
def whP (p : Prt) : Prt := ⟨p.lo, p.hi, 0⟩
def whB (b : Bk) : Bk := { b with vn := if b.kind = 11 ∧ b.un < b.vn then b.un else b.vn, ve := 0, un := if b.kind = 11 ∧ b.un < b.vn then b.vn else b.un, ue := 0 }
def zrL (bs : List Bk) : List Int := List.replicate bs.length 0
theorem sum0 (x y : Int) : dySum x 0 y 0 = (x + y, 0) := by
  show (x * 2 ^ 0 + y * 2 ^ 0, 0) = _
  rw [show (2 : Int) ^ 0 = 1 from rfl, Int.mul_one, Int.mul_one]
theorem shift0 (x : Int) : dyShift x 0 0 = (x, 0) := by
  show (x * 2 ^ 0, 0) = _
  rw [show (2 : Int) ^ 0 = 1 from rfl, Int.mul_one]
theorem mul0 (x y : Int) : dyMul x 0 y 0 = (x * y, 0) := rfl
theorem sgW_neg {z : Int} : sgI z < 0 ↔ z < 0 := by unfold sgI; (repeat' split) <;> omega
theorem sgW_pos {z : Int} : 0 < sgI z ↔ 0 < z := by unfold sgI; (repeat' split) <;> omega
theorem min0 (x y : Int) : dyMin x 0 y 0 = (min x y, 0) := by
  unfold dyMin
  rw [dyCmp_int]
  by_cases h : 0 < x - y
  · rw [if_pos (sgW_pos.2 h), show min x y = y by omega]
  · rw [if_neg (fun hh => h (sgW_pos.1 hh)), show min x y = x by omega]
theorem max0 (x y : Int) : dyMax x 0 y 0 = (max x y, 0) := by
  unfold dyMax
  rw [dyCmp_int]
  by_cases h : x - y < 0
  · rw [if_pos (sgW_neg.2 h), show max x y = y by omega]
  · rw [if_neg (fun hh => h (sgW_neg.1 hh)), show max x y = x by omega]
theorem firstErr_nW : ∀ {l : List Int}, (∀ x ∈ l, x = 0) → firstErr l = 0
  | [], _ => rfl
  | x :: l, h => by
    unfold firstErr
    rw [if_pos (h x (List.mem_cons_self ..))]
    exact firstErr_nW fun y hy => h y (List.mem_cons_of_mem _ hy)
section
variable {ps : List Prt} {bs : List Bk} {os : List Int}
theorem wh_kind : kindAt (bs.map whB) = kindAt bs := funext fun i => by
  unfold kindAt; rw [List.getElem?_map]; cases bs[i]? <;> rfl
theorem wh_preds : preds (bs.map whB) = preds bs := funext fun i => by
  unfold preds argsAt; rw [wh_kind, List.getElem?_map]; cases bs[i]? <;> rfl
theorem wh_nxt : nxt (bs.map whB) = nxt bs := funext fun out => by
  unfold nxt
  rw [List.length_map]
  congr 1
  funext i
  unfold rdy doneB
  rw [wh_kind, wh_preds]
theorem wh_ordN : ∀ (n : Nat) (out : List Nat), ordN (bs.map whB) n out = ordN bs n out
  | 0, _ => rfl
  | n + 1, out => by
    unfold ordN
    rw [wh_nxt]
    cases nxt bs out with
    | none => rfl
    | some i => exact wh_ordN n _
theorem wh_ordErr : ordErr (bs.map whB) = ordErr bs := by
  unfold ordErr ordM nonDel
  rw [List.length_map, wh_ordN, wh_kind]
theorem wh_blk {np nb : Nat} {b : Bk} (h : blkErr np nb b = 0) : blkErr np nb (whB b) = 0 := by
  have e1 : (whB b).kind = b.kind := rfl
  have e2 : (whB b).args = b.args := rfl
  have e3 : (whB b).ve = 0 := rfl
  have e4 : (whB b).ue = 0 := rfl
  unfold blkErr at h ⊢
  rw [e1, e2, e3, e4]
  by_cases h1 : arityM b.kind < 0
  · rw [if_pos h1] at h; cases h
  rw [if_neg h1] at h ⊢
  by_cases h2 : ((b.args.length : Nat) : Int) = arityM b.kind
  case neg => rw [if_pos h2] at h; cases h
  rw [if_neg (not_not_intro h2)] at h ⊢
  by_cases h3 : firstErr (b.args.map (outE (mostM np nb b.kind))) = 0
  case neg => rw [if_pos h3] at h; cases h
  rw [if_neg (not_not_intro h3)] at h ⊢
  by_cases h4 : scalE b.vn b.ve (valU b.kind) = 0
  case neg => rw [if_pos h4] at h; exact absurd h h4
  rw [if_neg (not_not_intro h4)] at h
  by_cases h5 : scalE b.un b.ue (clipU b.kind) = 0
  case neg => rw [if_pos h5] at h; exact absurd h h5
  have sc : ∀ (x e : Int), scalE x e true = 0 → -2147483648 < x ∧ x < 2147483648 := fun x e he => by
    unfold scalE at he
    rw [if_pos rfl] at he
    have h : scOk x e := Classical.byContradiction fun hn => by rw [if_neg hn] at he; cases he
    exact ⟨h.1, h.2.1⟩
  have cs : ∀ (x : Int), -2147483648 < x ∧ x < 2147483648 → scalE x 0 true = 0 := fun x hx => by
    have h : scOk x 0 := ⟨hx.1, hx.2, by decide, by decide⟩
    unfold scalE
    rw [if_pos rfl, if_pos h]
  have zr : ∀ (x e : Int), scalE x e false = 0 → scalE x 0 false = 0 := fun x e he => by
    unfold scalE at he ⊢
    rw [if_neg (by decide)] at he ⊢
    by_cases hx : x = 0
    · rw [if_pos ⟨hx, rfl⟩]
    · rw [if_neg (fun hh => hx hh.1)] at he; cases he
  by_cases k11 : b.kind = 11
  · rw [k11, show valU 11 = true from rfl] at h4
    rw [k11, show clipU 11 = true from rfl] at h5
    have a1 := sc _ _ h4
    have a2 := sc _ _ h5
    have key : ∀ v u : Int, (-2147483648 < v ∧ v < 2147483648) → (-2147483648 < u ∧ u < 2147483648) → v ≤ u → (if ¬ scalE v 0 (valU b.kind) = 0 then scalE v 0 (valU b.kind) else if ¬ scalE u 0 (clipU b.kind) = 0 then scalE u 0 (clipU b.kind) else if clipU b.kind = true ∧ 0 < scCmp v 0 u 0 then (26 : Int) else 0) = 0 := fun v u h1 h2 h3 => by
      rw [k11, show valU 11 = true from rfl, show clipU 11 = true from rfl, cs v h1, cs u h2, if_neg (by decide), if_neg (by decide), if_neg]
      rintro ⟨_, hc⟩
      have h4 := sgW_pos.1 hc
      unfold sc62 at h4
      rw [show ((0 : Int) + 62).toNat = 62 from rfl] at h4
      omega
    unfold whB
    dsimp only
    by_cases hs : b.kind = 11 ∧ b.un < b.vn
    · rw [if_pos hs, if_pos hs]; exact key _ _ a2 a1 (by omega)
    · rw [if_neg hs, if_neg hs]; exact key _ _ a1 a2 (by omega)
  · have hs : ¬ (b.kind = 11 ∧ b.un < b.vn) := fun hh => k11 hh.1
    have hcu : clipU b.kind = false := by unfold clipU; simpa using k11
    unfold whB
    dsimp only
    rw [if_neg hs, if_neg hs, hcu, zr _ _ (hcu ▸ h5)]
    cases hv : valU b.kind with
    | true => rw [cs _ (sc _ _ (hv ▸ h4)), if_neg (by decide), if_neg (by decide), if_neg (fun hh => by cases hh.1)]
    | false => rw [zr _ _ (hv ▸ h4), if_neg (by decide), if_neg (by decide), if_neg (fun hh => by cases hh.1)]
theorem wh_err (h : dgErr ps bs os = 0) : dgErr (ps.map whP) (bs.map whB) os = 0 := by
  obtain ⟨h1, h2, h3⟩ := pre_of h
  have hp : preErr (ps.map whP) (bs.map whB) os = 0 := by
    unfold preErr at h2 ⊢
    have hz := firstErr_zero h2
    refine firstErr_nW fun x hx => ?_
    rw [List.length_map, List.length_map] at hx
    rcases List.mem_append.1 hx with hx | hx
    · obtain ⟨q, hq, rfl⟩ := List.mem_map.1 hx
      obtain ⟨p, hp, rfl⟩ := List.mem_map.1 hq
      have := hz _ (List.mem_append_left _ (List.mem_map_of_mem hp))
      unfold portE at this ⊢
      have hf : -2147483648 ≤ p.lo ∧ p.lo ≤ p.hi ∧ p.hi < 2147483648 := Classical.byContradiction fun hn => by
        rw [if_neg (fun hh => hn ⟨hh.1, hh.2.1, hh.2.2.1⟩)] at this
        cases this
      exact if_pos ⟨hf.1, hf.2.1, hf.2.2, Int.le_refl _, show (0 : Int) ≤ 30 by decide⟩
    · rcases List.mem_append.1 hx with hx | hx
      · obtain ⟨q, hq, rfl⟩ := List.mem_map.1 hx
        obtain ⟨b, hb, rfl⟩ := List.mem_map.1 hq
        exact wh_blk (hz _ (List.mem_append_right _ (List.mem_append_left _ (List.mem_map_of_mem hb))))
      · exact hz x (List.mem_append_right _ (List.mem_append_right _ hx))
  unfold dgErr
  have hs : sizeOk (ps.map whP) (bs.map whB) os := by unfold sizeOk at h1 ⊢; rw [List.length_map, List.length_map]; exact h1
  rw [if_neg (not_not_intro hs), if_neg (not_not_intro hp), wh_ordErr]
  exact h3
structure WhD (ps : List Prt) (bs : List Bk) (os : List Int) : Prop where
  he : dgErr ps bs os = 0
  hp : ∀ p ∈ ps, p.fr = 0
  hv : ∀ y ∈ bs, y.ve = 0
  hu : ∀ y ∈ bs, y.ue = 0
theorem wh_d (h : dgErr ps bs os = 0) : WhD (ps.map whP) (bs.map whB) os := ⟨wh_err h, fun p hp => by obtain ⟨q, _, rfl⟩ := List.mem_map.1 hp; rfl, fun p hp => by obtain ⟨q, _, rfl⟩ := List.mem_map.1 hp; rfl, fun p hp => by obtain ⟨q, _, rfl⟩ := List.mem_map.1 hp; rfl⟩
theorem sc_zr (j : Nat) : scA (zrL bs) j = 0 := by
  unfold scA zrL
  rw [List.getElem?_replicate]
  split <;> rfl
theorem raw0 {n e : Int} (h : scOk n e) (h0 : e = 0) : rawErr n e 0 = 0 ∧ rawV n e 0 = n := by
  subst h0
  unfold scOk at h
  have hs : shE n (0 + 0) = n := by
    show (if (0 : Int) + 0 < 0 then _ else n * 2 ^ ((0 : Int) + 0).toNat) = n
    rw [if_neg (by decide), show (2 : Int) ^ ((0 : Int) + 0).toNat = 1 from rfl, Int.mul_one]
  have he : rawErr n 0 0 = 0 := by
    have hr : rawOk n 0 0 := ⟨h.1, h.2.1, h.2.2.1, h.2.2.2, by decide, by decide⟩
    unfold rawErr
    rw [if_pos hr, hs, if_pos ⟨by omega, by omega⟩]
  exact ⟨he, by unfold rawV; rw [if_pos he, hs]⟩
variable (W : WhD ps bs os)
include W
theorem wh_ve {j : Nat} : (blkA bs j).ve = 0 ∧ (blkA bs j).ue = 0 := by
  unfold blkA
  rcases h : bs[j]? with _ | y
  · exact ⟨rfl, rfl⟩
  · exact ⟨W.hv y (List.mem_of_getElem? h), W.hu y (List.mem_of_getElem? h)⟩
theorem wh_fr (a : Int) : portFr ps a = 0 := by
  unfold portFr
  rcases h : ps[a.toNat]? with _ | p
  · rfl
  · exact W.hp p (List.mem_of_getElem? h)
theorem wh_cp : cpErr ps bs (zrL bs) = 0 := by
  have h1 : (zrL bs).length = bs.length := List.length_replicate ..
  have h2 : (zrL bs).all scOk30 = true := List.all_eq_true.2 fun z hz => by rw [List.eq_of_mem_replicate hz]; rfl
  have h3 : firstErr ((List.range bs.length).map (conE bs (zrL bs))) = 0 := firstErr_nW fun x hx => by
    obtain ⟨j, hj, rfl⟩ := List.mem_map.1 hx
    obtain ⟨y, hy⟩ : ∃ y, bs[j]? = some y := ⟨_, List.getElem?_eq_getElem (List.mem_range.1 hj)⟩
    have hk := kindA_of hy
    have hA := blkA_of hy
    have v0 := W.hv y (List.mem_of_getElem? hy)
    have u0 := W.hu y (List.mem_of_getElem? hy)
    have eV : valU y.kind = true → errVv bs (zrL bs) j = 0 := fun hu => by
      unfold errVv
      rw [hA, sc_zr]
      exact (raw0 (acc_sc W.he hy hu) v0).1
    unfold conE
    rw [hk]
    by_cases q : y.kind = 1 ∨ y.kind = 2
    · rw [if_pos q]; exact eV (by rcases q with q | q <;> (rw [q]; rfl))
    · rw [if_neg q]
      by_cases q2 : y.kind = 11
      · rw [if_pos q2, if_pos (eV (by rw [q2]; rfl))]
        unfold errUu
        rw [hA, sc_zr]
        exact (raw0 (acc_clip W.he hy q2).2.1 u0).1
      · rw [if_neg q2]
  have h4 : (codeM ps bs (zrL bs)).all shOk = true := List.all_eq_true.2 fun x hx => by
    have key : x.sa = 0 ∧ x.sb = 0 := by
      unfold codeM at hx
      rcases List.mem_append.1 hx with hx | hx
      · rcases List.mem_append.1 hx with hx | hx
        · obtain ⟨j, _, hx⟩ := List.mem_flatMap.1 hx
          unfold blkC at hx
          simp only [sc_zr, wh_fr W, wh_ve W] at hx
          (repeat' split at hx) <;> simp only [List.mem_cons, List.not_mem_nil, or_false] at hx <;> first | (subst hx; exact ⟨rfl, rfl⟩) | (rcases hx with rfl | rfl <;> exact ⟨rfl, rfl⟩)
        · obtain ⟨j, _, rfl⟩ := List.mem_map.1 hx
          exact ⟨by show scA _ _ - scA _ _ = 0; rw [sc_zr, sc_zr]; rfl, rfl⟩
      · obtain ⟨j, _, rfl⟩ := List.mem_map.1 hx
        exact ⟨rfl, rfl⟩
    unfold shOk
    rw [key.1, key.2]
    rfl
  unfold cpErr
  rw [if_neg (not_not_intro h1), if_neg (not_not_intro h2), if_neg (not_not_intro h3), if_pos h4]
omit W in
structure SimW (bs : List Bk) (cs : List Int) (st : List (Int × Nat)) : Prop where
  cok : CsOk bs (zrL bs) cs
  sok : StOk bs st
  eq : ∀ k j : Nat, (delL bs)[k]? = some j → ∃ z : Int, cs[j]? = some z ∧ st[k]? = some (z, 0)
theorem sim_start : SimW bs (initM bs (zrL bs)) (startM bs) := ⟨CsOk.init _ _, start_ok W.he, fun k j hj => by
  obtain ⟨hjl, hjk⟩ := del_at hj
  obtain ⟨y, hy⟩ : ∃ y, bs[j]? = some y := ⟨_, List.getElem?_eq_getElem hjl⟩
  have hyk := kindA_of hy
  have v0 := W.hv y (List.mem_of_getElem? hy)
  refine ⟨y.vn, ?_, ?_⟩
  · unfold initM
    rw [List.append_assoc, List.getElem?_append_left (by rw [tab_len]; exact hjl), tab_get hjl, if_pos hjk]
    unfold conV
    rw [if_pos (.inr (.inl hjk))]
    unfold rawVv
    rw [blkA_of hy, sc_zr, (raw0 (acc_sc W.he hy (by rw [← hyk, hjk]; rfl)) v0).2]
  · unfold startM vnAt veAt
    rw [List.getElem?_map, hj, Option.map_some, hy, Option.getD_some, v0, shift0]⟩
theorem raw_v {y : Bk} (hy : y ∈ bs) (h : scOk y.vn y.ve) : rawV y.vn y.ve 0 = y.vn ∧ dyShift y.vn 0 y.ve = (y.vn, 0) := by
  have v0 := W.hv y hy
  exact ⟨(raw0 h v0).2, by rw [v0, shift0]⟩
theorem raw_u {y : Bk} (hy : y ∈ bs) (h : scOk y.un y.ue) : rawV y.un y.ue 0 = y.un ∧ dyShift y.un 0 y.ue = (y.un, 0) := by
  have v0 := W.hu y hy
  exact ⟨(raw0 h v0).2, by rw [v0, shift0]⟩
end
theorem scl0 {z : Int} (h : shortB (scl z 0) = true) : scl z 0 = z := by
  have h1 := (scl_unclamped h).resolve_left (by decide)
  unfold scl
  rw [if_neg (by decide)]
  show _ * 1 = z
  omega
theorem scl0r {z : Int} (h0 : -2147483648 ≤ z) (h1 : z < 2147483648) : scl z 0 = z := scl_zero (decide_eq_true ⟨h0, by omega⟩)
section
variable {ps : List Prt} {bs : List Bk} {os inn cs : List Int} {st : List (Int × Nat)}
theorem stK_flag {F : List Int} {k m : Nat} (hkm : k ≤ m) (h : (stK ps bs F inn cs m).2 = false) : (stK ps bs F inn cs k).2 = false := by
  induction m with
  | zero => rw [Nat.le_zero.1 hkm]; exact h
  | succ m ih =>
    by_cases hk : k = m + 1
    · rw [hk]; exact h
    refine ih (by omega) ?_
    rcases hj : (ordM bs)[m]? with _ | j
    · unfold stK at h ⊢
      rw [List.take_add_one, hj] at h
      simpa using h
    · rw [stK_next hj] at h
      exact fold_flag h
theorem sim_vals (W : WhD ps bs os) (S : SimW bs cs st) (hi : inOk ps inn = true) (hil : inn.length = ps.length) (hov : (stL ps bs (zrL bs) inn cs).2 = false) (ht : tickE ps bs st inn = 0) :
    ∀ (a : Int), 0 ≤ a → a < bs.length → (valE ps bs st inn)[a.toNat]? = some (zC bs cs (stL ps bs (zrL bs) inn cs).1 a, 0) := by
  have hC := S.cok
  have hsl := S.sok.len
  have hsn := S.sok.nf
  have hc := wh_cp W
  have hzr := fun (a : Int) => zC_range (a := a) hC (V := (stL ps bs (zrL bs) inn cs).1) (stK_len _) (stK_short hC.short _)
  have del : ∀ a : Int, 0 ≤ a → a < bs.length → kindAt bs a.toNat = 2 → (valE ps bs st inn)[a.toNat]? = some (zC bs cs (stL ps bs (zrL bs) inn cs).1 a, 0) := fun a a0 a1 h2 => by
    obtain ⟨k, hk⟩ := List.getElem?_of_mem (del_mem.2 ⟨by omega, h2⟩)
    obtain ⟨z, hz, hst⟩ := S.eq k _ hk
    rw [val_delay hsl hk, hst]
    unfold zC befC
    rw [if_pos h2, hz]
    rfl
  have key : ∀ k, k ≤ (ordM bs).length → ∀ i ∈ (ordM bs).take k, (valE ps bs st inn)[i]? = some (zC bs cs (stL ps bs (zrL bs) inn cs).1 (i : Int), 0) := by
    intro k
    induction k with
    | zero => intro _ i hi; simp at hi
    | succ k ih =>
      intro hk i hi2
      obtain ⟨j, hj⟩ : ∃ j, (ordM bs)[k]? = some j := ⟨_, List.getElem?_eq_getElem (by omega)⟩
      rw [List.take_add_one, hj, Option.toList_some, List.mem_append, List.mem_singleton] at hi2
      rcases hi2 with hi2 | rfl
      · exact ih (by omega) i hi2
      obtain ⟨hjl, hjk⟩ := ordM_mem (List.mem_of_getElem? hj)
      obtain ⟨y, hy⟩ : ∃ y, bs[i]? = some y := ⟨_, List.getElem?_eq_getElem hjl⟩
      have hym := List.mem_of_getElem? hy
      have hyk := kindA_of hy
      have hk2 : y.kind ≠ 2 := by rw [← hyk]; exact hjk
      obtain ⟨b1, b2⟩ := blk_run (inn := inn) W.he hc hC (by omega) hj hy
      have hf := stK_flag (Nat.succ_le_of_lt (show k < (ordM bs).length by omega)) hov
      rw [b1, Bool.or_eq_false_iff, Bool.not_eq_false'] at hf
      obtain ⟨b3, b4⟩ := b2 hf.2
      have hmem : i ∈ (ordM bs).take (k + 1) := by rw [List.take_add_one, hj]; simp
      have hcell : zC bs cs (stL ps bs (zrL bs) inn cs).1 (i : Int) = cellZ ps (zrL bs) inn y (scA (zrL bs) i) (zC bs cs (stL ps bs (zrL bs) inn cs).1) := by
        conv => lhs; unfold zC befC
        rw [Int.toNat_natCast, if_neg hjk, stK_keep (show k + 1 ≤ (ordM bs).length by omega) hmem, b3]
        rfl
      rw [val_block W.he hsl hsn ht hy hk2, hcell]
      have hpre := hf.2
      rw [sc_zr] at hpre ⊢
      congr 1
      have hac := acc_args W.he hy
      have hck := hac.2.1
      have hcg := hac.1
      by_cases k0 : y.kind = 0
      · have hl : y.args.length = 1 := by rw [k0] at hck; simp [arityM] at hck; omega
        obtain ⟨a, ha⟩ : ∃ a, y.args[0]? = some a := ⟨_, List.getElem?_eq_getElem (by omega)⟩
        have h1 := hac.2.2 a (List.mem_of_getElem? ha)
        rw [show mostM ps.length bs.length y.kind = ps.length from if_pos k0] at h1
        obtain ⟨p, hp⟩ : ∃ p, ps[a.toNat]? = some p := ⟨_, List.getElem?_eq_getElem (by omega)⟩
        obtain ⟨r, hr⟩ : ∃ r, inn[a.toNat]? = some r := ⟨_, List.getElem?_eq_getElem (by omega)⟩
        have hfr := W.hp p (List.mem_of_getElem? hp)
        have hrr := rng_at hi hp hr
        have hpo := acc_port W.he hp
        unfold portE at hpo
        have hpr : -2147483648 ≤ p.lo ∧ p.hi < 2147483648 := Classical.byContradiction fun hn => by rw [if_neg (fun h => hn ⟨h.1, h.2.2.1⟩)] at hpo; cases hpo
        unfold tickV cellZ preC
        rw [if_pos k0, if_neg (by omega), if_pos k0, show arg0 y = a by unfold arg0; rw [ha]; rfl, wh_fr W, ha, Option.getD_some, hr, Option.getD_some, hp, Option.map_some, Option.getD_some, hfr]
        show dyShift r 0 0 = (scl r 0, 0)
        rw [shift0, scl0r (by omega) (by omega)]
      rw [show tickV y (argsE (valE ps bs st inn) y) ps inn = blkD y (argsE (valE ps bs st inn) y) from if_neg k0]
      have hM : mostM ps.length bs.length y.kind = bs.length := if_neg k0
      have hpr : preds bs i = y.args := by unfold preds argsAt; rw [hyk, if_neg k0, hy]; rfl
      have hsplit : ordM bs = (ordM bs).take k ++ i :: (ordM bs).drop (k + 1) := by
        obtain ⟨hlt, he⟩ := List.getElem?_eq_some_iff.1 hj
        rw [← he, ← List.drop_eq_getElem_cons hlt, List.take_append_drop]
      have arg : ∀ n a, y.args[n]? = some a → (argsE (valE ps bs st inn) y)[n]? = some (zC bs cs (stL ps bs (zrL bs) inn cs).1 a, 0) ∧ -2147483648 ≤ zC bs cs (stL ps bs (zrL bs) inn cs).1 a ∧ zC bs cs (stL ps bs (zrL bs) inn cs).1 a < 2147483648 := fun n a ha => by
        have hm := List.mem_of_getElem? ha
        have h1 := hac.2.2 a hm
        rw [hM] at h1
        refine ⟨args_eAt k0 ha ?_, (hzr a h1.1 h1.2).2⟩
        by_cases h2 : kindAt bs a.toNat = 2
        · exact del a h1.1 h1.2 h2
        · have := ih (by omega) a.toNat ((ord_done hsplit (a := a) (by rw [hpr]; exact hm)).resolve_left h2)
          rwa [show ((a.toNat : Nat) : Int) = a by omega] at this
      generalize argsE (valE ps bs st inn) y = L at arg ⊢
      by_cases k1 : y.kind = 1
      · have hr := raw_v W hym (acc_sc W.he hy (by rw [k1]; rfl))
        unfold blkD cellZ preC
        rw [if_pos k1, if_neg (by omega), if_neg k0, if_pos k1, hr.1, hr.2]
      have hl1 : 1 ≤ y.args.length := by unfold arityM at hck hcg; (repeat' split at hck) <;> omega
      obtain ⟨a, ha⟩ : ∃ a, y.args[0]? = some a := ⟨_, List.getElem?_eq_getElem (by omega)⟩
      have Aa : arg0 y = a := by unfold arg0; rw [ha]; rfl
      obtain ⟨La, z0, z1⟩ := arg 0 a ha
      unfold preC at hpre
      simp only [sc_zr, wh_fr W, Aa] at hpre
      unfold blkD cellZ preC
      simp only [sc_zr, wh_fr W, Aa, La, Option.getD_some]
      generalize zC bs cs (stL ps bs (zrL bs) inn cs).1 a = z at *
      have hve := W.hv y hym
      by_cases k6 : y.kind = 6
      · have hr := raw_v W hym (acc_sc W.he hy (by rw [k6]; rfl))
        simp only [k6, hve, hr.2] at hpre ⊢
        have hp : shortB (scl (z * y.vn) 0) = true := hpre
        show dyMul (dyShift y.vn 0 0).1 (dyShift y.vn 0 0).2 z 0 = (scl (z * y.vn) 0, 0)
        rw [shift0, mul0, scl0 hp, Int.mul_comm]
      by_cases two : y.kind = 3 ∨ y.kind = 4 ∨ y.kind = 7 ∨ y.kind = 8 ∨ y.kind = 9
      · have hl2 : y.args.length = 2 := by unfold arityM at hck hcg; (repeat' split at hck) <;> omega
        obtain ⟨b, hb1⟩ : ∃ b, y.args[1]? = some b := ⟨_, List.getElem?_eq_getElem (by omega)⟩
        have Ab : arg1 y = b := by unfold arg1; rw [hb1]; rfl
        obtain ⟨Lb, v0, v1⟩ := arg 1 b hb1
        simp only [Ab] at hpre
        simp only [Ab, Lb, Option.getD_some]
        generalize zC bs cs (stL ps bs (zrL bs) inn cs).1 b = v at *
        have ez := scl0r z0 z1
        have ev := scl0r v0 v1
        rcases two with q | q | q | q | q
        · simp only [q]
          show dySum z 0 v 0 = (scl z 0 + scl v 0, 0)
          rw [sum0, ez, ev]
        · simp only [q]
          show dySum z 0 (-v) 0 = (scl z 0 - scl v 0, 0)
          rw [sum0, ez, ev]
          rfl
        · simp only [q] at hpre ⊢
          have hp : shortB (scl (z * v) 0) = true := hpre
          show dyMul z 0 v 0 = (scl (z * v) 0, 0)
          rw [mul0, scl0 hp]
        · simp only [q]
          show dyMin z 0 v 0 = (min (scl z 0) (scl v 0), 0)
          rw [min0, ez, ev]
        · simp only [q]
          show dyMax z 0 v 0 = (max (scl z 0) (scl v 0), 0)
          rw [max0, ez, ev]
      have ez := scl0r z0 z1
      by_cases k11 : y.kind = 11
      · have hr := raw_v W hym (acc_clip W.he hy k11).1
        have hq := raw_u W hym (acc_clip W.he hy k11).2.1
        simp only [k11, hr.1, hr.2, hq.1, hq.2]
        show dyMin (dyMax z 0 y.vn 0).1 (dyMax z 0 y.vn 0).2 y.un 0 = (min (max (scl z 0) y.vn) y.un, 0)
        rw [max0, min0, ez]
      have hk := acc_kind W.he hy
      rcases (show y.kind = 5 ∨ y.kind = 10 by omega) with q | q
      · simp only [q]
        show (-z, 0) = (-scl z 0, 0)
        rw [ez]
      · simp only [q]
        show (((z.natAbs : Nat) : Int), 0) = (max (scl z 0) (-scl z 0), 0)
        rw [ez, show ((z.natAbs : Nat) : Int) = max z (-z) by omega]
  intro a a0 a1
  by_cases h2 : kindAt bs a.toNat = 2
  · exact del a a0 a1 h2
  · have := key _ (Nat.le_refl _) a.toNat (by rw [List.take_length]; exact ord_all (pre_of W.he).2.2 (by omega) h2)
    rwa [show ((a.toNat : Nat) : Int) = a by omega] at this
theorem del_argW (he : dgErr ps bs os = 0) {j : Nat} {y : Bk} (hy : bs[j]? = some y) (hk : y.kind = 2) : ∃ a : Int, y.args[0]? = some a ∧ 0 ≤ a ∧ a < bs.length ∧ argZ bs j = a.toNat ∧ arg0 (blkA bs j) = a := by
  have hac := acc_args he hy
  have hck := hac.2.1
  have hl : y.args.length = 1 := by rw [hk] at hck; simp [arityM] at hck; omega
  obtain ⟨a, ha⟩ : ∃ a, y.args[0]? = some a := ⟨_, List.getElem?_eq_getElem (by omega)⟩
  have h1 := hac.2.2 a (List.mem_of_getElem? ha)
  rw [show mostM ps.length bs.length y.kind = bs.length from if_neg (by omega)] at h1
  exact ⟨a, ha, h1.1, h1.2, by unfold argZ; rw [hy, Option.map_some, Option.getD_some, ha]; rfl, by rw [blkA_of hy]; unfold arg0; rw [ha]; rfl⟩
theorem sim_next (W : WhD ps bs os) (S : SimW bs cs st) (hi : inOk ps inn = true) (hil : inn.length = ps.length) (hov : (runV inn (codeM ps bs (zrL bs)) cs).2 = false) (ht : tickE ps bs st inn = 0) :
    SimW bs (runV inn (codeM ps bs (zrL bs)) cs).1 (nextE ps bs st inn) ∧ ∀ (o : Nat) (y : Bk), bs[o]? = some y → ∃ z, (runV inn (codeM ps bs (zrL bs)) cs).1[o]? = some z ∧ -2147483648 ≤ z ∧ z < 2147483648 ∧ (valE ps bs st inn)[if y.kind = 2 then argZ bs o else o]? = some (z, 0) := by
  obtain ⟨r1, r2, r3, r4⟩ := run_all (inn := inn) W.he (wh_cp W) S.cok
  obtain ⟨f1, f2⟩ := r1.1 hov
  have hv := sim_vals W S hi hil f1 ht
  have hzr := fun (a : Int) => zC_range (a := a) S.cok (V := (stL ps bs (zrL bs) inn cs).1) (stK_len _) (stK_short S.cok.short _)
  have dl : ∀ (j : Nat) (y : Bk), bs[j]? = some y → y.kind = 2 → ∃ z, (runV inn (codeM ps bs (zrL bs)) cs).1[j]? = some z ∧ -2147483648 ≤ z ∧ z < 2147483648 ∧ (valE ps bs st inn)[argZ bs j]? = some (z, 0) := fun j y hy hk => by
    have hjl := (List.getElem?_eq_some_iff.1 hy).1
    have hjm : j ∈ delL bs := del_mem.2 ⟨hjl, by rw [kindA_of hy]; exact hk⟩
    obtain ⟨a, _, a0, a1, hz, ha⟩ := del_argW W.he hy hk
    have h1 := r3 hov j hjm
    obtain ⟨_, z0, z1⟩ := hzr a a0 a1
    unfold nxC at h1
    rw [ha, sc_zr, sc_zr] at h1
    have h2 : (runV inn (codeM ps bs (zrL bs)) cs).1[j]? = some (zC bs cs (stL ps bs (zrL bs) inn cs).1 a) := by
      rw [h1]
      show some (scl _ 0) = _
      rw [scl0r z0 z1]
    exact ⟨_, h2, z0, z1, by rw [hz]; exact hv a a0 a1⟩
  refine ⟨⟨r4, next_ok W.he S.sok.len S.sok.nf ht, fun k j hj => ?_⟩, fun o y hy => ?_⟩
  · obtain ⟨hjl, hjk⟩ := del_at hj
    obtain ⟨y, hy⟩ : ∃ y, bs[j]? = some y := ⟨_, List.getElem?_eq_getElem hjl⟩
    obtain ⟨z, h1, _, _, h2⟩ := dl j y hy (by rw [← kindA_of hy]; exact hjk)
    exact ⟨z, h1, by rw [next_at hj, h2]; rfl⟩
  · by_cases hk : y.kind = 2
    · rw [if_pos hk]; exact dl o y hy hk
    · rw [if_neg hk]
      have hol := (List.getElem?_eq_some_iff.1 hy).1
      have hok : kindAt bs o ≠ 2 := by rw [kindA_of hy]; exact hk
      have h1 := hv (o : Int) (by omega) (by omega)
      obtain ⟨hb, z0, z1⟩ := hzr (o : Int) (by omega) (by omega)
      rw [Int.toNat_natCast] at h1 hb
      unfold befC at hb
      rw [if_neg hok] at hb
      exact ⟨_, (r2 o hol hok).trans hb, z0, z1, h1⟩
end
end Go.Proofs.YtmdfjbpggbhgnaaDoor
namespace Go.Proofs.YtmdfjbpggbhgnaaDoor
open Go.RowKit
def isW (o : Oper) : Bool := match o.op with
  | .store .. => true
  | .call c => match c.callee with
    | .builtin .append => true
    | _ => false
  | _ => false
def chainW (md : Region.Mode) (ops : Array Oper) : Bool := (List.range ops.size).all fun i => match ops[i]? with
  | none => true
  | some oi => !isW oi || (List.range i).all fun j => match ops[j]? with
    | none => true
    | some oj => !isW oj || (oi.after.any fun e => Region.binds md e && decide (e.on = j)) || (List.range i).any fun k => decide (j < k) && (match ops[k]? with | some ok => isW ok | none => false)
def waitB (md : Region.Mode) (ops : Array Oper) (i : Nat) : Bool := match ops[i]? with
  | none => false
  | some oi => (List.range ops.size).all fun j => match ops[j]? with
    | none => true
    | some oj => !isW oj || decide (i = j) || (decide (i < j) && ((oj.after.any fun e => Region.binds md e && (decide (e.on = i) || (match ops[e.on]? with | some om => om.after.any fun e => Region.binds md e && decide (e.on = i) | none => false))) || (List.range j).any fun k => decide (i < k) && (match ops[k]? with | some ok => isW ok | none => false))) || (decide (j < i) && ((oi.after.any fun e => Region.binds md e && decide (e.on = j)) || (List.range i).any fun k => decide (j < k) && (match ops[k]? with | some ok => isW ok | none => false)))
section
variable (P : Program) (G : World → Prop) (ops : Array Oper)
def ChM : Nat → List Oper → Frm → List Ob → (Frm → List Ob → Prop) → Prop
  | _, [], F, H, K => K F H
  | i, o :: l, F, H, K => o.guard = none ∧ ((isW o = false ∧ ∃ x, ((∀ H', OpOk P G o F H' x []) ∨ (waitB .any ops i = true ∧ OpOk P G o F H x [])) ∧ ChM (i + 1) l (F.put o.dst x) H K) ∨ (isW o = true ∧ ∃ x H', TOk P G o F H x H' ∧ ChM (i + 1) l (F.put o.dst x) H' K))
end
section
variable {P : Program} {G : World → Prop} {ops : Array Oper}
structure HInvM (b0 N : Nat) (w0 : World) (S0 : SD) (ops : Array Oper) (Fs : Nat → Frm) (Hs : Nat → List Ob) (listed : Array Bool) (a : Act) (m : Mm) : Prop where
  H : ∃ p, p ≤ ops.size ∧ (∀ (i : Nat) (o : Oper), ops[i]? = some o → isW o = true → (i < p ↔ listed.getD i true = true)) ∧ m.H = Hs p
  cx : Cx b0 m
  tot : Tot m
  frame : ∀ t, (∀ (i : Nat) (o : Oper), ops[i]? = some o → listed.getD i true = false → o.dst ≠ some t) → XRel m (Fs ops.size t) (a.tmps.getD t undef)
  size : a.tmps.size = N
  defers : a.defers = S0.ds
  below : Below b0 w0 m.w
  base : b0 ≤ w0.heap.size
  S : ∀ b, m.S false b → S0 false b ∨ b0 ≤ b
  T : m.S true = S0 true
  ls : listed.size = ops.size
  dep : ∀ (i : Nat) (o : Oper), ops[i]? = some o → listed.getD i true = true → ∀ e ∈ o.after, Region.binds .any e = true → listed.getD e.on true = true
end
def CVO (P : Program) (G : World → Prop) (f : FuncId) (args : List A) (ty : TypeId) (s n : Nat) (xs : List Value) : Prop :=
  ∀ (w : World) (S : Sets) (vs : List Value), G w → (∀ t b, S t b → b < w.heap.size) → LRel (ARel w S) args vs →
    Calls P f vs.toArray w fun e w' => ∃ v, e = .returned v ∧ (Et.row v ty s n xs).at_ w' w.heap.size ∧ v.oneCell' = true ∧ Below w.heap.size w w'
section
variable {P : Program} {G : World → Prop} {o : Oper} {F : Frm} {H : List Ob}
theorem ok_makeD {t e : TypeId} {x y : Operand} {z : Value} {s by_ n : Nat} {k k' : IntKind} (ho : o.op = .makeSlice t x y) (hx : F.ev x = .one (.d (.val (.int k (n : Int))))) (hy : F.ev y = .one (.d (.val (.int k' (n : Int))))) (ht : TyS P t e s) (hz : TyZ P e z s by_) (hn : n ≤ 1000000) (hby : by_ ≤ 1000) (h1 : z.cells.toList.all (·.oneCell') = true) (hs1 : 0 < s) :
    OpOk P G o F H (.one (.d (.row false s n ((madeCells z.cells (n * s)).toList.map D.val)))) [] := by
  intro b0 m a hp hcx hg hb0 _ hor K Q hK
  have ex := val_of (m := m) (v := a.eval x) (by rw [← hx]; exact ev_rel hor (by rw [ho]; simp [Op.operands]))
  have ey := val_of (m := m) (v := a.eval y) (by rw [← hy]; exact ev_rel hor (by rw [ho]; simp [Op.operands]))
  obtain ⟨i, hi, hi2⟩ := Option.map_eq_some_iff.1 hz.h
  simp only [Prod.mk.injEq] at hi2
  have hb1 : (i.bytes : Int) * (n : Int) ≤ 281474976710656 := by
    have : i.bytes * n ≤ 1000 * 1000000 := Nat.mul_le_mul (by omega) hn
    have h2 : ((i.bytes * n : Nat) : Int) ≤ 281474976710656 := by omega
    rwa [Int.natCast_mul] at h2
  have hrun := run_make (P := P) m.w t e i z ht.h hi hi2.1 k k' (n : Int) (n : Int) (by omega) (Int.le_refl _) hb1 (by omega)
  rw [hi2.2.1, Int.toNat_natCast] at hrun
  have hexec : (execOp a.eval o).run P m.w = .ok (.value (.slice (some ⟨m.w.heap.size, 0, none⟩) n n)) (m.w.alloc (.cells (madeCells z.cells (n * s)) e)) := by
    unfold execOp
    simp only [ho, ex, ey]
    rw [Sem.run_bind, hrun]
    rfl
  have hbel : Below m.w.heap.size m.w (m.w.alloc (.cells (madeCells z.cells (n * s)) e)) := (Below.refl _ _).alloc (Nat.le_refl _) _
  unfold Oper.wp
  rw [hexec]
  refine hK _ _ [] ⟨rfl, hbel, fun k e hk => by simp at hk, List.Pairwise.nil⟩ ?_
  have hlen : (madeCells z.cells (n * s)).toList.length = n * s := by simp [size_madeCells]
  refine DRel.row (madeCells z.cells (n * s)).toList (Nat.le_refl _) (fun h => by cases h) (by rw [List.length_map, hlen]) (List.length_map ..) (fun _ => ⟨_, 0, rfl, .inr ⟨rfl, Nat.le_refl _, (Array.getElem?_eq_some_iff.1 (heap_alloc_new m.w _)).1, fun e he => by simp at he⟩, fun j v hj => ?_⟩) fun j u v hu hv => ?_
  · show (m.w.alloc (.cells (madeCells z.cells (n * s)) e)).cell? ⟨m.w.heap.size, 0 + j, none⟩ = some v
    rw [Nat.zero_add, cell_of_row _ _ j _ _ (0, 0) (heap_alloc_new m.w _)]
    simpa using hj
  · rw [List.getElem?_map, hv, Option.map_some, Option.some.injEq] at hu
    subst hu
    refine DRel.val ?_
    have hm := List.mem_of_getElem? hv
    unfold madeCells at hm
    simp only [Array.toList_map, List.mem_map] at hm
    obtain ⟨q, hq, rfl⟩ := hm
    have hs : 0 < z.cells.size := by rw [hz.c]; exact hs1
    have hlt : q % z.cells.size < z.cells.size := Nat.mod_lt _ hs
    have h2 : z.cells[q % z.cells.size]! = z.cells[q % z.cells.size] := by simp [hlt]
    rw [h2]
    exact List.all_eq_true.1 h1 _ (by simp)
end
section
variable {P : Program} {G : World → Prop} {o : Oper} {F : Frm} {H : List Ob}
theorem ok_makeZ {t e : TypeId} {x y : Operand} {by_ n : Nat} {k k' : IntKind} (ho : o.op = .makeSlice t x y) (hx : F.ev x = .one (.d (.val (.int k (n : Int))))) (hy : F.ev y = .one (.d (.val (.int k' (n : Int))))) (ht : TyS P t e 1) (hz : TyZ P e (.int .i64 0) 1 by_) (hn : n ≤ 1000000) (hby : by_ ≤ 1000) : OpOk P G o F H (.one (.d (rowI false (List.replicate n 0)))) [] := by
  have := ok_makeD (P := P) (G := G) (H := H) ho hx hy ht hz hn hby rfl (by decide)
  have e2 : (madeCells (Value.int .i64 0).cells (n * 1)).toList.map D.val = (List.replicate n 0).map dI := by
    rw [Nat.mul_one, show (Value.int .i64 0).cells = #[Value.int .i64 0] from rfl, toList_madeCells_one]
    simp [dI]
  rw [e2] at this
  unfold rowI
  rw [List.length_replicate]
  exact this
end
theorem cexp_dT {H : List Ob} {id ty s n : Nat} {c : C} {y : D} {ds : List D} (hc : c = .own id n) (hH : H[id]? = some (.row ty s n (ds.map C.d))) (hy : y = .row true s n ds) : CExp true H c y :=
  cexp_o hc hH hy (LRel.map_l.2 ⟨rfl, fun j a b ha hb => by rw [ha] at hb; cases hb; exact .d fun h => by cases h⟩)
def light15 (ls : List (List Int)) : Bool := (ls.all fun l => decide (l.length ≤ 40)) && decide (ls.length ≤ 40)
theorem light15_len {ls : List (List Int)} (h : light15 ls = true) : (∀ l ∈ ls, l.length ≤ 40) ∧ ls.length ≤ 40 := by
  unfold light15 at h
  rw [Bool.and_eq_true, decide_eq_true_eq] at h
  exact ⟨fun l hl => of_decide_eq_true (List.all_eq_true.1 h.1 l hl), h.2⟩
theorem blk_row {bs : List Bk} {k : Nat} {y : Bk} (hy : bs[k]? = some y) {v u : Int} (hv : (whB y).vn = v) (hu : (whB y).un = u) : (flatD (dBk true) ((bs.map whB).take k)).map C.d ++ [.d (.val (.int .i64 y.kind)), .d (rowI true y.args), .d (.val (.int .i64 v)), .d (.val (.int .i64 0)), .d (.val (.int .i64 u)), .d (.val (.int .i64 0))] = (flatD (dBk true) ((bs.map whB).take (k + 1))).map C.d := by
  rw [List.take_add_one, List.getElem?_map, hy, Option.map_some, Option.toList_some, flatD_app, List.map_append]
  subst hv hu
  rfl
theorem bkC_at {t : Bool} {bs : List Bk} {i : Nat} {y : Bk} (h : bs[i]? = some y) : (((flatD (dBk t) bs).map C.d).drop (i * 6)).take 6 = (dBk t y).map C.d := by rw [← List.map_drop, ← List.map_take, bk_at h]
theorem take_len1 {α : Type} {l : List α} {k : Nat} {x : α} (h : l[k]? = some x) : (l.take k).length + 1 = (l.take (k + 1)).length := by rw [List.take_add_one, h, List.length_append]; rfl
theorem wh_no {y : Bk} (h : ¬ (y.kind = 11 ∧ y.un < y.vn)) : (whB y).vn = y.vn ∧ (whB y).un = y.un := ⟨if_neg h, if_neg h⟩
theorem wh_yes {y : Bk} (h : y.kind = 11 ∧ y.un < y.vn) : (whB y).vn = y.un ∧ (whB y).un = y.vn := ⟨if_pos h, if_pos h⟩
theorem light15_cv (t : Bool) (ls : List (List Int)) (hn : (ls.length : Int) ≤ 9223372036854775807) : CV Tryd.prog TabAt 6 [.one (rowLI t ls)] [aB (light15 ls)] := by
  refine cvz Tryd.func6 Tryd.ntmps6 ?_
  repeat' (with_reducible first | apply qa | apply qb | apply qc | apply qd | apply qe | apply qf | apply qg | apply qh | apply qi | apply qj | apply qk | apply ql rfl | apply qm rfl | apply qn rfl | apply Je | (refine Tx 0 ?_; refine Ja ?_) | (refine Tx 1 ?_; refine Jm ?_; refine Jo (xLn ts_s_s_int) ?_; refine Jm ?_))
  refine cw_wk (F' := ofL [(0, vd (rowLI t ls)), (5, vd (rowLI t ls)), (6, vi ls.length), (7, vi ((0 : Nat)))]) (H' := []) (wk_go _ 0 ?_ ?_ ?_) ?_
  · rfl
  · exact mB rfl rfl
  · exact trivial
  refine cw_loopW (fun n Fr H => ∃ k : Nat, k ≤ ls.length ∧ n = ls.length - k ∧ (ls.take k).all (fun l : List Int => decide (l.length ≤ 40)) = true ∧ Fr = ofL [(0, vd (rowLI t ls)), (5, vd (rowLI t ls)), (6, vi ls.length), (7, vi ((k : Nat)))] ∧ H = []) (n0 := ls.length) ⟨0, Nat.zero_le _, rfl, rfl, rfl, rfl⟩ ?_
  rintro n Fr H ⟨k, hk, rfl, hall, rfl, rfl⟩
  by_cases hlt : k < ls.length
  case pos =>
    obtain ⟨l, hx⟩ : ∃ l, ls[k]? = some l := ⟨_, List.getElem?_eq_getElem hlt⟩
    by_cases c1 : l.length ≤ 40
    case neg =>
      repeat' (with_reducible first | apply qa | apply qb | apply qc | apply qd | apply qe | apply qf | apply qg | apply qh | apply qi | apply qj | apply qk | apply ql rfl | apply qm rfl | apply qn rfl | apply Je | (refine Tx 2 ?_; refine Jo xLt ?_) | (refine Tx 3 ?_; refine Jo (xIr ts_s_s_int (lin_at hx)) ?_; refine Jo (xLd tk_s_int) ?_; refine Ja ?_) | (refine Tx 4 ?_; refine Jm ?_; refine Jo (xLn ts_s_int) ?_; refine Jo xGt ?_) | (refine Tx 5 ?_; refine Ja ?_))
      exact ret_q rfl (.cons_ (rv_b rfl (by unfold light15; rw [all_no hx (decide_eq_false (by omega)), Bool.false_and])) .nil_)
    repeat' (with_reducible first | apply qa | apply qb | apply qc | apply qd | apply qe | apply qf | apply qg | apply qh | apply qi | apply qj | apply qk | apply ql rfl | apply qm rfl | apply qn rfl | apply Je | (refine Tx 2 ?_; refine Jo xLt ?_) | (refine Tx 3 ?_; refine Jo (xIr ts_s_s_int (lin_at hx)) ?_; refine Jo (xLd tk_s_int) ?_; refine Ja ?_) | (refine Tx 4 ?_; refine Jm ?_; refine Jo (xLn ts_s_int) ?_; refine Jo xGt ?_) | (refine Tx 6 ?_; refine Jo xAd ?_; refine Jm ?_))
    refine ⟨_, _, wk_go _ 0 ?_ ?_ ?_, _, by omega, k + 1, by omega, rfl, all_take hx hall (decide_eq_true c1), rfl, rfl⟩
    · rfl
    · exact mB rfl rfl
    · exact trivial
  obtain rfl : k = ls.length := by omega
  rw [List.take_length] at hall
  by_cases c3 : ls.length ≤ 40
  case pos =>
    repeat' (with_reducible first | apply qa | apply qb | apply qc | apply qd | apply qe | apply qf | apply qg | apply qh | apply qi | apply qj | apply qk | apply ql rfl | apply qm rfl | apply qn rfl | apply Je | (refine Tx 2 ?_; refine Jo xLt ?_) | (refine Tx 7 ?_; refine Jm ?_; refine Jo (xLn ts_s_s_int) ?_; refine Jo xLe ?_; refine Ja ?_))
    exact ret_q rfl (.cons_ (rv_b rfl (by unfold light15; rw [hall, decide_eq_true c3]; rfl)) .nil_)
  case neg =>
    repeat' (with_reducible first | apply qa | apply qb | apply qc | apply qd | apply qe | apply qf | apply qg | apply qh | apply qi | apply qj | apply qk | apply ql rfl | apply qm rfl | apply qn rfl | apply Je | (refine Tx 2 ?_; refine Jo xLt ?_) | (refine Tx 7 ?_; refine Jm ?_; refine Jo (xLn ts_s_s_int) ?_; refine Jo xLe ?_; refine Ja ?_))
    exact ret_q rfl (.cons_ (rv_b rfl (by unfold light15; rw [hall, decide_eq_false c3]; rfl)) .nil_)
theorem compileWhole_cv (ps : List Prt) (bs : List Bk) (os : List Int) (ls : List (List Int)) (hn : (ls.length : Int) ≤ 9223372036854775807) : CV Tryd.prog TabAt 3 [aDg true ps bs os, .one (rowLI true ls)] [aB true] := by
  refine cvz Tryd.func3 Tryd.ntmps3 ?_
  have LT := light_cvT true ps bs os
  have LL := light15_cv true ls hn
  by_cases h1 : lightB ps bs os = true
  case neg =>
    rw [Bool.not_eq_true] at h1
    rw [h1] at LT
    repeat' (with_reducible first | apply qa | apply qb | apply qc | apply qd | apply qe | apply qf | apply qg | apply qh | apply qi | apply qj | apply qk | apply ql rfl | apply qm rfl | apply qn rfl | apply Je | (refine Tx 0 ?_; refine Jn xBo ?_; refine Ja ?_) | (refine Tx 1 ?_; refine Jo (xCl Tryd.func4 (awake15_cv)) ?_; refine Jo (by first | exact xNt | exact xNg) ?_; refine Jm ?_; (first | iterate 3 refine Jd ?_ | (refine Jy (xLa tk_Diagram) ?_; refine Jy (xCl Tryd.func5 (LT)) ?_; refine Jy (by first | exact xNt | exact xNg) ?_)); refine Jo xPk ?_; refine Jm ?_; (first | iterate 3 refine Jd ?_ | (refine Jy xM1 ?_; refine Jy (xCl Tryd.func6 (LL)) ?_; refine Jy (by first | exact xNt | exact xNg) ?_)); refine Jo xPk ?_; refine Jm ?_; (first | iterate 3 refine Jd ?_ | (refine Jy (xLa tk_Diagram) ?_; refine Jy (xCl Tryd.func7 (PC)) ?_; refine Jy (xNE ti_error) ?_)); refine Jo xPk ?_) | (refine Tx 2 ?_; refine Jo (xCl Tryd.func4 (awake15_cv)) ?_; refine Ja ?_))
    exact ret_q rfl (.cons_ (rv_b rfl (rfl)) .nil_)
  rw [h1] at LT
  by_cases h2 : light15 ls = true
  case neg =>
    rw [Bool.not_eq_true] at h2
    rw [h2] at LL
    repeat' (with_reducible first | apply qa | apply qb | apply qc | apply qd | apply qe | apply qf | apply qg | apply qh | apply qi | apply qj | apply qk | apply ql rfl | apply qm rfl | apply qn rfl | apply Je | (refine Tx 0 ?_; refine Jn xBo ?_; refine Ja ?_) | (refine Tx 1 ?_; refine Jo (xCl Tryd.func4 (awake15_cv)) ?_; refine Jo (by first | exact xNt | exact xNg) ?_; refine Jm ?_; (first | iterate 3 refine Jd ?_ | (refine Jy (xLa tk_Diagram) ?_; refine Jy (xCl Tryd.func5 (LT)) ?_; refine Jy (by first | exact xNt | exact xNg) ?_)); refine Jo xPk ?_; refine Jm ?_; (first | iterate 3 refine Jd ?_ | (refine Jy xM1 ?_; refine Jy (xCl Tryd.func6 (LL)) ?_; refine Jy (by first | exact xNt | exact xNg) ?_)); refine Jo xPk ?_; refine Jm ?_; (first | iterate 3 refine Jd ?_ | (refine Jy (xLa tk_Diagram) ?_; refine Jy (xCl Tryd.func7 (PC)) ?_; refine Jy (xNE ti_error) ?_)); refine Jo xPk ?_) | (refine Tx 2 ?_; refine Jo (xCl Tryd.func4 (awake15_cv)) ?_; refine Ja ?_))
    exact ret_q rfl (.cons_ (rv_b rfl (rfl)) .nil_)
  rw [h2] at LL
  obtain ⟨hll, hls⟩ := light15_len h2
  have hl := (light_len h1).1
  have hl1 := hl.l1
  have hl2 := hl.l2
  have hl3 := hl.l3
  have PC := (pcheck_cv true hl).cv
  by_cases h0 : dgErr ps bs os = 0
  case neg =>
    repeat' (with_reducible first | apply qa | apply qb | apply qc | apply qd | apply qe | apply qf | apply qg | apply qh | apply qi | apply qj | apply qk | apply ql rfl | apply qm rfl | apply qn rfl | apply Je | (refine Tx 0 ?_; refine Jn xBo ?_; refine Ja ?_) | (refine Tx 1 ?_; refine Jo (xCl Tryd.func4 (awake15_cv)) ?_; refine Jo (by first | exact xNt | exact xNg) ?_; refine Jm ?_; (first | iterate 3 refine Jd ?_ | (refine Jy (xLa tk_Diagram) ?_; refine Jy (xCl Tryd.func5 (LT)) ?_; refine Jy (by first | exact xNt | exact xNg) ?_)); refine Jo xPk ?_; refine Jm ?_; (first | iterate 3 refine Jd ?_ | (refine Jy xM1 ?_; refine Jy (xCl Tryd.func6 (LL)) ?_; refine Jy (by first | exact xNt | exact xNg) ?_)); refine Jo xPk ?_; refine Jm ?_; (first | iterate 3 refine Jd ?_ | (refine Jy (xLa tk_Diagram) ?_; refine Jy (xCl Tryd.func7 (PC)) ?_; refine Jy (by first | exact ok_neqE rfl ti_error rfl (bne_t h0) | exact ok_neqE rfl ti_error rfl (bne_f (by first | rfl | omega)) | exact ok_neqE rfl ti_error rfl (bne_t (by first | assumption | omega)) | exact ok_neqE rfl ti_error rfl rfl) ?_)); refine Jo xPk ?_) | (refine Tx 2 ?_; refine Jo (xCl Tryd.func4 (awake15_cv)) ?_; refine Ja ?_))
    exact ret_q rfl (.cons_ (rv_b rfl (rfl)) .nil_)
  rw [h0] at PC
  have hos := (size_of_ok h0).2.2
  repeat' (with_reducible first | apply qa | apply qb | apply qc | apply qd | apply qe | apply qf | apply qg | apply qh | apply qi | apply qj | apply qk | apply ql rfl | apply qm rfl | apply qn rfl | apply Je | (refine Tx 0 ?_; refine Jn xBo ?_; refine Ja ?_) | (refine Tx 1 ?_; refine Jo (xCl Tryd.func4 (awake15_cv)) ?_; refine Jo (by first | exact xNt | exact xNg) ?_; refine Jm ?_; (first | iterate 3 refine Jd ?_ | (refine Jy (xLa tk_Diagram) ?_; refine Jy (xCl Tryd.func5 (LT)) ?_; refine Jy (by first | exact xNt | exact xNg) ?_)); refine Jo xPk ?_; refine Jm ?_; (first | iterate 3 refine Jd ?_ | (refine Jy xM1 ?_; refine Jy (xCl Tryd.func6 (LL)) ?_; refine Jy (by first | exact xNt | exact xNg) ?_)); refine Jo xPk ?_; refine Jm ?_; (first | iterate 3 refine Jd ?_ | (refine Jy (xLa tk_Diagram) ?_; refine Jy (xCl Tryd.func7 (PC)) ?_; refine Jy (xNE ti_error) ?_)); refine Jo xPk ?_) | (refine Tx 3 ?_; refine Jo (xFa tf_Diagram2 tk_s_int) ?_; refine Jo (xLd tk_s_int) ?_; refine Jo (by exact ok_build rfl tb_Diagram rfl rfl) ?_; refine Jn (xAl tz_Diagram) ?_; refine Js (xSk tk_Diagram) ?_) | (refine Tx 4 ?_; refine Jo (xFa tf_Diagram0 tk_s_Port) ?_; refine Jo (xLd tk_s_Port) ?_; refine Jo (xLn ts_s_Port) ?_; refine Jm ?_))
  refine cw_wk (wk_nilbox 1 0 35 3 rfl rfl) ?_
  refine cw_wk (F' := ofL [(1, vd (rowLI true ls)), (2, vr 0), (5, vr 1), (50, vd (rowP true ps)), (51, vi ps.length), (52, vi ((0 : Nat)))]) (H' := [.box 26 [.d (rowP true ps), .d (rowB true bs), .d (rowI true os)], .box 26 [.own 2 ((ps.map whP).take (0)).length, .d (.val (.slice none 0 0)), .d (rowI true os)], .row 35 3 ((ps.map whP).take (0)).length ((flatD dPrt ((ps.map whP).take (0))).map C.d)]) (wk_go _ 3 ?_ ?_ ?_) ?_
  · rfl
  · exact mB rfl rfl
  · exact ⟨bel_lit rfl, bel_lit rfl, bel_D, trivial⟩
  refine cw_loopW (fun n Fr H => ∃ k : Nat, k ≤ ps.length ∧ n = ps.length - k ∧ Fr = ofL [(1, vd (rowLI true ls)), (2, vr 0), (5, vr 1), (50, vd (rowP true ps)), (51, vi ps.length), (52, vi ((k : Nat)))] ∧ H = [.box 26 [.d (rowP true ps), .d (rowB true bs), .d (rowI true os)], .box 26 [.own 2 ((ps.map whP).take (k)).length, .d (.val (.slice none 0 0)), .d (rowI true os)], .row 35 3 ((ps.map whP).take (k)).length ((flatD dPrt ((ps.map whP).take (k))).map C.d)]) (n0 := ps.length) ⟨0, Nat.zero_le _, rfl, rfl, rfl⟩ ?_
  rintro n Fr H ⟨k, hk, rfl, rfl, rfl⟩
  by_cases hlt : k < ps.length
  case pos =>
    obtain ⟨p, hp⟩ : ∃ p, ps[k]? = some p := ⟨_, List.getElem?_eq_getElem hlt⟩
    have hwp : (ps.map whP)[k]? = some (whP p) := by rw [List.getElem?_map, hp]; rfl
    have hap : (flatD dPrt ((ps.map whP).take (k))).map C.d ++ [.d (.val (.int .i64 p.lo)), .d (.val (.int .i64 p.hi)), .d (.val (.int .i64 0))] = (flatD dPrt ((ps.map whP).take (k + 1))).map C.d := by rw [List.take_add_one, hwp, Option.toList_some, flatD_app, List.map_append]; rfl
    have hap2 : ((ps.map whP).take (k)).length + 1 = ((ps.map whP).take (k + 1)).length := take_len1 hwp
    have hoL : ((ps.map whP).take (k)).length ≤ k := by rw [List.length_take]; omega
    repeat' (with_reducible first | apply qa | apply qb | apply qc | apply qd | apply qe | apply qf | apply qg | apply qh | apply qi | apply qj | apply qk | apply ql rfl | apply qm rfl | apply qn rfl | apply Je | (refine Tx 5 ?_; refine Jo xLt ?_) | (refine Tx 6 ?_; refine Jo (xIr ts_s_Port (prt_at hp)) ?_; refine Jo (xLa tk_Port) ?_; refine Jn (xAl tz_Port) ?_; refine Js (xSk tk_Port) ?_) | (refine Tx 7 ?_; refine Jo (xFa tf_Diagram0 tk_s_Port) ?_; refine Jo (xLd tk_s_Port) ?_; refine Jo (xFa tf_Port0 tk_int) ?_; refine Jo (xLd tk_int) ?_; refine Jo (xFa tf_Port1 tk_int) ?_; refine Jo (xLd tk_int) ?_; refine Jo (by exact ok_build rfl tb_Port rfl rfl) ?_; refine Jn (by exact ok_build1 rfl ts_s_Port tz_Port rfl rfl (by decide) (by decide)) ?_; refine Jt (by exact to_apD rfl rfl rfl rfl rfl rfl ts_s_Port tz_Port (by omega) (by decide) (by decide) rfl hap hap2) ?_; refine Jo (xFa tf_Diagram0 tk_s_Port) ?_; refine Js (by first | exact xS1 tk_s_Port | exact xSk tk_s_Port) ?_) | (refine Tx 8 ?_; refine Jo xAd ?_; refine Jm ?_))
    refine ⟨_, _, wk_go _ 3 ?_ ?_ ?_, _, ?_, k + 1, by omega, rfl, rfl, rfl⟩
    · rfl
    · exact mB rfl rfl
    · exact ⟨bel_lit rfl, bel_lit rfl, bel_D, trivial⟩
    · omega
  obtain rfl : k = ps.length := by omega
  clear hlt hk
  rw [List.take_of_length_le (by simp)]
  repeat' (with_reducible first | apply qa | apply qb | apply qc | apply qd | apply qe | apply qf | apply qg | apply qh | apply qi | apply qj | apply qk | apply ql rfl | apply qm rfl | apply qn rfl | apply Je | (refine Tx 5 ?_; refine Jo xLt ?_) | (refine Tx 9 ?_; refine Jo (xFa tf_Diagram1 tk_s_Block) ?_; refine Jo (xLd tk_s_Block) ?_; refine Jo (xLn ts_s_Block) ?_; refine Jm ?_))
  refine cw_wk (wk_nilbox 1 1 39 6 rfl rfl) ?_
  refine cw_wk (F' := ofL [(1, vd (rowLI true ls)), (2, vr 0), (5, vr 1), (68, vd (rowB true bs)), (69, vi bs.length), (70, vi ((0 : Nat)))]) (H' := [.box 26 [.d (rowP true ps), .d (rowB true bs), .d (rowI true os)], .box 26 [.own 2 (ps.map whP).length, .own 3 ((bs.map whB).take (0)).length, .d (rowI true os)], .row 35 3 (ps.map whP).length ((flatD dPrt (ps.map whP)).map C.d), .row 39 6 ((bs.map whB).take (0)).length ((flatD (dBk true) ((bs.map whB).take (0))).map C.d)]) (wk_go _ 4 ?_ ?_ ?_) ?_
  · rfl
  · exact mB rfl rfl
  · exact ⟨bel_lit rfl, bel_lit rfl, bel_D, bel_D, trivial⟩
  refine cw_loopW (fun n Fr H => ∃ k : Nat, k ≤ bs.length ∧ n = bs.length - k ∧ Fr = ofL [(1, vd (rowLI true ls)), (2, vr 0), (5, vr 1), (68, vd (rowB true bs)), (69, vi bs.length), (70, vi ((k : Nat)))] ∧ H = [.box 26 [.d (rowP true ps), .d (rowB true bs), .d (rowI true os)], .box 26 [.own 2 (ps.map whP).length, .own 3 ((bs.map whB).take (k)).length, .d (rowI true os)], .row 35 3 (ps.map whP).length ((flatD dPrt (ps.map whP)).map C.d), .row 39 6 ((bs.map whB).take (k)).length ((flatD (dBk true) ((bs.map whB).take (k))).map C.d)]) (n0 := bs.length) ⟨0, Nat.zero_le _, rfl, rfl, rfl⟩ ?_
  rintro n Fr H ⟨k, hk, rfl, rfl, rfl⟩
  by_cases hlt : k < bs.length
  case pos =>
    obtain ⟨y, hy⟩ : ∃ y, bs[k]? = some y := ⟨_, List.getElem?_eq_getElem hlt⟩
    have hwy : (bs.map whB)[k]? = some (whB y) := by rw [List.getElem?_map, hy]; rfl
    have hap2 : ((bs.map whB).take (k)).length + 1 = ((bs.map whB).take (k + 1)).length := take_len1 hwy
    have hoL : ((bs.map whB).take (k)).length ≤ k := by rw [List.length_take]; omega
    by_cases k11 : y.kind = 11
    case neg =>
      have hw := wh_no (y := y) (fun h => k11 h.1)
      have hap := blk_row hy hw.1 hw.2
      repeat' (with_reducible first | apply qa | apply qb | apply qc | apply qd | apply qe | apply qf | apply qg | apply qh | apply qi | apply qj | apply qk | apply ql rfl | apply qm rfl | apply qn rfl | apply Je | (refine Tx 10 ?_; refine Jo xLt ?_) | (refine Tx 11 ?_; refine Jo (xIr ts_s_Block (bk_at hy)) ?_; refine Jo (xLa tk_Block) ?_; refine Jn (xAl tz_Block) ?_; refine Js (xSk tk_Block) ?_) | (refine Tx 12 ?_; refine Jo (xFa tf_Block2 tk_Scalar) ?_; refine Jo (xFa tf_Scalar1 tk_int) ?_; refine Js (by first | exact xS1 tk_int | exact xSk tk_int) ?_; refine Jo (xFa tf_Block3 tk_Scalar) ?_; refine Jo (xFa tf_Scalar1 tk_int) ?_; refine Js (by first | exact xS1 tk_int | exact xSk tk_int) ?_) | (refine Tx 13 ?_; refine Jo (xFa tf_Block0 tk_int) ?_; refine Jo (xLd tk_int) ?_; refine Jo xEq ?_; refine Jm ?_; (first | iterate 7 refine Jd ?_ | (refine Jy (xFa tf_Block2 tk_Scalar) ?_; refine Jy (xFa tf_Scalar0 tk_int) ?_; refine Jy (xLd tk_int) ?_; refine Jy (xFa tf_Block3 tk_Scalar) ?_; refine Jy (xFa tf_Scalar0 tk_int) ?_; refine Jy (xLd tk_int) ?_; refine Jy xGt ?_)); refine Jo xPk ?_) | (refine Tx 15 ?_; refine Jo (xFa tf_Diagram1 tk_s_Block) ?_; refine Jo (xLd tk_s_Block) ?_; refine Jo (xLa tk_Block) ?_; refine Jn (by exact ok_build1 rfl ts_s_Block tz_Block rfl rfl (by decide) (by decide)) ?_; refine Jt (by exact to_apD rfl rfl rfl rfl rfl rfl ts_s_Block tz_Block (by omega) (by decide) (by decide) rfl hap hap2) ?_; refine Jo (xFa tf_Diagram1 tk_s_Block) ?_; refine Js (by first | exact xS1 tk_s_Block | exact xSk tk_s_Block) ?_) | (refine Tx 16 ?_; refine Jo xAd ?_; refine Jm ?_))
      refine ⟨_, _, wk_go _ 4 ?_ ?_ ?_, _, ?_, k + 1, by omega, rfl, rfl, rfl⟩
      · rfl
      · exact mB rfl rfl
      · exact ⟨bel_lit rfl, bel_lit rfl, bel_D, bel_D, trivial⟩
      · omega
    by_cases hs : y.un < y.vn
    case neg =>
      have hw := wh_no (y := y) (fun h => hs h.2)
      have hap := blk_row hy hw.1 hw.2
      repeat' (with_reducible first | apply qa | apply qb | apply qc | apply qd | apply qe | apply qf | apply qg | apply qh | apply qi | apply qj | apply qk | apply ql rfl | apply qm rfl | apply qn rfl | apply Je | (refine Tx 10 ?_; refine Jo xLt ?_) | (refine Tx 11 ?_; refine Jo (xIr ts_s_Block (bk_at hy)) ?_; refine Jo (xLa tk_Block) ?_; refine Jn (xAl tz_Block) ?_; refine Js (xSk tk_Block) ?_) | (refine Tx 12 ?_; refine Jo (xFa tf_Block2 tk_Scalar) ?_; refine Jo (xFa tf_Scalar1 tk_int) ?_; refine Js (by first | exact xS1 tk_int | exact xSk tk_int) ?_; refine Jo (xFa tf_Block3 tk_Scalar) ?_; refine Jo (xFa tf_Scalar1 tk_int) ?_; refine Js (by first | exact xS1 tk_int | exact xSk tk_int) ?_) | (refine Tx 13 ?_; refine Jo (xFa tf_Block0 tk_int) ?_; refine Jo (xLd tk_int) ?_; refine Jo xEq ?_; refine Jm ?_; (first | iterate 7 refine Jd ?_ | (refine Jy (xFa tf_Block2 tk_Scalar) ?_; refine Jy (xFa tf_Scalar0 tk_int) ?_; refine Jy (xLd tk_int) ?_; refine Jy (xFa tf_Block3 tk_Scalar) ?_; refine Jy (xFa tf_Scalar0 tk_int) ?_; refine Jy (xLd tk_int) ?_; refine Jy xGt ?_)); refine Jo xPk ?_) | (refine Tx 15 ?_; refine Jo (xFa tf_Diagram1 tk_s_Block) ?_; refine Jo (xLd tk_s_Block) ?_; refine Jo (xLa tk_Block) ?_; refine Jn (by exact ok_build1 rfl ts_s_Block tz_Block rfl rfl (by decide) (by decide)) ?_; refine Jt (by exact to_apD rfl rfl rfl rfl rfl rfl ts_s_Block tz_Block (by omega) (by decide) (by decide) rfl hap hap2) ?_; refine Jo (xFa tf_Diagram1 tk_s_Block) ?_; refine Js (by first | exact xS1 tk_s_Block | exact xSk tk_s_Block) ?_) | (refine Tx 16 ?_; refine Jo xAd ?_; refine Jm ?_))
      refine ⟨_, _, wk_go _ 4 ?_ ?_ ?_, _, ?_, k + 1, by omega, rfl, rfl, rfl⟩
      · rfl
      · exact mB rfl rfl
      · exact ⟨bel_lit rfl, bel_lit rfl, bel_D, bel_D, trivial⟩
      · omega
    have hw := wh_yes (y := y) ⟨k11, hs⟩
    have hap := blk_row hy hw.1 hw.2
    repeat' (with_reducible first | apply qa | apply qb | apply qc | apply qd | apply qe | apply qf | apply qg | apply qh | apply qi | apply qj | apply qk | apply ql rfl | apply qm rfl | apply qn rfl | apply Je | (refine Tx 10 ?_; refine Jo xLt ?_) | (refine Tx 11 ?_; refine Jo (xIr ts_s_Block (bk_at hy)) ?_; refine Jo (xLa tk_Block) ?_; refine Jn (xAl tz_Block) ?_; refine Js (xSk tk_Block) ?_) | (refine Tx 12 ?_; refine Jo (xFa tf_Block2 tk_Scalar) ?_; refine Jo (xFa tf_Scalar1 tk_int) ?_; refine Js (by first | exact xS1 tk_int | exact xSk tk_int) ?_; refine Jo (xFa tf_Block3 tk_Scalar) ?_; refine Jo (xFa tf_Scalar1 tk_int) ?_; refine Js (by first | exact xS1 tk_int | exact xSk tk_int) ?_) | (refine Tx 13 ?_; refine Jo (xFa tf_Block0 tk_int) ?_; refine Jo (xLd tk_int) ?_; refine Jo xEq ?_; refine Jm ?_; (first | iterate 7 refine Jd ?_ | (refine Jy (xFa tf_Block2 tk_Scalar) ?_; refine Jy (xFa tf_Scalar0 tk_int) ?_; refine Jy (xLd tk_int) ?_; refine Jy (xFa tf_Block3 tk_Scalar) ?_; refine Jy (xFa tf_Scalar0 tk_int) ?_; refine Jy (xLd tk_int) ?_; refine Jy xGt ?_)); refine Jo xPk ?_) | (refine Tx 14 ?_; refine Jo (xFa tf_Block3 tk_Scalar) ?_; refine Jo (xFa tf_Scalar0 tk_int) ?_; refine Jo (xLd tk_int) ?_; refine Jo (xFa tf_Block2 tk_Scalar) ?_; refine Jo (xFa tf_Scalar0 tk_int) ?_; refine Jo (xLd tk_int) ?_; refine Jo (xFa tf_Block2 tk_Scalar) ?_; refine Jo (xFa tf_Scalar0 tk_int) ?_; refine Js (by first | exact xS1 tk_int | exact xSk tk_int) ?_; refine Jo (xFa tf_Block3 tk_Scalar) ?_; refine Jo (xFa tf_Scalar0 tk_int) ?_; refine Js (by first | exact xS1 tk_int | exact xSk tk_int) ?_) | (refine Tx 15 ?_; refine Jo (xFa tf_Diagram1 tk_s_Block) ?_; refine Jo (xLd tk_s_Block) ?_; refine Jo (xLa tk_Block) ?_; refine Jn (by exact ok_build1 rfl ts_s_Block tz_Block rfl rfl (by decide) (by decide)) ?_; refine Jt (by exact to_apD rfl rfl rfl rfl rfl rfl ts_s_Block tz_Block (by omega) (by decide) (by decide) rfl hap hap2) ?_; refine Jo (xFa tf_Diagram1 tk_s_Block) ?_; refine Js (by first | exact xS1 tk_s_Block | exact xSk tk_s_Block) ?_) | (refine Tx 16 ?_; refine Jo xAd ?_; refine Jm ?_))
    refine ⟨_, _, wk_go _ 4 ?_ ?_ ?_, _, ?_, k + 1, by omega, rfl, rfl, rfl⟩
    · rfl
    · exact mB rfl rfl
    · exact ⟨bel_lit rfl, bel_lit rfl, bel_D, bel_D, trivial⟩
    · omega
  obtain rfl : k = bs.length := by omega
  clear hlt hk
  rw [List.take_of_length_le (by simp)]
  have WD := wh_d h0
  have hL : DgLen (ps.map whP) (bs.map whB) os := ⟨by rw [List.length_map]; exact hl1, by rw [List.length_map]; exact hl2, hl3, fun b hb => by obtain ⟨q, hq, rfl⟩ := List.mem_map.1 hb; exact hl.la q hq⟩
  have hml : (ps.map whP).length = ps.length := List.length_map ..
  have hnl : (bs.map whB).length = bs.length := List.length_map ..
  generalize ps.map whP = qs at *
  generalize bs.map whB = cs at *
  clear h0 PC LT LL h1 h2
  have h0 := WD.he
  have hc0 := wh_cp WD
  have CP := compile_t true false (ps := qs) (bs := cs) (os := os) (F := zrL cs) hL (by unfold zrL; rw [List.length_replicate]; omega)
  have hE : cpE' qs cs os (zrL cs) = 0 := by unfold cpE'; rw [if_pos h0]; exact hc0
  rw [hE, okL_z rfl, okL_z rfl, okL_z rfl, okL_z rfl] at CP
  have hpr := prog_ok (F := zrL cs) h0 (shifts_ok hc0)
  have SS := start_cv false hpr
  have SC := pstart_cv true hL
  rw [h0, okQ_z rfl] at SC
  unfold aDys at SC
  have sim0 := sim_start WD
  repeat' (with_reducible first | apply qa | apply qb | apply qc | apply qd | apply qe | apply qf | apply qg | apply qh | apply qi | apply qj | apply qk | apply ql rfl | apply qm rfl | apply qn rfl | apply Je | (refine Tx 10 ?_; refine Jo xLt ?_) | (refine cw_partE (id := 17) 10 [(10, 8)] mixed (by kernel_rfl) ?_; dsimp only [List.take, List.drop]; refine Ko (xLa tk_Diagram) ?_; refine Ko (xFa tf_Diagram1 tk_s_Block) ?_; refine Ko (xLd tk_s_Block) ?_; refine Ko (xLn ts_s_Block) ?_; refine Ko (by exact ok_makeZ rfl rfl rfl ts_s_int tz_int (by omega) (by decide)) ?_; refine Ko (xCl Tryd.func8 CP (ha := by with_unfolding_all first | ((repeat' first | exact lrel_n rfl rfl | refine lrel_c rfl rfl ?_ ?_ | refine xexp_1 rfl rfl ?_ | refine xexp_a rfl rfl ?_ | exact cexp_d rfl (fun h => by cases h) | exact cexp_dT rfl rfl rfl) <;> fail) | fail)) ?_; refine Ko xMt ?_; refine Ko (by exact ok_exA rfl rfl rfl) ?_; refine Ko xEx ?_; refine Kn (xAl tz_Program) ?_; refine Ke ?_; refine Js (xSk tk_Program) ?_; refine Ja ?_) | (refine Tx 18 ?_; refine Jo (xLa tk_Diagram) ?_; refine Jo (xCl Tryd.func9 SC (ha := by with_unfolding_all first | ((repeat' first | exact lrel_n rfl rfl | refine lrel_c rfl rfl ?_ ?_ | refine xexp_1 rfl rfl ?_ | refine xexp_a rfl rfl ?_ | exact cexp_d rfl (fun h => by cases h) | exact cexp_dT rfl rfl rfl) <;> fail) | fail)) ?_; refine Jo xMt ?_; refine Jo xEx ?_; refine Jo xEx ?_; refine Ja ?_; refine Ja ?_) | (refine Tx 19 ?_; refine Jo (xLa tk_Program) ?_; refine Jo (xCl Tryd.func10 (SS)) ?_; refine Jo xMt ?_; refine Jo xEx ?_; refine Jo xEx ?_; refine Ja ?_; refine Ja ?_) | (refine Tx 20 ?_; refine Jm ?_; refine Jo (xNE ti_error) ?_; refine Jm ?_; (first | iterate 2 refine Jd ?_ | (refine Jy xM1 ?_; refine Jy (xNE ti_error) ?_)); refine Jo xPk ?_; refine Jm ?_; (first | iterate 2 refine Jd ?_ | (refine Jy xM1 ?_; refine Jy (xNE ti_error) ?_)); refine Jo xPk ?_) | (refine Tx 22 ?_; refine Jm ?_; refine Jo (xLn ts_s_s_int) ?_; refine Jm ?_))
  refine cw_wk (F' := ofL [(1, vd (rowLI true ls)), (5, vr 1), (10, vr 4), (12, vd (.row false 3 (startM cs).length (flatD dyP (startM cs)))), (14, vd (rowI false (initM cs (zrL cs)))), (136, vd (rowLI true ls)), (137, vi ls.length), (138, vi ((0 : Nat)))]) (H' := [.box 26 [.d (rowP true ps), .d (rowB true bs), .d (rowI true os)], .box 26 [.own 2 qs.length, .own 3 cs.length, .d (rowI true os)], .row 35 3 qs.length ((flatD dPrt qs).map C.d), .row 39 6 cs.length ((flatD (dBk true) cs).map C.d), .box 42 [.d (rowP false qs), .d (rowI false (initM cs (zrL cs))), .d (rowN false (codeM qs cs (zrL cs))), .d (rowI false os)]]) (wk_go _ 5 ?_ ?_ ?_) ?_
  · rfl
  · exact mB rfl rfl
  · exact ⟨bel_lit rfl, bel_lit rfl, bel_D, bel_D, bel_lit rfl, trivial⟩
  refine cw_loopW (fun n Fr H => ∃ (j : Nat) (c : List Int) (st : List (Int × Nat)), j ≤ ls.length ∧ n = ls.length - j ∧ SimW cs c st ∧ Fr = ofL [(1, vd (rowLI true ls)), (5, vr 1), (10, vr 4), (12, vd (.row false 3 st.length (flatD dyP st))), (14, vd (rowI false c)), (136, vd (rowLI true ls)), (137, vi ls.length), (138, vi ((j : Nat)))] ∧ H = [.box 26 [.d (rowP true ps), .d (rowB true bs), .d (rowI true os)], .box 26 [.own 2 qs.length, .own 3 cs.length, .d (rowI true os)], .row 35 3 qs.length ((flatD dPrt qs).map C.d), .row 39 6 cs.length ((flatD (dBk true) cs).map C.d), .box 42 [.d (rowP false qs), .d (rowI false (initM cs (zrL cs))), .d (rowN false (codeM qs cs (zrL cs))), .d (rowI false os)]]) (n0 := ls.length) ⟨0, _, _, Nat.zero_le _, rfl, sim0, rfl, rfl⟩ ?_
  clear sim0 SC CP SS
  rintro n Fr H ⟨j, c, st, hj, rfl, S, rfl, rfl⟩
  by_cases hlt : j < ls.length
  case pos =>
    obtain ⟨x, hx⟩ : ∃ x, ls[j]? = some x := ⟨_, List.getElem?_eq_getElem hlt⟩
    have hxl := hll x (List.mem_of_getElem? hx)
    have FT := inputs_cv true true x hL (by omega)
    have hinl := inp_len qs x
    have hT4 := tick_four h0 (st := st) (l := x)
    have hio := inp_in h0 x
    have hfit := fun k p z => inp_fit (inn := x) hpr k p z
    generalize inpV qs x qs.length = ins at *
    have hsl := S.sok.len
    have hdb := delL_le cs
    have RU := run_cv false false false hpr S.cok.len S.cok.short hinl hfit
    have ST := pstep_cv true false hL (st.map rvOf) (fun r hr => by obtain ⟨p, hp, rfl⟩ := List.mem_map.1 hr; exact ⟨canon_ok _, Nat.le_trans ((S.sok.sm p hp).lenN 128 (by decide)) (by decide)⟩) (by rw [List.length_map]; omega) ins (by omega)
    rw [rowR_of, rvOf_map, stE_of h0 S.sok] at ST
    unfold aDys at ST
    have hnx := fun ho ht => sim_next WD S hio hinl ho ht
    have hoL : (outsV (runV ins (codeM qs cs (zrL cs)) c).1 os).length = os.length := by unfold outsV; rw [List.length_map]
    by_cases hov : (runV ins (codeM qs cs (zrL cs)) c).2 = true
    case pos =>
      rw [hov] at RU
      generalize okQ (tickE qs cs st ins) (nextE qs cs st ins) = Q1 at *
      generalize okQ (tickE qs cs st ins) (valE qs cs st ins) = Q2 at *
      repeat' (with_reducible first | apply qa | apply qb | apply qc | apply qd | apply qe | apply qf | apply qg | apply qh | apply qi | apply qj | apply qk | apply ql rfl | apply qm rfl | apply qn rfl | apply Je | (refine Tx 23 ?_; refine Jo xLt ?_) | (refine Tx 24 ?_; refine Jo (xIr ts_s_s_int (lin_at hx)) ?_; refine Jo (xLd tk_s_int) ?_; refine Ja ?_) | (refine Tx 25 ?_; refine Jo (xLa tk_Diagram) ?_; refine Jm ?_; refine Jo (xCl Tryd.func11 FT (ha := by with_unfolding_all first | ((repeat' first | exact lrel_n rfl rfl | refine lrel_c rfl rfl ?_ ?_ | refine xexp_1 rfl rfl ?_ | refine xexp_a rfl rfl ?_ | exact cexp_d rfl (fun h => by cases h) | exact cexp_dT rfl rfl rfl) <;> fail) | fail)) ?_; refine Ja ?_) | (refine Tx 26 ?_; refine Jo (xLa tk_Program) ?_; refine Jm ?_; refine Jm ?_; refine Jo (xCl Tryd.func12 (RU)) ?_; refine Jo xMt ?_; refine Jo (by exact ok_exA rfl rfl rfl) ?_; refine Jo xEx ?_; refine Jn (xAl tz_CodeRun) ?_; refine Js (xSk tk_CodeRun) ?_; refine Ja ?_) | (refine Tx 27 ?_; refine Jo (xLa tk_Diagram) ?_; refine Jm ?_; refine Jm ?_; refine Jo (xCl Tryd.func13 ST (ha := by with_unfolding_all first | ((repeat' first | exact lrel_n rfl rfl | refine lrel_c rfl rfl ?_ ?_ | refine xexp_1 rfl rfl ?_ | refine xexp_a rfl rfl ?_ | exact cexp_d rfl (fun h => by cases h) | exact cexp_dT rfl rfl rfl) <;> fail) | fail)) ?_; refine Jo xMt ?_; refine Jo xEx ?_; refine Jo xEx ?_; refine Jo xEx ?_; refine Ja ?_; refine Ja ?_; refine Ja ?_) | (refine Tx 28 ?_; refine Jm ?_; refine Jo (xNE ti_error) ?_; refine Jm ?_; (first | iterate 7 refine Jd ?_ | (refine Jy (xFa tf_CodeRun1 tk_s_int) ?_; refine Jy (xLd tk_s_int) ?_; refine Jy (xLn ts_s_int) ?_; refine Jy (xFa tf_Diagram2 tk_s_int) ?_; refine Jy (xLd tk_s_int) ?_; refine Jy (xLn ts_s_int) ?_; refine Jy xNe ?_)); refine Jo xPk ?_) | (refine Tx 30 ?_; refine Jo (xFa tf_CodeRun2 tk_bool) ?_; refine Jo (xLd tk_bool) ?_; refine Jm ?_; (first | iterate 2 refine Jd ?_ | (refine Jy xM1 ?_; refine Jy (xNE ti_error) ?_)); refine Jo xPk ?_) | (refine Tx 31 ?_; refine Ja ?_))
      exact ret_q rfl (.cons_ (rv_b rfl (rfl)) .nil_)
    rw [Bool.not_eq_true] at hov
    rw [hov] at RU
    by_cases hT : tickE qs cs st ins = 0
    case neg =>
      repeat' (with_reducible first | apply qa | apply qb | apply qc | apply qd | apply qe | apply qf | apply qg | apply qh | apply qi | apply qj | apply qk | apply ql rfl | apply qm rfl | apply qn rfl | apply Je | (refine Tx 23 ?_; refine Jo xLt ?_) | (refine Tx 24 ?_; refine Jo (xIr ts_s_s_int (lin_at hx)) ?_; refine Jo (xLd tk_s_int) ?_; refine Ja ?_) | (refine Tx 25 ?_; refine Jo (xLa tk_Diagram) ?_; refine Jm ?_; refine Jo (xCl Tryd.func11 FT (ha := by with_unfolding_all first | ((repeat' first | exact lrel_n rfl rfl | refine lrel_c rfl rfl ?_ ?_ | refine xexp_1 rfl rfl ?_ | refine xexp_a rfl rfl ?_ | exact cexp_d rfl (fun h => by cases h) | exact cexp_dT rfl rfl rfl) <;> fail) | fail)) ?_; refine Ja ?_) | (refine Tx 26 ?_; refine Jo (xLa tk_Program) ?_; refine Jm ?_; refine Jm ?_; refine Jo (xCl Tryd.func12 (RU)) ?_; refine Jo xMt ?_; refine Jo (by exact ok_exA rfl rfl rfl) ?_; refine Jo xEx ?_; refine Jn (xAl tz_CodeRun) ?_; refine Js (xSk tk_CodeRun) ?_; refine Ja ?_) | (refine Tx 27 ?_; refine Jo (xLa tk_Diagram) ?_; refine Jm ?_; refine Jm ?_; refine Jo (xCl Tryd.func13 ST (ha := by with_unfolding_all first | ((repeat' first | exact lrel_n rfl rfl | refine lrel_c rfl rfl ?_ ?_ | refine xexp_1 rfl rfl ?_ | refine xexp_a rfl rfl ?_ | exact cexp_d rfl (fun h => by cases h) | exact cexp_dT rfl rfl rfl) <;> fail) | fail)) ?_; refine Jo xMt ?_; refine Jo xEx ?_; refine Jo xEx ?_; refine Jo xEx ?_; refine Ja ?_; refine Ja ?_; refine Ja ?_) | (refine Tx 28 ?_; refine Jm ?_; refine Jo (xNE ti_error) ?_; refine Jm ?_; (first | iterate 7 refine Jd ?_ | (refine Jy (xFa tf_CodeRun1 tk_s_int) ?_; refine Jy (xLd tk_s_int) ?_; refine Jy (xLn ts_s_int) ?_; refine Jy (xFa tf_Diagram2 tk_s_int) ?_; refine Jy (xLd tk_s_int) ?_; refine Jy (xLn ts_s_int) ?_; refine Jy xNe ?_)); refine Jo xPk ?_) | (refine Tx 30 ?_; refine Jo (xFa tf_CodeRun2 tk_bool) ?_; refine Jo (xLd tk_bool) ?_; refine Jm ?_; (first | iterate 2 refine Jd ?_ | (refine Jy xM1 ?_; refine Jy (by first | exact ok_neqE rfl ti_error rfl (bne_t hT) | exact ok_neqE rfl ti_error rfl (bne_f (by first | rfl | omega)) | exact ok_neqE rfl ti_error rfl (bne_t (by first | assumption | omega)) | exact ok_neqE rfl ti_error rfl rfl) ?_)); refine Jo xPk ?_) | (refine Tx 31 ?_; refine Ja ?_))
      exact ret_q rfl (.cons_ (rv_b rfl (rfl)) .nil_)
    obtain ⟨hS2, hout⟩ := hnx hov hT
    rw [hT, okQ_z rfl, okQ_z rfl] at ST
    have hve : (valE qs cs st ins).length = cs.length := valE_len
    have hvs := val_sm h0 S.sok.len S.sok.nf hT
    have hoo : ∀ (i : Nat) (o : Int), os[i]? = some o → (outsV (runV ins (codeM qs cs (zrL cs)) c).1 os)[i]? = some ((runV ins (codeM qs cs (zrL cs)) c).1[o.toNat]?.getD 0) := fun i o ho => by unfold outsV; rw [List.getElem?_map, ho]; rfl
    clear hnx
    generalize valE qs cs st ins = VV at *
    generalize nextE qs cs st ins = XX at *
    generalize (runV ins (codeM qs cs (zrL cs)) c).1 = RV at *
    generalize outsV RV os = OO at *
    repeat' (with_reducible first | apply qa | apply qb | apply qc | apply qd | apply qe | apply qf | apply qg | apply qh | apply qi | apply qj | apply qk | apply ql rfl | apply qm rfl | apply qn rfl | apply Je | (refine Tx 23 ?_; refine Jo xLt ?_) | (refine Tx 24 ?_; refine Jo (xIr ts_s_s_int (lin_at hx)) ?_; refine Jo (xLd tk_s_int) ?_; refine Ja ?_) | (refine Tx 25 ?_; refine Jo (xLa tk_Diagram) ?_; refine Jm ?_; refine Jo (xCl Tryd.func11 FT (ha := by with_unfolding_all first | ((repeat' first | exact lrel_n rfl rfl | refine lrel_c rfl rfl ?_ ?_ | refine xexp_1 rfl rfl ?_ | refine xexp_a rfl rfl ?_ | exact cexp_d rfl (fun h => by cases h) | exact cexp_dT rfl rfl rfl) <;> fail) | fail)) ?_; refine Ja ?_) | (refine Tx 26 ?_; refine Jo (xLa tk_Program) ?_; refine Jm ?_; refine Jm ?_; refine Jo (xCl Tryd.func12 (RU)) ?_; refine Jo xMt ?_; refine Jo (by exact ok_exA rfl rfl rfl) ?_; refine Jo xEx ?_; refine Jn (xAl tz_CodeRun) ?_; refine Js (xSk tk_CodeRun) ?_; refine Ja ?_) | (refine Tx 27 ?_; refine Jo (xLa tk_Diagram) ?_; refine Jm ?_; refine Jm ?_; refine Jo (xCl Tryd.func13 ST (ha := by with_unfolding_all first | ((repeat' first | exact lrel_n rfl rfl | refine lrel_c rfl rfl ?_ ?_ | refine xexp_1 rfl rfl ?_ | refine xexp_a rfl rfl ?_ | exact cexp_d rfl (fun h => by cases h) | exact cexp_dT rfl rfl rfl) <;> fail) | fail)) ?_; refine Jo xMt ?_; refine Jo xEx ?_; refine Jo xEx ?_; refine Jo xEx ?_; refine Ja ?_; refine Ja ?_; refine Ja ?_) | (refine Tx 28 ?_; refine Jm ?_; refine Jo (xNE ti_error) ?_; refine Jm ?_; (first | iterate 7 refine Jd ?_ | (refine Jy (xFa tf_CodeRun1 tk_s_int) ?_; refine Jy (xLd tk_s_int) ?_; refine Jy (xLn ts_s_int) ?_; refine Jy (xFa tf_Diagram2 tk_s_int) ?_; refine Jy (xLd tk_s_int) ?_; refine Jy (xLn ts_s_int) ?_; refine Jy xNe ?_)); refine Jo xPk ?_) | (refine Tx 30 ?_; refine Jo (xFa tf_CodeRun2 tk_bool) ?_; refine Jo (xLd tk_bool) ?_; refine Jm ?_; (first | iterate 2 refine Jd ?_ | (refine Jy xM1 ?_; refine Jy (xNE ti_error) ?_)); refine Jo xPk ?_) | (refine Tx 32 ?_; refine Jm ?_; refine Jo (xLn ts_s_Dyadic) ?_; refine Jo (xFa tf_Diagram1 tk_s_Block) ?_; refine Jo (xLd tk_s_Block) ?_; refine Jo (xLn ts_s_Block) ?_; refine Jo xNe ?_) | (refine Tx 34 ?_; refine Jo (xFa tf_Diagram2 tk_s_int) ?_; refine Jo (xLd tk_s_int) ?_; refine Jo (xLn ts_s_int) ?_; refine Jm ?_))
    refine cw_wk (F' := ofL [(1, vd (rowLI true ls)), (5, vr 1), (10, vr 4), (19, vr 5), (21, vd (.row false 3 XX.length (flatD dyP XX))), (22, vd (.row false 3 VV.length (flatD dyP VV))), (136, vd (rowLI true ls)), (137, vi ls.length), (138, vi ((j : Nat))), (184, vd (rowI true os)), (185, vi os.length), (186, vi ((0 : Nat)))]) (H' := [.box 26 [.d (rowP true ps), .d (rowB true bs), .d (rowI true os)], .box 26 [.own 2 qs.length, .own 3 cs.length, .d (rowI true os)], .row 35 3 qs.length ((flatD dPrt qs).map C.d), .row 39 6 cs.length ((flatD (dBk true) cs).map C.d), .box 42 [.d (rowP false qs), .d (rowI false (initM cs (zrL cs))), .d (rowN false (codeM qs cs (zrL cs))), .d (rowI false os)], .box 52 [.d (rowI false RV), .d (rowI false OO), .d (.val (.bool false))]]) (wk_go _ 6 ?_ ?_ ?_) ?_
    · rfl
    · exact mB rfl rfl
    · exact ⟨bel_lit rfl, bel_lit rfl, bel_D, bel_D, bel_lit rfl, bel_lit rfl, trivial⟩
    refine cw_loopW (fun n Fr H => ∃ u : Nat, u ≤ os.length ∧ n = os.length - u ∧ Fr = ofL [(1, vd (rowLI true ls)), (5, vr 1), (10, vr 4), (19, vr 5), (21, vd (.row false 3 XX.length (flatD dyP XX))), (22, vd (.row false 3 VV.length (flatD dyP VV))), (136, vd (rowLI true ls)), (137, vi ls.length), (138, vi ((j : Nat))), (184, vd (rowI true os)), (185, vi os.length), (186, vi ((u : Nat)))] ∧ H = [.box 26 [.d (rowP true ps), .d (rowB true bs), .d (rowI true os)], .box 26 [.own 2 qs.length, .own 3 cs.length, .d (rowI true os)], .row 35 3 qs.length ((flatD dPrt qs).map C.d), .row 39 6 cs.length ((flatD (dBk true) cs).map C.d), .box 42 [.d (rowP false qs), .d (rowI false (initM cs (zrL cs))), .d (rowN false (codeM qs cs (zrL cs))), .d (rowI false os)], .box 52 [.d (rowI false RV), .d (rowI false OO), .d (.val (.bool false))]]) (n0 := os.length) ⟨0, Nat.zero_le _, rfl, rfl, rfl⟩ ?_
    rintro n Fr H ⟨u, hu, rfl, rfl, rfl⟩
    by_cases hlu : u < os.length
    case pos =>
      obtain ⟨o, ho⟩ : ∃ o, os[u]? = some o := ⟨_, List.getElem?_eq_getElem hlu⟩
      have hob := acc_out h0 (List.mem_of_getElem? ho)
      obtain ⟨y, hy⟩ : ∃ y, cs[o.toNat]? = some y := ⟨_, List.getElem?_eq_getElem (by omega)⟩
      obtain ⟨z, hz, z0, z1, hv⟩ := hout o.toNat y hy
      have hO := hoo u o ho
      rw [hz, Option.getD_some] at hO
      obtain ⟨v, hvo⟩ : ∃ v, VV[o.toNat]? = some v := ⟨_, List.getElem?_eq_getElem (by omega)⟩
      have hon : ((o.toNat : Nat) : Int) = o := by omega
      have ho2 : os[u]? = some ((o.toNat : Nat) : Int) := by rw [hon]; exact ho
      clear ho
      have OF := pdof_cv z (by omega) (by omega)
      have CC := pdcmp_cv z 0 z 0 ⟨by decide, fun h => absurd rfl h⟩ ⟨by decide, fun h => absurd rfl h⟩ (Nat.le_trans (canon_len_le (k := 2) (by omega)) (by decide)) (Nat.le_trans (canon_len_le (k := 2) (by omega)) (by decide))
      rw [show dyCmp z 0 z 0 = 0 by rw [dyCmp_int, Int.sub_self]; rfl] at CC
      generalize hoN : o.toNat = oN at *
      by_cases hk : y.kind = 2
      case pos =>
        obtain ⟨b, hA0, b0, b1, hz2, _⟩ := del_argW h0 hy hk
        rw [if_pos hk, hz2] at hv
        have hbn : ((b.toNat : Nat) : Int) = b := by omega
        rw [← hbn] at hA0
        generalize hbN : b.toNat = bN at *
        have hac := (List.getElem?_eq_some_iff.1 hA0).1
        repeat' (with_reducible first | apply qa | apply qb | apply qc | apply qd | apply qe | apply qf | apply qg | apply qh | apply qi | apply qj | apply qk | apply ql rfl | apply qm rfl | apply qn rfl | apply Je | (refine Tx 35 ?_; refine Jo xLt ?_) | (refine Tx 36 ?_; refine Jm ?_; refine Jo (by first | exact xIr ts_s_int (int_at ho2) | exact xIr ts_s_int (dy_at hvo) | exact xIr ts_s_int (int_at hO) | exact xIr ts_s_int (dy_at hv)) ?_; refine Jo (xLd tk_int) ?_; refine Ja ?_; refine Ja ?_) | (refine Tx 37 ?_; refine Jm ?_; refine Jm ?_; refine Jo (by first | exact xIr ts_s_Dyadic (dy_at hvo) | exact xIr ts_s_Dyadic (dy_at hv)) ?_; refine Jo (xLa tk_Dyadic) ?_; refine Jn (xAl tz_Dyadic) ?_; refine Js (xSk tk_Dyadic) ?_) | (refine Tx 38 ?_; refine Jo (xFa tf_Diagram1 tk_s_Block) ?_; refine Jo (xLd tk_s_Block) ?_; refine Jm ?_; refine Jo (by first | exact xIo (i := oN) ts_s_Block | exact xIr ts_s_Block (dy_at hvo) | exact xIr ts_s_Block (dy_at hv)) ?_; refine Jo (by first | exact ok_loadA rfl rfl (At.row rfl) tk_Block (bkC_at hy) rfl | exact xLa tk_Block) ?_; refine Jn (xAl tz_Block) ?_; refine Js (xSk tk_Block) ?_) | (refine Tx 39 ?_; refine Jo (xFa tf_Block0 tk_int) ?_; refine Jo (xLd tk_int) ?_; refine Jo xEq ?_; refine Jm ?_; (first | iterate 5 refine Jd ?_ | (refine Jy (xFa tf_Block1 tk_s_int) ?_; refine Jy (xLd tk_s_int) ?_; refine Jy (by first | exact xIr ts_s_int (dy_at hvo) | exact xIr ts_s_int (int_at hA0) | exact xIr ts_s_int (dy_at hv)) ?_; refine Jy (xLd tk_int) ?_; refine Jy xGe ?_)); refine Jo xPk ?_; refine Jm ?_; (first | iterate 7 refine Jd ?_ | (refine Jy (xFa tf_Block1 tk_s_int) ?_; refine Jy (xLd tk_s_int) ?_; refine Jy (by first | exact xIr ts_s_int (dy_at hvo) | exact xIr ts_s_int (int_at hA0) | exact xIr ts_s_int (dy_at hv)) ?_; refine Jy (xLd tk_int) ?_; refine Jy xM1 ?_; refine Jy (xLn ts_s_Dyadic) ?_; refine Jy xLt ?_)); refine Jo xPk ?_) | (refine Tx 40 ?_; refine Jm ?_; refine Jo (xFa tf_Block1 tk_s_int) ?_; refine Jo (xLd tk_s_int) ?_; refine Jo (by first | exact xIr ts_s_int (dy_at hvo) | exact xIr ts_s_int (int_at hA0) | exact xIr ts_s_int (dy_at hv)) ?_; refine Jo (xLd tk_int) ?_; refine Jo (by first | exact xIr ts_s_Dyadic (dy_at hvo) | exact xIr ts_s_Dyadic (dy_at hv)) ?_; refine Jo (xLa tk_Dyadic) ?_; refine Js (xSk tk_Dyadic) ?_) | (refine cw_any (id := 41) mixed (by kernel_rfl) ?_; refine Ko (xLa tk_Dyadic) ?_; refine Ko (xFa tf_CodeRun1 tk_s_int) ?_; refine Ko (xLd tk_s_int) ?_; refine Km ?_; refine Ko (by first | exact xIr ts_s_int (int_at ho2) | exact xIr ts_s_int (dy_at hvo) | exact xIr ts_s_int (int_at hO) | exact xIr ts_s_int (dy_at hv)) ?_; refine Ko (xLd tk_int) ?_; refine Ko (xCl Tryd.func15 (OF)) ?_; refine Ko (xCl Tryd.func14 (CC)) ?_; refine Ko xNe ?_; refine Ke ?_) | (refine Tx 43 ?_; refine Jo xAd ?_; refine Jm ?_))
        refine ⟨_, _, wk_go _ 6 ?_ ?_ ?_, _, ?_, u + 1, by omega, rfl, rfl, rfl⟩
        · rfl
        · exact mB rfl rfl
        · exact ⟨bel_lit rfl, bel_lit rfl, bel_D, bel_D, bel_lit rfl, bel_lit rfl, trivial⟩
        · omega
      rw [if_neg hk, hvo] at hv
      cases hv
      repeat' (with_reducible first | apply qa | apply qb | apply qc | apply qd | apply qe | apply qf | apply qg | apply qh | apply qi | apply qj | apply qk | apply ql rfl | apply qm rfl | apply qn rfl | apply Je | (refine Tx 35 ?_; refine Jo xLt ?_) | (refine Tx 36 ?_; refine Jm ?_; refine Jo (by first | exact xIr ts_s_int (int_at ho2) | exact xIr ts_s_int (dy_at hvo) | exact xIr ts_s_int (int_at hO)) ?_; refine Jo (xLd tk_int) ?_; refine Ja ?_; refine Ja ?_) | (refine Tx 37 ?_; refine Jm ?_; refine Jm ?_; refine Jo (xIr ts_s_Dyadic (dy_at hvo)) ?_; refine Jo (xLa tk_Dyadic) ?_; refine Jn (xAl tz_Dyadic) ?_; refine Js (xSk tk_Dyadic) ?_) | (refine Tx 38 ?_; refine Jo (xFa tf_Diagram1 tk_s_Block) ?_; refine Jo (xLd tk_s_Block) ?_; refine Jm ?_; refine Jo (by first | exact xIo (i := oN) ts_s_Block | exact xIr ts_s_Block (dy_at hvo)) ?_; refine Jo (by first | exact ok_loadA rfl rfl (At.row rfl) tk_Block (bkC_at hy) rfl | exact xLa tk_Block) ?_; refine Jn (xAl tz_Block) ?_; refine Js (xSk tk_Block) ?_) | (refine Tx 39 ?_; refine Jo (xFa tf_Block0 tk_int) ?_; refine Jo (xLd tk_int) ?_; refine Jo xEq ?_; refine Jm ?_; (first | iterate 5 refine Jd ?_ | (refine Jy (xFa tf_Block1 tk_s_int) ?_; refine Jy (xLd tk_s_int) ?_; refine Jy (xIr ts_s_int (dy_at hvo)) ?_; refine Jy (xLd tk_int) ?_; refine Jy xGe ?_)); refine Jo xPk ?_; refine Jm ?_; (first | iterate 7 refine Jd ?_ | (refine Jy (xFa tf_Block1 tk_s_int) ?_; refine Jy (xLd tk_s_int) ?_; refine Jy (xIr ts_s_int (dy_at hvo)) ?_; refine Jy (xLd tk_int) ?_; refine Jy xM1 ?_; refine Jy (xLn ts_s_Dyadic) ?_; refine Jy xLt ?_)); refine Jo xPk ?_) | (refine cw_any (id := 41) mixed (by kernel_rfl) ?_; refine Ko (xLa tk_Dyadic) ?_; refine Ko (xFa tf_CodeRun1 tk_s_int) ?_; refine Ko (xLd tk_s_int) ?_; refine Km ?_; refine Ko (by first | exact xIr ts_s_int (int_at ho2) | exact xIr ts_s_int (dy_at hvo) | exact xIr ts_s_int (int_at hO)) ?_; refine Ko (xLd tk_int) ?_; refine Ko (xCl Tryd.func15 (OF)) ?_; refine Ko (xCl Tryd.func14 (CC)) ?_; refine Ko xNe ?_; refine Ke ?_) | (refine Tx 43 ?_; refine Jo xAd ?_; refine Jm ?_))
      refine ⟨_, _, wk_go _ 6 ?_ ?_ ?_, _, ?_, u + 1, by omega, rfl, rfl, rfl⟩
      · rfl
      · exact mB rfl rfl
      · exact ⟨bel_lit rfl, bel_lit rfl, bel_D, bel_D, bel_lit rfl, bel_lit rfl, trivial⟩
      · omega
    obtain rfl : u = os.length := by omega
    repeat' (with_reducible first | apply qa | apply qb | apply qc | apply qd | apply qe | apply qf | apply qg | apply qh | apply qi | apply qj | apply qk | apply ql rfl | apply qm rfl | apply qn rfl | apply Je | (refine Tx 35 ?_; refine Jo xLt ?_) | (refine Tx 44 ?_; refine Jo (xFa tf_CodeRun0 tk_s_int) ?_; refine Jo (xLd tk_s_int) ?_; refine Jm ?_; refine Ja ?_; refine Ja ?_) | (refine Tx 45 ?_; refine Jo xAd ?_; refine Jm ?_))
    refine ⟨_, _, wk_go _ 5 ?_ ?_ ?_, _, by omega, j + 1, RV, XX, by omega, rfl, hS2, rfl, rfl⟩
    · rfl
    · exact mB rfl rfl
    · exact ⟨bel_lit rfl, bel_lit rfl, bel_D, bel_D, bel_lit rfl, trivial⟩
  obtain rfl : j = ls.length := by omega
  repeat' (with_reducible first | apply qa | apply qb | apply qc | apply qd | apply qe | apply qf | apply qg | apply qh | apply qi | apply qj | apply qk | apply ql rfl | apply qm rfl | apply qn rfl | apply Je | (refine Tx 23 ?_; refine Jo xLt ?_) | (refine Tx 46 ?_; refine Ja ?_))
  exact ret_q rfl (.cons_ (rv_b rfl (rfl)) .nil_)
end Go.Proofs.YtmdfjbpggbhgnaaDoor
namespace Go.Proofs.YtmdfjbpggbhgnaaDoor
open Go.ChangeShapes Go.WideShapes Go.ChangeAt Go.RowKit Go.Joins Go.Deep
def AllS (w : World) : Sets := fun t b => t = true ∧ b < w.heap.size
theorem row_in {w : World} {A : Option Addr} {s n c : Nat} {cs : List D} {xs : List Value} (h : CellsAt w w.heap.size A xs) (hc : n ≤ c) (hA : A = none → c = 0) (hl : cs.length = n * s) (hr : LRel (DRel w (AllS w)) cs xs) : DRel w (AllS w) (.row true s n cs) (.slice A n c) := by
  refine .row xs hc hA hl hr.1 (fun hne => ?_) hr.2
  obtain ⟨b, off, h1, _, h2, h3⟩ := h (fun h0 => hne (by have := hr.1; rw [h0] at this; exact List.eq_nil_of_length_eq_zero (by simpa using this)))
  exact ⟨b, off, h1, ⟨rfl, h2⟩, h3⟩
theorem ints_one {zs : List Int} : ∀ v ∈ ints zs, v.oneCell' = true := fun v hv => by
  obtain ⟨z, _, rfl⟩ := List.mem_map.1 hv
  rfl
theorem rowI_in {w : World} {A : Option Addr} {zs : List Int} {c : Nat} (h : CellsAt w w.heap.size A (ints zs)) (hc : zs.length ≤ c) (hA : A = none → c = 0) : DRel w (AllS w) (rowI true zs) (.slice A zs.length c) := by
  unfold rowI
  rw [dI_map]
  exact row_in h hc hA (by simp [ints]) (rel_vals ints_one)
theorem prt_one {ps : List Prt} : ∀ v ∈ flat Prt.cells ps, v.oneCell' = true := fun v hv => by
  obtain ⟨l, hl, hv⟩ := List.mem_flatten.1 hv
  obtain ⟨p, _, rfl⟩ := List.mem_map.1 hl
  simp only [Prt.cells, List.mem_cons, List.not_mem_nil, or_false] at hv
  rcases hv with rfl | rfl | rfl <;> rfl
theorem flat_lenV {α : Type} {f : α → List Value} {s : Nat} (hf : ∀ x, (f x).length = s) : ∀ l : List α, (flat f l).length = l.length * s
  | [] => by simp [flat]
  | x :: l => by
    have ih := flat_lenV hf l
    unfold flat at ih ⊢
    rw [List.map_cons, List.flatten_cons, List.length_append, ih, hf, List.length_cons, Nat.add_mul]
    omega
theorem rowP_in {w : World} {A : Option Addr} {ps : List Prt} {c : Nat} (h : CellsAt w w.heap.size A (flat Prt.cells ps)) (hc : ps.length ≤ c) (hA : A = none → c = 0) : DRel w (AllS w) (rowP true ps) (.slice A ps.length c) := by
  unfold rowP
  rw [flatD_vals dPrt_vals]
  exact row_in h hc hA (by rw [List.length_map]; exact flat_lenV (f := Prt.cells) (s := 3) (fun _ => rfl) ps) (rel_vals prt_one)
theorem bks_in {w : World} : ∀ {bs : List Bk}, (∀ b ∈ bs, CellsAt w w.heap.size b.A (ints b.args) ∧ b.args.length ≤ b.cap ∧ (b.A = none → b.cap = 0)) → LRel (DRel w (AllS w)) (flatD (dBk true) bs) (flat Bk.cells bs)
  | [], _ => .nil_
  | b :: bs, h => by
    have ih := bks_in (w := w) (bs := bs) fun x hx => h x (by simp [hx])
    obtain ⟨h1, h2, h3⟩ := h b (by simp)
    exact .cons_ (.val rfl) (.cons_ (rowI_in h1 h2 h3) (.cons_ (.val rfl) (.cons_ (.val rfl) (.cons_ (.val rfl) (.cons_ (.val rfl) ih)))))
theorem bks_len (t : Bool) : ∀ bs : List Bk, (flatD (dBk t) bs).length = bs.length * 6
  | [] => rfl
  | b :: bs => by
    have ih := bks_len t bs
    show (flatD (dBk t) ([b] ++ bs)).length = _
    rw [flatD_app, List.length_append, ih, List.length_cons, Nat.add_mul]
    show 6 + bs.length * 6 = _
    omega
section
variable {H : Type} {enc : TypeId × Value → H} {w : World} {spare : Nat → Bool} {held : Bool}
theorem open_dgA {r : Go.Reach} {b0 : Nat} {v : Value} {d : DataW H} {p : List MemPlace} (hv : Value.okWide Tryd.prog w r b0 26 v) (h : DataW.Trod enc Tryd.prog w 0 spare held 26 v d p) :
    ∃ (ps : List Prt) (bs : List Bk) (os : List Int), ARel w (AllS w) (aDg true ps bs os) v := by
  obtain ⟨v0, v1, v2, y0, y1, y2, m, rfl, rfl, rfl, g0, g1, g2⟩ := open_agg3 Tryd.underlying26 (by kernel_rfl) (by kernel_rfl) hv h
  obtain ⟨A1, c1, ps, rfl, n1, k1, l1, h1, b1⟩ := rows_of_cell prtOf prtOf_cells (fun _ => rfl) (by decide) Tryd.underlying22 Tryd.underlying35 (by kernel_rfl) (fields_int (by kernel_rfl)) (by kernel_rfl) rfl g0
  obtain ⟨A2, c2, bs, e2, l2, h2, b2⟩ := blks_of_cell g1
  obtain ⟨A3, c3, os, rfl, n3, k3, l3, h3, b3⟩ := ints_of_cell' Tryd.underlying24 Tryd.underlying3 (by kernel_rfl) g2
  have hs : (A2 = none → c2 = 0) ∧ bs.length ≤ c2 := by
    rcases open_slice Tryd.underlying23 g1 with ⟨hcs, _⟩ | ⟨a, len, cap, m, n, D, Pl, hcs, _, hl, hm, hmm, _, hx⟩
    · have e3 : v1 = .slice none 0 0 := by simpa using hcs
      rw [e2] at e3
      simp only [Value.slice.injEq] at e3
      exact ⟨fun _ => e3.2.2, by omega⟩
    · have e3 : v1 = .slice (some a) len cap := by simpa using hcs
      rw [e2] at e3
      simp only [Value.slice.injEq] at e3
      exact ⟨fun h0 => (by rw [e3.1] at h0; cases h0), by omega⟩
  refine ⟨ps, bs, os, [.slice A1 ps.length c1, v1, .slice A3 os.length c3], rfl, ?_⟩
  rw [e2]
  exact .cons_ (rowP_in h1 k1 n1) (.cons_ (row_in h2 hs.2 hs.1 (bks_len true bs) (bks_in fun b hb => ⟨(b2 b hb).2.2.2.1, (b2 b hb).2.1, (b2 b hb).1⟩)) (.cons_ (rowI_in h3 k3 n3) .nil_))
end
def AllF (w : World) : Sets := fun _ b => b < w.heap.size
theorem AllF.of {w : World} {x : A} {v : Value} (h : ARel w (AllS w) x v) : ARel w (AllF w) x v := h.mono (fun _ _ hb => hb.2) fun _ _ _ => rfl
theorem cv_lawA {f : FuncId} {args : List A} (h : CV Tryd.prog TabAt f args [aB true]) {w : World} (ht : TabAt w) {vs : List Value} (ha : LRel (ARel w (AllF w)) args vs) :
    Calls Tryd.prog f vs.toArray w fun e w' => e = .returned (.bool true) ∧ Below w.heap.size w w' :=
  (h w _ vs ht (fun t b hb => hb) ha).mono fun e w' ⟨v, h1, h2, h3⟩ => by
    have h4 : DRel w' _ (dB true) v := h2
    cases h4
    exact ⟨h1, h3⟩
structure RowA (α : Type) (s : Nat) where
  cs : List Value
  len : cs.length = s
  a : α
instance {α : Type} {s : Nat} [Inhabited α] : Inhabited (RowA α s) := ⟨⟨List.replicate s undef, List.length_replicate, default⟩⟩
section
variable {H : Type} {enc : TypeId × Value → H} {P : Program} {w : World} {spare : Nat → Bool} {held : Bool}
theorem rowsA_of_cell {α : Type} [Inhabited α] {s : Nat} {Q : α → List Value → Prop} (hs0 : 0 < s) {t e : TypeId} {fuel : Nat} {v : Value} {x : DataW H × List MemPlace} (ht : P.underlying t = some (.slice e)) (hC : P.cellsOf e = s)
    (hrow : ∀ (fuel : Nat) (cs : List Value) (x : DataW H × List MemPlace), DataW.trod enc P w 0 spare held fuel e cs = some x → cs.length = s → ∃ a, Q a cs)
    (h : DataW.trod enc P w 0 spare held fuel t [v] = some x) :
    ∃ (A : Option Addr) (cap : Nat) (l : List (RowA α s)), v = .slice A l.length cap ∧ (A = none → cap = 0) ∧ l.length ≤ cap ∧ l.length ≤ maxLen ∧ CellsAt w w.heap.size A (flat RowA.cs l) ∧ ∀ x ∈ l, Q x.a x.cs := by
  rcases open_slice ht h with ⟨hcs, _⟩ | ⟨a, len, cap, m, n, D, Pl, hcs, _, hl, hm, hmm, _, hx⟩
  · exact ⟨none, 0, [], by simpa using hcs, fun _ => rfl, Nat.le_refl _, Nat.zero_le _, CellsAt.nil_, by simp⟩
  · have hle : len ≤ m := by rw [hmm]; split <;> omega
    rw [hC] at hx
    obtain ⟨R, hR⟩ := choose_lt (α := RowA α s) (n := len) (p := fun i b => Q b.a b.cs ∧ ∀ j, j < s → w.cell? (a.add (i * s + j)) = b.cs[j]?) (fun i hi => by
      obtain ⟨cs', h1, h2⟩ := hx i (by omega)
      obtain ⟨_, hlen, hcell⟩ := World.cells?_some h1
      obtain ⟨b, hb⟩ := hrow _ _ _ h2 (by simpa using hlen)
      exact ⟨⟨cs', by simpa using hlen, b⟩, hb, fun j hj => by rw [← add_add]; exact hcell j hj⟩)
    refine ⟨some a, cap, (List.range len).map R, by simpa using hcs, by simp, by simpa using hl, by simp; omega, fun hne => ?_, ?_⟩
    · have hpos : 0 < len := by
        rcases Nat.eq_zero_or_pos len with h0 | h0
        · subst h0; simp [flat] at hne
        · exact h0
      obtain ⟨b, off, spot⟩ := a
      have h00 := (hR 0 hpos).2 0 hs0
      have hz0 : (R 0).cs[0]? = some ((R 0).cs[0]'(by rw [(R 0).len]; exact hs0)) := List.getElem?_eq_getElem _
      rw [hz0] at h00
      have hspot : spot = none := by simpa [Addr.add] using World.cell?_spot h00
      subst hspot
      have hb : b < w.heap.size := by
        rcases Nat.lt_or_ge b w.heap.size with h | h
        · exact h
        · simp [World.cell?, Addr.add, Array.getElem?_eq_none h] at h00
      refine ⟨b, off, rfl, hb, hb, fun j u hu => ?_⟩
      have hjl : j < len * s := by
        have := (List.getElem?_eq_some_iff.1 hu).1
        rw [flat_len (f := RowA.cs) (s := s) (fun x => x.len)] at this
        simpa using this
      have hk : j / s < len := Nat.div_lt_of_lt_mul (by rw [Nat.mul_comm]; exact hjl)
      have hr : j % s < s := Nat.mod_lt _ hs0
      have hj : j / s * s + j % s = j := by rw [Nat.mul_comm]; exact Nat.div_add_mod j s
      have hg : ((List.range len).map R)[j / s]? = some (R (j / s)) := by simp [hk]
      have h1 := flat_get (f := RowA.cs) (s := s) (fun x => x.len) hg hr
      rw [hj, hu] at h1
      have h2 := (hR _ hk).2 (j % s) hr
      rw [hj, ← h1] at h2
      rw [← Go.WideShapes.add_plain]
      exact h2
    · intro y hy
      obtain ⟨i, hi, rfl⟩ := List.mem_map.1 hy
      exact (hR i (by simpa using hi)).1
theorem row_inF {tg : Bool} {A : Option Addr} {s n c : Nat} {cs : List D} {xs : List Value} (h : CellsAt w w.heap.size A xs) (hc : n ≤ c) (hA : A = none → c = 0) (hl : cs.length = n * s) (hr : LRel (DRel w (AllF w)) cs xs) : DRel w (AllF w) (.row tg s n cs) (.slice A n c) := by
  refine .row xs hc hA hl hr.1 (fun hne => ?_) hr.2
  obtain ⟨b, off, h1, _, h2, h3⟩ := h (fun h0 => hne (by have := hr.1; rw [h0] at this; exact List.eq_nil_of_length_eq_zero (by simpa using this)))
  exact ⟨b, off, h1, h2, h3⟩
theorem sliceD {α : Type} [Inhabited α] (f : α → List D) (Q : α → Prop) {s : Nat} {tg : Bool} (hs0 : 0 < s) (hfl : ∀ a, (f a).length = s) {t e : TypeId} {fuel : Nat} {v : Value} {x : DataW H × List MemPlace} (ht : P.underlying t = some (.slice e)) (hC : P.cellsOf e = s)
    (hrow : ∀ (fuel : Nat) (cs : List Value) (x : DataW H × List MemPlace), DataW.trod enc P w 0 spare held fuel e cs = some x → cs.length = s → ∃ a, Q a ∧ LRel (DRel w (AllF w)) (f a) cs)
    (h : DataW.trod enc P w 0 spare held fuel t [v] = some x) : ∃ l : List α, DRel w (AllF w) (.row tg s l.length (flatD f l)) v ∧ (∀ a ∈ l, Q a) ∧ l.length ≤ maxLen := by
  obtain ⟨A, cap, l, rfl, hA, hc, hm, hcl, hQ⟩ := rowsA_of_cell (Q := fun a cs => Q a ∧ LRel (DRel w (AllF w)) (f a) cs) hs0 ht hC hrow h
  refine ⟨l.map RowA.a, ?_, fun a ha => ?_, by rw [List.length_map]; exact hm⟩
  · have key : ∀ l : List (RowA α s), (∀ x ∈ l, Q x.a ∧ LRel (DRel w (AllF w)) (f x.a) x.cs) → LRel (DRel w (AllF w)) (flatD f (l.map RowA.a)) (flat RowA.cs l) := fun l => by
      induction l with
      | nil => intro _; exact LRel.nil_
      | cons y l ih => intro hq; exact (hq y (List.mem_cons_self ..)).2.app (ih fun z hz => hq z (List.mem_cons_of_mem _ hz))
    have := row_inF (tg := tg) (n := (l.map RowA.a).length) hcl (by rw [List.length_map]; exact hc) hA (flatD_len (f := f) hfl _) (key l hQ)
    rwa [List.length_map] at this ⊢
  · obtain ⟨y, hy, rfl⟩ := List.mem_map.1 ha
    exact (hQ y hy).1
end
theorem len_i64 {n : Nat} (h : n ≤ maxLen) : (n : Int) ≤ 9223372036854775807 := by unfold maxLen at h; omega
theorem flatD_one {α : Type} (f : α → D) (l : List α) : flatD (fun a => [f a]) l = l.map f := by
  induction l with
  | nil => rfl
  | cons a l ih => show f a :: flatD (fun a => [f a]) l = f a :: l.map f; rw [ih]
section
variable {H : Type} {enc : TypeId × Value → H} {w : World} {spare : Nat → Bool} {held : Bool}
instance : Inhabited Rv := ⟨⟨false, [], 0⟩⟩
def RvIn (r : Rv) : Prop := wordsOk r.ws ∧ r.ws.length ≤ maxLen ∧ -9223372036854775808 ≤ r.den ∧ r.den ≤ 9223372036854775807
end
section
variable {H : Type} {enc : TypeId × Value → H} {w : World} {spare : Nat → Bool} {held : Bool}
theorem open_lintsN (tg : Bool) {r : Go.Reach} {b0 : Nat} {v : Value} {d : DataW H} {p : List MemPlace} (hv : Value.okWide Tryd.prog w r b0 27 v) (h : DataW.Trod enc Tryd.prog w 0 spare held 27 v d p) :
    ∃ ls : List (List Int), ARel w (AllF w) (.one (.row tg 1 ls.length (ls.map (rowI tg)))) v ∧ (ls.length : Int) ≤ 9223372036854775807 := by
  obtain ⟨a0, len, cap, rfl⟩ := okWide_slice Tryd.underlying27 hv
  obtain ⟨fuel, hf⟩ := h
  obtain ⟨ls, h1, _, h3⟩ := sliceD (s := 1) (tg := tg) (fun l => [rowI tg l]) (fun _ => True) (by decide) (fun _ => rfl) Tryd.underlying27 (by kernel_rfl) (fun fuel cs x hx hl => by
    match cs, hl with
    | [c], _ =>
      obtain ⟨A, cp, zs, rfl, n, k, l, hc, b⟩ := ints_of_cell' Tryd.underlying24 Tryd.underlying3 (by kernel_rfl) hx
      refine ⟨zs, trivial, .cons_ ?_ .nil_⟩
      unfold rowI
      rw [dI_map]
      exact row_inF hc k n (by simp [ints]) (rel_vals ints_one)) hf
  rw [flatD_one] at h1
  exact ⟨ls, h1, len_i64 h3⟩
end
end Go.Proofs.YtmdfjbpggbhgnaaDoor
