/- Code told on values: zeros appended (append(s, make([]T, n)...)). No conditions. The document's Delays and Order, told on values. No conditions. The document's Same and Check, and Light, told on values. No conditions. What Compile makes can run: the check of a program accepts it. No conditions. The program's check of what Compile makes, told on values. No conditions. -/
import Derived.Test.YtjlocofimlgaoaaDoorVsM
import Derived.Lib.AppendZerosOnto
import Derived.Maps.AppendAt
import Derived.Test.YtjlocofimlgaoaaDoorCwE
import Derived.Test.YtjlocofimlgaoaaDoorDgR
import Derived.Test.YtjlocofimlgaoaaDoorCk
namespace Go.Proofs.YtjlocofimlgaoaaDoor
set_option linter.unusedVariables false
set_option linter.unusedSimpArgs false
set_option linter.unusedSectionVars false
open Go.RowKit

theorem zeros_len (z : Array Value) (k : Nat) : (Builtin.zeroCells z k).toList.length = k * z.size := by
  rw [Array.length_toList]
  exact size_zeroCells z k
theorem zeros_one {z : Array Value} (h : z.all (·.oneCell') = true) (k : Nat) : ∀ u ∈ (Builtin.zeroCells z k).toList, u.oneCell' = true := fun u hu => by
  have hu' : u ∈ Builtin.zeroCells z k := by simpa using hu
  unfold Builtin.zeroCells at hu'
  obtain ⟨j, hj, rfl⟩ := Array.mem_map.1 hu'
  have hj' := Array.mem_range.1 hj
  rcases Nat.eq_zero_or_pos z.size with h0 | h0
  · rw [h0, Nat.mul_zero] at hj'
    omega
  · have hlt : j % z.size < z.size := Nat.mod_lt _ h0
    have e1 : z[j % z.size]! = z[j % z.size] := by simp [hlt]
    rw [e1]
    exact (Array.all_eq_true_iff_forall_mem.1 h) _ (Array.getElem_mem hlt)
theorem run_append_nought {P : Program} {w : World} {t tn ty e : TypeId} {kn kq : IntKind} {i : TypeInfo} (ht : P.underlying t = some (.slice e)) (htn : P.underlying tn = some (.int kn)) (hi : P.info? e = some i) {A : Option Addr} {n c : Nat} (hc : n ≤ c) :
    (Builtin.append_ #[t, tn] ty #[.slice A n c, .int kq 0]).run P w = .ok (.slice A n c) w := by
  have hw : IntKind.i64.wrap (0 : Int) = 0 := by rw [IntKind.wrap_i64]; omega
  cases A <;> simp [Builtin.append_, run_underlying ht, run_underlying htn, sizeOf, typeInfo, hi, asInt, asIntOf, hw, hc, storeCells]
theorem run_append_own_zeros {P : Program} (w : World) (base : Nat) (t tn ty e : TypeId) (kn kq : IntKind) (i : TypeInfo) (z : Value) (size bytes : Nat) (ht : P.underlying t = some (.slice e)) (htn : P.underlying tn = some (.int kn)) (hi : P.info? e = some i) (hz : i.zero = some z)
    (hsize : i.size = size) (hby : i.bytes = bytes) (hzs : z.cells.size = size) (hsz : 0 < size) (hone : z.cells.all (·.oneCell') = true)
    (v : Value) (n : Nat) (xs : List Value) (hown : w.ownsRow base e size v n xs) (k : Nat) (hk : 0 < k)
    (h63 : n + k ≤ maxLen) (hbytes : (n + k) * bytes ≤ 140737488355328) (hbase : base ≤ w.heap.size) :
    ∃ v' w', (Builtin.append_ #[t, tn] ty #[v, .int kq k]).run P w = .ok v' w' ∧ w'.ownsRow base e size v' (n + k) (xs ++ (Builtin.zeroCells z.cells k).toList) ∧ w.grownBy w' v.ownBlock ∧ (v'.ownBlock = v.ownBlock ∨ v'.ownBlock = some w.heap.size) := by
  subst hsize
  subst hby
  have hsmall : n + k ≤ 9223372036854775807 := by simp only [maxLen] at h63; omega
  have hl := zeros_len z.cells k
  rw [hzs] at hl
  have h1 := zeros_one hone k
  have hkb : k * i.bytes ≤ 281474976710656 := by
    have := Nat.mul_le_mul_right i.bytes (Nat.le_add_left k n)
    omega
  have hlen : (xs ++ (Builtin.zeroCells z.cells k).toList).length = (n + k) * i.size := by rw [List.length_append, hown.1, hl, Nat.add_mul]
  have grown : ∀ (old : Nat), old < n + k → ∀ (row : Option Nat),
      (w.drew.alloc (.cells (xs.toArray ++ Builtin.zeroCells z.cells k ++ Builtin.zeroCells z.cells (grownCap w (n + k) old e - (n + k))) e)).ownsRow base e i.size
        (.slice (some ⟨w.heap.size, 0, none⟩) (n + k) (grownCap w (n + k) old e)) (n + k) (xs ++ (Builtin.zeroCells z.cells k).toList) ∧
      w.grownBy (w.drew.alloc (.cells (xs.toArray ++ Builtin.zeroCells z.cells k ++ Builtin.zeroCells z.cells (grownCap w (n + k) old e - (n + k))) e)) row := by
    intro old ho row
    have hge := grownCap_ge w (n + k) old e
    have hcm : grownCap w (n + k) old e ≤ maxLen := grownCap_le_maxLen w (n + k) old e h63
    refine ⟨⟨hlen, .inr ⟨w.heap.size, _, _, rfl, hbase, heap_alloc_new w.drew _, hge, hcm, ?_, ?_⟩⟩, ⟨rfl, rfl, rfl, by simp, fun k hk _ => Go.heap_alloc_old w.drew _ hk⟩⟩
    · simp only [Array.size_append, List.size_toArray, size_zeroCells, hzs, hown.1, ← Nat.add_mul]
      congr 1
      omega
    · simp only [Array.toList_append, List.append_assoc]
      rw [← List.append_assoc, ← hlen]
      exact List.take_left
  rcases hown.2 with ⟨rfl, rfl⟩ | ⟨g, cap, cur, rfl, hbg, hg, hnc, hcm, hcs, htake⟩
  · have hx : xs = [] := List.eq_nil_of_length_eq_zero (by simpa using hown.1)
    subst hx
    have hr := Lib.run_append_nil_zeros (P := P) w t tn ty e i z kq kn ht htn hi hz k hk hsz (by omega) hkb
    have hgr := grown 0 (by omega) (Value.ownBlock (.slice none 0 0))
    simp only [Nat.zero_add, List.nil_append, Array.empty_append] at hgr ⊢
    exact ⟨_, _, hr, hgr.1, hgr.2, Or.inr rfl⟩
  · by_cases hroom : n + k ≤ cap
    · have hfit : n * i.size + (Builtin.zeroCells z.cells k).toList.length ≤ cur.size := by rw [hl, hcs, ← Nat.add_mul]; exact Nat.mul_le_mul_right _ hroom
      have hst := run_storeCells_at P g (n * i.size) e (Builtin.zeroCells z.cells k).toList 0 cur w hg (by simpa using hfit) h1
      simp only [Nat.add_zero] at hst
      have hk0 : k ≠ 0 := by omega
      have hw : IntKind.i64.wrap (k : Int) = k := by rw [IntKind.wrap_i64]; omega
      have hneg : ¬ ((k : Int) < 0) := by omega
      have h48i : ¬ (281474976710656 < (k : Int) * (i.bytes : Int)) := by
        rw [← Int.natCast_mul]
        omega
      have hns : ¬ (k * i.size = 0) := Nat.mul_ne_zero hk0 (by omega)
      have hr : (Builtin.append_ #[t, tn] ty #[.slice (some ⟨g, 0, none⟩) n cap, .int kq k]).run P w = .ok (.slice (some ⟨g, 0, none⟩) (n + k) cap) (w.setRow g (cur.toList.take (n * i.size) ++ (Builtin.zeroCells z.cells k).toList ++ cur.toList.drop (n * i.size + (Builtin.zeroCells z.cells k).toList.length)).toArray) := by
        simp [Builtin.append_, run_underlying ht, run_underlying htn, sizeOf, typeInfo, zeroValue, hi, hz, asInt, asIntOf, hw, hneg, hns, h48i, hroom, Addr.add_lit] at hst ⊢
        simp [hst]
      refine ⟨_, _, hr, ⟨hlen, .inr ⟨g, cap, _, rfl, hbg, setRow_heap w g cur _ e _ hg, hroom, hcm, ?_, ?_⟩⟩, ⟨rfl, rfl, rfl, by simp, fun k _ hk => setRow_other w g k _ (fun e => hk (by simp [Value.ownBlock, e]))⟩, Or.inl rfl⟩
      · simp only [List.size_toArray, List.length_append, List.length_take, List.length_drop, Array.length_toList] at hfit ⊢
        omega
      · rw [htake, ← hlen]
        exact List.take_left
    · have holds : ∀ j u, xs[j]? = some u → w.cell? ((⟨g, 0, none⟩ : Addr).add j) = some u := hown.cells (g := g) rfl
      have hr := Lib.run_append_grow_zeros (P := P) w t tn ty e i z kq kn ht htn hi hz (some ⟨g, 0, none⟩) n cap xs (run_firstCells_some (P := P) w.drew i.size n ⟨g, 0, none⟩ n cap xs hown.1 holds) k hk hsz (by omega) (by omega) hkb (growslice_fits (by omega) hbytes)
      have hgr := grown cap (by omega) (Value.ownBlock (.slice (some ⟨g, 0, none⟩) n cap))
      exact ⟨_, _, hr, hgr.1, hgr.2, Or.inr rfl⟩
section
variable {P : Program} {G : World → Prop} {o : Oper} {F : Frm} {H : List Ob}
theorem to_appendZ {t tn e : TypeId} {x y : Operand} {id s n by_ k : Nat} {z : Value} {cs : List C} {kn kq : IntKind} (ho : o.op = .call { callee := .builtin .append, args := #[x, y], argTypes := #[t, tn] }) (hx : F.ev x = .one (.own id n)) (hH : H[id]? = some (.row e s n cs)) (hy : F.ev y = .one (.d (.val (.int kq (k : Int))))) (ht : TyS P t e s) (htn : P.underlying tn = some (.int kn)) (hz : TyZ P e z s by_)
    (hn : n + k ≤ 100000000000) (h0 : 0 < s) (hby : by_ ≤ 1000) : TOk P G o F H (.one (.own id (n + k))) (H.set id (.row e s (n + k) (cs ++ valsC (Builtin.zeroCells z.cells k).toList))) := by
  intro b0 m a hH' hcx htot hg hb hor K Q hK
  subst hH'
  have hv := ev_rel hor (x := x) (by rw [ho]; simp [Op.operands, Call.operands])
  have hye := val_of (m := m) (v := a.eval y) (by rw [← hy]; exact ev_rel hor (x := y) (by rw [ho]; simp [Op.operands, Call.operands]))
  rw [hx] at hv
  obtain ⟨xs, he, hat, hlx⟩ := own_form hcx hv hH
  obtain ⟨i, hi, hi2⟩ := Option.map_eq_some_iff.1 hz.h
  simp only [Prod.mk.injEq] at hi2
  have hidl := (List.getElem?_eq_some_iff.1 hH).1
  have hones : (Builtin.zeroCells z.cells k).toList.all (·.oneCell') = true := List.all_eq_true.2 (zeros_one hz.one k)
  have fin : ∀ v' w', (Builtin.append_ #[t, tn] o.type #[a.eval x, a.eval y]).run P m.w = .ok v' w' → w'.ownsRow b0 e s v' (n + k) (xs ++ (Builtin.zeroCells z.cells k).toList) → m.w.grownBy w' (a.eval x).ownBlock → (v'.ownBlock = (a.eval x).ownBlock ∨ v'.ownBlock = some m.w.heap.size) → (k = 0 → v' = a.eval x) → o.wp P a m.w K Q := fun v' w' hrun hat' hgr hob hsame => by
    obtain ⟨h1, h2, h3, h4⟩ := hcx.write htot (w' := w') (e' := .row v' e s (n + k) (xs ++ (Builtin.zeroCells z.cells k).toList)) (ob' := .row e s (n + k) (cs ++ valsC (Builtin.zeroCells z.cells k).toList)) he hH hgr hat' (fun g hg' => by
        have hg'' : v'.ownBlock = some g := hg'
        rcases hob with h | h
        · exact .inl (h.symm.trans hg'')
        · rw [h] at hg''; exact .inr (by simp at hg''; omega))
      (fun kk hk => by
        have hk' : some (n + k) = kk := by simpa [Ob.k] using hk
        subst hk'
        rcases Nat.eq_zero_or_pos k with h | h
        · refine .inl ⟨by rw [h]; rfl, hsame h⟩
        · exact .inr ⟨n, n + k, rfl, rfl, by omega⟩)
      (fun m2 hle => ⟨rfl, rfl, rfl, (hlx.app (valsC_rel hones)).imp fun _ _ => CRel.le hle⟩) hb
    unfold Oper.wp execOp
    simp only [ho, resolve, invoke, builtin, Sem.run_bind, Sem.run_pure, Result.andThen_ok, List.map_toArray, List.map_cons, List.map_nil, hrun]
    refine hK v' _ rfl h1 h2 h3 h4 (fun b hb' => .inl hb') ?_
    refine ⟨?_, _, List.getElem?_set_self hidl, (fun p p' hp hp' => by cases hp; cases hp'; exact Nat.le_refl _), fun _ => ⟨.row v' e s (n + k) (xs ++ (Builtin.zeroCells z.cells k).toList), by simp, rfl⟩⟩
    rcases hat'.2 with ⟨rfl, _⟩ | ⟨g, _, _, rfl, _⟩ <;> rfl
  rcases Nat.eq_zero_or_pos k with h | h
  · subst h
    have hform : ∃ A' c', a.eval x = .slice A' n c' ∧ n ≤ c' := by
      rcases hat.2 with ⟨h1, rfl⟩ | ⟨g, cap', cur, h1, _, _, h2, _⟩
      · exact ⟨none, 0, h1, Nat.le_refl _⟩
      · exact ⟨_, _, h1, h2⟩
    obtain ⟨A', c', hxe, hc'⟩ := hform
    have hz0 : (Builtin.zeroCells z.cells 0).toList = [] := List.eq_nil_of_length_eq_zero (by rw [zeros_len, Nat.zero_mul])
    refine fin (a.eval x) m.w ?_ (by rw [hz0]; simpa using hat) ⟨rfl, rfl, rfl, Nat.le_refl _, fun _ _ _ => rfl⟩ (.inl rfl) (fun _ => rfl)
    rw [hxe, hye]
    exact run_append_nought ht.h htn hi hc'
  · obtain ⟨v', w', h2, h3, h4, h6⟩ := run_append_own_zeros (P := P) m.w b0 t tn o.type e kn kq i z s by_ ht.h htn hi hi2.1 hi2.2.1 hi2.2.2 hz.c h0 hz.one (a.eval x) n xs hat k h (by unfold maxLen; omega) (by have := Nat.mul_le_mul hn hby; omega) hb
    refine fin v' w' ?_ h3 h4 h6 (fun h' => by omega)
    rw [hye]
    exact h2
theorem zeros_cI (k : Nat) : valsC (Builtin.zeroCells (Value.int .i64 0).cells k).toList = cI (List.replicate k 0) := by
  have hl := zeros_len (Value.int .i64 0).cells k
  rw [show (Value.int .i64 0).cells.size = 1 from rfl, Nat.mul_one] at hl
  refine List.ext_getElem (by simp [valsC, cI]; exact hl) fun j h1 h2 => ?_
  simp only [valsC, cI, List.getElem_map, List.getElem_replicate]
  simp [Builtin.zeroCells, show (Value.int .i64 0).cells = #[Value.int .i64 0] from rfl, Nat.mod_one]
theorem to_apZ {t tn e : TypeId} {x y : Operand} {id n n' by_ k : Nat} {xs ys : List Int} {kn kq : IntKind} (ho : o.op = .call { callee := .builtin .append, args := #[x, y], argTypes := #[t, tn] }) (hx : F.ev x = .one (.own id n)) (hH : H[id]? = some (.row e 1 n (cI xs))) (hy : F.ev y = .one (.d (.val (.int kq (k : Int))))) (ht : TyS P t e 1) (htn : P.underlying tn = some (.int kn)) (hz : TyZ P e (.int .i64 0) 1 by_)
    (hn : n + k ≤ 100000000000) (hby : by_ ≤ 1000) (hys : xs ++ List.replicate k 0 = ys) (hn' : n + k = n') : TOk P G o F H (.one (.own id n')) (H.set id (.row e 1 n' (cI ys))) := by
  subst hys
  subst hn'
  have := to_appendZ (P := P) (G := G) ho hx hH hy ht htn hz hn (by decide) hby
  rw [zeros_cI] at this
  rwa [show cI xs ++ cI (List.replicate k 0) = cI (xs ++ List.replicate k 0) from (List.map_append ..).symm] at this
/-- Own ints are appended. -/
theorem to_apR {t e : TypeId} {x y : Operand} {id id' n m' n' by_ : Nat} {ty' : TypeId} {z : Value} {xs us ys : List Int} (ho : o.op = .call { callee := .builtin .append, args := #[x, y], argTypes := #[t, t] }) (hx : F.ev x = .one (.own id n)) (hH : H[id]? = some (.row e 1 n (cI xs))) (hy : F.ev y = .one (.own id' m')) (hH' : H[id']? = some (.row ty' 1 m' (cI us))) (hne : Nat.beq id' id = false) (ht : TyS P t e 1) (hz : TyZ P e z 1 by_) (hn : n + m' ≤ 100000000000) (hby : by_ ≤ 1000) (hm : us.length = m') (hys : xs ++ us = ys) (hn' : n + m' = n') : TOk P G o F H (.one (.own id n')) (H.set id (.row e 1 n' (cI ys))) := by
  subst hys
  subst hn'
  have := to_append (P := P) (G := G) ho hx hH hy (.own hH' (fun h => by rw [h, Nat.beq_refl] at hne; cases hne)) ht hz hn (by decide) hby (by rw [cI_len, hm, Nat.mul_one])
  rwa [show cI xs ++ cI us = cI (xs ++ us) from (List.map_append ..).symm] at this
/-- Data appended to an own row. -/
theorem to_apE {t e : TypeId} {x y : Operand} {id n m' n' s by_ : Nat} {tg : Bool} {z : Value} {cs cs2 : List C} {ds : List D} (ho : o.op = .call { callee := .builtin .append, args := #[x, y], argTypes := #[t, t] }) (hx : F.ev x = .one (.own id n)) (hH : H[id]? = some (.row e s n cs)) (hy : F.ev y = .one (.d (.row tg s m' ds))) (ht : TyS P t e s) (hz : TyZ P e z s by_) (hn : n + m' ≤ 100000000000) (hby : by_ ≤ 1000) (h0 : 0 < s) (hl : ds.length = m' * s) (hys : cs ++ ds.map C.d = cs2) (hn' : n + m' = n') : TOk P G o F H (.one (.own id n')) (H.set id (.row e s n' cs2)) := by
  subst hys
  subst hn'
  exact to_append ho hx hH hy .row ht hz hn h0 hby (by simp [hl])
end
end Go.Proofs.YtjlocofimlgaoaaDoor
namespace Go.Proofs.YtjlocofimlgaoaaDoor
set_option linter.unusedVariables false
set_option linter.unusedSimpArgs false
set_option linter.unusedSectionVars false
open Go.RowKit
theorem rdelays_cv (t : Bool) {ps : List Prt} {bs : List Bk} {os : List Int} (hl : DgLen ps bs os) : CVF Tryd.prog TabAt 30 [aDg t ps bs os] [.one (rowI false (natI (delL bs)))] := fun w S vs hg hlt ha => by
  obtain ⟨v, rfl, hv⟩ := one_arg ha
  obtain ⟨d, rfl, hd, rfl, hz, rfl, _, _⟩ := dg_open hlt hv hl
  refine (delays_any d _ w (Nat.le_refl _) hd).mono fun e w' ⟨so, he, hown, hb⟩ => ?_
  rw [show delL d.bs = delL bs by rw [← delL_z, hz, delL_z]] at hown
  exact ⟨_, he, own_freshI hown, hb⟩
theorem rorder_cv (t : Bool) {ps : List Prt} {bs : List Bk} {os : List Int} (hl : DgLen ps bs os) (h0 : dgErr ps bs os = 0) : CVF Tryd.prog TabAt 53 [aDg t ps bs os] [.one (rowI false (natI (ordM bs)))] := fun w S vs hg hlt ha => by
  obtain ⟨v, rfl, hv⟩ := one_arg ha
  obtain ⟨d, rfl, hd, rfl, hz, rfl, _, _⟩ := dg_open hlt hv hl
  have e1 : dgErr d.ps d.bs d.os = dgErr d.ps bs d.os := by rw [← dgErr_z, hz, dgErr_z]
  refine (rOrder_any d _ w (Nat.le_refl _) hd (succ_ok (pre_blk (pre_of (e1.trans h0)).2.1))).mono fun e w' ⟨so, he, hown, hb⟩ => ?_
  rw [show ordM d.bs = ordM bs by rw [← ordM_z, hz, ordM_z]] at hown
  exact ⟨_, he, own_freshI hown, hb⟩
theorem size_of_ok {ps : List Prt} {bs : List Bk} {os : List Int} (h : dgErr ps bs os = 0) : sizeOk ps bs os := by
  unfold dgErr at h
  by_cases hs : sizeOk ps bs os
  · exact hs
  · rw [if_pos hs] at h
    cases h

end Go.Proofs.YtjlocofimlgaoaaDoor
namespace Go.Proofs.YtjlocofimlgaoaaDoor
set_option linter.unusedVariables false
set_option linter.unusedSimpArgs false
set_option linter.unusedSectionVars false
open Go.RowKit
theorem prtNe (x : Prt) : (!prtEq x x) = false := by rw [prtEq_iff.2 rfl]; rfl
theorem insNe (x : Ins) : (!insEq x x) = false := by rw [insEq_iff.2 rfl]; rfl
set_option maxRecDepth 100000 in
set_option maxHeartbeats 4000000 in
theorem same_cv (t u : Bool) (ps : List Prt) (is : List Int) (xs : List Ins) (os : List Int) (l1 : ps.length ≤ 1000000) (l2 : is.length ≤ 1000000) (l3 : xs.length ≤ 1000000) (l4 : os.length ≤ 1000000) : CV Tryd.prog TabAt 20 [aProg t ps is xs os, aProg u ps is xs os] [aB true] := by
  refine cv_of tab_G Tryd.func20 rfl Tryd.ntmps20 (Nat.le_of_ble_eq_true rfl) ?_
  repeat' (with_reducible first | apply qa | apply qb | apply qc | apply qd | apply qe | apply qf | apply qg | apply qh | apply qi | apply qj | apply qk | apply ql rfl | apply qm rfl | apply qn rfl | (refine Tx 0 ?_; refine Jn xBo ?_; refine Jn xBo ?_; refine Ja ?_; refine Je ?_) | (refine Tx 1 ?_; refine Jo (xFa tf_Program0 tk_s_Port) ?_; refine Jo (xLd tk_s_Port) ?_; refine Jo (xLn ts_s_Port) ?_; refine Jo (xFa tf_Program0 tk_s_Port) ?_; refine Jo (xLd tk_s_Port) ?_; refine Jo (xLn ts_s_Port) ?_; refine Jo xNe ?_; refine Jm ?_; (first | refine Jd ?_ | refine Jy (xFa tf_Program1 tk_s_int) ?_); (first | refine Jd ?_ | refine Jy (xLd tk_s_int) ?_); (first | refine Jd ?_ | refine Jy (xLn ts_s_int) ?_); (first | refine Jd ?_ | refine Jy (xFa tf_Program1 tk_s_int) ?_); (first | refine Jd ?_ | refine Jy (xLd tk_s_int) ?_); (first | refine Jd ?_ | refine Jy (xLn ts_s_int) ?_); (first | refine Jd ?_ | refine Jy xNe ?_); refine Jo xPk ?_; refine Jm ?_; (first | refine Jd ?_ | refine Jy (xFa tf_Program2 tk_s_Instr) ?_); (first | refine Jd ?_ | refine Jy (xLd tk_s_Instr) ?_); (first | refine Jd ?_ | refine Jy (xLn ts_s_Instr) ?_); (first | refine Jd ?_ | refine Jy (xFa tf_Program2 tk_s_Instr) ?_); (first | refine Jd ?_ | refine Jy (xLd tk_s_Instr) ?_); (first | refine Jd ?_ | refine Jy (xLn ts_s_Instr) ?_); (first | refine Jd ?_ | refine Jy xNe ?_); refine Jo xPk ?_; refine Jm ?_; (first | refine Jd ?_ | refine Jy (xFa tf_Program3 tk_s_int) ?_); (first | refine Jd ?_ | refine Jy (xLd tk_s_int) ?_); (first | refine Jd ?_ | refine Jy (xLn ts_s_int) ?_); (first | refine Jd ?_ | refine Jy (xFa tf_Program3 tk_s_int) ?_); (first | refine Jd ?_ | refine Jy (xLd tk_s_int) ?_); (first | refine Jd ?_ | refine Jy (xLn ts_s_int) ?_); (first | refine Jd ?_ | refine Jy xNe ?_); refine Jo xPk ?_; refine Je ?_) | (refine Tx 3 ?_; refine Jo (xFa tf_Program0 tk_s_Port) ?_; refine Jo (xLd tk_s_Port) ?_; refine Jo (xLn ts_s_Port) ?_; refine Jm ?_; refine Je ?_))
  refine cw_wk (F' := ofL [(2, vr 0), (3, vr 1), (44, vd (rowP t ps)), (45, vi ps.length), (46, vi ((0 : Nat)))]) (H' := [.box 50 [.d (rowP t ps), .d (rowI t is), .d (rowN t xs), .d (rowI t os)], .box 50 [.d (rowP u ps), .d (rowI u is), .d (rowN u xs), .d (rowI u os)]]) (wk_go [(2, vr 0), (3, vr 1), (44, vd (rowP t ps)), (45, vi ps.length), (46, vi ((0 : Nat)))] 2 ?_ ?_ ?_) ?_
  · rfl
  · exact mB rfl rfl
  · exact ⟨bel_lit rfl, bel_lit rfl, trivial⟩
  refine cw_loopW (fun n Fr H => ∃ k : Nat, k ≤ ps.length ∧ n = ps.length - k ∧ Fr = ofL [(2, vr 0), (3, vr 1), (44, vd (rowP t ps)), (45, vi ps.length), (46, vi ((k : Nat)))] ∧ H = [.box 50 [.d (rowP t ps), .d (rowI t is), .d (rowN t xs), .d (rowI t os)], .box 50 [.d (rowP u ps), .d (rowI u is), .d (rowN u xs), .d (rowI u os)]]) (n0 := ps.length) ⟨0, Nat.zero_le _, rfl, rfl, rfl⟩ ?_
  rintro n Fr H ⟨k, hk, rfl, rfl, rfl⟩
  by_cases hlt : k < ps.length
  case pos =>
    obtain ⟨x, hx⟩ : ∃ x, ps[k]? = some x := ⟨_, List.getElem?_eq_getElem hlt⟩
    repeat' (with_reducible first | apply qa | apply qb | apply qc | apply qd | apply qe | apply qf | apply qg | apply qh | apply qi | apply qj | apply qk | apply ql rfl | apply qm rfl | apply qn rfl | (refine Tx 4 ?_; refine Jo xLt ?_; refine Je ?_) | (refine Tx 5 ?_; refine Jm ?_; refine Ja ?_; refine Je ?_) | (refine cw_any (id := 6) mixed (by kernel_rfl) ?_; refine Ko (xFa tf_Program0 tk_s_Port) ?_; refine Ko (xLd tk_s_Port) ?_; refine Km ?_; refine Ko (xIr ts_s_Port (prt_at hx)) ?_; refine Ko (xLa tk_Port) ?_; refine Ko (xFa tf_Program0 tk_s_Port) ?_; refine Ko (xLd tk_s_Port) ?_; refine Km ?_; refine Ko (xIr ts_s_Port (prt_at hx)) ?_; refine Ko (xLa tk_Port) ?_; refine Ko (by first | exact ok_neqP (i := x) (j := x) (b := false) rfl rfl rfl (prtNe x) | exact xNe) ?_; refine Ke ?_) | (refine Tx 8 ?_; refine Jo xAd ?_; refine Jm ?_; refine Je ?_))
    refine ⟨_, _, wk_go [(2, vr 0), (3, vr 1), (44, vd (rowP t ps)), (45, vi ps.length), (46, vi (((k + 1) : Nat)))] 2 ?_ ?_ ?_, _, ?_, k + 1, by omega, rfl, rfl, rfl⟩
    · rfl
    · exact mB rfl rfl
    · exact ⟨bel_lit rfl, bel_lit rfl, trivial⟩
    · omega
  obtain rfl : k = ps.length := by omega
  clear hlt hk
  repeat' (with_reducible first | apply qa | apply qb | apply qc | apply qd | apply qe | apply qf | apply qg | apply qh | apply qi | apply qj | apply qk | apply ql rfl | apply qm rfl | apply qn rfl | (refine Tx 4 ?_; refine Jo xLt ?_; refine Je ?_) | (refine Tx 9 ?_; refine Jo (xFa tf_Program1 tk_s_int) ?_; refine Jo (xLd tk_s_int) ?_; refine Jo (xLn ts_s_int) ?_; refine Jm ?_; refine Je ?_))
  refine cw_wk (F' := ofL [(2, vr 0), (3, vr 1), (62, vd (rowI t is)), (63, vi is.length), (64, vi ((0 : Nat)))]) (H' := [.box 50 [.d (rowP t ps), .d (rowI t is), .d (rowN t xs), .d (rowI t os)], .box 50 [.d (rowP u ps), .d (rowI u is), .d (rowN u xs), .d (rowI u os)]]) (wk_go [(2, vr 0), (3, vr 1), (62, vd (rowI t is)), (63, vi is.length), (64, vi ((0 : Nat)))] 2 ?_ ?_ ?_) ?_
  · rfl
  · exact mB rfl rfl
  · exact ⟨bel_lit rfl, bel_lit rfl, trivial⟩
  refine cw_loopW (fun n Fr H => ∃ k : Nat, k ≤ is.length ∧ n = is.length - k ∧ Fr = ofL [(2, vr 0), (3, vr 1), (62, vd (rowI t is)), (63, vi is.length), (64, vi ((k : Nat)))] ∧ H = [.box 50 [.d (rowP t ps), .d (rowI t is), .d (rowN t xs), .d (rowI t os)], .box 50 [.d (rowP u ps), .d (rowI u is), .d (rowN u xs), .d (rowI u os)]]) (n0 := is.length) ⟨0, Nat.zero_le _, rfl, rfl, rfl⟩ ?_
  rintro n Fr H ⟨k, hk, rfl, rfl, rfl⟩
  by_cases hlt : k < is.length
  case pos =>
    obtain ⟨x, hx⟩ : ∃ x, is[k]? = some x := ⟨_, List.getElem?_eq_getElem hlt⟩
    repeat' (with_reducible first | apply qa | apply qb | apply qc | apply qd | apply qe | apply qf | apply qg | apply qh | apply qi | apply qj | apply qk | apply ql rfl | apply qm rfl | apply qn rfl | (refine Tx 10 ?_; refine Jo xLt ?_; refine Je ?_) | (refine Tx 11 ?_; refine Jm ?_; refine Ja ?_; refine Je ?_) | (refine cw_any (id := 12) mixed (by kernel_rfl) ?_; refine Ko (xFa tf_Program1 tk_s_int) ?_; refine Ko (xLd tk_s_int) ?_; refine Km ?_; refine Ko (xIr ts_s_int (int_at hx)) ?_; refine Ko (xLd tk_int) ?_; refine Ko (xFa tf_Program1 tk_s_int) ?_; refine Ko (xLd tk_s_int) ?_; refine Km ?_; refine Ko (xIr ts_s_int (int_at hx)) ?_; refine Ko (xLd tk_int) ?_; refine Ko (by first | exact ok_neqD rfl rfl rfl (bne_f rfl) | exact xNe) ?_; refine Ke ?_) | (refine Tx 14 ?_; refine Jo xAd ?_; refine Jm ?_; refine Je ?_))
    refine ⟨_, _, wk_go [(2, vr 0), (3, vr 1), (62, vd (rowI t is)), (63, vi is.length), (64, vi (((k + 1) : Nat)))] 2 ?_ ?_ ?_, _, ?_, k + 1, by omega, rfl, rfl, rfl⟩
    · rfl
    · exact mB rfl rfl
    · exact ⟨bel_lit rfl, bel_lit rfl, trivial⟩
    · omega
  obtain rfl : k = is.length := by omega
  clear hlt hk
  repeat' (with_reducible first | apply qa | apply qb | apply qc | apply qd | apply qe | apply qf | apply qg | apply qh | apply qi | apply qj | apply qk | apply ql rfl | apply qm rfl | apply qn rfl | (refine Tx 10 ?_; refine Jo xLt ?_; refine Je ?_) | (refine Tx 15 ?_; refine Jo (xFa tf_Program2 tk_s_Instr) ?_; refine Jo (xLd tk_s_Instr) ?_; refine Jo (xLn ts_s_Instr) ?_; refine Jm ?_; refine Je ?_))
  refine cw_wk (F' := ofL [(2, vr 0), (3, vr 1), (80, vd (rowN t xs)), (81, vi xs.length), (82, vi ((0 : Nat)))]) (H' := [.box 50 [.d (rowP t ps), .d (rowI t is), .d (rowN t xs), .d (rowI t os)], .box 50 [.d (rowP u ps), .d (rowI u is), .d (rowN u xs), .d (rowI u os)]]) (wk_go [(2, vr 0), (3, vr 1), (80, vd (rowN t xs)), (81, vi xs.length), (82, vi ((0 : Nat)))] 2 ?_ ?_ ?_) ?_
  · rfl
  · exact mB rfl rfl
  · exact ⟨bel_lit rfl, bel_lit rfl, trivial⟩
  refine cw_loopW (fun n Fr H => ∃ k : Nat, k ≤ xs.length ∧ n = xs.length - k ∧ Fr = ofL [(2, vr 0), (3, vr 1), (80, vd (rowN t xs)), (81, vi xs.length), (82, vi ((k : Nat)))] ∧ H = [.box 50 [.d (rowP t ps), .d (rowI t is), .d (rowN t xs), .d (rowI t os)], .box 50 [.d (rowP u ps), .d (rowI u is), .d (rowN u xs), .d (rowI u os)]]) (n0 := xs.length) ⟨0, Nat.zero_le _, rfl, rfl, rfl⟩ ?_
  rintro n Fr H ⟨k, hk, rfl, rfl, rfl⟩
  by_cases hlt : k < xs.length
  case pos =>
    obtain ⟨x, hx⟩ : ∃ x, xs[k]? = some x := ⟨_, List.getElem?_eq_getElem hlt⟩
    repeat' (with_reducible first | apply qa | apply qb | apply qc | apply qd | apply qe | apply qf | apply qg | apply qh | apply qi | apply qj | apply qk | apply ql rfl | apply qm rfl | apply qn rfl | (refine Tx 16 ?_; refine Jo xLt ?_; refine Je ?_) | (refine Tx 17 ?_; refine Jm ?_; refine Ja ?_; refine Je ?_) | (refine cw_any (id := 18) mixed (by kernel_rfl) ?_; refine Ko (xFa tf_Program2 tk_s_Instr) ?_; refine Ko (xLd tk_s_Instr) ?_; refine Km ?_; refine Ko (xIr ts_s_Instr (ins_at hx)) ?_; refine Ko (xLa tk_Instr) ?_; refine Ko (xFa tf_Program2 tk_s_Instr) ?_; refine Ko (xLd tk_s_Instr) ?_; refine Km ?_; refine Ko (xIr ts_s_Instr (ins_at hx)) ?_; refine Ko (xLa tk_Instr) ?_; refine Ko (by first | exact ok_neqI (i := x) (j := x) (b := false) rfl rfl rfl (insNe x) | exact xNe) ?_; refine Ke ?_) | (refine Tx 20 ?_; refine Jo xAd ?_; refine Jm ?_; refine Je ?_))
    refine ⟨_, _, wk_go [(2, vr 0), (3, vr 1), (80, vd (rowN t xs)), (81, vi xs.length), (82, vi (((k + 1) : Nat)))] 2 ?_ ?_ ?_, _, ?_, k + 1, by omega, rfl, rfl, rfl⟩
    · rfl
    · exact mB rfl rfl
    · exact ⟨bel_lit rfl, bel_lit rfl, trivial⟩
    · omega
  obtain rfl : k = xs.length := by omega
  clear hlt hk
  repeat' (with_reducible first | apply qa | apply qb | apply qc | apply qd | apply qe | apply qf | apply qg | apply qh | apply qi | apply qj | apply qk | apply ql rfl | apply qm rfl | apply qn rfl | (refine Tx 16 ?_; refine Jo xLt ?_; refine Je ?_) | (refine Tx 21 ?_; refine Jo (xFa tf_Program3 tk_s_int) ?_; refine Jo (xLd tk_s_int) ?_; refine Jo (xLn ts_s_int) ?_; refine Jm ?_; refine Je ?_))
  refine cw_wk (F' := ofL [(2, vr 0), (3, vr 1), (98, vd (rowI t os)), (99, vi os.length), (100, vi ((0 : Nat)))]) (H' := [.box 50 [.d (rowP t ps), .d (rowI t is), .d (rowN t xs), .d (rowI t os)], .box 50 [.d (rowP u ps), .d (rowI u is), .d (rowN u xs), .d (rowI u os)]]) (wk_go [(2, vr 0), (3, vr 1), (98, vd (rowI t os)), (99, vi os.length), (100, vi ((0 : Nat)))] 2 ?_ ?_ ?_) ?_
  · rfl
  · exact mB rfl rfl
  · exact ⟨bel_lit rfl, bel_lit rfl, trivial⟩
  refine cw_loopW (fun n Fr H => ∃ k : Nat, k ≤ os.length ∧ n = os.length - k ∧ Fr = ofL [(2, vr 0), (3, vr 1), (98, vd (rowI t os)), (99, vi os.length), (100, vi ((k : Nat)))] ∧ H = [.box 50 [.d (rowP t ps), .d (rowI t is), .d (rowN t xs), .d (rowI t os)], .box 50 [.d (rowP u ps), .d (rowI u is), .d (rowN u xs), .d (rowI u os)]]) (n0 := os.length) ⟨0, Nat.zero_le _, rfl, rfl, rfl⟩ ?_
  rintro n Fr H ⟨k, hk, rfl, rfl, rfl⟩
  by_cases hlt : k < os.length
  case pos =>
    obtain ⟨x, hx⟩ : ∃ x, os[k]? = some x := ⟨_, List.getElem?_eq_getElem hlt⟩
    repeat' (with_reducible first | apply qa | apply qb | apply qc | apply qd | apply qe | apply qf | apply qg | apply qh | apply qi | apply qj | apply qk | apply ql rfl | apply qm rfl | apply qn rfl | (refine Tx 22 ?_; refine Jo xLt ?_; refine Je ?_) | (refine Tx 23 ?_; refine Jm ?_; refine Ja ?_; refine Je ?_) | (refine cw_any (id := 24) mixed (by kernel_rfl) ?_; refine Ko (xFa tf_Program3 tk_s_int) ?_; refine Ko (xLd tk_s_int) ?_; refine Km ?_; refine Ko (xIr ts_s_int (int_at hx)) ?_; refine Ko (xLd tk_int) ?_; refine Ko (xFa tf_Program3 tk_s_int) ?_; refine Ko (xLd tk_s_int) ?_; refine Km ?_; refine Ko (xIr ts_s_int (int_at hx)) ?_; refine Ko (xLd tk_int) ?_; refine Ko (by first | exact ok_neqD rfl rfl rfl (bne_f rfl) | exact xNe) ?_; refine Ke ?_) | (refine Tx 26 ?_; refine Jo xAd ?_; refine Jm ?_; refine Je ?_))
    refine ⟨_, _, wk_go [(2, vr 0), (3, vr 1), (98, vd (rowI t os)), (99, vi os.length), (100, vi (((k + 1) : Nat)))] 2 ?_ ?_ ?_, _, ?_, k + 1, by omega, rfl, rfl, rfl⟩
    · rfl
    · exact mB rfl rfl
    · exact ⟨bel_lit rfl, bel_lit rfl, trivial⟩
    · omega
  obtain rfl : k = os.length := by omega
  clear hlt hk
  repeat' (with_reducible first | apply qa | apply qb | apply qc | apply qd | apply qe | apply qf | apply qg | apply qh | apply qi | apply qj | apply qk | apply ql rfl | apply qm rfl | apply qn rfl | (refine Tx 22 ?_; refine Jo xLt ?_; refine Je ?_) | (refine Tx 27 ?_; refine Ja ?_; refine Je ?_))
  exact ret_q rfl (.cons_ (rv_b rfl rfl) .nil_)
def lightB (ps : List Prt) (bs : List Bk) (os : List Int) : Bool := decide (ps.length ≤ 40 ∧ bs.length ≤ 80 ∧ os.length ≤ 40) && bs.all fun b => decide (b.args.length ≤ 10)
set_option maxRecDepth 100000 in
set_option maxHeartbeats 4000000 in
theorem light_cv (ps : List Prt) (bs : List Bk) (os : List Int) : CV Tryd.prog TabAt 17 [aDg true ps bs os] [aB (lightB ps bs os)] := by
  refine cv_of tab_G Tryd.func17 rfl Tryd.ntmps17 (Nat.le_of_ble_eq_true rfl) ?_
  by_cases cp : 40 < ps.length
  case pos =>
    repeat' (with_reducible first | apply qa | apply qb | apply qc | apply qd | apply qe | apply qf | apply qg | apply qh | apply qi | apply qj | apply qk | apply ql rfl | apply qm rfl | apply qn rfl | (refine Tx 0 ?_; refine Jn xBo ?_; refine Ja ?_; refine Je ?_) | (refine Tx 1 ?_; refine Jo (xFa tf_Diagram0 tk_s_Port) ?_; refine Jo (xLd tk_s_Port) ?_; refine Jo (xLn ts_s_Port) ?_; refine Jo xGt ?_; refine Jm ?_; (first | refine Jd ?_ | refine Jy (xFa tf_Diagram1 tk_s_Block) ?_); (first | refine Jd ?_ | refine Jy (xLd tk_s_Block) ?_); (first | refine Jd ?_ | refine Jy (xLn ts_s_Block) ?_); (first | refine Jd ?_ | refine Jy xGt ?_); refine Jo xPk ?_; refine Jm ?_; (first | refine Jd ?_ | refine Jy (xFa tf_Diagram2 tk_s_int) ?_); (first | refine Jd ?_ | refine Jy (xLd tk_s_int) ?_); (first | refine Jd ?_ | refine Jy (xLn ts_s_int) ?_); (first | refine Jd ?_ | refine Jy xGt ?_); refine Jo xPk ?_; refine Je ?_) | (refine Tx 2 ?_; refine Ja ?_; refine Je ?_))
    exact ret_q rfl (.cons_ (rv_b rfl (by unfold lightB; rw [decide_eq_false (by omega)]; rfl)) .nil_)
  by_cases cb : 80 < bs.length
  case pos =>
    repeat' (with_reducible first | apply qa | apply qb | apply qc | apply qd | apply qe | apply qf | apply qg | apply qh | apply qi | apply qj | apply qk | apply ql rfl | apply qm rfl | apply qn rfl | (refine Tx 0 ?_; refine Jn xBo ?_; refine Ja ?_; refine Je ?_) | (refine Tx 1 ?_; refine Jo (xFa tf_Diagram0 tk_s_Port) ?_; refine Jo (xLd tk_s_Port) ?_; refine Jo (xLn ts_s_Port) ?_; refine Jo xGt ?_; refine Jm ?_; (first | refine Jd ?_ | refine Jy (xFa tf_Diagram1 tk_s_Block) ?_); (first | refine Jd ?_ | refine Jy (xLd tk_s_Block) ?_); (first | refine Jd ?_ | refine Jy (xLn ts_s_Block) ?_); (first | refine Jd ?_ | refine Jy xGt ?_); refine Jo xPk ?_; refine Jm ?_; (first | refine Jd ?_ | refine Jy (xFa tf_Diagram2 tk_s_int) ?_); (first | refine Jd ?_ | refine Jy (xLd tk_s_int) ?_); (first | refine Jd ?_ | refine Jy (xLn ts_s_int) ?_); (first | refine Jd ?_ | refine Jy xGt ?_); refine Jo xPk ?_; refine Je ?_) | (refine Tx 2 ?_; refine Ja ?_; refine Je ?_))
    exact ret_q rfl (.cons_ (rv_b rfl (by unfold lightB; rw [decide_eq_false (by omega)]; rfl)) .nil_)
  by_cases co : 40 < os.length
  case pos =>
    repeat' (with_reducible first | apply qa | apply qb | apply qc | apply qd | apply qe | apply qf | apply qg | apply qh | apply qi | apply qj | apply qk | apply ql rfl | apply qm rfl | apply qn rfl | (refine Tx 0 ?_; refine Jn xBo ?_; refine Ja ?_; refine Je ?_) | (refine Tx 1 ?_; refine Jo (xFa tf_Diagram0 tk_s_Port) ?_; refine Jo (xLd tk_s_Port) ?_; refine Jo (xLn ts_s_Port) ?_; refine Jo xGt ?_; refine Jm ?_; (first | refine Jd ?_ | refine Jy (xFa tf_Diagram1 tk_s_Block) ?_); (first | refine Jd ?_ | refine Jy (xLd tk_s_Block) ?_); (first | refine Jd ?_ | refine Jy (xLn ts_s_Block) ?_); (first | refine Jd ?_ | refine Jy xGt ?_); refine Jo xPk ?_; refine Jm ?_; (first | refine Jd ?_ | refine Jy (xFa tf_Diagram2 tk_s_int) ?_); (first | refine Jd ?_ | refine Jy (xLd tk_s_int) ?_); (first | refine Jd ?_ | refine Jy (xLn ts_s_int) ?_); (first | refine Jd ?_ | refine Jy xGt ?_); refine Jo xPk ?_; refine Je ?_) | (refine Tx 2 ?_; refine Ja ?_; refine Je ?_))
    exact ret_q rfl (.cons_ (rv_b rfl (by unfold lightB; rw [decide_eq_false (by omega)]; rfl)) .nil_)
  repeat' (with_reducible first | apply qa | apply qb | apply qc | apply qd | apply qe | apply qf | apply qg | apply qh | apply qi | apply qj | apply qk | apply ql rfl | apply qm rfl | apply qn rfl | (refine Tx 0 ?_; refine Jn xBo ?_; refine Ja ?_; refine Je ?_) | (refine Tx 1 ?_; refine Jo (xFa tf_Diagram0 tk_s_Port) ?_; refine Jo (xLd tk_s_Port) ?_; refine Jo (xLn ts_s_Port) ?_; refine Jo xGt ?_; refine Jm ?_; (first | refine Jd ?_ | refine Jy (xFa tf_Diagram1 tk_s_Block) ?_); (first | refine Jd ?_ | refine Jy (xLd tk_s_Block) ?_); (first | refine Jd ?_ | refine Jy (xLn ts_s_Block) ?_); (first | refine Jd ?_ | refine Jy xGt ?_); refine Jo xPk ?_; refine Jm ?_; (first | refine Jd ?_ | refine Jy (xFa tf_Diagram2 tk_s_int) ?_); (first | refine Jd ?_ | refine Jy (xLd tk_s_int) ?_); (first | refine Jd ?_ | refine Jy (xLn ts_s_int) ?_); (first | refine Jd ?_ | refine Jy xGt ?_); refine Jo xPk ?_; refine Je ?_) | (refine Tx 3 ?_; refine Jo (xFa tf_Diagram1 tk_s_Block) ?_; refine Jo (xLd tk_s_Block) ?_; refine Jo (xLn ts_s_Block) ?_; refine Jm ?_; refine Je ?_))
  refine cw_wk (F' := ofL [(1, vr 0), (22, vd (rowB true bs)), (23, vi bs.length), (24, vi ((0 : Nat)))]) (H' := [.box 46 [.d (rowP true ps), .d (rowB true bs), .d (rowI true os)]]) (wk_go [(1, vr 0), (22, vd (rowB true bs)), (23, vi bs.length), (24, vi ((0 : Nat)))] 1 ?_ ?_ ?_) ?_
  · rfl
  · exact mB rfl rfl
  · exact ⟨bel_lit rfl, trivial⟩
  refine cw_loopW (fun n Fr H => ∃ k : Nat, k ≤ bs.length ∧ n = bs.length - k ∧ (bs.take k).all (fun b : Bk => decide (b.args.length ≤ 10)) = true ∧ Fr = ofL [(1, vr 0), (22, vd (rowB true bs)), (23, vi bs.length), (24, vi ((k : Nat)))] ∧ H = [.box 46 [.d (rowP true ps), .d (rowB true bs), .d (rowI true os)]]) (n0 := bs.length) ⟨0, Nat.zero_le _, rfl, rfl, rfl, rfl⟩ ?_
  rintro n Fr H ⟨k, hk, rfl, hall, rfl, rfl⟩
  by_cases hlt : k < bs.length
  case pos =>
    obtain ⟨y, hy⟩ : ∃ y, bs[k]? = some y := ⟨_, List.getElem?_eq_getElem hlt⟩
    by_cases hy10 : y.args.length ≤ 10
    case pos =>
      repeat' (with_reducible first | apply qa | apply qb | apply qc | apply qd | apply qe | apply qf | apply qg | apply qh | apply qi | apply qj | apply qk | apply ql rfl | apply qm rfl | apply qn rfl | (refine Tx 4 ?_; refine Jo xLt ?_; refine Je ?_) | (refine Tx 5 ?_; refine Jo (xIr ts_s_Block (bk_at hy)) ?_; refine Jo (xLa tk_Block) ?_; refine Jn (by exact ok_alloc rfl tz_Block) ?_; refine Js (xSk tk_Block) ?_; refine Je ?_) | (refine Tx 6 ?_; refine Jo (xFa tf_Block1 tk_s_int) ?_; refine Jo (xLd tk_s_int) ?_; refine Jo (xLn ts_s_int) ?_; refine Jo xGt ?_; refine Je ?_) | (refine Tx 8 ?_; refine Jo xAd ?_; refine Jm ?_; refine Je ?_))
      refine ⟨_, _, wk_go [(1, vr 0), (22, vd (rowB true bs)), (23, vi bs.length), (24, vi (((k + 1) : Nat)))] 1 ?_ ?_ ?_, _, ?_, k + 1, by omega, rfl, all_take hy hall (decide_eq_true hy10), rfl, rfl⟩
      · rfl
      · exact mB rfl rfl
      · exact ⟨bel_lit rfl, trivial⟩
      · omega
    case neg =>
      repeat' (with_reducible first | apply qa | apply qb | apply qc | apply qd | apply qe | apply qf | apply qg | apply qh | apply qi | apply qj | apply qk | apply ql rfl | apply qm rfl | apply qn rfl | (refine Tx 4 ?_; refine Jo xLt ?_; refine Je ?_) | (refine Tx 5 ?_; refine Jo (xIr ts_s_Block (bk_at hy)) ?_; refine Jo (xLa tk_Block) ?_; refine Jn (by exact ok_alloc rfl tz_Block) ?_; refine Js (xSk tk_Block) ?_; refine Je ?_) | (refine Tx 6 ?_; refine Jo (xFa tf_Block1 tk_s_int) ?_; refine Jo (xLd tk_s_int) ?_; refine Jo (xLn ts_s_int) ?_; refine Jo xGt ?_; refine Je ?_) | (refine Tx 7 ?_; refine Ja ?_; refine Je ?_))
      exact ret_q rfl (.cons_ (rv_b rfl (by unfold lightB; rw [show bs.all (fun b : Bk => decide (b.args.length ≤ 10)) = false from List.all_eq_false.2 ⟨y, List.mem_of_getElem? hy, by rw [decide_eq_false hy10]; exact Bool.false_ne_true⟩, Bool.and_false])) .nil_)
  obtain rfl : k = bs.length := by omega
  rw [List.take_length] at hall
  repeat' (with_reducible first | apply qa | apply qb | apply qc | apply qd | apply qe | apply qf | apply qg | apply qh | apply qi | apply qj | apply qk | apply ql rfl | apply qm rfl | apply qn rfl | (refine Tx 4 ?_; refine Jo xLt ?_; refine Je ?_) | (refine Tx 9 ?_; refine Ja ?_; refine Je ?_))
  exact ret_q rfl (.cons_ (rv_b rfl (by unfold lightB; rw [hall, decide_eq_true (by omega)]; rfl)) .nil_)
theorem rcheck_cv (t : Bool) {ps : List Prt} {bs : List Bk} {os : List Int} (hl : DgLen ps bs os) : CVF Tryd.prog TabAt 19 [aDg t ps bs os] [aI (dgErr ps bs os)] := fun w S vs hg hlt ha => by
  obtain ⟨v, rfl, hv⟩ := one_arg ha
  obtain ⟨d, rfl, hd, rfl, hz, rfl, _, _⟩ := dg_open hlt hv hl
  refine (rCheck_any d _ w (Nat.le_refl _) hd).mono fun e w' ⟨he, hb⟩ => ?_
  rw [show dgErr d.ps d.bs d.os = dgErr d.ps bs d.os by rw [← dgErr_z, hz, dgErr_z]] at he
  exact ⟨_, he, DRel.val rfl, hb⟩

end Go.Proofs.YtjlocofimlgaoaaDoor
namespace Go.Proofs.YtjlocofimlgaoaaDoor
set_option linter.unusedVariables false
set_option linter.unusedSimpArgs false
set_option linter.unusedSectionVars false
open Go.RowKit Cd

theorem raw_short (n e f : Int) : shortB (rawV n e f) = true := by
  unfold rawV
  by_cases h : rawErr n e f = 0
  · rw [if_pos h]
    unfold rawErr at h
    by_cases h1 : rawOk n e f
    · rw [if_pos h1] at h
      by_cases h2 : -2147483648 ≤ shE n (e + f) ∧ shE n (e + f) < 2147483648
      · exact decide_eq_true h2
      · rw [if_neg h2] at h; cases h
    · rw [if_neg h1] at h; cases h
  · rw [if_neg h]; rfl
theorem conV_short (bs : List Bk) (F : List Int) (j : Nat) : shortB (conV bs F j) = true := by
  unfold conV
  split
  · exact raw_short _ _ _
  · rfl
theorem conU_short (bs : List Bk) (F : List Int) (j : Nat) : shortB (conU bs F j) = true := by
  unfold conU
  split
  · exact raw_short _ _ _
  · rfl
theorem init_short {bs : List Bk} {F : List Int} {z : Int} (h : z ∈ initM bs F) : shortB z = true := by
  unfold initM at h
  rcases List.mem_append.1 h with h | h
  · rcases List.mem_append.1 h with h | h
    · obtain ⟨j, _, rfl⟩ := List.mem_map.1 h
      split
      · exact conV_short _ _ _
      · rfl
    · rw [(List.mem_replicate.1 h).2]; rfl
  · obtain ⟨j, _, h⟩ := List.mem_flatMap.1 h
    simp only [List.mem_cons, List.not_mem_nil, or_false] at h
    rcases h with rfl | rfl
    · exact conV_short _ _ _
    · exact conU_short _ _ _
theorem init_len (bs : List Bk) (F : List Int) : (initM bs F).length = bs.length + (dlK bs bs.length).length + 2 * (cpK bs bs.length).length := by
  unfold initM
  rw [List.length_append, List.length_append, tab_len, List.length_replicate, flat2_len, delL_is]
theorem two_kinds (bs : List Bk) : ∀ k, (dlK bs k).length + (cpK bs k).length ≤ k
  | 0 => Nat.le_refl _
  | k + 1 => by
    have ih := two_kinds bs k
    rw [dlK_succ, cpK_succ]
    by_cases h : kindAt bs k = 2
    · rw [if_pos h, if_neg (by omega), List.length_append]
      simp
      omega
    · rw [if_neg h]
      split
      · rw [List.length_append]
        simp
        omega
      · omega
theorem parts_le (p q : Nat → Bool) (h : ∀ i, p i = true → q i = true → False) : ∀ l : List Nat, (l.filter p).length + (l.filter q).length ≤ l.length
  | [] => Nat.le_refl _
  | x :: l => by
    have ih := parts_le p q h l
    rw [List.filter_cons, List.filter_cons]
    cases hp : p x <;> cases hq : q x
    · simp only [Bool.false_eq_true, if_false, List.length_cons]; omega
    · simp only [Bool.false_eq_true, if_false, if_true, List.length_cons]; omega
    · simp only [Bool.false_eq_true, if_false, if_true, List.length_cons]; omega
    · exact (h x hp hq).elim
theorem ord_del (bs : List Bk) : (ordM bs).length + (dlK bs bs.length).length ≤ bs.length := by
  have h1 := (ordN_ok bs.length (OutOk.nil bs)).le
  have h2 : nonDel bs + (dlK bs bs.length).length ≤ bs.length := by
    have := parts_le (fun i => kindAt bs i != 2) (fun i => kindAt bs i == 2) (fun i h1 h2 => by simp at h1 h2; exact h1 h2) (List.range bs.length)
    rw [List.length_range] at this
    exact this
  have h3 : (ordM bs).length ≤ nonDel bs := h1
  omega
theorem ins_ok {np n : Nat} {op dst a b sa sb imm : Int} {u1 u2 u3 u4 u5 : Bool} (hu : usesR op = (u1, u2, u3, u4, u5, true)) (hd : 0 ≤ dst ∧ dst < n) (ha : if u1 = true then 0 ≤ a ∧ a < (if op = 0 then (np : Int) else n) else a = 0) (hb : if u2 = true then 0 ≤ b ∧ b < n else b = 0)
    (hsa : if u3 = true then shiftB sa = true else sa = 0) (hsb : if u4 = true then shiftB sb = true else sb = 0) (him : if u5 = true then shortB imm = true else imm = 0) : insErr np n op dst a b sa sb imm = 0 := by
  unfold insErr
  rw [hu]
  dsimp only
  rw [if_neg (by decide), if_neg (not_not_intro hd)]
  cases u1 <;> cases u2 <;> cases u3 <;> cases u4 <;> cases u5 <;> simp_all
theorem os_ok {ps : List Prt} {bs : List Bk} {os : List Int} (he : dgErr ps bs os = 0) : ∀ o ∈ os, 0 ≤ o ∧ o < (bs.length : Int) := fun o ho => by
  have h1 := (pre_of he).2.1
  unfold preErr at h1
  rw [firstErr_append] at h1
  by_cases h2 : firstErr (ps.map portE) = 0
  · rw [if_pos h2, firstErr_append] at h1
    by_cases h3 : firstErr (bs.map (blkErr ps.length bs.length)) = 0
    · rw [if_pos h3] at h1
      have h4 := firstErr_zero h1 _ (List.mem_map.2 ⟨o, ho, rfl⟩)
      unfold outE at h4
      by_cases h5 : 0 ≤ o ∧ o < (bs.length : Int)
      · exact h5
      · rw [if_neg h5] at h4; cases h4
    · rw [if_neg h3] at h1; exact absurd h1 h3
  · rw [if_neg h2] at h1; exact absurd h1 h2
section
variable {ps : List Prt} {bs : List Bk} {os F : List Int}
theorem blk_ok (he : dgErr ps bs os = 0) {j : Nat} (hjn : j < bs.length) (hk2 : kindAt bs j ≠ 2) (hsh : (blkC ps bs F j (cellF bs j)).all shOk = true) : ∀ x ∈ blkC ps bs F j (cellF bs j), Ins.err ps.length (initM bs F).length x = 0 := by
  obtain ⟨y, hy⟩ : ∃ y, bs[j]? = some y := ⟨_, List.getElem?_eq_getElem hjn⟩
  have hac := acc_args he hy
  have hYA := blkA_of hy
  have hYK := kindA_of hy
  have hM := init_len bs F
  have sh : ∀ x ∈ blkC ps bs F j (cellF bs j), shiftB x.sa = true ∧ shiftB x.sb = true := fun x hx => by
    have := of_decide_eq_true (List.all_eq_true.1 hsh x hx)
    exact ⟨decide_eq_true ⟨this.1, this.2.1⟩, decide_eq_true this.2.2⟩
  rw [hYK] at hk2
  have hjd : (0 : Int) ≤ (j : Int) ∧ (j : Int) < ((initM bs F).length : Int) := by omega
  have args : ∀ i a, y.args[i]? = some a → 0 ≤ a ∧ a < (mostM ps.length bs.length y.kind : Int) := fun i a h => hac.2.2 a (List.mem_of_getElem? h)
  have c11 : y.kind = 11 → 0 ≤ cellF bs j ∧ cellF bs j + 1 < ((initM bs F).length : Int) := fun k11 => by
    have hrk := rank_cp_lt hjn (hYK.trans k11)
    unfold cellF
    rw [hYK, if_neg (by omega), if_pos k11]
    omega
  have one : ∀ n : Nat, ((y.args.length : Nat) : Int) = arityM y.kind → arityM y.kind = n → ∀ i, i < n → ∃ a, y.args[i]? = some a := fun n h1 h2 i hi => ⟨_, List.getElem?_eq_getElem (by omega)⟩
  intro x hx
  have hs := sh x hx
  clear sh hsh
  unfold blkC at hx
  dsimp only at hx
  rw [hYA] at hx
  unfold Ins.err
  have a0 : 1 ≤ y.args.length → ∃ a, y.args[0]? = some a ∧ arg0 y = a := fun h => by
    obtain ⟨a, ha⟩ : ∃ a, y.args[0]? = some a := ⟨_, List.getElem?_eq_getElem (by omega)⟩
    exact ⟨a, ha, by unfold arg0; rw [ha]; rfl⟩
  have a1 : 2 ≤ y.args.length → ∃ a, y.args[1]? = some a ∧ arg1 y = a := fun h => by
    obtain ⟨a, ha⟩ : ∃ a, y.args[1]? = some a := ⟨_, List.getElem?_eq_getElem (by omega)⟩
    exact ⟨a, ha, by unfold arg1; rw [ha]; rfl⟩
  have hM0 : y.kind ≠ 0 → mostM ps.length bs.length y.kind = bs.length := fun h => if_neg h
  have har := hac.2.1
  have hge := hac.1
  by_cases k0 : y.kind = 0
  · rw [if_pos k0] at hx
    obtain ⟨a, h1, h2⟩ := a0 (by rw [k0] at har; simp [arityM] at har; omega)
    have h3 := args 0 a h1
    rw [show mostM ps.length bs.length y.kind = ps.length from if_pos k0] at h3
    simp only [List.mem_singleton] at hx
    subst hx
    exact ins_ok (u1 := true) (u2 := false) (u3 := true) (u4 := false) (u5 := false) rfl hjd (by simpa [h2] using h3) rfl hs.1 rfl rfl
  rw [if_neg k0] at hx
  have hm := hM0 k0
  by_cases k1 : y.kind = 1
  · rw [if_pos k1] at hx
    simp only [List.mem_singleton] at hx
    subst hx
    exact ins_ok (u1 := false) (u2 := false) (u3 := false) (u4 := false) (u5 := true) rfl hjd rfl rfl rfl rfl (raw_short _ _ _)
  rw [if_neg k1] at hx
  obtain ⟨a, h1, h2⟩ := a0 (by unfold arityM at har hge; (repeat' split at har) <;> omega)
  have h3 := args 0 a h1
  rw [hm] at h3
  by_cases k6 : y.kind = 6
  · rw [if_pos k6] at hx
    have hv := acc_sc he hy (by rw [k6]; rfl)
    unfold scOk at hv
    simp only [List.mem_singleton] at hx
    subst hx
    exact ins_ok (u1 := true) (u2 := false) (u3 := true) (u4 := false) (u5 := true) rfl hjd (by show 0 ≤ arg0 y ∧ arg0 y < (if (6 : Int) = 0 then (ps.length : Int) else ((initM bs F).length : Int)); rw [h2, if_neg (by decide)]; omega) rfl hs.1 rfl (decide_eq_true ⟨by show -2147483648 ≤ y.vn; omega, hv.2.1⟩)
  rw [if_neg k6] at hx
  by_cases k7 : y.kind = 7
  · rw [if_pos k7] at hx
    obtain ⟨b, g1, g2⟩ := a1 (by rw [k7] at har; simp [arityM] at har; omega)
    have g3 := args 1 b g1
    rw [hm] at g3
    simp only [List.mem_singleton] at hx
    subst hx
    exact ins_ok (u1 := true) (u2 := true) (u3 := true) (u4 := false) (u5 := false) rfl hjd (by show 0 ≤ arg0 y ∧ arg0 y < (if (7 : Int) = 0 then (ps.length : Int) else ((initM bs F).length : Int)); rw [h2, if_neg (by decide)]; omega) (by show 0 ≤ arg1 y ∧ arg1 y < ((initM bs F).length : Int); rw [g2]; omega) hs.1 rfl rfl
  rw [if_neg k7] at hx
  by_cases k11 : y.kind = 11
  · rw [if_pos k11] at hx
    have hc := c11 k11
    simp only [List.mem_cons, List.not_mem_nil, or_false] at hx
    rcases hx with rfl | rfl
    · exact ins_ok (u1 := true) (u2 := true) (u3 := true) (u4 := true) (u5 := false) rfl hjd (by show 0 ≤ arg0 y ∧ arg0 y < (if (9 : Int) = 0 then (ps.length : Int) else ((initM bs F).length : Int)); rw [h2, if_neg (by decide)]; omega) (by show 0 ≤ cellF bs j ∧ cellF bs j < ((initM bs F).length : Int); omega) hs.1 rfl rfl
    · exact ins_ok (u1 := true) (u2 := true) (u3 := true) (u4 := true) (u5 := false) rfl hjd (by show 0 ≤ (j : Int) ∧ (j : Int) < (if (8 : Int) = 0 then (ps.length : Int) else ((initM bs F).length : Int)); rw [if_neg (by decide)]; exact hjd) (by show 0 ≤ cellF bs j + 1 ∧ cellF bs j + 1 < ((initM bs F).length : Int); omega) rfl rfl rfl
  rw [if_neg k11] at hx
  by_cases hl2 : y.args.length = 2
  · rw [if_pos hl2] at hx
    obtain ⟨b, g1, g2⟩ := a1 (by omega)
    have g3 := args 1 b g1
    rw [hm] at g3
    simp only [List.mem_singleton] at hx
    subst hx
    have hk : y.kind = 3 ∨ y.kind = 4 ∨ y.kind = 8 ∨ y.kind = 9 := by
      unfold arityM at har
      (repeat' split at har) <;> omega
    have hop : opM y.kind = 3 ∨ opM y.kind = 4 ∨ opM y.kind = 8 ∨ opM y.kind = 9 := by rcases hk with h | h | h | h <;> rw [h] <;> decide
    have hus : usesR (opM y.kind) = (true, true, true, true, false, true) := by rcases hop with h | h | h | h <;> rw [h] <;> rfl
    exact ins_ok (u1 := true) (u2 := true) (u3 := true) (u4 := true) (u5 := false) hus hjd (by show 0 ≤ arg0 y ∧ arg0 y < (if opM y.kind = 0 then (ps.length : Int) else ((initM bs F).length : Int)); rw [h2, if_neg (by omega)]; omega) (by show 0 ≤ arg1 y ∧ arg1 y < ((initM bs F).length : Int); rw [g2]; omega) hs.1 hs.2 rfl
  rw [if_neg hl2] at hx
  simp only [List.mem_singleton] at hx
  subst hx
  have hk : y.kind = 5 ∨ y.kind = 10 := by
    clear hge h1 h2 h3 hs a0 a1 args c11 one
    unfold arityM at har
    (repeat' split at har) <;> omega
  have hop : opM y.kind = 5 ∨ opM y.kind = 10 := by rcases hk with h | h <;> rw [h] <;> decide
  have hus : usesR (opM y.kind) = (true, false, true, false, false, true) := by rcases hop with h | h <;> rw [h] <;> rfl
  exact ins_ok (u1 := true) (u2 := false) (u3 := true) (u4 := false) (u5 := false) hus hjd (by show 0 ≤ arg0 y ∧ arg0 y < (if opM y.kind = 0 then (ps.length : Int) else ((initM bs F).length : Int)); rw [h2, if_neg (by omega)]; omega) rfl hs.1 rfl rfl
theorem prog_ok (he : dgErr ps bs os = 0) (hsh : (codeM ps bs F).all shOk = true) : progErr ps (initM bs F) (codeM ps bs F) os = 0 := by
  have hsz := size_of_ok he
  unfold sizeOk at hsz
  have hM := init_len bs F
  have h2 := two_kinds bs bs.length
  have hdl := dlK_len bs bs.length
  have hcl := cpK_len bs bs.length
  have hcd := cdC_len (ps := ps) (bs := bs) (F := F) (dlK bs bs.length).length
  rw [cdC_all] at hcd
  have hol : (ordM bs).length + (dlK bs bs.length).length ≤ bs.length := ord_del bs
  unfold progErr
  rw [if_neg (not_not_intro ⟨by omega, by omega, by omega, by omega⟩)]
  refine firstErr_allz fun z hz => ?_
  rcases List.mem_append.1 hz with h | h
  · obtain ⟨p, hp, rfl⟩ := List.mem_map.1 h
    obtain ⟨i, hi⟩ := List.mem_iff_getElem?.1 hp
    have h1 := acc_port he hi
    unfold portE at h1
    by_cases h3 : -2147483648 ≤ p.lo ∧ p.lo ≤ p.hi ∧ p.hi < 2147483648 ∧ 0 ≤ p.fr ∧ p.fr ≤ 30
    · unfold portErr
      rw [if_pos ⟨decide_eq_true (by omega), decide_eq_true (by omega), by omega, by omega, by omega⟩]
    · rw [if_neg h3] at h1; cases h1
  rcases List.mem_append.1 h with h | h
  · obtain ⟨x, hx, rfl⟩ := List.mem_map.1 h
    unfold initErr
    rw [if_pos (init_short hx)]
  rcases List.mem_append.1 h with h | h
  · obtain ⟨x, hx, rfl⟩ := List.mem_map.1 h
    have hx0 := hx
    have hxs := of_decide_eq_true (List.all_eq_true.1 hsh x hx)
    unfold codeM at hx
    rcases List.mem_append.1 hx with hx | hx
    · rcases List.mem_append.1 hx with hx | hx
      · obtain ⟨j, hj, hx⟩ := List.mem_flatMap.1 hx
        obtain ⟨i, hi⟩ := List.mem_iff_getElem?.1 hj
        obtain ⟨hjn, hk2⟩ := ord_at hi
        refine blk_ok he hjn hk2 (List.all_eq_true.2 fun y hy => List.all_eq_true.1 hsh y ?_) x hx
        unfold codeM
        exact List.mem_append_left _ (List.mem_append_left _ (List.mem_flatMap.2 ⟨j, hj, hy⟩))
      · obtain ⟨j, hj, rfl⟩ := List.mem_map.1 hx
        obtain ⟨i, hi⟩ := List.mem_iff_getElem?.1 hj
        obtain ⟨hjn, hk2, hrk⟩ := dl_at.1 hi
        have hrl := rank_dl_lt hjn hk2
        obtain ⟨y, hy⟩ : ∃ y, bs[j]? = some y := ⟨_, List.getElem?_eq_getElem hjn⟩
        have hac := acc_args he hy
        rw [kindA_of hy] at hk2
        have hyl : y.args.length = 1 := by have h := hac.2.1; rw [hk2] at h; simp [arityM] at h; omega
        obtain ⟨a, ha⟩ : ∃ a, y.args[0]? = some a := ⟨_, List.getElem?_eq_getElem (by omega)⟩
        have hr := hac.2.2 a (List.mem_of_getElem? ha)
        rw [show mostM ps.length bs.length y.kind = bs.length from if_neg (by omega)] at hr
        have hg : arg0 (blkA bs j) = a := by rw [blkA_of hy]; unfold arg0; rw [ha]; rfl
        have hc : cellF bs j = (bs.length : Int) + (rank (dlB bs) j : Int) := by unfold cellF; rw [kindA_of hy, if_pos hk2]
        refine ins_ok (u1 := true) (u2 := false) (u3 := true) (u4 := false) (u5 := false) rfl ?_ ?_ rfl (decide_eq_true ⟨hxs.1, hxs.2.1⟩) rfl rfl
        · show 0 ≤ cellF bs j ∧ cellF bs j < ((initM bs F).length : Int)
          rw [hc]
          omega
        · show 0 ≤ arg0 (blkA bs j) ∧ arg0 (blkA bs j) < (if (2 : Int) = 0 then (ps.length : Int) else ((initM bs F).length : Int))
          rw [hg, if_neg (by decide)]
          omega
    · obtain ⟨j, hj, rfl⟩ := List.mem_map.1 hx
      obtain ⟨i, hi⟩ := List.mem_iff_getElem?.1 hj
      obtain ⟨hjn, hk2, hrk⟩ := dl_at.1 hi
      have hrl := rank_dl_lt hjn hk2
      have hc : cellF bs j = (bs.length : Int) + (rank (dlB bs) j : Int) := by unfold cellF; rw [if_pos hk2]
      refine ins_ok (u1 := true) (u2 := false) (u3 := true) (u4 := false) (u5 := false) rfl ?_ ?_ rfl rfl rfl rfl
      · show 0 ≤ (j : Int) ∧ (j : Int) < ((initM bs F).length : Int)
        omega
      · show 0 ≤ cellF bs j ∧ cellF bs j < (if (2 : Int) = 0 then (ps.length : Int) else ((initM bs F).length : Int))
        rw [hc, if_neg (by decide)]
        omega
  · obtain ⟨o, ho, rfl⟩ := List.mem_map.1 h
    have := os_ok he o ho
    unfold outErr
    rw [if_pos ⟨this.1, by omega⟩]
end
end Go.Proofs.YtjlocofimlgaoaaDoor
namespace Go.Proofs.YtjlocofimlgaoaaDoor
set_option linter.unusedVariables false
set_option linter.unusedSimpArgs false
set_option linter.unusedSectionVars false
open Go.RowKit Cd
theorem light_len {ps : List Prt} {bs : List Bk} {os : List Int} (h : lightB ps bs os = true) : DgLen ps bs os ∧ bs.length ≤ 80 := by
  unfold lightB at h
  rw [Bool.and_eq_true] at h
  have h1 := of_decide_eq_true h.1
  exact ⟨⟨by omega, by omega, by omega, fun b hb => by have := of_decide_eq_true (List.all_eq_true.1 h.2 b hb); omega⟩, h1.2.1⟩
theorem shifts_ok {ps : List Prt} {bs : List Bk} {F : List Int} (h : cpErr ps bs F = 0) : (codeM ps bs F).all shOk = true := by
  unfold cpErr at h
  by_cases h1 : F.length = bs.length
  · rw [if_neg (not_not_intro h1)] at h
    by_cases h2 : F.all scOk30 = true
    · rw [if_neg (not_not_intro h2)] at h
      by_cases h3 : firstErr ((List.range bs.length).map (conE bs F)) = 0
      · rw [if_neg (not_not_intro h3)] at h
        by_cases h4 : (codeM ps bs F).all shOk = true
        · exact h4
        · rw [if_neg h4] at h; cases h
      · rw [if_pos h3] at h; exact absurd h h3
    · rw [if_pos h2] at h; cases h
  · rw [if_pos h1] at h; cases h
theorem pcheck_t (t : Bool) {ps : List Prt} {is : List Int} {xs : List Ins} {os : List Int} (l1 : ps.length ≤ 1000000) (l2 : is.length ≤ 1000000) (l3 : xs.length ≤ 1000000) (l4 : os.length ≤ 1000000) (h0 : progErr ps is xs os = 0) : CV Tryd.prog TabAt 22 [aProg t ps is xs os] [aE 0] := fun w S vs hg hlt ha => by
  obtain ⟨v, rfl, hv⟩ := one_arg ha
  obtain ⟨ys, rfl, hl0⟩ := hv
  obtain ⟨v0, x1, rfl, q0, h⟩ := LRel.uncons hl0
  obtain ⟨v1, x2, rfl, q1, h⟩ := h.uncons
  obtain ⟨v2, x3, rfl, q2, h⟩ := h.uncons
  obtain ⟨v3, x4, rfl, q3, h⟩ := h.uncons
  have := h.unnil
  subst this
  unfold rowP at q0
  rw [flatD_vals dPrt_vals] at q0
  unfold rowN at q2
  rw [flatD_vals dIns_vals] at q2
  obtain ⟨A1, c1, rfl, _, _, _, k1⟩ := row_vals hlt q0
  obtain ⟨A2, c2, rfl, _, _, k2⟩ := rowI_open hlt q1
  obtain ⟨A3, c3, rfl, _, _, _, k3⟩ := row_vals hlt q2
  obtain ⟨A4, c4, rfl, _, _, k4⟩ := rowI_open hlt q3
  refine (Cd.Check_any A1 A2 A3 A4 ps is xs os c1 c2 c3 c4 _ w (Nat.le_refl _) k1 k2 k3 k4).mono fun e w' ⟨he, hb⟩ => ?_
  rw [h0] at he
  exact ⟨_, he, DRel.val (errV_one _), hb⟩

end Go.Proofs.YtjlocofimlgaoaaDoor
