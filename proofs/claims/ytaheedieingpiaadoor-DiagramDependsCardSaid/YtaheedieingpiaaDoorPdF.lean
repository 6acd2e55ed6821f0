/- The program's numbers: append onto a fresh slice; compare. No conditions. -/
import Derived.Test.YtaheedieingpiaaDoorPdE
namespace Go.Proofs.YtaheedieingpiaaDoor
set_option linter.unusedVariables false
set_option linter.unusedSimpArgs false
set_option linter.unusedSectionVars false
open Go.RowKit

theorem append_types {P : Program} {t t2 e e2 : TypeId} (ht : P.underlying t = some (.slice e)) (ht2 : P.underlying t2 = some (.slice e2)) (ty : TypeId) (s x : Value) (w : World) :
    (Builtin.append_ #[t, t2] ty #[s, x]).run P w = (Builtin.append_ #[t, t] ty #[s, x]).run P w := by
  cases s with
  | slice base sl sc => simp [Builtin.append_, run_underlying ht, run_underlying ht2]
  | _ => simp [Builtin.append_, run_underlying ht]
/-- append of a nat's words to a slice of words that the call owns. -/
theorem app_nat {w : World} {ops : Array Oper} {rest : List Oper} {o : Oper} {a : Act} {Q : Exit → Act → World → Prop} (hgd : o.guard = none) (s x : Operand)
    (ho : o.op = .call { callee := .builtin .append, args := #[s, x], argTypes := #[74, 79] })
    (base : Nat) (v : Value) (xs ys : List Nat) (A : Option Addr) (c m : Nat) (hs : a.eval s = v) (hown : OwnW w base v xs) (hx : a.eval x = .slice A ys.length c) (hn : A = none → c = 0) (hc : CellsAt w m A (w32 ys))
    (hlen : xs.length + ys.length ≤ 1000000) (hbase : base ≤ w.heap.size)
    (h : ∀ v' w', OwnW w' base v' (xs ++ ys) → Below base w w' → wpList Tryd.prog ops Q rest (a.put o.dst v') w') : wpList Tryd.prog ops Q (o :: rest) a w := by
  obtain ⟨i0, hi, hz0, hz1, hz2⟩ := info_parts info_w
  rcases A with _ | ⟨b, off, l⟩
  · have hy : ys = [] := by
      rcases ys with _ | ⟨y, ys⟩
      · rfl
      · obtain ⟨b, off, hA, _⟩ := hc (by simp [w32])
        cases hA
    subst hy
    have hc0 := hn rfl
    subst hc0
    refine wpList_plain hgd fun K hK => ?_
    have hrun := run_append_owned_none (P := Tryd.prog) (w := w) base 74 o.type 88 i0 1 under_w hi v xs.length (w32 xs) hown
    rw [← append_types under_w under_nat] at hrun
    have hx' : a.eval x = .slice none 0 0 := hx
    unfold Oper.wp
    simp only [execOp, ho, resolve, invoke, builtin, Sem.run_bind, Sem.run_pure, Result.andThen_ok, List.map_toArray, List.map_cons, List.map_nil, hs, hx', hrun]
    exact hK _ _ (h v w (by rw [List.append_nil]; exact hown) (Below.refl _ _))
  · have hcell : ∀ j u, (w32 ys)[j]? = some u → w.cell? ((⟨b, off, l⟩ : Addr).add j) = some u := by
      intro j u hu
      obtain ⟨b', off', hA, _, _, hcc⟩ := hc (fun h0 => by rw [h0] at hu; simp at hu)
      cases hA
      have hu' := hcc j u hu
      rcases j with _ | j
      · simpa [Addr.add] using hu'
      · simpa [Addr.add] using hu'
    have hone : ∀ u ∈ w32 ys, u.oneCell' = true := by
      intro u hu
      obtain ⟨z, _, rfl⟩ := List.mem_map.1 hu
      rfl
    obtain ⟨v', w', hr, h2, h3, h4⟩ := run_append_own (P := Tryd.prog) w base 74 o.type 88 i0 (.int .u32 0) 1 4 under_w hi hz0 hz1 hz2 rfl (by decide) v xs.length (w32 xs) hown ⟨b, off, l⟩ ys.length c (w32 ys) (by simp [w32]) hcell hone (by unfold maxLen; omega) (by omega) hbase
    rw [← append_types under_w under_nat] at hr
    refine wpList_plain hgd fun K hK => ?_
    unfold Oper.wp
    simp only [execOp, ho, resolve, invoke, builtin, Sem.run_bind, Sem.run_pure, Result.andThen_ok, List.map_toArray, List.map_cons, List.map_nil, hs, hx, hr]
    refine hK _ _ (h v' w' ?_ ((Below.refl base w).grown h3 hbase (fun g hg => (World.ownsRow.lt hown g hg).1)))
    have e : w32 (xs ++ ys) = w32 xs ++ w32 ys := by simp [w32]
    unfold OwnW
    rw [e, List.length_append]
    exact h2

set_option maxRecDepth 100000 in
set_option maxHeartbeats 4000000 in
theorem compare_any (A B : Option Addr) (a b : Nat) (c1 c2 m : Nat) (w : World) (h1 : CellsAt w m A (w32 (canon a))) (h2 : CellsAt w m B (w32 (canon b))) (l1 : (canon a).length ≤ 100000) (l2 : (canon b).length ≤ 100000) :
    Calls Tryd.prog 52 #[.slice A (canon a).length c1, .slice B (canon b).length c2] w fun e w' => e = .returned (.int .i64 (sgI ((a : Int) - (b : Int)))) ∧ Below w.heap.size w w' := by
  have H1 := Lib.hid h1
  have H2 := Lib.hid h2
  clear h1 h2
  by_cases hl : (canon a).length = (canon b).length
  · have HL := Lib.hid hl
    have e1 : (((canon a).length : Int) != ((canon b).length : Int)) = false := by simp; omega
    clear hl
    go_enter Tryd.func52, Tryd.ntmps52
    go_wp2_with fail
    go_loopw [5] (fun i wr => lsRel w (canon a) (canon b) i wr) (fun i _ => (intOf i + 1).toNat)
    case atStart => exact ⟨(canon a).length, 0, Nat.le_refl _, rfl, by rw [List.drop_length, HL.out, List.drop_length], rfl⟩
    case round =>
      as_aux_lemma =>
      obtain ⟨k, nq, hk, rfl, hd, rfl⟩ := hrel
      have HD := Lib.hid hd
      clear hd
      by_cases h0 : k = 0
      · subst h0
        go_wp2_with fail
        go_ret
        refine ⟨?_, below_drewN (Below.refl _ _) _⟩
        have := HD.out
        simp at this
        have hab : a = b := by rw [← wval_canon a, ← wval_canon b, this]
        subst hab
        have : sgI ((a : Int) - (a : Int)) = 0 := by rw [Int.sub_self]; rfl
        rw [this]
        rfl
      · obtain ⟨j, rfl⟩ := Nat.exists_eq_succ_of_ne_zero h0
        obtain ⟨b1, o1, x, rfl, _, _, hx, g1⟩ := H1.out.w32_ (k := j) (by omega)
        obtain ⟨b2, o2, y, rfl, _, _, hy, g2⟩ := H2.out.w32_ (k := j) (by have := HL.out; omega)
        have HX := Lib.hid hx
        have HY := Lib.hid hy
        have hj : ((j.succ : Nat) : Int) - 1 = (j : Int) := by omega
        have hja : (j : Int) < ((canon a).length : Int) := by omega
        have hjb : (j : Int) < ((canon b).length : Int) := by have := HL.out; omega
        rw [hj]
        clear hx hy h0
        by_cases hxy : x = y
        · subst hxy
          have e2 : ((x : Int) != (x : Int)) = false := by simp
          go_wp2_with fail
          go_quiet (fail)
          go_wp2_with fail
          exact ⟨⟨j, _, by omega, by go_num, drop_step HX.out HY.out HD.out, rfl⟩, by simp [intOf]; try omega⟩
        · have e2 : ((x : Int) != (y : Int)) = true := by simp; omega
          have hla := less_at (canon_ok a) (canon_ok b) HX.out HY.out HD.out hxy
          rw [wval_canon, wval_canon] at hla
          by_cases hlt : x < y
          · have e3 : decide ((x : Int) < (y : Int)) = true := decide_eq_true (by omega)
            have hab : a < b := by rw [decide_eq_true hlt] at hla; simpa using hla
            have HV := Lib.hid (show sgI ((a : Int) - (b : Int)) = -1 by unfold sgI; rw [if_neg (by omega), if_pos (by omega)])
            clear hla hab hxy
            go_wp2_with fail
            go_quiet (fail)
            go_wp2_with fail
            go_quiet (fail)
            go_wp2_with fail
            go_ret
            exact ⟨by rw [HV.out]; rfl, by repeat (first | exact Below.refl _ _ | refine ext_drewN ?_ _)⟩
          · have e3 : decide ((x : Int) < (y : Int)) = false := decide_eq_false (by omega)
            have hab : ¬ a < b := by rw [decide_eq_false hlt] at hla; simpa using hla
            have hba : b < a := by
              rcases Nat.lt_or_ge b a with h | h
              · exact h
              · exfalso
                have : a = b := by omega
                subst this
                have := HX.out.symm.trans HY.out
                simp at this
                exact hxy this
            have HV := Lib.hid (show sgI ((a : Int) - (b : Int)) = 1 by unfold sgI; rw [if_neg (by omega), if_neg (by omega)])
            clear hla hab hba hxy
            go_wp2_with fail
            go_quiet (fail)
            go_wp2_with fail
            go_quiet (fail)
            go_wp2_with fail
            go_ret
            exact ⟨by rw [HV.out]; rfl, by repeat (first | exact Below.refl _ _ | refine ext_drewN ?_ _)⟩
  · have e1 : (((canon a).length : Int) != ((canon b).length : Int)) = true := by simp; omega
    by_cases hlt : (canon a).length < (canon b).length
    · have hli : ((canon a).length : Int) < ((canon b).length : Int) := by omega
      have hab : a < b := by
        rcases Nat.lt_or_ge a b with h | h
        · exact h
        · have := canon_len_mono h; omega
      have HV := Lib.hid (show sgI ((a : Int) - (b : Int)) = -1 by unfold sgI; rw [if_neg (by omega), if_pos (by omega)])
      clear hab hl hlt
      go_enter Tryd.func52, Tryd.ntmps52
      go_wp2_with fail
      go_ret
      exact ⟨by rw [HV.out]; rfl, Below.refl _ _⟩
    · have hli : ¬ ((canon a).length : Int) < ((canon b).length : Int) := by omega
      have hab : b < a := by
        rcases Nat.lt_or_ge b a with h | h
        · exact h
        · have := canon_len_mono h; omega
      have HV := Lib.hid (show sgI ((a : Int) - (b : Int)) = 1 by unfold sgI; rw [if_neg (by omega), if_neg (by omega)])
      clear hab hl hlt
      go_enter Tryd.func52, Tryd.ntmps52
      go_wp2_with fail
      go_ret
      exact ⟨by rw [HV.out]; rfl, Below.refl _ _⟩
end Go.Proofs.YtaheedieingpiaaDoor
