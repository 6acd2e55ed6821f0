/- Lists of ports, blocks and numbers that a call has made itself, side by side. No conditions. -/
import Derived.Test.YtaheedieingpiaaDoorDhB
import Derived.Test.YtaheedieingpiaaDoorDhF
namespace Go.Proofs.YtaheedieingpiaaDoor
set_option linter.unusedVariables false
set_option linter.unusedSimpArgs false
set_option linter.unusedSectionVars false
open Go.RowKit Go.Deep

def zPrt : Value := .agg #[.int .i64 0, .int .i64 0, .int .i64 0]
theorem info_prt : (Tryd.prog.info? 59).map (fun i => (i.zero, i.size, i.bytes)) = some (some zPrt, 3, 24) := by kernel_rfl
theorem under_prts : Tryd.prog.underlying 22 = some (.slice 59) := by kernel_rfl
def OwnP (w : World) (base : Nat) (v : Value) (l : List Prt) : Prop := w.ownsRow base 59 3 v l.length (flat Prt.cells l)
theorem OwnP.lit0 {w : World} {base : Nat} (h : base ≤ w.heap.size) : OwnP (w.alloc (.cells #[] 59)) base (.slice (some ⟨w.heap.size, 0, none⟩) 0 0) [] := World.ownsRow_made w #[] 0 h (Nat.zero_le _) rfl
theorem OwnP.view {w : World} {base : Nat} {v : Value} {l : List Prt} (h : OwnP w base v l) : ∃ A c, v = .slice A l.length c ∧ (A = none → c = 0) ∧ CellsAt w w.heap.size A (flat Prt.cells l) := by
  rcases h.2 with ⟨rfl, h0⟩ | ⟨g, cap, cur, rfl, hb, hg, hn, hm, hs, ht⟩
  · have : l = [] := List.eq_nil_of_length_eq_zero h0
    subst this
    exact ⟨none, 0, rfl, fun _ => rfl, CellsAt.nil_⟩
  · have hlt := (World.ownsRow.lt h g rfl).2
    refine ⟨some ⟨g, 0, none⟩, cap, rfl, by simp, fun _ => ⟨g, 0, rfl, hlt, hlt, fun j u hu => ?_⟩⟩
    have := World.ownsRow.cells h (g := g) rfl j u hu
    rcases j with _ | j
    · simpa [Addr.add] using this
    · simpa [Addr.add] using this
theorem prt_one {ys : List Prt} : ∀ u ∈ flat Prt.cells ys, u.oneCell' = true := by
  intro u hu
  obtain ⟨l, hl, hu⟩ := List.mem_flatten.1 hu
  obtain ⟨p, _, rfl⟩ := List.mem_map.1 hl
  simp [Prt.cells] at hu
  rcases hu with rfl | rfl | rfl <;> rfl
theorem app_ports {w : World} {ops : Array Oper} {rest : List Oper} {o : Oper} {a : Act} {Q : Exit → Act → World → Prop} (hgd : o.guard = none) (s x : Operand)
    (ho : o.op = .call { callee := .builtin .append, args := #[s, x], argTypes := #[22, 22] })
    (base : Nat) (v : Value) (xs ys : List Prt) (A : Option Addr) (c m : Nat) (hs : a.eval s = v) (hown : OwnP w base v xs) (hx : a.eval x = .slice A ys.length c) (hn : A = none → c = 0) (hc : CellsAt w m A (flat Prt.cells ys))
    (hlen : xs.length + ys.length ≤ 1000000) (hbase : base ≤ w.heap.size)
    (h : ∀ v' w', OwnP w' base v' (xs ++ ys) → w.grownBy w' v.ownBlock → Below base w w' → wpList Tryd.prog ops Q rest (a.put o.dst v') w') : wpList Tryd.prog ops Q (o :: rest) a w := by
  obtain ⟨i0, hi, hz0, hz1, hz2⟩ := info_parts info_prt
  rcases A with _ | ⟨b, off, l⟩
  · have hy : ys = [] := by
      rcases ys with _ | ⟨y, ys⟩
      · rfl
      · obtain ⟨b, off, hA, _⟩ := hc (by simp [flat, Prt.cells])
        cases hA
    subst hy
    have hc0 := hn rfl
    subst hc0
    exact wpList_append_own_none hgd s x 22 ho base 59 i0 3 under_prts hi v xs.length (flat Prt.cells xs) hs hown hx (h v w (by rw [List.append_nil]; exact hown) ⟨rfl, rfl, rfl, Nat.le_refl _, fun _ _ _ => rfl⟩ (Below.refl _ _))
  · refine wpList_append_own w hgd s x 22 ho base 59 i0 zPrt 3 24 under_prts hi hz0 hz1 hz2 rfl (by decide) v xs.length (flat Prt.cells xs) hs hown ⟨b, off, l⟩ ys.length c (flat Prt.cells ys) hx (by rw [flat_len (f := Prt.cells) (s := 3) (fun _ => rfl)]) ?_ prt_one (by unfold maxLen; omega) (by omega) hbase (fun v' w' h1 h2 _ => h v' w' ?_ h2 ((Below.refl base w).grown h2 hbase (fun g hg => (World.ownsRow.lt hown g hg).1)))
    · intro j u hu
      obtain ⟨b', off', hA, _, _, hcc⟩ := hc (fun h0 => by rw [h0] at hu; simp at hu)
      cases hA
      have hu' := hcc j u hu
      rcases j with _ | j
      · simpa [Addr.add] using hu'
      · simpa [Addr.add] using hu'
    · have e : flat Prt.cells (xs ++ ys) = flat Prt.cells xs ++ flat Prt.cells ys := by simp [flat]
      unfold OwnP
      rw [e, List.length_append]
      exact h1
theorem made_ints (n : Nat) : (madeCells (Value.int .i64 0).cells (n * 1)).toList = ints (List.replicate n 0) := by
  simp only [Value.cells, Nat.mul_one, ints, List.map_replicate]
  exact toList_madeCells_one _ _
theorem ints_set (l : List Int) (i : Nat) (x : Int) : ints (l.set i x) = (ints l).set i (.int .i64 x) := by simp [ints, List.map_set]
theorem ints_get {l : List Int} {i : Nat} {z : Int} (h : l[i]? = some z) : (ints l)[i]? = some (.int .i64 z) := by simp [ints, h]
/-- A list of numbers is no list of blocks: what is written to the one leaves the other. -/
theorem OwnI.byB {w w' : World} {base b0 : Nat} {v V : Value} {xs : List Int} {l : List Bk} (h : OwnI w base v xs) (hV : OwnB w b0 V l) (hg : w.grownBy w' V.ownBlock) : OwnI w' base v xs := by
  refine World.ownsRow.kept h hg ?_
  rcases h.2 with ⟨rfl, _⟩ | ⟨g, cap, cur, rfl, _, hh, _⟩
  · exact .inl rfl
  · refine .inr fun he => ?_
    rcases hV.2 with ⟨rfl, _⟩ | ⟨g', cap', cur', rfl, _, hh', _⟩
    · cases he
    · have : g = g' := by simpa [Value.ownBlock] using he
      subst this
      rw [hh] at hh'
      simp at hh'
theorem OwnB.setLow {w : World} {base g : Nat} {v : Value} {l : List Bk} (h : OwnB w base v l) (hg : g < base) (j : Nat) (u : Value) : OwnB (w.setCell ⟨g, j, none⟩ u) base v l := h.set_below u hg
theorem OwnI.apart {w w' : World} {g base : Nat} {v : Value} {xs : List Int} (h : OwnI w base v xs) (ha : Apart g w w') (hg : g < base) : OwnI w' base v xs := by
  refine ⟨h.1, ?_⟩
  rcases h.2 with hn | ⟨g', cap, cur, rfl, hbg, hg', rest⟩
  · exact .inl hn
  · refine .inr ⟨g', cap, cur, rfl, hbg, ?_, rest⟩
    rw [ha.block g' (Array.getElem?_eq_some_iff.1 hg').1 (by omega)]
    exact hg'
theorem OwnB.apart {w w' : World} {g base : Nat} {v : Value} {l : List Bk} (h : OwnB w base v l) (ha : Apart g w w') (hg : g < base) : OwnB w' base v l := by
  refine ⟨h.1, ?_⟩
  rcases h.2 with hn | ⟨g', cap, cur, rfl, hbg, hg', rest⟩
  · exact .inl hn
  · refine .inr ⟨g', cap, cur, rfl, hbg, ?_, rest⟩
    rw [ha.block g' (Array.getElem?_eq_some_iff.1 hg').1 (by omega)]
    exact hg'
theorem Apart.more {g B : Nat} {W w w' : World} (h : Apart g W w) (hb : Below B w w') (hB : W.heap.size ≤ B) : Apart g W w' :=
  ⟨hb.os.trans h.os, hb.tape.trans h.tape, hb.output.trans h.output, Nat.le_trans h.size hb.size, fun k hk hkg => (hb.block k (Nat.lt_of_lt_of_le hk hB)).trans (h.block k hk hkg)⟩
/-- append of one number, as a step of a statement whose order is left open. -/
theorem step_pushI {w : World} {ops : Array Oper} {o : Oper} {a : Act} {K : Act → World → Prop} {Q : Exit → Act → World → Prop} {E : Prop} (hgd : o.guard = none) (s x : Operand)
    (ho : o.op = .call { callee := .builtin .append, args := #[s, x], argTypes := #[24, 24] })
    (base : Nat) (v : Value) (xs : List Int) (z : Int) (g : Nat) (hs : a.eval s = v) (hown : OwnI w base v xs) (hx : a.eval x = .slice (some ⟨g, 0, none⟩) 1 1) (hg : w.cell? ⟨g, 0, none⟩ = some (.int .i64 z))
    (hlen : xs.length < 1000000) (hbase : base ≤ w.heap.size)
    (h : ∀ v' w', OwnI w' base v' (xs ++ [z]) → w.grownBy w' v.ownBlock → Below base w w' → K (a.put o.dst v') w') : if Region.wanted o (yielded ops a.tmps) = true then Oper.wp Tryd.prog o a w K Q else E := by
  obtain ⟨i0, hi, hz0, hz1, hz2⟩ := info_parts info_int
  refine step_append_lies w hgd s x 24 ho base 3 i0 (.int .i64 0) 1 8 under_ints hi hz0 hz1 hz2 rfl (by decide) v xs.length (ints xs) hs hown ⟨g, 0, none⟩ 1 1 [.int .i64 z] hx rfl ?_ (by simp [Value.oneCell']) (by decide) (by unfold maxLen; omega) (by omega) hbase _ rfl (fun g' cap w' h1 h2 _ _ => h _ w' ?_ h2 ((Below.refl base w).grown h2 hbase (fun g hg => (World.ownsRow.lt hown g hg).1)))
  · intro j u hu
    rcases j with _ | j
    · simp at hu; subst hu; simpa [Addr.add] using hg
    · simp at hu
  · have e : ints (xs ++ [z]) = ints xs ++ [.int .i64 z] := by simp [ints]
    unfold OwnI
    rw [e, List.length_append]
    exact h1
end Go.Proofs.YtaheedieingpiaaDoor
