/- Lists of intervals that a call has made itself: what they own, where their words lie, and append. No conditions. -/
import Derived.Test.YtejnnljjmafjaaaDoorScQ
import Derived.Test.YtejnnljjmafjaaaDoorScM
import Derived.Maps.AppendAt
import Derived.OwnWalk
namespace Go.Proofs.YtejnnljjmafjaaaDoor
set_option linter.unusedVariables false
set_option linter.unusedSimpArgs false
set_option linter.unusedSectionVars false
open Go.RowKit

def zIv : Value := .agg #[.bool false, .slice none 0 0, .int .i64 0, .bool false, .slice none 0 0, .int .i64 0]
theorem info_iv : (Tryd.prog.info? 41).map (fun i => (i.zero, i.size, i.bytes)) = some (some zIv, 6, 80) := by kernel_rfl
theorem under_ivs : Tryd.prog.underlying 27 = some (.slice 41) := by kernel_rfl
def OwnV (w : World) (base : Nat) (v : Value) (l : List Iv) : Prop := w.ownsRow base 41 6 v l.length (flat Iv.cells l)
theorem OwnV.nil_ (w : World) (base : Nat) : OwnV w base (.slice none 0 0) [] := World.ownsRow_nil w base _ _
theorem OwnV.view {w : World} {base : Nat} {v : Value} {l : List Iv} (h : OwnV w base v l) : ∃ A c, v = .slice A l.length c ∧ (A = none → c = 0) ∧ CellsAt w w.heap.size A (flat Iv.cells l) := by
  rcases h.2 with ⟨rfl, h0⟩ | ⟨g, cap, cur, rfl, hb, hg, hn, hm, hs, ht⟩
  · have : l = [] := List.eq_nil_of_length_eq_zero h0
    subst this
    exact ⟨none, 0, rfl, fun _ => rfl, CellsAt.nil_⟩
  · have hlt := (World.ownsRow.lt h g rfl).2
    refine ⟨some ⟨g, 0, none⟩, cap, rfl, by simp, fun _ => ⟨g, 0, rfl, hlt, hlt, fun j u hu => ?_⟩⟩
    have := World.ownsRow.cells h (g := g) rfl j u hu
    rcases j with _ | j
    · simpa [Addr.add] using this
    · simpa [Addr.add] using this
theorem OwnV.alloc {w : World} {base : Nat} {v : Value} {l : List Iv} (h : OwnV w base v l) (o : Obj) : OwnV (w.alloc o) base v l := World.ownsRow.alloc h o
theorem OwnV.call {w w' : World} {base : Nat} {v : Value} {l : List Iv} (h : OwnV w base v l) (hb : Below w.heap.size w w') : OwnV w' base v l := by
  refine ⟨h.1, ?_⟩
  rcases h.2 with hn | ⟨g, cap, cur, rfl, hbg, hg, rest⟩
  · exact .inl hn
  · refine .inr ⟨g, cap, cur, rfl, hbg, ?_, rest⟩
    rw [hb.block g (World.ownsRow.lt h g rfl).2]
    exact hg
theorem OwnV.own_lt {w : World} {base : Nat} {v : Value} {l : List Iv} (h : OwnV w base v l) {g : Nat} (hg : v.ownBlock = some g) : base ≤ g ∧ g < w.heap.size := World.ownsRow.lt h g hg
/-- append of one interval, in the text's order. -/
theorem push_iv {w : World} {ops : Array Oper} {rest : List Oper} {o : Oper} {a : Act} {Q : Exit → Act → World → Prop} (hgd : o.guard = none) (s x : Operand)
    (ho : o.op = .call { callee := .builtin .append, args := #[s, x], argTypes := #[27, 27] })
    (base : Nat) (v : Value) (l : List Iv) (b : Iv) (g : Nat) (hs : a.eval s = v) (hown : OwnV w base v l) (hx : a.eval x = .slice (some ⟨g, 0, none⟩) 1 1) (hg : ∀ j u, b.cells[j]? = some u → w.cell? ⟨g, j, none⟩ = some u)
    (hlen : l.length < 1000000) (hbase : base ≤ w.heap.size)
    (h : ∀ v' w', OwnV w' base v' (l ++ [b]) → w.grownBy w' v.ownBlock → Below base w w' → (v'.ownBlock = v.ownBlock ∨ v'.ownBlock = some w.heap.size) → wpList Tryd.prog ops Q rest (a.put o.dst v') w') : wpList Tryd.prog ops Q (o :: rest) a w := by
  obtain ⟨i0, hi, hz0, hz1, hz2⟩ := info_parts info_iv
  refine wpList_append_own_at w hgd s x 27 ho base 41 i0 zIv 6 80 under_ivs hi hz0 hz1 hz2 rfl (by decide) v l.length (flat Iv.cells l) hs hown ⟨g, 0, none⟩ 1 1 b.cells hx rfl ?_ (by simp [Iv.cells, Value.oneCell']) (by unfold maxLen; omega) (by omega) hbase (fun v' w' h1 h2 _ h4 => h v' w' ?_ h2 ((Below.refl base w).grown h2 hbase (fun g hg => (World.ownsRow.lt hown g hg).1)) h4)
  · intro j u hu
    have := hg j u hu
    rwa [Go.WideShapes.add_plain, Nat.zero_add]
  · have e : flat Iv.cells (l ++ [b]) = flat Iv.cells l ++ b.cells := by simp [flat]
    unfold OwnV
    rw [e, List.length_append]
    exact h1
/-- A number's words, apart from the block q. -/
structure FarR (w : World) (q : Option Nat) (r : Rw) : Prop where
  at_ : RwAt w w.heap.size r
  far : ∀ b off, r.ws ≠ [] → r.A = some ⟨b, off, none⟩ → q ≠ some b
theorem w32_ne {ws : List Nat} (h : ws ≠ []) : w32 ws ≠ [] := fun e => h (by have := congrArg List.length e; simp only [w32_len] at this; exact List.eq_nil_of_length_eq_zero (by simpa using this))
theorem ne_w32 {ws : List Nat} (h : w32 ws ≠ []) : ws ≠ [] := fun e => h (by rw [e]; rfl)
theorem FarR.call {w w' : World} {q : Option Nat} {r : Rw} (h : FarR w q r) (hb : Below w.heap.size w w') : FarR w' q r := ⟨(h.at_.below hb (Nat.le_refl _)).more hb.size, h.far⟩
theorem FarR.grown {w w' : World} {q q' : Option Nat} {r : Rw} (h : FarR w q r) (hg : w.grownBy w' q) (hq : q' = q ∨ q' = some w.heap.size) : FarR w' q' r := by
  refine ⟨⟨h.at_.nul, h.at_.fit, fun hne => ?_, h.at_.ok⟩, fun b off hne hA => ?_⟩
  · obtain ⟨b, off, hA, h1, h2, hc⟩ := h.at_.at_ hne
    have hf := h.far b off (ne_w32 hne) hA
    have hk := hg.block b h2 (fun e => hf e.symm)
    exact ⟨b, off, hA, Nat.lt_of_lt_of_le h1 hg.size, Nat.lt_of_lt_of_le h2 hg.size, fun j u hu => (World.cell?_of_block (w := w) hk).trans (hc j u hu)⟩
  · rcases hq with rfl | rfl
    · exact h.far b off hne hA
    · obtain ⟨b2, off2, hA2, h1, h2, hc⟩ := h.at_.at_ (w32_ne hne)
      rw [hA] at hA2
      cases hA2
      intro e
      cases e
      exact absurd h2 (Nat.lt_irrefl _)
structure FarI (w : World) (q : Option Nat) (a : Iv) : Prop where
  lo : FarR w q a.lo
  hi : FarR w q a.hi
  l1 : a.lo.ws.length ≤ 10000
  l2 : a.hi.ws.length ≤ 10000
theorem FarI.call {w w' : World} {q : Option Nat} {a : Iv} (h : FarI w q a) (hb : Below w.heap.size w w') : FarI w' q a := ⟨h.lo.call hb, h.hi.call hb, h.l1, h.l2⟩
theorem FarI.grown {w w' : World} {q q' : Option Nat} {a : Iv} (h : FarI w q a) (hg : w.grownBy w' q) (hq : q' = q ∨ q' = some w.heap.size) : FarI w' q' a := ⟨h.lo.grown hg hq, h.hi.grown hg hq, h.l1, h.l2⟩
/-- A result of a call is apart from whatever was there. -/
theorem DyR.far {w : World} {lo d : Nat} {v : Value} {x : Int} (h : DyR w lo w.heap.size v x d) {q : Option Nat} (hq : ∀ g, q = some g → g < lo) : ∃ r : Rw, v = r.val ∧ FarR w q r ∧ vdB r = true ∧ r.x = x ∧ r.d = d ∧ r.ws = canon x.natAbs := by
  obtain ⟨r, hv, h1, h2, h3, h4, h5, h6⟩ := h.rw_
  exact ⟨r, hv, ⟨h1, fun b off hne hA e => by have h7 : lo ≤ b := h6 _ hA; have := hq b e; omega⟩, h2, h3, h4, h5⟩
/-- The list is as far as k: wide twins of the first k ranges. -/
structure WideTo (W w : World) (R : List Iv) (k : Nat) (v : Value) (l : List Iv) : Prop where
  len : l.length = k
  own : OwnV w W.heap.size v l
  far : ∀ a ∈ l, FarI w v.ownBlock a
  twin : ∀ (j : Nat) (y y' : Iv), R[j]? = some y → l[j]? = some y' → Wide y y'
  bel : Below W.heap.size W w
theorem WideTo.nil_ (W : World) (R : List Iv) : WideTo W W R 0 (.slice none 0 0) [] := ⟨rfl, OwnV.nil_ _ _, (fun _ h => by cases h), (fun j _ _ _ h => by simp at h), Below.refl _ _⟩
theorem WideTo.call {W w w' : World} {R : List Iv} {k : Nat} {v : Value} {l : List Iv} (h : WideTo W w R k v l) (hb : Below w.heap.size w w') : WideTo W w' R k v l :=
  ⟨h.len, h.own.call hb, fun a ha => (h.far a ha).call hb, h.twin, h.bel.trans (hb.mono h.bel.size)⟩
theorem WideTo.push {W w w' : World} {R : List Iv} {k : Nat} {v v' : Value} {l : List Iv} {y y' : Iv} (h : WideTo W w R k v l) (hy : R[k]? = some y) (hw : Wide y y') (hf : FarI w v.ownBlock y')
    (ho : OwnV w' W.heap.size v' (l ++ [y'])) (hg : w.grownBy w' v.ownBlock) (hb : Below W.heap.size w w') (hq : v'.ownBlock = v.ownBlock ∨ v'.ownBlock = some w.heap.size) : WideTo W w' R (k + 1) v' (l ++ [y']) := by
  refine ⟨by rw [List.length_append, h.len]; rfl, ho, fun a ha => ?_, fun j z z' hz hz' => ?_, h.bel.trans hb⟩
  · rcases List.mem_append.1 ha with ha | ha
    · exact (h.far a ha).grown hg hq
    · obtain rfl : a = y' := by simpa using ha
      exact hf.grown hg hq
  · by_cases hj : j < l.length
    · rw [List.getElem?_append_left hj] at hz'
      exact h.twin j z z' hz hz'
    · rw [List.getElem?_append_right (by omega)] at hz'
      have hj2 : j = k := by
        have := (List.getElem?_eq_some_iff.1 hz').1
        have := h.len
        simp at *
        omega
      subst hj2
      rw [h.len, Nat.sub_self] at hz'
      rw [hy] at hz
      cases hz
      simp at hz'
      subst hz'
      exact hw
/-- What stands at the end: the ranges as an argument. -/
theorem WideTo.ivs {W w : World} {R : List Iv} {k : Nat} {A : Option Addr} {n c : Nat} {l : List Iv} (h : WideTo W w R k (.slice A n c) l) : IvsAt w w.heap.size A l := by
  obtain ⟨A2, c2, hv, _, hc⟩ := h.own.view
  cases hv
  exact ⟨hc, fun a ha => ⟨⟨(h.far a ha).lo.at_, (h.far a ha).hi.at_⟩, (h.far a ha).l1, (h.far a ha).l2⟩⟩
def nwR (W : World) (R : List Iv) (v i : Value) (wr : World) : Prop := ∃ k : Nat, k ≤ R.length ∧ i = .int .i64 (k : Int) ∧ ∃ l, WideTo W wr R k v l
theorem len_wide {x : Int} {d : Nat} {n : Nat} (h : (canon x.natAbs).length ≤ n) : (canon (dyShift x d 1).1.natAbs).length ≤ n + 1 := by
  rw [shl1]
  refine Nat.le_trans (canon_len_mono (nf_abs_le _ _)) ?_
  rw [Int.natAbs_mul]
  have := canon_len_shift x.natAbs 1
  show (canon (x.natAbs * 2)).length ≤ _
  rw [Nat.pow_one] at this
  omega
theorem lean_words {d : Dg} {x : Rg} (h : lightR d x = true) : ∀ a ∈ x.R, a.lo.ws.length ≤ 140 ∧ a.hi.ws.length ≤ 140 := by
  unfold lightR at h
  simp only [Bool.and_eq_true] at h
  have h2 := h.1.2
  unfold leanL at h2
  simp only [Bool.and_eq_true] at h2
  intro a ha
  have := of_decide_eq_true (List.all_eq_true.1 h2.1 a ha)
  exact ⟨this.1, this.2.1⟩
theorem WideTo.pair {W w : World} {R : List Iv} {v : Value} {l : List Iv} (h : WideTo W w R R.length v l) {j : Nat} {y' : Iv} (hy : l[j]? = some y') : ∃ y, R[j]? = some y ∧ Wide y y' := by
  have hj := (List.getElem?_eq_some_iff.1 hy).1
  have hl := h.len
  have hr : R[j]? = some (R[j]'(by omega)) := List.getElem?_eq_getElem (by omega)
  exact ⟨_, hr, h.twin j _ _ hr hy⟩
theorem WideTo.all_ok {W w : World} {R : List Iv} {v : Value} {l : List Iv} (h : WideTo W w R R.length v l) (hp : ∀ y ∈ R, ivB y = true ∧ 0 ≤ chS y) : l.all ivB = true := by
  rw [List.all_eq_true]
  intro y' hy'
  obtain ⟨j, hj⟩ := List.getElem?_of_mem hy'
  obtain ⟨y, hy, hw⟩ := h.pair hj
  exact hw.ok (hp y (List.mem_of_getElem? hy)).1
theorem WideTo.bits {W w : World} {R : List Iv} {v : Value} {l : List Iv} (h : WideTo W w R R.length v l) (hp : ∀ y ∈ R, ivB y = true ∧ 0 ≤ chS y) (hc : chErr 0 l = 0) {j : Nat} {a c : Int}
    (ha : (R.map chS)[j]? = some a) (hcj : (l.map chS)[j]? = some c) : c ≤ a ∧ a - 1 ≤ c ∧ (a < 30 → c = a - 1) ∧ 0 ≤ a ∧ a ≤ 30 := by
  rw [List.getElem?_map] at ha hcj
  obtain ⟨y', hy', rfl⟩ := Option.map_eq_some_iff.1 hcj
  obtain ⟨y, hy, hw⟩ := h.pair hy'
  rw [hy] at ha
  obtain rfl : chS y = a := by simpa using ha
  have h0 := (hp y (List.mem_of_getElem? hy)).2
  have h1 := hw.chs h0
  have h2 : 0 ≤ chS y' := by
    unfold chErr at hc
    rw [if_pos rfl] at hc
    by_cases hall : l.all (fun a => decide (0 ≤ chS a)) = true
    · exact of_decide_eq_true (List.all_eq_true.1 hall y' (List.mem_of_getElem? hy'))
    · rw [if_neg hall] at hc; cases hc
  have h3 := (chS_range y).2
  rcases h1 with h1 | h1
  · omega
  · exact ⟨h1.2.1, h1.2.2.1, h1.2.2.2, h0, h3⟩
theorem ch_no {R : List Iv} (h : ¬ chErr 0 R = 0) : chErr 0 R = 4 ∧ ¬ R.all (fun a => decide (0 ≤ chS a)) = true := by
  unfold chErr at h ⊢
  rw [if_pos rfl] at h ⊢
  by_cases hall : R.all (fun a => decide (0 ≤ chS a)) = true
  · rw [if_pos hall] at h; exact absurd rfl h
  · rw [if_neg hall]; exact ⟨rfl, hall⟩
theorem WideTo.none_ {W w : World} {R : List Iv} {v : Value} {l : List Iv} (h : WideTo W w R R.length v l) (hp : ∀ y ∈ R, ivB y = true ∧ 0 ≤ chS y) (hc : ¬ chErr 0 l = 0) : (R.map chS).any (fun n => n == 0) = true := by
  have hna := (ch_no hc).2
  rw [List.all_eq_true] at hna
  have ⟨y', hn⟩ := Classical.not_forall.1 hna
  have ⟨hy', hd⟩ := Classical.not_imp.1 hn
  obtain ⟨j, hj⟩ := List.getElem?_of_mem hy'
  obtain ⟨y, hy, hw⟩ := h.pair hj
  have hm := List.mem_of_getElem? hy
  have h1 := hw.chs (hp y hm).2
  have hd2 : ¬ 0 ≤ chS y' := fun h => hd (decide_eq_true h)
  rw [List.any_eq_true]
  refine ⟨chS y, List.mem_map_of_mem hm, ?_⟩
  rw [beq_iff_eq]
  rcases h1 with h1 | h1
  · exact h1.1
  · omega
theorem any0_succ {l : List Int} {k : Nat} {n : Int} (h : l[k]? = some n) : (l.take (k + 1)).any (fun x => x == 0) = ((l.take k).any (fun x => x == 0) || (n == 0)) := by
  rw [List.take_add_one, h]
  simp
def nw2 (w1 : World) (N : Nat) (xs : List Int) (n i : Value) (wr : World) : Prop := ∃ k : Nat, k ≤ N ∧ i = .int .i64 (k : Int) ∧ n = .bool ((xs.take k).any (fun x => x == 0)) ∧ w1 = wr
def nw3 (W : World) (N : Nat) (i : Value) (wr : World) : Prop := ∃ k : Nat, k ≤ N ∧ i = .int .i64 (k : Int) ∧ Below W.heap.size W wr
end Go.Proofs.YtejnnljjmafjaaaDoor
