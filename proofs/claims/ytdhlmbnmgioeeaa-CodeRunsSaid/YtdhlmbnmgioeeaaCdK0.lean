/- code.Run: what it leaves, or the first error: the checks ahead of the run. No conditions. -/
import Derived.Test.YtdhlmbnmgioeeaaCdJ
import Derived.Deep.AppendLies
import Derived.Deep.RegionLaw
namespace Go.Proofs.Ytdhlmbnmgioeeaa
set_option linter.unusedVariables false
set_option linter.unusedSimpArgs false
set_option linter.unusedSectionVars false
open Go.RowKit

def qRel (w : World) (n : Nat) (l : List Int) (i : Value) (wr : World) : Prop := ∃ k : Nat, k ≤ n ∧ i = .int .i64 k ∧ firstErr (l.take k) = 0 ∧ w = wr
theorem in_at {ps : List Prt} {inn : List Int} {k : Nat} {p : Prt} {n : Int} (hp : ps[k]? = some p) (hn : inn[k]? = some n) : (List.zipWith inErr ps inn)[k]? = some (inErr p n) := by
  rw [List.getElem?_zipWith, hp, hn]

theorem OwnI.some_ {w : World} {base n c : Nat} {A : Option Addr} {xs : List Int} (h : OwnI w base (.slice A n c) xs) (hn : 0 < n) : ∃ g, A = some ⟨g, 0, none⟩ ∧ base ≤ g ∧ g < w.heap.size := by
  rcases h.2 with ⟨h', h0⟩ | ⟨g, cap, cur, h', hb, hg, _⟩
  · cases h'
    omega
  · cases h'
    exact ⟨g, rfl, hb, (Array.getElem?_eq_some_iff.1 hg).1⟩
def r3Rel (w : World) (vs : List Value) (A : Option Addr) (n c R : Nat) (inn : List Int) (xs : List Ins) (cs : List Int) (i : Value) (wr : World) : Prop :=
  ∃ k : Nat, k ≤ xs.length ∧ i = .int .i64 k ∧ OwnI wr (w.heap.size + 2) (.slice A n c) (runR inn (xs.take k) (cs, false)).1 ∧ BoxAt wr w.heap.size vs ∧ Blk wr (w.heap.size + 1) [.slice none 0 0, .slice none 0 0, .bool false] 32 ∧
    Blk wr R [.slice A n c, .slice none 0 0, .bool (runR inn (xs.take k) (cs, false)).2] 32 ∧ Below w.heap.size w wr
theorem op_cases {op : Int} (h : (usesR op).2.2.2.2.2 = true) : op = 0 ∨ op = 1 ∨ op = 2 ∨ op = 3 ∨ op = 4 ∨ op = 5 ∨ op = 6 ∨ op = 7 ∨ op = 8 ∨ op = 9 ∨ op = 10 := by
  unfold usesR at h
  split at h
  · omega
  split at h
  · omega
  split at h
  · omega
  split at h
  · omega
  split at h
  · omega
  · simp at h
section
variable {w wr : World} {vs : List Value} {n c R g d k : Nat} {inn cs : List Int} {xs : List Ins} {x : Ins} {V : Int}
theorem r3_low (hO : OwnI wr (w.heap.size + 2) (.slice (some ⟨g, 0, none⟩) n c) (runR inn (xs.take k) (cs, false)).1) (hX : BoxAt wr w.heap.size vs) (hB : Blk wr (w.heap.size + 1) [.slice none 0 0, .slice none 0 0, .bool false] 32)
    (hR : Blk wr R [.slice (some ⟨g, 0, none⟩) n c, .slice none 0 0, .bool (runR inn (xs.take k) (cs, false)).2] 32) (hb : Below w.heap.size w wr) (hg : w.heap.size + 2 ≤ g ∧ g < R) (hn : n = cs.length) (hk : k < xs.length) (hx : xs[k]? = some x) (hd : x.dst = (d : Int)) (hV : insVal x (runR inn (xs.take k) (cs, false)).1 inn = V) :
    (shortB V = true → ∀ (o : Obj) (nq : Nat), r3Rel w vs (some ⟨g, 0, none⟩) n c R inn xs cs (.int .i64 ((k : Int) + 1)) (((wr.alloc o).drewN nq).setCell ⟨g, d, none⟩ (.int .i64 V))) ∧
    (shortB V = false → ∀ (o : Obj) (nq : Nat), r3Rel w vs (some ⟨g, 0, none⟩) n c R inn xs cs (.int .i64 ((k : Int) + 1)) ((((wr.alloc o).drewN nq).setCell ⟨R, 2, none⟩ (.bool true)).setCell ⟨g, d, none⟩ (.int .i64 (cut32 V)))) := by
  have hss := hX.1
  have hl := hR.lt
  have hlen : n = (runR inn (xs.take k) (cs, false)).1.length := by rw [runR_len]; exact hn
  have hnext := runR_step (inn := inn) (st := (cs, false)) hx
  have hdn : x.dst.toNat = d := by rw [hd]; simp
  constructor
  · intro hs o nq
    have st : Below wr.heap.size wr ((wr.alloc o).drewN nq) := below_drewN ((Below.refl _ wr).alloc (Nat.le_refl _) o) nq
    have O1 : OwnI ((wr.alloc o).drewN nq) (w.heap.size + 2) (.slice (some ⟨g, 0, none⟩) n c) (runR inn (xs.take k) (cs, false)).1 := (hO.alloc o).drewN nq
    have X1 := hX.below st hss
    have B1 := hB.below st (by omega)
    have R1 := hR.below st hl
    have W1 := hb.trans (st.mono (by omega))
    have b1 : Below g ((wr.alloc o).drewN nq) (((wr.alloc o).drewN nq).setCell ⟨g, d, none⟩ (.int .i64 V)) := (Below.refl _ _).setCell (p := ⟨g, d, none⟩) (Nat.le_refl _) _
    refine ⟨k + 1, by omega, by simp, ?_, X1.below b1 (by omega), B1.below b1 (by omega), ?_, W1.trans (b1.mono (by omega))⟩
    · rw [hnext]
      simp only [stepR, hV, cut_short hs, hdn]
      exact O1.put hlen d V
    · rw [hnext]
      simp only [stepR, hV, hs, Bool.not_true, Bool.or_false]
      have : ((((wr.alloc o).drewN nq).setCell ⟨g, d, none⟩ (.int .i64 V)).heap)[R]? = (((wr.alloc o).drewN nq).heap)[R]? := heap_setCell_other _ ⟨g, d, none⟩ R _ (by simp; omega)
      exact this.trans R1
  · intro hs o nq
    have st : Below wr.heap.size wr ((wr.alloc o).drewN nq) := below_drewN ((Below.refl _ wr).alloc (Nat.le_refl _) o) nq
    have O1 : OwnI ((wr.alloc o).drewN nq) (w.heap.size + 2) (.slice (some ⟨g, 0, none⟩) n c) (runR inn (xs.take k) (cs, false)).1 := (hO.alloc o).drewN nq
    have X1 := hX.below st hss
    have B1 := hB.below st (by omega)
    have R1 := hR.below st hl
    have W1 := hb.trans (st.mono (by omega))
    have b0 : Below R ((wr.alloc o).drewN nq) (((wr.alloc o).drewN nq).setCell ⟨R, 2, none⟩ (.bool true)) := (Below.refl _ _).setCell (p := ⟨R, 2, none⟩) (Nat.le_refl _) _
    have b1 : Below g (((wr.alloc o).drewN nq).setCell ⟨R, 2, none⟩ (.bool true)) ((((wr.alloc o).drewN nq).setCell ⟨R, 2, none⟩ (.bool true)).setCell ⟨g, d, none⟩ (.int .i64 (cut32 V))) := (Below.refl _ _).setCell (p := ⟨g, d, none⟩) (Nat.le_refl _) _
    have O2 := O1.below b0 (fun q hq => by simp [Value.ownBlock] at hq; omega)
    have X2 := X1.below b0 (by omega)
    have B2 := B1.below b0 (by omega)
    have R2 := R1.set_ 2 (.bool true)
    have W2 := W1.trans (b0.mono (by omega))
    refine ⟨k + 1, by omega, by simp, ?_, X2.below b1 (by omega), B2.below b1 (by omega), ?_, W2.trans (b1.mono (by omega))⟩
    · rw [hnext]
      simp only [stepR, hV, hdn]
      exact O2.put hlen d _
    · rw [hnext]
      simp only [stepR, hV, hs, Bool.not_false, Bool.or_true]
      have : (((((wr.alloc o).drewN nq).setCell ⟨R, 2, none⟩ (.bool true)).setCell ⟨g, d, none⟩ (.int .i64 (cut32 V))).heap)[R]? = ((((wr.alloc o).drewN nq).setCell ⟨R, 2, none⟩ (.bool true)).heap)[R]? := heap_setCell_other _ ⟨g, d, none⟩ R _ (by simp; omega)
      exact this.trans R2
end
theorem nt_ {b : Bool} (h : (!b) = true) : b = false := by simpa using h
theorem nf_ {b : Bool} (h : (!b) = false) : b = true := by simpa using h
theorem OwnI.set_below {w : World} {base : Nat} {v : Value} {xs : List Int} (h : OwnI w base v xs) {b j : Nat} (u : Value) (hb : b < base) : OwnI (w.setCell ⟨b, j, none⟩ u) base v xs := by
  refine ⟨h.1, ?_⟩
  rcases h.2 with hn | ⟨g, cap, cur, rfl, hbg, hg, rest⟩
  · exact .inl hn
  · refine .inr ⟨g, cap, cur, rfl, hbg, ?_, rest⟩
    rw [heap_setCell_other _ ⟨b, j, none⟩ g _ (by simp; omega)]
    exact hg
/-- append of one number, as a step of a statement whose order is left open. -/
theorem step_push {w : World} {ops : Array Oper} {o : Oper} {a : Act} {K : Act → World → Prop} {Q : Exit → Act → World → Prop} {E : Prop} (hgd : o.guard = none) (s x : Operand)
    (ho : o.op = .call { callee := .builtin .append, args := #[s, x], argTypes := #[23, 23] })
    (base : Nat) (v : Value) (xs : List Int) (z : Int) (g : Nat) (hs : a.eval s = v) (hown : OwnI w base v xs) (hx : a.eval x = .slice (some ⟨g, 0, none⟩) 1 1) (hg : w.cell? ⟨g, 0, none⟩ = some (.int .i64 z))
    (hlen : xs.length < 1000000) (hbase : base ≤ w.heap.size)
    (h : ∀ v' w', OwnI w' base v' (xs ++ [z]) → w.grownBy w' v.ownBlock → Below base w w' → K (a.put o.dst v') w') : if Region.wanted o (yielded ops a.tmps) = true then Oper.wp Try.prog o a w K Q else E := by
  obtain ⟨i0, hi, hz0, hz1, hz2⟩ := info_parts info_int
  refine step_append_lies w hgd s x 23 ho base 3 i0 (.int .i64 0) 1 8 under_ints hi hz0 hz1 hz2 rfl (by decide) v xs.length (ints xs) hs hown ⟨g, 0, none⟩ 1 1 [.int .i64 z] hx rfl ?_ (by simp [Value.oneCell']) (by decide) (by unfold maxLen; omega) (by omega) hbase _ rfl (fun g' cap w' h1 h2 _ _ => h _ w' ?_ h2 ((Below.refl base w).grown h2 hbase (fun g hg => (World.ownsRow.lt hown g hg).1)))
  · intro j u hu
    rcases j with _ | j
    · simp at hu; subst hu; simpa [Addr.add] using hg
    · simp at hu
  · have e : ints (xs ++ [z]) = ints xs ++ [.int .i64 z] := by simp [ints]
    unfold OwnI
    rw [e, List.length_append]
    exact h1
def r4Rel (w : World) (vs : List Value) (A : Option Addr) (n c R : Nat) (csF : List Int) (OV : Bool) (os : List Int) (i : Value) (wr : World) : Prop :=
  ∃ k v, k ≤ os.length ∧ i = .int .i64 ((k : Nat) : Int) ∧ OwnI wr (w.heap.size + 2) (.slice A n c) csF ∧ BoxAt wr w.heap.size vs ∧ Blk wr (w.heap.size + 1) [.slice none 0 0, .slice none 0 0, .bool false] 32 ∧
    Blk wr R [.slice A n c, v, .bool OV] 32 ∧ OwnI wr (R + 1) v (outsOf csF (os.take k)) ∧ Below w.heap.size w wr
theorem r4_low {w wr w' : World} {vs : List Value} {A : Option Addr} {n c R k : Nat} {csF os : List Int} {OV : Bool} {v v' : Value} {z : Int} (hO : OwnI wr (w.heap.size + 2) (.slice A n c) csF) (hX : BoxAt wr w.heap.size vs) (hB : Blk wr (w.heap.size + 1) [.slice none 0 0, .slice none 0 0, .bool false] 32)
    (hR : Blk wr R [.slice A n c, v, .bool OV] 32) (hb : Below w.heap.size w wr) (hA : ∀ g, A = some ⟨g, 0, none⟩ → w.heap.size + 2 ≤ g ∧ g < R) (hR2 : w.heap.size + 2 ≤ R) (hk : k < os.length) (hz : os[k]? = some z)
    (hv' : OwnI w' (R + 1) v' (outsOf csF (os.take k) ++ [csF[z.toNat]?.getD 0])) (h' : Below (R + 1) wr w') : r4Rel w vs A n c R csF OV os (.int .i64 ((k : Int) + 1)) (w'.setCell ⟨R, 1, none⟩ v') := by
  have O1 := hO.below h' (fun q hq => by
    have : q < R := by
      rcases A with _ | a
      · simp [Value.ownBlock] at hq
      · have := (World.ownsRow.lt hO q hq)
        rcases hO.2 with ⟨h0, _⟩ | ⟨g, cap, cur, h0, _⟩
        · cases h0
        · cases h0
          simp [Value.ownBlock] at hq
          subst hq
          exact (hA _ rfl).2
    omega)
  have O2 : OwnI (w'.setCell ⟨R, 1, none⟩ v') (w.heap.size + 2) (.slice A n c) csF := by
    refine O1.below ((Below.refl R w').setCell (p := ⟨R, 1, none⟩) (Nat.le_refl _) v') (fun q hq => ?_)
    rcases hO.2 with ⟨h0, _⟩ | ⟨g, cap, cur, h0, _⟩
    · cases h0
      simp [Value.ownBlock] at hq
    · cases h0
      simp [Value.ownBlock] at hq
      subst hq
      exact (hA _ rfl).2
  have hs : Below R w' (w'.setCell ⟨R, 1, none⟩ v') := (Below.refl R w').setCell (p := ⟨R, 1, none⟩) (Nat.le_refl _) v'
  refine ⟨k + 1, v', by omega, by simp, O2, (hX.below h' (by omega)).below hs (by omega), (hB.below h' (by omega)).below hs (by omega), ?_, ?_, (hb.trans (h'.mono (by omega))).trans (hs.mono (by omega))⟩
  · exact (hR.below h' (by omega)).set_ 1 v'
  · rw [outs_step hz]
    exact hv'.set_below v' (by omega)
theorem OwnI.view_ {w : World} {base n c : Nat} {A : Option Addr} {xs : List Int} (h : OwnI w base (.slice A n c) xs) : n = xs.length ∧ (A = none → c = 0) ∧ CellsAt w w.heap.size A (ints xs) ∧ (∀ a : Addr, A = some a → base ≤ a.block) := by
  have hlt := World.ownsRow.lt h
  obtain ⟨A', c', he, h1, h2⟩ := h.view
  cases he
  refine ⟨rfl, h1, h2, ?_⟩
  rintro ⟨g, off, l⟩ rfl
  rcases h.2 with ⟨h0, _⟩ | ⟨g', cap, cur, h0, hb, _⟩
  · cases h0
  · cases h0
    exact hb
theorem r4_end {w wr : World} {A : Option Addr} {n c R b : Nat} {r : RunD} {v x0 x1 x2 : Value} (hO : OwnI wr (w.heap.size + 2) (.slice A n c) r.cells) (hv : OwnI wr (R + 1) v r.outs) (hR2 : w.heap.size + 2 ≤ R) (hb : Below w.heap.size w wr) (hw : b = w.heap.size + 1) :
    RunPost w r 0 (.returned (.tuple #[.agg #[.slice A n c, v, .bool r.over], .nilIface])) (((wr.setCell ⟨b, 0, none⟩ x0).setCell ⟨b, 1, none⟩ x1).setCell ⟨b, 2, none⟩ x2) := by
  subst hw
  have O3 := ((hO.set_below (j := 0) x0 (b := w.heap.size + 1) (by omega)).set_below (j := 1) x1 (b := w.heap.size + 1) (by omega)).set_below (j := 2) x2 (b := w.heap.size + 1) (by omega)
  have V3 := ((hv.set_below (j := 0) x0 (b := w.heap.size + 1) (by omega)).set_below (j := 1) x1 (b := w.heap.size + 1) (by omega)).set_below (j := 2) x2 (b := w.heap.size + 1) (by omega)
  obtain ⟨rfl, h1, h2, f1⟩ := O3.view_
  obtain ⟨B, d, rfl, h3, h4⟩ := V3.view
  obtain ⟨_, _, _, f2⟩ := V3.view_
  refine ⟨A, c, B, d, rfl, h1, h3, h2, h4, ?_, fun a ha => by have := f1 a ha; omega, fun a ha => by have := f2 a ha; omega⟩
  exact ((hb.setCell (p := ⟨w.heap.size + 1, 0, none⟩) (by simp) _).setCell (p := ⟨w.heap.size + 1, 1, none⟩) (by simp) _).setCell (p := ⟨w.heap.size + 1, 2, none⟩) (by simp) _
theorem errV_zero : errV 0 = .nilIface := rfl
end Go.Proofs.Ytdhlmbnmgioeeaa
