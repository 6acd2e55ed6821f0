/- One scale changed: by how much the number of shifts changes; what stands in a law of one diagram. No conditions. -/
import Derived.Test.YtejnnljjmafjaaaDoorScO
import Derived.OwnWalk
import Derived.IntWalk
import Derived.OpenShut
namespace Go.Proofs.YtejnnljjmafjaaaDoor
set_option linter.unusedVariables false
set_option linter.unusedSimpArgs false
set_option linter.unusedSectionVars false
open Go.RowKit

structure Lx (w0 w : World) (d : Dg) : Prop where
  bel : Below w0.heap.size w0 w
  box : RowD w w0.heap.size d.vals 26
  tab : TabAt w
theorem Lx.start (w0 : World) (d : Dg) (ht : TabAt w0) : Lx w0 (w0.alloc (.cells d.vals.toArray 26)) d :=
  ⟨al_ _ _, RowD.new_ _ _ _, ht.below (al_ _ _) ht.1⟩
theorem Lx.next {w0 w w' : World} {d : Dg} (h : Lx w0 w d) (hb : Below w.heap.size w w') : Lx w0 w' d :=
  ⟨h.bel.trans (hb.mono h.bel.size), h.box.call hb, h.tab.call hb⟩
theorem Lx.c0 {w0 w : World} {d : Dg} (h : Lx w0 w d) : w.cell? ⟨w0.heap.size, 0, none⟩ = some (.slice d.A1 d.ps.length d.c1) := h.box.cell 0
theorem Lx.c1 {w0 w : World} {d : Dg} (h : Lx w0 w d) : w.cell? ⟨w0.heap.size, 1, none⟩ = some (.slice d.A2 d.bs.length d.c2) := h.box.cell 1
theorem Lx.c2 {w0 w : World} {d : Dg} (h : Lx w0 w d) : w.cell? ⟨w0.heap.size, 2, none⟩ = some (.slice d.A3 d.os.length d.c3) := h.box.cell 2
theorem Lx.lt {w0 w : World} {d : Dg} (h : Lx w0 w d) : w0.heap.size < w.heap.size := h.box.lt
theorem Lx.le {w0 w : World} {d : Dg} (h : Lx w0 w d) : w0.heap.size ≤ w.heap.size := Nat.le_of_lt h.box.lt
theorem Lx.dg {w0 w : World} {d : Dg} (h : Lx w0 w d) (hd : DgAt w0 w0.heap.size d) : DgAt w w0.heap.size d := hd.below h.bel (Nat.le_refl _)
theorem Lx.set {w0 w : World} {d : Dg} (h : Lx w0 w d) {g : Nat} (hg : w0.heap.size < g) (j : Nat) (u : Value) : Lx w0 (w.setCell ⟨g, j, none⟩ u) d :=
  ⟨h.bel.setCell (by show w0.heap.size ≤ g; omega) u, h.box.other_ (by omega) j u, h.tab.below ((Below.refl g w).setCell (Nat.le_refl _) u) (by omega)⟩
theorem Lx.l80 {d : Dg} (h : lightG d = true) : d.bs.length ≤ 80 ∧ ∀ b ∈ d.bs, b.args.length ≤ 10 := by
  unfold lightG at h
  simp only [Bool.and_eq_true, decide_eq_true_eq, List.all_eq_true] at h
  exact ⟨h.1.2.1, h.2⟩
theorem made_ints (n : Nat) : (madeCells (Value.int .i64 0).cells (n * 1)).toList = ints (List.replicate n 0) := by
  simp only [Value.cells, Nat.mul_one, ints, List.map_replicate]
  exact toList_madeCells_one _ _
theorem ownI_made {w : World} {base g n : Nat} (h : w.ownsRow base 3 1 (.slice (some ⟨g, 0, none⟩) n n) n (madeCells (Value.int .i64 0).cells (n * 1)).toList) : OwnI w base (.slice (some ⟨g, 0, none⟩) n n) (List.replicate n 0) := by
  rw [made_ints] at h
  unfold OwnI
  rw [List.length_replicate]
  exact h

/-- Whether a block is an input whose port has another scale. -/
def mvB (ps : List Prt) (f : Int) (b : Bk) : Bool := b.kind == 0 && decide ((ps[(b.args[0]?.getD 0).toNat]?.getD prt0).fr ≠ f)
def wK (ps : List Prt) (bs : List Bk) (f : Int) (k : Nat) : Nat := ((bs.take k).filter (mvB ps f)).length
theorem wK_yes {ps : List Prt} {bs : List Bk} {f : Int} {k : Nat} {b : Bk} (h : bs[k]? = some b) (hb : mvB ps f b = true) : wK ps bs f (k + 1) = wK ps bs f k + 1 := by
  unfold wK
  rw [List.take_add_one, h]
  simp [List.filter_append, hb]
theorem wK_no {ps : List Prt} {bs : List Bk} {f : Int} {k : Nat} {b : Bk} (h : bs[k]? = some b) (hb : mvB ps f b = false) : wK ps bs f (k + 1) = wK ps bs f k := by
  unfold wK
  rw [List.take_add_one, h]
  simp [List.filter_append, hb]
theorem wK_le (ps : List Prt) (bs : List Bk) (f : Int) (k : Nat) : wK ps bs f k ≤ k := Nat.le_trans (List.length_filter_le _ _) (List.length_take_le _ _)
theorem mvB_0 {ps : List Prt} {f : Int} {b : Bk} {a : Nat} {p : Prt} (hk : b.kind = 0) (ha : b.args[0]? = some (a : Int)) (hp : ps[a]? = some p) : mvB ps f b = decide (p.fr ≠ f) := by
  unfold mvB
  rw [hk, ha, Option.getD_some, Int.toNat_natCast, hp]
  simp
theorem mvB_n {ps : List Prt} {f : Int} {b : Bk} (hk : ¬ b.kind = 0) : mvB ps f b = false := by
  unfold mvB
  simp [hk]
theorem shK_uni {ps : List Prt} {bs : List Bk} {os : List Int} {f : Int} (h : dgErr ps bs os = 0) : ∀ k, k ≤ bs.length → shK ps bs (List.replicate bs.length f) k = wK ps bs f k
  | 0, _ => rfl
  | k + 1, hk => by
    have ih := shK_uni h (f := f) k (by omega)
    have hb : bs[k]? = some bs[k] := List.getElem?_eq_getElem (by omega)
    obtain ⟨b, hbe⟩ : ∃ b, b = bs[k] := ⟨_, rfl⟩
    rw [← hbe] at hb
    have ha := blk_args (dgb h hb)
    have h2 : (List.replicate bs.length f)[k]? = some f := by rw [List.getElem?_replicate]; exact if_pos (by omega)
    rw [shK_succ hb, ih]
    by_cases hk0 : b.kind = 0
    · have hl := ha.2.1
      rw [hk0] at hl
      have h1 : arityM 0 = 1 := by decide
      obtain ⟨a, hae⟩ : ∃ a, b.args = [a] := List.length_eq_one_iff.1 (by omega)
      have har := ha.2.2 a (by rw [hae]; exact List.mem_cons_self)
      unfold mostM at har
      rw [if_pos hk0] at har
      obtain ⟨n, rfl⟩ := Int.eq_ofNat_of_zero_le har.1
      have hp : ps[n]? = some ps[n] := List.getElem?_eq_getElem (by omega)
      have e1 : mvB ps f b = decide ((ps[n]'(by omega)).fr ≠ f) := mvB_0 hk0 (by rw [hae]; rfl) hp
      have e2 : shB ps (List.replicate bs.length f) k b = if decide ((ps[n]'(by omega)).fr ≠ f) = true then 1 else 0 := by
        unfold shB
        rw [h2, hae, hk0, Option.getD_some, List.filter_cons, sh1_0 hp]
        split <;> rfl
      rw [e2]
      by_cases hd : decide ((ps[n]'(by omega)).fr ≠ f) = true
      · rw [if_pos hd, wK_yes hb (e1.trans hd)]
      · rw [if_neg hd, wK_no hb (e1.trans (by simpa using hd))]; rfl
    · rw [wK_no hb (mvB_n hk0)]
      have : shB ps (List.replicate bs.length f) k b = 0 := by
        unfold shB
        rw [List.length_eq_zero_iff, List.filter_eq_nil_iff]
        intro a hm
        have har := ha.2.2 a hm
        unfold mostM at har
        rw [if_neg hk0] at har
        obtain ⟨n, rfl⟩ := Int.eq_ofNat_of_zero_le har.1
        have h1 : (List.replicate bs.length f)[n]? = some f := by rw [List.getElem?_replicate]; exact if_pos (by omega)
        rw [sh1_n hk0 h1, h2]
        simp
      omega
theorem filt_diff {α : Type} {p q r : α → Bool} : ∀ l : List α, (∀ a ∈ l, r a = false → p a = q a) → (l.filter p).length ≤ (l.filter q).length + (l.filter r).length
  | [], _ => by simp
  | x :: l, h => by
    have ih := filt_diff l (fun a ha => h a (List.mem_cons_of_mem _ ha))
    have hx := h x List.mem_cons_self
    simp only [List.filter_cons]
    cases hr : r x with
    | true => cases hp : p x <;> cases hq : q x <;> simp <;> omega
    | false =>
      rw [hx hr]
      cases hq : q x <;> simp <;> omega
/-- How often a block has another as an argument. -/
def tB (i0 : Nat) (b : Bk) : Nat := if b.kind = 0 then 0 else (b.args.filter (fun a => a == (i0 : Int))).length
def TT (bs : List Bk) (i0 : Nat) : Nat → Nat
  | 0 => 0
  | k + 1 => TT bs i0 k + tB i0 (bs[k]?.getD bk0)
theorem TT_succ {bs : List Bk} {i0 k : Nat} {b : Bk} (h : bs[k]? = some b) : TT bs i0 (k + 1) = TT bs i0 k + tB i0 b := by
  show TT bs i0 k + tB i0 (bs[k]?.getD bk0) = _
  rw [h]
  rfl
theorem shB_move {ps : List Prt} {bs : List Bk} {os F G : List Int} {i0 k : Nat} {b : Bk} (h : dgErr ps bs os = 0) (hb : bs[k]? = some b) (hd : ∀ j, j ≠ i0 → G[j]? = F[j]?) :
    shB ps G k b ≤ shB ps F k b + tB i0 b + (if k = i0 then b.args.length else 0) := by
  have ha := blk_args (dgb h hb)
  by_cases hk : k = i0
  · rw [if_pos hk]
    have : shB ps G k b ≤ b.args.length := List.length_filter_le _ _
    omega
  · rw [if_neg hk]
    unfold shB tB
    rw [hd k hk]
    by_cases hk0 : b.kind = 0
    · rw [if_pos hk0]
      have e : ∀ f, sh1 ps G b.kind f = sh1 ps F b.kind f := fun f => by funext a; unfold sh1; rw [if_pos hk0, if_pos hk0]
      rw [e]
      omega
    · rw [if_neg hk0]
      refine filt_diff _ fun a hm hr => ?_
      have har := ha.2.2 a hm
      unfold sh1
      rw [if_neg hk0, if_neg hk0, hd a.toNat (fun hh => by rw [beq_eq_false_iff_ne] at hr; omega)]
theorem shK_move {ps : List Prt} {bs : List Bk} {os F G : List Int} {i0 : Nat} (h : dgErr ps bs os = 0) (hd : ∀ j, j ≠ i0 → G[j]? = F[j]?) : ∀ k, k ≤ bs.length →
    shK ps bs G k ≤ shK ps bs F k + TT bs i0 k + (if i0 < k then (bs[i0]?.getD bk0).args.length else 0)
  | 0, _ => Nat.zero_le _
  | k + 1, hk => by
    have ih := shK_move h hd k (by omega)
    have hb : bs[k]? = some bs[k] := List.getElem?_eq_getElem (by omega)
    obtain ⟨b, hbe⟩ : ∃ b, b = bs[k] := ⟨_, rfl⟩
    rw [← hbe] at hb
    have hm := shB_move (i0 := i0) h hb hd
    rw [shK_succ hb, shK_succ hb, TT_succ hb]
    by_cases hk0 : k = i0
    · subst hk0
      rw [if_pos rfl] at hm
      rw [if_pos (by omega), hb, Option.getD_some]
      rw [if_neg (by omega)] at ih
      omega
    · rw [if_neg hk0] at hm
      by_cases hlt : i0 < k
      · rw [if_pos hlt] at ih
        rw [if_pos (by omega)]
        omega
      · rw [if_neg hlt] at ih
        rw [if_neg (by omega)]
        omega
theorem TT_le {bs : List Bk} {i0 : Nat} (hl : ∀ b ∈ bs, b.args.length ≤ 10) : ∀ k, k ≤ bs.length → TT bs i0 k ≤ 10 * k
  | 0, _ => Nat.le_refl _
  | k + 1, hk => by
    have ih := TT_le (i0 := i0) hl k (by omega)
    have hb : bs[k]? = some bs[k] := List.getElem?_eq_getElem (by omega)
    rw [TT_succ hb]
    have h1 := hl _ (List.mem_of_getElem? hb)
    have : tB i0 bs[k] ≤ (bs[k]).args.length := by
      unfold tB
      split
      · omega
      · exact List.length_filter_le _ _
    omega
theorem set_ne {F : List Int} {i0 : Nat} {g : Int} : ∀ j, j ≠ i0 → (F.set i0 g)[j]? = F[j]? := fun j hj => List.getElem?_set_ne (fun h => hj h.symm)
def mv1 (w5 : World) (base g c n : Nat) (f : Int) (i : Value) (wr : World) : Prop := ∃ k : Nat, k ≤ n ∧ i = .int .i64 (k : Int) ∧ OwnI wr base (.slice (some ⟨g, 0, none⟩) n c) (mix (List.replicate n f) (List.replicate n 0) k) ∧ Below base w5 wr
def mv2 (W : World) (ps : List Prt) (bs : List Bk) (f : Int) (n i : Value) (wr : World) : Prop := ∃ k : Nat, k ≤ bs.length ∧ i = .int .i64 (k : Int) ∧ n = .int .i64 (wK ps bs f k : Int) ∧ Below W.heap.size W wr
def mv3 (W : World) (A0 : Nat) (bs : List Bk) (i0 : Nat) (n i : Value) (wr : World) : Prop := ∃ k : Nat, k ≤ bs.length ∧ i = .int .i64 (k : Int) ∧ n = .int .i64 ((A0 + TT bs i0 k : Nat) : Int) ∧ Below W.heap.size W wr
def mv4 (W : World) (S i0 : Nat) (args : List Int) (n i : Value) (wr : World) : Prop := ∃ t : Nat, t ≤ args.length ∧ i = .int .i64 (t : Int) ∧ n = .int .i64 ((S + ((args.take t).filter (fun a => a == (i0 : Int))).length : Nat) : Int) ∧ wr = W
end Go.Proofs.YtejnnljjmafjaaaDoor
