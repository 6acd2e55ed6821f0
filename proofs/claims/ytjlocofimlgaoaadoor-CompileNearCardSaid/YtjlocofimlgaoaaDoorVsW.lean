/- Code told on values: what came in is data. No conditions. -/
import Derived.Test.YtjlocofimlgaoaaDoorVsP
namespace Go.Proofs.YtjlocofimlgaoaaDoor
set_option linter.unusedVariables false
set_option linter.unusedSimpArgs false
set_option linter.unusedSectionVars false
open Go.ChangeShapes Go.WideShapes Go.ChangeAt Go.RowKit Go.Joins Go.Deep

/-- All that lies there, marked as the caller's. -/
def AllS (w : World) : Sets := fun t b => t = true ∧ b < w.heap.size
theorem row_in {w : World} {A : Option Addr} {s n c : Nat} {cs : List D} {xs : List Value} (h : CellsAt w w.heap.size A xs) (hc : n ≤ c) (hA : A = none → c = 0) (hl : cs.length = n * s) (hr : LRel (DRel w (AllS w)) cs xs) : DRel w (AllS w) (.row true s n cs) (.slice A n c) := by
  refine .row xs hc hA hl hr.1 (fun hne => ?_) hr.2
  obtain ⟨b, off, h1, _, h2, h3⟩ := h (fun h0 => hne (by have := hr.1; rw [h0] at this; exact List.eq_nil_of_length_eq_zero (by simpa using this)))
  exact ⟨b, off, h1, ⟨rfl, h2⟩, h3⟩
theorem ints_one {zs : List Int} : ∀ v ∈ ints zs, v.oneCell' = true := fun v hv => by
  obtain ⟨z, _, rfl⟩ := List.mem_map.1 hv
  rfl
theorem rowI_in {w : World} {A : Option Addr} {zs : List Int} {c : Nat} (h : CellsAt w w.heap.size A (ints zs)) (hc : zs.length ≤ c) (hA : A = none → c = 0) : DRel w (AllS w) (rowI true zs) (.slice A zs.length c) := by
  unfold rowI
  rw [dI_map]
  exact row_in h hc hA (by simp [ints]) (rel_vals ints_one)
theorem prt_one {ps : List Prt} : ∀ v ∈ flat Prt.cells ps, v.oneCell' = true := fun v hv => by
  obtain ⟨l, hl, hv⟩ := List.mem_flatten.1 hv
  obtain ⟨p, _, rfl⟩ := List.mem_map.1 hl
  simp only [Prt.cells, List.mem_cons, List.not_mem_nil, or_false] at hv
  rcases hv with rfl | rfl | rfl <;> rfl
theorem flat_lenV {α : Type} {f : α → List Value} {s : Nat} (hf : ∀ x, (f x).length = s) : ∀ l : List α, (flat f l).length = l.length * s
  | [] => by simp [flat]
  | x :: l => by
    have ih := flat_lenV hf l
    unfold flat at ih ⊢
    rw [List.map_cons, List.flatten_cons, List.length_append, ih, hf, List.length_cons, Nat.add_mul]
    omega
theorem rowP_in {w : World} {A : Option Addr} {ps : List Prt} {c : Nat} (h : CellsAt w w.heap.size A (flat Prt.cells ps)) (hc : ps.length ≤ c) (hA : A = none → c = 0) : DRel w (AllS w) (rowP true ps) (.slice A ps.length c) := by
  unfold rowP
  rw [flatD_vals dPrt_vals]
  exact row_in h hc hA (by rw [List.length_map]; exact flat_lenV (f := Prt.cells) (s := 3) (fun _ => rfl) ps) (rel_vals prt_one)
theorem bks_in {w : World} : ∀ {bs : List Bk}, (∀ b ∈ bs, CellsAt w w.heap.size b.A (ints b.args) ∧ b.args.length ≤ b.cap ∧ (b.A = none → b.cap = 0)) → LRel (DRel w (AllS w)) (flatD (dBk true) bs) (flat Bk.cells bs)
  | [], _ => .nil_
  | b :: bs, h => by
    have ih := bks_in (w := w) (bs := bs) fun x hx => h x (by simp [hx])
    obtain ⟨h1, h2, h3⟩ := h b (by simp)
    exact .cons_ (.val rfl) (.cons_ (rowI_in h1 h2 h3) (.cons_ (.val rfl) (.cons_ (.val rfl) (.cons_ (.val rfl) (.cons_ (.val rfl) ih)))))
theorem bks_len (t : Bool) : ∀ bs : List Bk, (flatD (dBk t) bs).length = bs.length * 6
  | [] => rfl
  | b :: bs => by
    have ih := bks_len t bs
    show (flatD (dBk t) ([b] ++ bs)).length = _
    rw [flatD_app, List.length_append, ih, List.length_cons, Nat.add_mul]
    show 6 + bs.length * 6 = _
    omega
section
variable {H : Type} {enc : TypeId × Value → H} {w : World} {spare : Nat → Bool} {held : Bool}
set_option maxRecDepth 100000 in
theorem open_dgA {r : Go.Reach} {b0 : Nat} {v : Value} {d : DataW H} {p : List MemPlace} (hv : Value.okWide Tryd.prog w r b0 46 v) (h : DataW.Trod enc Tryd.prog w 0 spare held 46 v d p) :
    ∃ (ps : List Prt) (bs : List Bk) (os : List Int), ARel w (AllS w) (aDg true ps bs os) v := by
  obtain ⟨v0, v1, v2, y0, y1, y2, m, rfl, rfl, rfl, g0, g1, g2⟩ := open_agg3 Tryd.underlying46 (by kernel_rfl) (by kernel_rfl) hv h
  obtain ⟨A1, c1, ps, rfl, n1, k1, l1, h1, b1⟩ := rows_of_cell prtOf prtOf_cells (fun _ => rfl) (by decide) Tryd.underlying42 Tryd.underlying72 (by kernel_rfl) (fields_int (by kernel_rfl)) (by kernel_rfl) rfl g0
  obtain ⟨A2, c2, bs, e2, l2, h2, b2⟩ := blks_of_cell g1
  obtain ⟨A3, c3, os, rfl, n3, k3, l3, h3, b3⟩ := ints_of_cell' Tryd.underlying44 Tryd.underlying3 (by kernel_rfl) g2
  have hs : (A2 = none → c2 = 0) ∧ bs.length ≤ c2 := by
    rcases open_slice Tryd.underlying43 g1 with ⟨hcs, _⟩ | ⟨a, len, cap, m, n, D, Pl, hcs, _, hl, hm, hmm, _, hx⟩
    · have e3 : v1 = .slice none 0 0 := by simpa using hcs
      rw [e2] at e3
      simp only [Value.slice.injEq] at e3
      exact ⟨fun _ => e3.2.2, by omega⟩
    · have e3 : v1 = .slice (some a) len cap := by simpa using hcs
      rw [e2] at e3
      simp only [Value.slice.injEq] at e3
      exact ⟨fun h0 => (by rw [e3.1] at h0; cases h0), by omega⟩
  refine ⟨ps, bs, os, [.slice A1 ps.length c1, v1, .slice A3 os.length c3], rfl, ?_⟩
  rw [e2]
  exact .cons_ (rowP_in h1 k1 n1) (.cons_ (row_in h2 hs.2 hs.1 (bks_len true bs) (bks_in fun b hb => ⟨(b2 b hb).2.2.2.1, (b2 b hb).2.1, (b2 b hb).1⟩)) (.cons_ (rowI_in h3 k3 n3) .nil_))
set_option maxRecDepth 100000 in
theorem open_intsA {r : Go.Reach} {b0 : Nat} {v : Value} {d : DataW H} {p : List MemPlace} (hv : Value.okWide Tryd.prog w r b0 44 v) (h : DataW.Trod enc Tryd.prog w 0 spare held 44 v d p) :
    ∃ zs : List Int, ARel w (AllS w) (.one (rowI true zs)) v := by
  obtain ⟨a0, len, cap, rfl⟩ := okWide_slice Tryd.underlying44 hv
  obtain ⟨fuel, hf⟩ := h
  obtain ⟨A, c, zs, hvz, n, k, l, hc, b⟩ := ints_of_cell' Tryd.underlying44 Tryd.underlying3 (by kernel_rfl) hf
  exact ⟨zs, by rw [hvz]; exact rowI_in hc k n⟩
end
end Go.Proofs.YtjlocofimlgaoaaDoor
