/- What the proofs of this claim share, part 18. No conditions. -/
import Derived.Test.YtfooonellkgaeaaDoorKe17
import Derived.Test.YtfooonellkgaeaaDoorKe16
import Derived.Test.YtfooonellkgaeaaDoorKe10
import Derived.Test.YtfooonellkgaeaaDoorKe6
import Derived.Test.YtfooonellkgaeaaDoorKe5
import Derived.Test.YtfooonellkgaeaaDoorKe13
import Derived.Deep.AppendLies
import Derived.Deep.RegionLaw
set_option maxRecDepth 100000
set_option maxHeartbeats 4000000
set_option linter.unusedVariables false
set_option linter.unusedSimpArgs false
set_option linter.unusedSectionVars false
namespace Go.Proofs.YtfooonellkgaeaaDoor
open Go.RowKit Go.Deep
def zBlk : Value := .agg #[.int .i64 0, .slice none 0 0, .int .i64 0, .int .i64 0, .int .i64 0, .int .i64 0]
def OwnB (w : World) (base : Nat) (v : Value) (l : List Bk) : Prop := w.ownsRow base 66 6 v l.length (flat Bk.cells l)
end Go.Proofs.YtfooonellkgaeaaDoor
namespace Go.Proofs.YtfooonellkgaeaaDoor
open Go.RowKit
def core (b : Bk) : Int × List Int × Int × Int × Int × Int := (b.kind, b.args, b.vn, b.ve, b.un, b.ue)
def markO (n : Nat) (os : List Int) : List Bool := os.foldl (fun m o => m.set o.toNat true) (List.replicate n false)
def keptM (bs : List Bk) (os : List Int) : List Bool := passes bs true bs.length (markO bs.length os)
def keptL (bs : List Bk) (os : List Int) : List Nat := markL (keptM bs os)
def OutsOk (n : Nat) (os : List Int) : Prop := ∀ o ∈ os, 0 ≤ o ∧ o < (n : Int)
structure PrI (bs : List Bk) (os : List Int) (t : Nat) (m : List Bool) : Prop where
  len : m.length = bs.length
  is : ∀ j, isM m j = true ↔ ∃ o ∈ os.take t, Reach bs true o.toNat j
/- New numbers. -/
def renA (L : List Nat) (a : Int) : Int := if a.toNat ∈ L then ((L.idxOf a.toNat : Nat) : Int) else 0
def numT (n : Nat) (L : List Nat) (t : Nat) : List Int := (List.range n).map fun j => if j ∈ L.take t then ((L.idxOf j : Nat) : Int) else 0
def prB (L : List Nat) (b : Bk) : Bk := ⟨b.kind, none, if b.kind = 0 then b.args else b.args.map (renA L), 0, b.vn, b.ve, b.un, b.ue⟩
def prBs (bs : List Bk) (os : List Int) : List Bk := (keptL bs os).map fun i => prB (keptL bs os) (bs[i]?.getD bk0)
def prOs (bs : List Bk) (os : List Int) : List Int := os.map (renA (keptL bs os))
end Go.Proofs.YtfooonellkgaeaaDoor
namespace Go.Proofs.YtfooonellkgaeaaDoor
open Go.RowKit Go.Deep
def zPrt : Value := .agg #[.int .i64 0, .int .i64 0, .int .i64 0]
def OwnP (w : World) (base : Nat) (v : Value) (l : List Prt) : Prop := w.ownsRow base 69 3 v l.length (flat Prt.cells l)
end Go.Proofs.YtfooonellkgaeaaDoor
namespace Go.Proofs.YtfooonellkgaeaaDoor
open Go.RowKit
structure Nz (d : Dg) : Prop where
  n1 : d.A1 = none → d.c1 = 0
  n4 : ∀ b ∈ d.bs, b.A = none → b.cap = 0
def PruneP (ps : List Prt) (l : List Bk) (os : List Int) (kept : List Int) (er : Int) (w : World) (e : Ending) (w' : World) : Prop :=
  ∃ (d' : Dg) (v : Value), e = .returned (.tuple #[d'.val, v, errV er]) ∧ DgAt w' w'.heap.size d' ∧ Nz d' ∧ d'.ps = ps ∧ d'.bs.map core = l.map core ∧ d'.os = os ∧ OwnI w' w.heap.size v kept ∧ Below w.heap.size w w'
def pg1 (w : World) (bs : List Bk) (os : List Int) (g : Nat) (w2 : World) (v : Value) (wr : World) : Prop :=
  ∃ (t : Nat) (m : List Bool), t ≤ os.length ∧ v = .int .i64 (t : Int) ∧ PrI bs os t m ∧ RowD wr g (bools m) 4 ∧ Apart g w2 wr
def pg2 (n : Nat) (L : List Nat) (gi : Nat) (w5 : World) (v : Value) (wr : World) : Prop :=
  ∃ t : Nat, t ≤ L.length ∧ v = .int .i64 (t : Int) ∧ RowD wr gi (ints (numT n L t)) 3 ∧ Apart gi w5 wr
structure BkOwn (w : World) (base : Nat) (l : List Bk) : Prop where
  args : ∀ x ∈ l, OwnI w base (.slice x.A x.args.length x.cap) x.args ∧ x.args.length ≤ 1000000
def wantK (bs : List Bk) (L : List Nat) (k : Nat) : List Bk := (L.take k).map fun i => prB L (bs[i]?.getD bk0)
def pg3 (bs : List Bk) (L : List Nat) (PV : Value) (OB : Nat) (w17 : World) (v : Value) (wr : World) : Prop :=
  ∃ (k : Nat) (V : Value) (l : List Bk), k ≤ L.length ∧ v = .int .i64 (k : Int) ∧ RowD wr OB [PV, V, .slice none 0 0] 41 ∧ OwnB wr (OB + 1) V l ∧ l.map core = (wantK bs L k).map core ∧ BkOwn wr (OB + 1) l ∧ Below OB w17 wr
def pg4 (S : Nat) (box : List Value) (zs : List Int) (wr : World) (v17 v81 : Value) (w9 : World) : Prop :=
  ∃ (t : Nat) (v : Value), t ≤ zs.length ∧ v81 = .int .i64 (t : Int) ∧ v17 = v ∧ OwnI w9 (S + 1) v (zs.take t) ∧ RowD w9 S box 66 ∧ Below S wr w9
def pg5 (os' : List Int) (PV V : Value) (OB : Nat) (w33 : World) (v : Value) (wr : World) : Prop :=
  ∃ (t : Nat) (V5 : Value), t ≤ os'.length ∧ v = .int .i64 (t : Int) ∧ RowD wr OB [PV, V, V5] 41 ∧ OwnI wr w33.heap.size V5 (os'.take t) ∧ Apart OB w33 wr
end Go.Proofs.YtfooonellkgaeaaDoor
namespace Go.Proofs.YtfooonellkgaeaaDoor
open Go.RowKit
def RPruneP (ps : List Prt) (l : List Bk) (os : List Int) (kept : List Int) (w : World) (e : Ending) (w' : World) : Prop :=
  ∃ (d' : Dg) (v : Value), e = .returned (.tuple #[d'.val, v]) ∧ DgAt w' w'.heap.size d' ∧ Nz d' ∧ d'.ps = ps ∧ d'.bs.map core = l.map core ∧ d'.os = os ∧ OwnI w' w.heap.size v kept ∧ Below w.heap.size w w'
def pd1 (bs : List Bk) (os : List Int) (g : Nat) (w2 : World) (v : Value) (wr : World) : Prop :=
  ∃ t : Nat, t ≤ os.length ∧ v = .int .i64 (t : Int) ∧ RowD wr g (bools (setsT os (List.replicate bs.length false) t)) 4 ∧ Apart g w2 wr
def pd4 (S : Nat) (box : List Value) (zs args : List Int) (wo : World) (A17 : Option Addr) (c17 : Nat) (v80 : Value) (w9 : World) : Prop :=
  ∃ t : Nat, t ≤ args.length ∧ v80 = .int .i64 (t : Int) ∧ OwnI w9 (S + 1) (.slice A17 args.length c17) (mix zs args t) ∧ RowD w9 S box 66 ∧ Below S wo w9
end Go.Proofs.YtfooonellkgaeaaDoor
namespace Go.Proofs.YtfooonellkgaeaaDoor
open Go.ChangeShapes Go.WideShapes Go.ChangeAt Go.RowKit Go.Joins Go.Deep
def AllS (w : World) : Sets := fun t b => t = true ∧ b < w.heap.size
theorem row_in {w : World} {A : Option Addr} {s n c : Nat} {cs : List D} {xs : List Value} (h : CellsAt w w.heap.size A xs) (hc : n ≤ c) (hA : A = none → c = 0) (hl : cs.length = n * s) (hr : LRel (DRel w (AllS w)) cs xs) : DRel w (AllS w) (.row true s n cs) (.slice A n c) := by
  refine .row xs hc hA hl hr.1 (fun hne => ?_) hr.2
  obtain ⟨b, off, h1, _, h2, h3⟩ := h (fun h0 => hne (by have := hr.1; rw [h0] at this; exact List.eq_nil_of_length_eq_zero (by simpa using this)))
  exact ⟨b, off, h1, ⟨rfl, h2⟩, h3⟩
theorem ints_one {zs : List Int} : ∀ v ∈ ints zs, v.oneCell' = true := fun v hv => by
  obtain ⟨z, _, rfl⟩ := List.mem_map.1 hv
  rfl
theorem rowI_in {w : World} {A : Option Addr} {zs : List Int} {c : Nat} (h : CellsAt w w.heap.size A (ints zs)) (hc : zs.length ≤ c) (hA : A = none → c = 0) : DRel w (AllS w) (rowI true zs) (.slice A zs.length c) := by
  unfold rowI
  rw [dI_map]
  exact row_in h hc hA (by simp [ints]) (rel_vals ints_one)
theorem prt_one {ps : List Prt} : ∀ v ∈ flat Prt.cells ps, v.oneCell' = true := fun v hv => by
  obtain ⟨l, hl, hv⟩ := List.mem_flatten.1 hv
  obtain ⟨p, _, rfl⟩ := List.mem_map.1 hl
  simp only [Prt.cells, List.mem_cons, List.not_mem_nil, or_false] at hv
  rcases hv with rfl | rfl | rfl <;> rfl
theorem flat_lenV {α : Type} {f : α → List Value} {s : Nat} (hf : ∀ x, (f x).length = s) : ∀ l : List α, (flat f l).length = l.length * s
  | [] => by simp [flat]
  | x :: l => by
    have ih := flat_lenV hf l
    unfold flat at ih ⊢
    rw [List.map_cons, List.flatten_cons, List.length_append, ih, hf, List.length_cons, Nat.add_mul]
    omega
theorem rowP_in {w : World} {A : Option Addr} {ps : List Prt} {c : Nat} (h : CellsAt w w.heap.size A (flat Prt.cells ps)) (hc : ps.length ≤ c) (hA : A = none → c = 0) : DRel w (AllS w) (rowP true ps) (.slice A ps.length c) := by
  unfold rowP
  rw [flatD_vals dPrt_vals]
  exact row_in h hc hA (by rw [List.length_map]; exact flat_lenV (f := Prt.cells) (s := 3) (fun _ => rfl) ps) (rel_vals prt_one)
theorem bks_in {w : World} : ∀ {bs : List Bk}, (∀ b ∈ bs, CellsAt w w.heap.size b.A (ints b.args) ∧ b.args.length ≤ b.cap ∧ (b.A = none → b.cap = 0)) → LRel (DRel w (AllS w)) (flatD (dBk true) bs) (flat Bk.cells bs)
  | [], _ => .nil_
  | b :: bs, h => by
    have ih := bks_in (w := w) (bs := bs) fun x hx => h x (by simp [hx])
    obtain ⟨h1, h2, h3⟩ := h b (by simp)
    exact .cons_ (.val rfl) (.cons_ (rowI_in h1 h2 h3) (.cons_ (.val rfl) (.cons_ (.val rfl) (.cons_ (.val rfl) (.cons_ (.val rfl) ih)))))
theorem bks_len (t : Bool) : ∀ bs : List Bk, (flatD (dBk t) bs).length = bs.length * 6
  | [] => rfl
  | b :: bs => by
    have ih := bks_len t bs
    show (flatD (dBk t) ([b] ++ bs)).length = _
    rw [flatD_app, List.length_append, ih, List.length_cons, Nat.add_mul]
    show 6 + bs.length * 6 = _
    omega
section
variable {H : Type} {enc : TypeId × Value → H} {w : World} {spare : Nat → Bool} {held : Bool}
theorem open_dgA {r : Go.Reach} {b0 : Nat} {v : Value} {d : DataW H} {p : List MemPlace} (hv : Value.okWide Tryd.prog w r b0 41 v) (h : DataW.Trod enc Tryd.prog w 0 spare held 41 v d p) :
    ∃ (ps : List Prt) (bs : List Bk) (os : List Int), ARel w (AllS w) (aDg true ps bs os) v := by
  obtain ⟨v0, v1, v2, y0, y1, y2, m, rfl, rfl, rfl, g0, g1, g2⟩ := open_agg3 Tryd.underlying41 (by kernel_rfl) (by kernel_rfl) hv h
  obtain ⟨A1, c1, ps, rfl, n1, k1, l1, h1, b1⟩ := rows_of_cell prtOf prtOf_cells (fun _ => rfl) (by decide) Tryd.underlying37 Tryd.underlying69 (by kernel_rfl) (fields_int (by kernel_rfl)) (by kernel_rfl) rfl g0
  obtain ⟨A2, c2, bs, e2, l2, h2, b2⟩ := blks_of_cell g1
  obtain ⟨A3, c3, os, rfl, n3, k3, l3, h3, b3⟩ := ints_of_cell' Tryd.underlying39 Tryd.underlying3 (by kernel_rfl) g2
  have hs : (A2 = none → c2 = 0) ∧ bs.length ≤ c2 := by
    rcases open_slice Tryd.underlying38 g1 with ⟨hcs, _⟩ | ⟨a, len, cap, m, n, D, Pl, hcs, _, hl, hm, hmm, _, hx⟩
    · have e3 : v1 = .slice none 0 0 := by simpa using hcs
      rw [e2] at e3
      simp only [Value.slice.injEq] at e3
      exact ⟨fun _ => e3.2.2, by omega⟩
    · have e3 : v1 = .slice (some a) len cap := by simpa using hcs
      rw [e2] at e3
      simp only [Value.slice.injEq] at e3
      exact ⟨fun h0 => (by rw [e3.1] at h0; cases h0), by omega⟩
  refine ⟨ps, bs, os, [.slice A1 ps.length c1, v1, .slice A3 os.length c3], rfl, ?_⟩
  rw [e2]
  exact .cons_ (rowP_in h1 k1 n1) (.cons_ (row_in h2 hs.2 hs.1 (bks_len true bs) (bks_in fun b hb => ⟨(b2 b hb).2.2.2.1, (b2 b hb).2.1, (b2 b hb).1⟩)) (.cons_ (rowI_in h3 k3 n3) .nil_))
end
end Go.Proofs.YtfooonellkgaeaaDoor
namespace Go.Proofs.YtfooonellkgaeaaDoor
open Go.RowKit
def PruneF (ps : List Prt) (l0 : List Bk) (os : List Int) (kept : List Int) (w : World) (e : Ending) (w' : World) : Prop :=
  ∃ (v1 v2 v3 v : Value) (l : List Bk), e = .returned (.tuple #[.agg #[v1, v2, v3], v, .nilIface]) ∧ (∃ A c, v1 = .slice A ps.length c ∧ (A = none → c = 0) ∧ ps.length ≤ c ∧ (∀ a : Addr, A = some a → w.heap.size ≤ a.block) ∧ CellsAt w' w'.heap.size A (flat Prt.cells ps)) ∧ OwnB w' w.heap.size v2 l ∧ BkOwn w' w.heap.size l ∧ l.map core = l0.map core ∧ OwnI w' w.heap.size v3 os ∧ OwnI w' w.heap.size v kept ∧ Below w.heap.size w w'
def StRel (bs : List Bk) (os : List Int) (st st' : List (Int × Nat)) : Prop :=
  st'.length = (delL (prBs bs os)).length ∧ ∀ k' i' i : Nat, (delL (prBs bs os))[k']? = some i' → (keptL bs os)[i']? = some i → ∃ k : Nat, (delL bs)[k]? = some i ∧ st'[k']? = st[k]?
section
variable {ps : List Prt} {bs : List Bk} {os : List Int} {st st' : List (Int × Nat)} {ins : List Int}
theorem runQ_four (he : dgErr ps bs os = 0) {ls : List (List Int)} : runQE ps bs os (fitL ps ls) = 0 ∨ runQE ps bs os (fitL ps ls) = 4 := by
  unfold runQE
  rw [if_neg (not_not_intro he)]
  split
  · exact .inr rfl
  · exact run_four he
end
theorem cexp_dT {H : List Ob} {id ty s n : Nat} {c : C} {y : D} {ds : List D} (hc : c = .own id n) (hH : H[id]? = some (.row ty s n (ds.map C.d))) (hy : y = .row true s n ds) : CExp true H c y :=
  cexp_o hc hH hy (LRel.map_l.2 ⟨rfl, fun j a b ha hb => by rw [ha] at hb; cases hb; exact .d fun h => by cases h⟩)
def isW (o : Oper) : Bool := match o.op with
  | .store .. => true
  | .call c => match c.callee with
    | .builtin .append => true
    | _ => false
  | _ => false
def chainW (md : Region.Mode) (ops : Array Oper) : Bool := (List.range ops.size).all fun i => match ops[i]? with
  | none => true
  | some oi => !isW oi || (List.range i).all fun j => match ops[j]? with
    | none => true
    | some oj => !isW oj || (oi.after.any fun e => Region.binds md e && decide (e.on = j)) || (List.range i).any fun k => decide (j < k) && (match ops[k]? with | some ok => isW ok | none => false)
theorem chainW_at {md : Region.Mode} {ops : Array Oper} (h : chainW md ops = true) {i j : Nat} {oi oj : Oper} (hi : ops[i]? = some oi) (hj : ops[j]? = some oj) (wi : isW oi = true) (wj : isW oj = true) (hji : j < i) :
    (∃ e ∈ oi.after, Region.binds md e = true ∧ e.on = j) ∨ ∃ k ok, j < k ∧ k < i ∧ ops[k]? = some ok ∧ isW ok = true := by
  have h1 := List.all_eq_true.1 h i (List.mem_range.2 (Array.getElem?_eq_some_iff.1 hi).1)
  simp only [hi, wi, Bool.not_true, Bool.false_or] at h1
  have h2 := List.all_eq_true.1 h1 j (List.mem_range.2 hji)
  simp only [hj, wj, Bool.not_true, Bool.false_or, Bool.or_eq_true] at h2
  rcases h2 with h2 | h2
  · obtain ⟨e, h3, h4⟩ := (Array.any_eq_true').1 h2
    simp only [Bool.and_eq_true, decide_eq_true_eq] at h4
    exact .inl ⟨e, h3, h4⟩
  · obtain ⟨k, h3, h4⟩ := List.any_eq_true.1 h2
    simp only [Bool.and_eq_true, decide_eq_true_eq] at h4
    obtain ⟨h5, h6⟩ := h4
    cases hk : ops[k]? with
    | none => rw [hk] at h6; cases h6
    | some ok => rw [hk] at h6; exact .inr ⟨k, ok, h5, List.mem_range.1 h3, hk, h6⟩
def waitB (md : Region.Mode) (ops : Array Oper) (i : Nat) : Bool := match ops[i]? with
  | none => false
  | some oi => (List.range ops.size).all fun j => match ops[j]? with
    | none => true
    | some oj => !isW oj || decide (i = j) || (decide (i < j) && ((oj.after.any fun e => Region.binds md e && (decide (e.on = i) || (match ops[e.on]? with | some om => om.after.any fun e => Region.binds md e && decide (e.on = i) | none => false))) || (List.range j).any fun k => decide (i < k) && (match ops[k]? with | some ok => isW ok | none => false))) || (decide (j < i) && ((oi.after.any fun e => Region.binds md e && decide (e.on = j)) || (List.range i).any fun k => decide (j < k) && (match ops[k]? with | some ok => isW ok | none => false)))
theorem any_w {ops : Array Oper} {j i : Nat} (h : ((List.range i).any fun k => decide (j < k) && (match ops[k]? with | some ok => isW ok | none => false)) = true) : ∃ k ok, j < k ∧ k < i ∧ ops[k]? = some ok ∧ isW ok = true := by
  obtain ⟨k, h3, h4⟩ := List.any_eq_true.1 h
  simp only [Bool.and_eq_true, decide_eq_true_eq] at h4
  obtain ⟨h5, h6⟩ := h4
  cases hk : ops[k]? with
  | none => rw [hk] at h6; cases h6
  | some ok => rw [hk] at h6; exact ⟨k, ok, h5, List.mem_range.1 h3, hk, h6⟩
theorem any_e {md : Region.Mode} {o : Oper} {j : Nat} (h : (o.after.any fun e => Region.binds md e && decide (e.on = j)) = true) : ∃ e ∈ o.after, Region.binds md e = true ∧ e.on = j := by
  obtain ⟨e, h3, h4⟩ := (Array.any_eq_true').1 h
  simp only [Bool.and_eq_true, decide_eq_true_eq] at h4
  exact ⟨e, h3, h4⟩
theorem any_e2 {md : Region.Mode} {ops : Array Oper} {o : Oper} {j : Nat} (h : (o.after.any fun e => Region.binds md e && (decide (e.on = j) || (match ops[e.on]? with | some om => om.after.any fun e => Region.binds md e && decide (e.on = j) | none => false))) = true) : ∃ e ∈ o.after, Region.binds md e = true ∧ (e.on = j ∨ ∃ om e2, ops[e.on]? = some om ∧ e2 ∈ om.after ∧ Region.binds md e2 = true ∧ e2.on = j) := by
  obtain ⟨e, h3, h4⟩ := (Array.any_eq_true').1 h
  simp only [Bool.and_eq_true, Bool.or_eq_true, decide_eq_true_eq] at h4
  refine ⟨e, h3, h4.1, h4.2.imp id fun h5 => ?_⟩
  cases hm : ops[e.on]? with
  | none => rw [hm] at h5; cases h5
  | some om =>
    rw [hm] at h5
    obtain ⟨e2, q1, q2, q3⟩ := any_e h5
    exact ⟨om, e2, rfl, q1, q2, q3⟩
theorem waitB_at {md : Region.Mode} {ops : Array Oper} {i j : Nat} {oi oj : Oper} (h : waitB md ops i = true) (hi : ops[i]? = some oi) (hj : ops[j]? = some oj) (wj : isW oj = true) :
    (i < j → (∃ e ∈ oj.after, Region.binds md e = true ∧ (e.on = i ∨ ∃ om e2, ops[e.on]? = some om ∧ e2 ∈ om.after ∧ Region.binds md e2 = true ∧ e2.on = i)) ∨ ∃ k ok, i < k ∧ k < j ∧ ops[k]? = some ok ∧ isW ok = true) ∧ (j < i → (∃ e ∈ oi.after, Region.binds md e = true ∧ e.on = j) ∨ ∃ k ok, j < k ∧ k < i ∧ ops[k]? = some ok ∧ isW ok = true) := by
  unfold waitB at h
  simp only [hi] at h
  have h2 := List.all_eq_true.1 h j (List.mem_range.2 (Array.getElem?_eq_some_iff.1 hj).1)
  simp only [hj, wj, Bool.not_true, Bool.false_or, Bool.or_eq_true, Bool.and_eq_true, decide_eq_true_eq] at h2
  refine ⟨fun hlt => ?_, fun hlt => ?_⟩
  · rcases h2 with (h2 | ⟨_, h2⟩) | ⟨h2, _⟩
    · omega
    · exact h2.imp any_e2 any_w
    · omega
  · rcases h2 with (h2 | ⟨h2, _⟩) | ⟨_, h2⟩
    · omega
    · omega
    · exact h2.imp any_e any_w
section
variable (P : Program) (G : World → Prop) (ops : Array Oper)
def ChM : Nat → List Oper → Frm → List Ob → (Frm → List Ob → Prop) → Prop
  | _, [], F, H, K => K F H
  | i, o :: l, F, H, K => o.guard = none ∧ ((isW o = false ∧ ∃ x, ((∀ H', OpOk P G o F H' x []) ∨ (waitB .any ops i = true ∧ OpOk P G o F H x [])) ∧ ChM (i + 1) l (F.put o.dst x) H K) ∨ (isW o = true ∧ ∃ x H', TOk P G o F H x H' ∧ ChM (i + 1) l (F.put o.dst x) H' K))
end
section
variable {P : Program} {G : World → Prop} {ops : Array Oper}
theorem cm_nil {i : Nat} {F : Frm} {H : List Ob} {K : Frm → List Ob → Prop} (h : K F H) : ChM P G ops i [] F H K := h
theorem cm_o {i : Nat} {o : Oper} {l : List Oper} {F : Frm} {H : List Ob} {K : Frm → List Ob → Prop} {d : Tmp} {x : X} (h : ∀ H', OpOk P G o F H' x []) (k : ChM P G ops (i + 1) l (F.put (some d) x) H K) (hg : o.guard = none := by with_unfolding_all exact rfl) (hw : isW o = false := by with_unfolding_all exact rfl) (hd : o.dst = some d := by with_unfolding_all exact rfl) : ChM P G ops i (o :: l) F H K :=
  ⟨hg, .inl ⟨hw, x, .inl h, by rw [congrArg (fun q => F.put q x) hd]; exact k⟩⟩
theorem cm_r {i : Nat} {o : Oper} {l : List Oper} {F : Frm} {H : List Ob} {K : Frm → List Ob → Prop} {d : Tmp} {x : X} (h : OpOk P G o F H x []) (k : ChM P G ops (i + 1) l (F.put (some d) x) H K) (hb : waitB .any ops i = true := by kernel_rfl) (hg : o.guard = none := by with_unfolding_all exact rfl) (hw : isW o = false := by with_unfolding_all exact rfl) (hd : o.dst = some d := by with_unfolding_all exact rfl) : ChM P G ops i (o :: l) F H K :=
  ⟨hg, .inl ⟨hw, x, .inr ⟨hb, h⟩, by rw [congrArg (fun q => F.put q x) hd]; exact k⟩⟩
theorem cm_w {i : Nat} {o : Oper} {l : List Oper} {F : Frm} {H H' : List Ob} {K : Frm → List Ob → Prop} {d : Tmp} {x : X} (h : TOk P G o F H x H') (k : ChM P G ops (i + 1) l (F.put (some d) x) H' K) (hg : o.guard = none := by with_unfolding_all exact rfl) (hw : isW o = true := by with_unfolding_all exact rfl) (hd : o.dst = some d := by with_unfolding_all exact rfl) : ChM P G ops i (o :: l) F H K :=
  ⟨hg, .inr ⟨hw, x, H', h, by rw [congrArg (fun q => F.put q x) hd]; exact k⟩⟩
theorem cm_s {i : Nat} {o : Oper} {l : List Oper} {F : Frm} {H H' : List Ob} {K : Frm → List Ob → Prop} {x : X} (h : TOk P G o F H x H') (k : ChM P G ops (i + 1) l F H' K) (hg : o.guard = none := by with_unfolding_all exact rfl) (hw : isW o = true := by with_unfolding_all exact rfl) (hd : o.dst = none := by with_unfolding_all exact rfl) : ChM P G ops i (o :: l) F H K :=
  ⟨hg, .inr ⟨hw, x, H', h, by rw [congrArg (fun q => F.put q x) hd]; exact k⟩⟩
theorem ChM.seq : ∀ {l : List Oper} {n : Nat} {F : Frm} {H : List Ob} {K : Frm → List Ob → Prop}, ChM P G ops n l F H K →
    ∃ (Fs : Nat → Frm) (Hs : Nat → List Ob) (xs : Nat → X), Fs 0 = F ∧ Hs 0 = H ∧ K (Fs l.length) (Hs l.length) ∧ ∀ (i : Nat) (o : Oper), l[i]? = some o → Fs (i + 1) = (Fs i).put o.dst (xs i) ∧ o.guard = none ∧
      ((isW o = false ∧ Hs (i + 1) = Hs i ∧ ((∀ H', OpOk P G o (Fs i) H' (xs i) []) ∨ (waitB .any ops (n + i) = true ∧ OpOk P G o (Fs i) (Hs i) (xs i) []))) ∨ (isW o = true ∧ TOk P G o (Fs i) (Hs i) (xs i) (Hs (i + 1))))
  | [], n, F, H, K, h => ⟨fun _ => F, fun _ => H, fun _ => .any, rfl, rfl, h, fun i o hi => by simp at hi⟩
  | o :: l, n, F, H, K, ⟨hg, h⟩ => by
    have key : ∃ x H', ((isW o = false ∧ H' = H ∧ ((∀ H', OpOk P G o F H' x []) ∨ (waitB .any ops n = true ∧ OpOk P G o F H x []))) ∨ (isW o = true ∧ TOk P G o F H x H')) ∧ ChM P G ops (n + 1) l (F.put o.dst x) H' K := by
      rcases h with ⟨h1, x, h2, h3⟩ | ⟨h1, x, H', h2, h3⟩
      · exact ⟨x, H, .inl ⟨h1, rfl, h2⟩, h3⟩
      · exact ⟨x, H', .inr ⟨h1, h2⟩, h3⟩
    obtain ⟨x, H', hx, hc⟩ := key
    obtain ⟨Fs, Hs, xs, h1, h2, h3, h4⟩ := ChM.seq hc
    refine ⟨fun i => match i with | 0 => F | i + 1 => Fs i, fun i => match i with | 0 => H | i + 1 => Hs i, fun i => match i with | 0 => x | i + 1 => xs i, rfl, rfl, by simpa using h3, fun i o' hi => ?_⟩
    rcases i with _ | i
    · simp only [List.getElem?_cons_zero, Option.some.injEq] at hi
      subst hi
      refine ⟨h1, hg, ?_⟩
      show (isW o = false ∧ Hs 0 = H ∧ _) ∨ (isW o = true ∧ TOk P G o F H x (Hs 0))
      rw [h2]
      exact hx
    · simp only [List.getElem?_cons_succ] at hi
      have := h4 i o' hi
      rw [show n + 1 + i = n + (i + 1) by omega] at this
      exact this
structure HInvM (b0 N : Nat) (w0 : World) (S0 : SD) (ops : Array Oper) (Fs : Nat → Frm) (Hs : Nat → List Ob) (listed : Array Bool) (a : Act) (m : Mm) : Prop where
  H : ∃ p, p ≤ ops.size ∧ (∀ (i : Nat) (o : Oper), ops[i]? = some o → isW o = true → (i < p ↔ listed.getD i true = true)) ∧ m.H = Hs p
  cx : Cx b0 m
  tot : Tot m
  frame : ∀ t, (∀ (i : Nat) (o : Oper), ops[i]? = some o → listed.getD i true = false → o.dst ≠ some t) → XRel m (Fs ops.size t) (a.tmps.getD t undef)
  size : a.tmps.size = N
  defers : a.defers = S0.ds
  below : Below b0 w0 m.w
  base : b0 ≤ w0.heap.size
  S : ∀ b, m.S false b → S0 false b ∨ b0 ≤ b
  T : m.S true = S0 true
  ls : listed.size = ops.size
  dep : ∀ (i : Nat) (o : Oper), ops[i]? = some o → listed.getD i true = true → ∀ e ∈ o.after, Region.binds .any e = true → listed.getD e.on true = true
theorem wp_headM {b0 N : Nat} {w0 : World} {S0 : SD} (hG : ∀ w', Below b0 w0 w' → G w') {Q : Exit → Act → World → Prop} (hC : headC .any ops = true) (hW : chainW .any ops = true) (hd : dstB N ops.toList = true)
    {Fs : Nat → Frm} {Hs : Nat → List Ob} {xs : Nat → X}
    (hs : ∀ (i : Nat) (o : Oper), ops[i]? = some o → Fs (i + 1) = (Fs i).put o.dst (xs i) ∧ o.guard = none ∧ ((isW o = false ∧ Hs (i + 1) = Hs i ∧ ((∀ H', OpOk P G o (Fs i) H' (xs i) []) ∨ (waitB .any ops i = true ∧ OpOk P G o (Fs i) (Hs i) (xs i) []))) ∨ (isW o = true ∧ TOk P G o (Fs i) (Hs i) (xs i) (Hs (i + 1)))))
    (hq : ∀ a m, m.H = Hs ops.size → St b0 N w0 S0 (Fs ops.size) a m → Q .normal a m.w) :
    ∀ (f : Nat) (listed : Array Bool) (a : Act) (m : Mm), HInvM b0 N w0 S0 ops Fs Hs listed a m → cntF listed ≤ f → wpAny P .any ops Q f listed a m.w := by
  have opAt : ∀ i, i < ops.size → ∃ o, ops[i]? = some o := fun i hi => ⟨_, Array.getElem?_eq_getElem hi⟩
  have keep : ∀ t d i, i + d ≤ ops.size → (∀ (k : Nat) (o : Oper), i ≤ k → k < i + d → ops[k]? = some o → o.dst ≠ some t) → Fs (i + d) t = Fs i t := fun t d => by
    induction d with
    | zero => intro i _ _; rfl
    | succ d ih =>
      intro i hi hk
      obtain ⟨o, ho⟩ := opAt (i + d) (by omega)
      rw [show i + (d + 1) = i + d + 1 by omega, (hs _ o ho).1, put_at, if_neg (hk (i + d) o (by omega) (by omega) ho)]
      exact ih i (by omega) fun k o' h1 h2 => hk k o' h1 (by omega)
  have still : ∀ d p, p + d ≤ ops.size → (∀ (k : Nat) (o : Oper), p ≤ k → k < p + d → ops[k]? = some o → isW o = false) → Hs (p + d) = Hs p := fun d => by
    induction d with
    | zero => intro p _ _; rfl
    | succ d ih =>
      intro p hp hk
      obtain ⟨o, ho⟩ := opAt (p + d) (by omega)
      have hn := hk (p + d) o (by omega) (by omega) ho
      rcases (hs _ o ho).2.2 with ⟨_, h2, _⟩ | ⟨h1, _⟩
      · rw [show p + (d + 1) = p + d + 1 by omega, h2]
        exact ih p (by omega) fun k o' h1 h2 => hk k o' h1 (by omega)
      · rw [hn] at h1; cases h1
  have look : ∀ i o t, ops[i]? = some o → t ∈ o.looksAt ops → Fs ops.size t = Fs i t := fun i o t ho ht => by
    have hi := (Array.getElem?_eq_some_iff.1 ho).1
    have := keep t (ops.size - i) i (by omega) fun k o' h1 _ hk hdst => by
      have := ((headC_at hC ho).2 k o' t hk hdst).1 ht
      omega
    rwa [show i + (ops.size - i) = ops.size by omega] at this
  have out : ∀ i o t, ops[i]? = some o → o.dst = some t → Fs ops.size t = xs i := fun i o t ho ht => by
    have hi := (Array.getElem?_eq_some_iff.1 ho).1
    have := keep t (ops.size - (i + 1)) (i + 1) (by omega) fun k o' h1 _ hk hdst => ((headC_at hC ho).2 k o' t hk hdst).2 (by omega) ht
    rw [show i + 1 + (ops.size - (i + 1)) = ops.size by omega, (hs i o ho).1, put_at, if_pos ht] at this
    exact this
  have fin : ∀ (listed : Array Bool) (a : Act) (m : Mm), HInvM b0 N w0 S0 ops Fs Hs listed a m → Region.ready .any ops listed = [] → Q .normal a m.w := fun listed a m inv hr => by
    have all : ∀ i, i < ops.size → listed.getD i true = true := by
      intro i
      induction i using Nat.strongRecOn with
      | _ i ih =>
        intro hi
        cases hl : listed.getD i true with
        | true => rfl
        | false =>
          exfalso
          obtain ⟨o, ho⟩ := opAt i hi
          have : i ∈ Region.ready .any ops listed := mem_ready.2 ⟨hl, o, ho, fun e he hb => by
            have hlt := (headC_at hC ho).1 e he hb
            have := ih e.on hlt (by omega)
            have hsz := inv.ls
            rw [← getD_two (by omega)]
            exact this⟩
          rw [hr] at this
          cases this
    obtain ⟨p, hp, hpl, hH⟩ := inv.H
    have hfin := still (ops.size - p) p (by omega) fun k o h1 h2 ho => by
      cases hw : isW o with
      | false => rfl
      | true =>
        have := (hpl k o ho hw).2 (all k (Array.getElem?_eq_some_iff.1 ho).1)
        omega
    rw [show p + (ops.size - p) = ops.size by omega] at hfin
    refine hq a m (by rw [hH, hfin]) ⟨inv.cx, inv.tot, fun t => inv.frame t fun i o ho hl => ?_, inv.size, inv.defers, inv.below, inv.base, inv.S, inv.T⟩
    have := all i (Array.getElem?_eq_some_iff.1 ho).1
    rw [hl] at this
    cases this
  have next : ∀ (listed : Array Bool) (i : Nat) (a : Act) (m : Mm), HInvM b0 N w0 S0 ops Fs Hs listed a m → i ∈ Region.ready .any ops listed → ∀ K : Act → World → Prop,
      (∀ a' m', HInvM b0 N w0 S0 ops Fs Hs (listed.setIfInBounds i true) a' m' → K a' m'.w) → wpOp P ops Q i K a m.w := fun listed i a m inv hr K hK => by
    obtain ⟨hun, o, ho, hall⟩ := mem_ready.1 hr
    have hi := (Array.getElem?_eq_some_iff.1 ho).1
    have hd0 : ∀ d, o.dst = some d → d < N := dstB_at hd (by simpa using Array.mem_of_getElem? ho)
    have getSet : ∀ j, j ≠ i → (listed.setIfInBounds i true).getD j true = listed.getD j true := fun j hj => getD_set_ne true (Ne.symm hj)
    have getSame : (listed.setIfInBounds i true).getD i true = true := by simp [Array.getD, inv.ls, hi]
    have hlook : ∀ t ∈ o.looksAt ops, XRel m (Fs i t) (a.tmps.getD t undef) := fun t ht => by
      rw [← look i o t ho ht]
      refine inv.frame t fun k ok hok hkl hdst => ?_
      obtain ⟨h1, e, he, hb, hon⟩ := ((headC_at hC ho).2 k ok t hok hdst).1 ht
      have h2 := hall e he hb
      rw [hon] at h2
      have hsz := inv.ls
      rw [← getD_two (by have := (Array.getElem?_eq_some_iff.1 hok).1; omega), hkl] at h2
      cases h2
    have reFrame : ∀ (m' : Mm) (v : Value), Le m m' → XRel m' (xs i) v → ∀ t, (∀ (k : Nat) (ok : Oper), ops[k]? = some ok → (listed.setIfInBounds i true).getD k true = false → ok.dst ≠ some t) → XRel m' (Fs ops.size t) ((a.put o.dst v).tmps.getD t undef) := fun m' v hle hv t ht => by
      rw [put_getD inv.size hd0]
      split
      · rename_i hdst
        rw [out i o t ho hdst]
        exact hv
      · rename_i hdst
        refine (inv.frame t fun k ok hok hkl => ?_).le hle
        by_cases hki : k = i
        · subst hki
          rw [ho] at hok
          cases hok
          exact hdst
        · exact ht k ok hok (by rw [getSet k hki]; exact hkl)
    obtain ⟨p, hp, hpl, hH⟩ := inv.H
    obtain ⟨hF, hgd, hcase⟩ := hs i o ho
    unfold wpOp
    simp only [ho]
    have hw : WantF ops o (Fs i) true := by unfold WantF; rw [hgd]
    rw [if_pos (hw.is (m := m) (tmps := a.tmps) hlook)]
    have hdep : ∀ (j : Nat) (oj : Oper), ops[j]? = some oj → (listed.setIfInBounds i true).getD j true = true → ∀ e ∈ oj.after, Region.binds .any e = true → (listed.setIfInBounds i true).getD e.on true = true := fun j oj hj hl e he hb => by
      have h1 : listed.getD e.on true = true := by
        by_cases hji : j = i
        · subst hji
          rw [ho] at hj
          cases hj
          have h3 := hall e he hb
          have h4 := (headC_at hC ho).1 e he hb
          rw [getD_two (by have := inv.ls; omega)]
          exact h3
        · exact inv.dep j oj hj (by rw [← getSet j hji]; exact hl) e he hb
      by_cases hei : e.on = i
      · rw [hei]; exact getSame
      · rw [getSet _ hei]; exact h1
    have go : ∀ (H1 H2 : List Ob), m.H = H1 → (∃ p, p ≤ ops.size ∧ (∀ (j : Nat) (oj : Oper), ops[j]? = some oj → isW oj = true → (j < p ↔ (listed.setIfInBounds i true).getD j true = true)) ∧ H2 = Hs p) → TOk P G o (Fs i) H1 (xs i) H2 → (o.wp P a m.w K Q) := fun H1 H2 e1 ⟨q, q1, q2, q3⟩ ht => by
      refine ht b0 m a e1 inv.cx inv.tot (hG _ inv.below) (Nat.le_trans inv.base inv.below.size) (fun t ht => hlook t (mem_looks ht)) _ _ fun v m' hH hx ht' hle hb hS hv => ?_
      exact hK _ m' ⟨⟨q, q1, q2, by rw [hH, q3]⟩, hx, ht', reFrame m' v hle hv, by rw [put_size]; exact inv.size, by rw [put_defers']; exact inv.defers, inv.below.trans hb, inv.base, fun b hb' => (hS b hb').elim (inv.S b) .inr, hle.T.trans inv.T, by simp [inv.ls], hdep⟩
    refine .inl ?_
    have earlier : (∀ (j : Nat) (oj : Oper), ops[j]? = some oj → isW oj = true → j < i → (∃ e ∈ o.after, Region.binds .any e = true ∧ e.on = j) ∨ ∃ k ok, j < k ∧ k < i ∧ ops[k]? = some ok ∧ isW ok = true) → ∀ d (j : Nat) (oj : Oper), i - j ≤ d → j < i → ops[j]? = some oj → isW oj = true → listed.getD j true = true := fun hX d => by
      induction d with
      | zero => intro j oj h1 h2; omega
      | succ d ih =>
        intro j oj h1 h2 hj hwj
        rcases hX j oj hj hwj h2 with ⟨e, he, hb, hon⟩ | ⟨k, ok, k1, k2, hk, hwk⟩
        · have h3 := hall e he hb
          rw [hon] at h3
          rw [getD_two (by have := inv.ls; omega)]
          exact h3
        · have h3 := ih k ok (by omega) k2 hk hwk
          have h4 := (hpl k ok hk hwk).2 h3
          exact (hpl j oj hj hwj).1 (by omega)
    have stage : (∀ (j : Nat) (oj : Oper), ops[j]? = some oj → isW oj = true → j < i → listed.getD j true = true) → (∀ (j : Nat) (oj : Oper), ops[j]? = some oj → isW oj = true → i < j → listed.getD j true = false) → (∀ oj, ops[i]? = some oj → isW oj = true → p ≤ i) → Hs i = Hs p := fun h1 h2 h3 => by
      rcases Nat.le_total p i with hpi | hpi
      · have := still (i - p) p (by omega) fun k ok k1 k2 hk => by
          cases hwk : isW ok with
          | false => rfl
          | true =>
            have := (hpl k ok hk hwk).2 (h1 k ok hk hwk (by omega))
            omega
        rwa [show p + (i - p) = i by omega] at this
      · have := still (p - i) i (by omega) fun k ok k1 k2 hk => by
          cases hwk : isW ok with
          | false => rfl
          | true =>
            by_cases hki : k = i
            · subst hki
              have := h3 ok hk hwk
              omega
            · have h4 := h2 k ok hk hwk (by omega)
              have h5 := (hpl k ok hk hwk).1 (by omega)
              rw [h4] at h5
              cases h5
        rw [show i + (p - i) = p by omega] at this
        exact this.symm
    rcases hcase with ⟨hn, _, h1⟩ | ⟨hn, h1⟩
    · refine go m.H m.H rfl ⟨p, hp, fun j oj hj hwj => ?_, hH⟩ ?_
      · by_cases hji : j = i
        · subst hji
          rw [ho] at hj
          cases hj
          rw [hn] at hwj
          cases hwj
        · rw [getSet j hji]; exact hpl j oj hj hwj
      · rcases h1 with h1 | ⟨hwt, h1⟩
        · exact (h1 m.H).tok0
        · have e : Hs i = Hs p := stage (fun j oj hj hwj hlt => earlier (fun j oj hj hwj hlt => (waitB_at hwt ho hj hwj).2 hlt) i j oj (by omega) hlt hj hwj) (fun j oj hj hwj hlt => by
            cases hl : listed.getD j true with
            | false => rfl
            | true =>
              exfalso
              have key : ∀ d (k : Nat) (ok : Oper), k - i ≤ d → i < k → ops[k]? = some ok → isW ok = true → listed.getD k true = true → False := fun d => by
                induction d with
                | zero => intro k ok k1 k2; omega
                | succ d ih =>
                  intro k ok k1 k2 hk hwk hlk
                  rcases (waitB_at hwt ho hk hwk).1 k2 with ⟨e, he, hb, hon⟩ | ⟨q, oq, q1, q2, hq2, hwq⟩
                  · have h3 := inv.dep k ok hk hlk e he hb
                    rcases hon with hon | ⟨om, e2, m1, m2, m3, m4⟩
                    · rw [hon, hun] at h3
                      cases h3
                    · have h4 := inv.dep e.on om m1 h3 e2 m2 m3
                      rw [m4, hun] at h4
                      cases h4
                  · have h4 := (hpl k ok hk hwk).2 hlk
                    exact ih q oq (by omega) q1 hq2 hwq ((hpl q oq hq2 hwq).1 (by omega))
              exact key (j - i) j oj (Nat.le_refl _) hlt hj hwj hl) (fun oj hj hwj => by rw [ho] at hj; cases hj; rw [hn] at hwj; cases hwj)
          rw [hH, ← e]
          exact h1.tok0
    · have earl := earlier fun j oj hj hwj hlt => chainW_at hW ho hj hn hwj hlt
      have hpi : p ≤ i := Nat.not_lt.1 fun h => by
        have := (hpl i o ho hn).1 h
        rw [hun] at this
        cases this
      have hHi : Hs i = Hs p := stage (fun j oj hj hwj hlt => earl i j oj (by omega) hlt hj hwj) (fun j oj hj hwj hlt => by
        cases hl : listed.getD j true with
        | false => rfl
        | true => have := (hpl j oj hj hwj).2 hl; omega) (fun _ _ _ => hpi)
      refine go (Hs i) (Hs (i + 1)) (by rw [hH, hHi]) ⟨i + 1, by omega, fun j oj hj hwj => ?_, rfl⟩ h1
      by_cases hji : j = i
      · subst hji
        rw [getSame]
        exact ⟨fun _ => rfl, fun _ => by omega⟩
      · rw [getSet j hji]
        refine ⟨fun h => earl i j oj (by omega) (by omega) hj hwj, fun h => ?_⟩
        have := (hpl j oj hj hwj).2 h
        omega
  intro f
  induction f with
  | zero =>
    intro listed a m inv hc
    have hr : Region.ready .any ops listed = [] := by
      cases hr : Region.ready .any ops listed with
      | nil => rfl
      | cons i r =>
        have h1 := (mem_ready.1 (show i ∈ Region.ready .any ops listed by rw [hr]; simp)).1
        have := cntF_set h1
        omega
    exact ⟨hr, fin listed a m inv hr⟩
  | succ f ih =>
    intro listed a m inv hc
    refine ⟨fun hr => fin listed a m inv hr, fun i hi => next listed i a m inv hi _ fun a' m' inv' => ih _ a' m' inv' ?_⟩
    have := cntF_set (mem_ready.1 hi).1
    omega
end
section
variable {P : Program} {G : World → Prop} {N : Nat} {F : Frm} {H : List Ob} {Q : Post}
theorem cw_ch {id : Nat} {l : List Oper} (hG : ∀ w w', Below w.heap.size w w' → G w → G w') (n : Nat) (hm : P.follows .mixedOrders = true) (hB : (dstB N l && headC .any (l.take n).toArray && chainW .any (l.take n).toArray && partB .any l.toArray n) = true)
    (h : ChM P G (l.take n).toArray 0 (l.take n) F H fun F' H' => Ti P G l.toArray (l.drop n) F' H' (Q .normal)) : CW P G N (.region id l.toArray true) F H Q := fun b0 w0 S0 a m hG hH hs => by
  subst hH
  simp only [Bool.and_eq_true] at hB
  obtain ⟨⟨⟨hd, hC⟩, hW⟩, hp⟩ := hB
  have hd1 : dstB N (l.take n) = true := List.all_eq_true.2 fun o ho => List.all_eq_true.1 hd o (List.mem_of_mem_take ho)
  have hd2 : dstB N (l.drop n) = true := List.all_eq_true.2 fun o ho => List.all_eq_true.1 hd o (List.mem_of_mem_drop ho)
  have hn : n < l.length := by
    have := hp
    simp only [partB, Bool.and_eq_true, decide_eq_true_eq, List.size_toArray] at this
    exact this.1.1.1.1
  have hln : (l.take n).length = n := by simp; omega
  have hsz : (l.take n).toArray.size = n := by simp; omega
  refine wp_region_part n hm hp ?_
  obtain ⟨Fs, Hs, xs, h1, h2, hTi, h4⟩ := h.seq
  rw [hln] at hTi
  have hs' := hs.drew
  refine wp_headM (G := G) (w0 := w0) (S0 := S0) (b0 := b0) hG hC hW (N := N) (by simpa using hd1) (Fs := Fs) (Hs := Hs) (xs := xs) (fun i o' hi => by have := h4 i o' (by simpa using hi); rw [Nat.zero_add] at this; exact this) (fun a' m' hH' hst => ?_) n (Array.replicate n false) a { m with w := m.w.drew } ?_ (by simp [cntF])
  · rw [hsz] at hst hH'
    rw [← hH'] at hTi
    exact wp_ti hG (l.drop n) (Fs n) a' m' (Q .normal) hd2 hst hTi fun F'' a'' m'' k1 k2 => ⟨F'', m'', rfl, k1, k2⟩
  · refine ⟨⟨0, Nat.zero_le _, fun i o hi _ => ?_, h2.symm⟩, hs'.cx, hs'.tot, fun t ht => ?_, hs'.size, hs'.defers, hs'.below, hs'.base, hs'.S, hs'.T, by simp; omega, fun i o hi hl => ?_⟩
    · have hlt := (Array.getElem?_eq_some_iff.1 hi).1
      rw [hsz] at hlt
      simp [Array.getD, hlt]
    · rw [hsz]
      have hno : ∀ (i : Nat) (o' : Oper), (l.take n)[i]? = some o' → o'.dst ≠ some t := fun i o' hi => by
        have hlt := (List.getElem?_eq_some_iff.1 hi).1
        rw [hln] at hlt
        exact ht i o' (by simpa using hi) (by simp [Array.getD, hlt])
      have ka : ∀ k, k ≤ n → Fs k t = F t := fun k hk => by
        induction k with
        | zero => rw [h1]
        | succ k ih =>
          have hk2 : (l.take n)[k]? = some ((l.take n)[k]'(by omega)) := List.getElem?_eq_getElem _
          rw [(h4 k _ hk2).1, put_at, if_neg (hno k _ hk2)]
          exact ih (by omega)
      rw [ka n (Nat.le_refl _)]
      exact hs'.frame t
    · have hlt := (Array.getElem?_eq_some_iff.1 hi).1
      rw [hsz] at hlt
      simp [Array.getD, hlt] at hl
theorem one_cells {v : Value} (h : v.oneCell' = true) : v.cells = #[v] := by
  cases v <;> first | rfl | cases h
theorem ok_build1D {o : Oper} {t e : TypeId} {x : Operand} {z : Value} {by_ : Nat} {d : D} (ho : o.op = .buildSlice t 1 #[(0, x)]) (hx : F.ev x = .one (.d d)) (ht : TyS P t e 1) (hz : TyZ P e z 1 by_) : OpOk P G o F H (.one (.d (.row false 1 1 [d]))) [] := by
  intro b0 m a hp hcx hg hb0 _ hor K Q hK
  have hv : DRel m.w m.S d (a.eval x) := by
    have := ev_rel (F := F) hor (x := x) (by rw [ho]; simp [Op.operands])
    rw [hx] at this
    exact this
  have hc := one_cells hv.one
  obtain ⟨i, hi, hi2⟩ := Option.map_eq_some_iff.1 hz.h
  simp only [Prod.mk.injEq] at hi2
  have hlm : (madeCells z.cells (1 * 1)).toList.length = 1 := by simp [madeCells]
  have hfill : Instr.fill (fun i => some (i * 1, 1)) (madeCells z.cells (1 * 1)) ((#[(0, x)] : Array (Nat × Operand)).map fun p => (p.1, a.eval p.2)).toList = some #[a.eval x] := by
    rw [fill_eq]
    have e1 : (((#[(0, x)] : Array (Nat × Operand)).map fun p => (p.1, a.eval p.2)).toList.map fun p => (p.1, p.2.cells.toList)) = [(0, [a.eval x])] := by simp [hc]
    rw [e1]
    unfold fillL
    simp only [Nat.zero_mul, Nat.zero_add, List.length_cons, List.length_nil, hlm, fillL]
    rw [List.drop_eq_nil_of_le (Nat.le_of_eq hlm)]; rfl
  have hrun := run_buildSlice (P := P) m.w t e 1 ((#[(0, x)] : Array (Nat × Operand)).map fun p => (p.1, a.eval p.2)) #[a.eval x] i z ht.h hi hi2.1 (by rw [hi2.2.1]; decide) (by rw [hi2.2.1]; decide) (by rw [hi2.2.1]; exact hfill)
  have hexec : (execOp a.eval o).run P m.w = .ok (.value (.slice (some ⟨m.w.heap.size, 0, none⟩) 1 1)) (m.w.alloc (.cells #[a.eval x] e)) := by
    unfold execOp
    simp only [ho]
    rw [Sem.run_bind, hrun]
    rfl
  have hbel : Below m.w.heap.size m.w (m.w.alloc (.cells #[a.eval x] e)) := (Below.refl _ _).alloc (Nat.le_refl _) _
  have hle := plus_le (es := []) (n := H.length) hbel hcx.lt (fun k hk => absurd hk (Nat.not_lt_zero _))
  unfold Oper.wp
  rw [hexec]
  refine hK _ _ [] ⟨rfl, hbel, fun k e hk => by simp at hk, List.Pairwise.nil⟩ ?_
  refine DRel.row [a.eval x] (Nat.le_refl _) (fun h => by cases h) rfl rfl (fun _ => ⟨_, 0, rfl, .inr ⟨rfl, Nat.le_refl _, (Array.getElem?_eq_some_iff.1 (heap_alloc_new m.w _)).1, fun e he => by simp at he⟩, fun j v hj => ?_⟩) fun j u v hu hw => ?_
  · show (m.w.alloc (.cells #[a.eval x] e)).cell? ⟨m.w.heap.size, 0 + j, none⟩ = some v
    rw [Nat.zero_add, cell_of_row _ _ j _ _ (0, 0) (heap_alloc_new m.w _)]
    simpa using hj
  · rcases j with _ | j
    · simp only [List.getElem?_cons_zero, Option.some.injEq] at hu hw
      subst hu
      subst hw
      exact DRel.le hle hv
    · simp at hu
end
theorem range_step {α : Type} (f : Nat → α) (k : Nat) : (List.range (k + 1)).map f = (List.range k).map f ++ [f k] := by rw [List.range_succ, List.map_append]; rfl
theorem range_at {α : Type} {f : Nat → α} {n r : Nat} {d : α} (h : r < n) : ((List.range n).map f)[r]?.getD d = f r := by simp [h]
theorem range_no {α : Type} {f : Nat → α} {n r : Nat} {d : α} (h : ¬ r < n) : ((List.range n).map f)[r]?.getD d = d := by simp [h]
def hv (z : Int) : Int := z.tdiv 2
def hfL (ps : List Prt) (l : List Int) : List Int := (inpV (wideP ps) l (wideP ps).length).map hv
def zipS (p q : List Int) : List Int := List.zipWith (· + ·) p q
def rA (ps : List Prt) (x : List (List Int)) (k : Nat) : List (List Int) := (List.range k).map fun i => hfL ps (x[i]?.getD [])
def rS (ps : List Prt) (x y : List (List Int)) (k : Nat) : List (List Int) := (List.range k).map fun i => zipS (hfL ps (x[i]?.getD [])) (hfL ps (y[i]?.getD []))
def rN (ps : List Prt) (k : Nat) : List (List Int) := (List.range k).map fun _ => List.replicate ps.length 0
def hpK (p : List Int) (k : Nat) : List Int := (p.take k).map hv ++ p.drop k
theorem hpK_len {p : List Int} {k : Nat} : (hpK p k).length = p.length := by simp [hpK]; omega
theorem hpK_end (p : List Int) : hpK p p.length = p.map hv := by simp [hpK]
theorem hpK_at {p : List Int} {k : Nat} {z : Int} (h : p[k]? = some z) : (hpK p k)[k]? = some z := by
  have hk := (List.getElem?_eq_some_iff.1 h).1
  have hl : ((p.take k).map hv).length = k := by simp; omega
  unfold hpK
  rw [List.getElem?_append_right (by omega), hl, Nat.sub_self, List.getElem?_drop]
  exact h
theorem hpK_to {p : List Int} {k : Nat} {z : Int} (h : p[k]? = some z) : (hpK p (k + 1))[k]? = some (hv z) := by
  have hk := (List.getElem?_eq_some_iff.1 h).1
  have hl : ((p.take (k + 1)).map hv).length = k + 1 := by simp; omega
  unfold hpK
  rw [List.getElem?_append_left (by omega), List.getElem?_map, List.getElem?_take_of_lt (by omega), h]
  rfl
theorem hpK_set {p : List Int} {k : Nat} {z : Int} (h : p[k]? = some z) : (hpK p k).set k (hv z) = hpK p (k + 1) := by
  have hk := (List.getElem?_eq_some_iff.1 h).1
  have hl : ((p.take k).map hv).length = k := by simp; omega
  unfold hpK
  rw [List.set_append_right _ _ (by omega), hl, Nat.sub_self, List.take_add_one, h, Option.toList_some, List.map_append, List.drop_eq_getElem_cons hk, List.set_cons_zero, List.append_assoc]
  rfl
theorem zip_at {p q : List Int} {k : Nat} {z w : Int} (h1 : p[k]? = some z) (h2 : q[k]? = some w) : (zipS (p.map hv) (q.map hv))[k]? = some (hv z + hv w) := by
  unfold zipS
  rw [List.getElem?_zipWith, List.getElem?_map, List.getElem?_map, h1, h2]
  rfl
theorem wide_in {ps : List Prt} {l : List Int} {z : Int} {k : Nat} (h : (inpV (wideP ps) l (wideP ps).length)[k]? = some z) : -2147483648 ≤ z ∧ z ≤ 2147483647 := by
  have hk := (List.getElem?_eq_some_iff.1 h).1
  have hk2 : k < ps.length := by rw [inp_len, wideP_len] at hk; exact hk
  unfold inpV at h
  rw [List.getElem?_map, List.getElem?_range (by rw [wideP_len]; exact hk2)] at h
  obtain ⟨p, hp⟩ : ∃ p, ps[k]? = some p := ⟨_, List.getElem?_eq_getElem hk2⟩
  have hw : (wideP ps)[k]? = some ⟨-2147483648, 2147483647, p.fr⟩ := by unfold wideP; rw [List.getElem?_map, hp]; rfl
  simp only [Option.map_some, hw, Option.getD_some, Option.some.injEq] at h
  subst h
  unfold clipI
  omega
theorem hv_in {z : Int} (h : -2147483648 ≤ z ∧ z ≤ 2147483647) : -1073741824 ≤ hv z ∧ hv z ≤ 1073741823 := by
  have := half_fit h h
  exact ⟨this.1, this.2.1⟩
theorem hf_in {ps : List Prt} {l : List Int} {z : Int} (h : z ∈ hfL ps l) : -1073741824 ≤ z ∧ z ≤ 1073741823 := by
  obtain ⟨y, hy, rfl⟩ := List.mem_map.1 h
  obtain ⟨k, hk, e⟩ := List.getElem_of_mem hy
  exact hv_in (wide_in (k := k) (by rw [List.getElem?_eq_getElem hk, e]))
theorem hf_len (ps : List Prt) (l : List Int) : (hfL ps l).length = ps.length := by unfold hfL; rw [List.length_map, inp_len, wideP_len]
def Inr (ps : List Prt) (r : List Int) : Prop := r.length = ps.length ∧ ∀ z ∈ r, -2147483648 ≤ z ∧ z ≤ 2147483647
theorem inr_id {ps : List Prt} {r : List Int} (h : Inr ps r) : inpV (wideP ps) r (wideP ps).length = r := by
  refine List.ext_getElem? fun k => ?_
  by_cases hk : k < ps.length
  · obtain ⟨z, hz⟩ : ∃ z, r[k]? = some z := ⟨_, List.getElem?_eq_getElem (by rw [h.1]; exact hk)⟩
    have hb := h.2 z (List.mem_of_getElem? hz)
    obtain ⟨p, hp⟩ : ∃ p, ps[k]? = some p := ⟨_, List.getElem?_eq_getElem hk⟩
    have hw : (wideP ps)[k]? = some ⟨-2147483648, 2147483647, p.fr⟩ := by unfold wideP; rw [List.getElem?_map, hp]; rfl
    unfold inpV
    rw [List.getElem?_map, List.getElem?_range (by rw [wideP_len]; exact hk)]
    simp only [Option.map_some, hz, hw, Option.getD_some, Option.some.injEq]
    unfold clipI
    omega
  · rw [List.getElem?_eq_none (by rw [inp_len, wideP_len]; omega), List.getElem?_eq_none (by rw [h.1]; omega)]
theorem inr_fit {ps : List Prt} {ls : List (List Int)} (h : ∀ r ∈ ls, Inr ps r) : fitL (wideP ps) ls = ls := by
  unfold fitL
  refine List.ext_getElem? fun k => ?_
  rw [List.getElem?_map]
  cases hk : ls[k]? with
  | none => rfl
  | some r => rw [Option.map_some, inr_id (h r (List.mem_of_getElem? hk))]
theorem rA_in (ps : List Prt) (x : List (List Int)) (k : Nat) : ∀ r ∈ rA ps x k, Inr ps r := fun r hr => by
  obtain ⟨i, _, rfl⟩ := List.mem_map.1 hr
  exact ⟨hf_len _ _, fun z hz => by have := hf_in hz; omega⟩
theorem rS_in (ps : List Prt) (x y : List (List Int)) (k : Nat) : ∀ r ∈ rS ps x y k, Inr ps r := fun r hr => by
  obtain ⟨i, _, rfl⟩ := List.mem_map.1 hr
  refine ⟨by simp [zipS, hf_len], fun z hz => ?_⟩
  unfold zipS at hz
  rw [List.mem_iff_getElem?] at hz
  obtain ⟨j, hj⟩ := hz
  rw [List.getElem?_zipWith] at hj
  cases h1 : (hfL ps (x[i]?.getD []))[j]? with
  | none => rw [h1] at hj; cases hj
  | some a =>
    cases h2 : (hfL ps (y[i]?.getD []))[j]? with
    | none => rw [h1, h2] at hj; cases hj
    | some b =>
      rw [h1, h2] at hj
      have e : a + b = z := Option.some.inj hj
      have ha := hf_in (List.mem_of_getElem? h1)
      have hb := hf_in (List.mem_of_getElem? h2)
      omega
theorem rN_in (ps : List Prt) (k : Nat) : ∀ r ∈ rN ps k, Inr ps r := fun r hr => by
  obtain ⟨i, _, rfl⟩ := List.mem_map.1 hr
  exact ⟨by simp, fun z hz => by rw [(List.mem_replicate.1 hz).2]; decide⟩
theorem rA_len (ps : List Prt) (x : List (List Int)) (k : Nat) : (rA ps x k).length = k := by simp [rA]
theorem rS_len (ps : List Prt) (x y : List (List Int)) (k : Nat) : (rS ps x y k).length = k := by simp [rS]
theorem rN_len (ps : List Prt) (k : Nat) : (rN ps k).length = k := by simp [rN]
theorem inr_run {ps : List Prt} {bs : List Bk} {os : List Int} {ls : List (List Int)} (he : dgErr ps bs os = 0) (h : ∀ r ∈ ls, Inr ps r) : runQE (wideP ps) bs os ls = 0 ∨ runQE (wideP ps) bs os ls = 4 := by
  have := runQ_four (wide_err he) (ls := ls)
  rwa [inr_fit h] at this
theorem inr_len {ps : List Prt} {ls : List (List Int)} (h : ∀ r ∈ ls, Inr ps r) (hp : ps.length ≤ 1000000) : ∀ r ∈ ls, r.length ≤ 1000000 := fun r hr => by rw [(h r hr).1]; exact hp
theorem aff_cmp {ps : List Prt} {bs : List Bk} {os : List Int} {x y : List (List Int)} {n r j : Nat} {la lb ls ln : List Pq} {a b s m : Pq} (he : dgErr ps bs os = 0) (haff : affB bs = true)
    (hA : runQE (wideP ps) bs os (rA ps x n) = 0) (hB : runQE (wideP ps) bs os (rA ps y n) = 0) (hS : runQE (wideP ps) bs os (rS ps x y n) = 0) (hN : runQE (wideP ps) bs os (rN ps n) = 0)
    (qa : (runO (wideP ps) bs os (startM bs) (rA ps x n))[r]? = some la) (qb : (runO (wideP ps) bs os (startM bs) (rA ps y n))[r]? = some lb) (qs : (runO (wideP ps) bs os (startM bs) (rS ps x y n))[r]? = some ls) (qn : (runO (wideP ps) bs os (startM bs) (rN ps n))[r]? = some ln)
    (ra : la[j]? = some a) (rb : lb[j]? = some b) (rs : ls[j]? = some s) (rn : ln[j]? = some m) : dyCmp (dySum s.1 s.2 (-a.1) a.2).1 (dySum s.1 s.2 (-a.1) a.2).2 (dySum b.1 b.2 (-m.1) m.2).1 (dySum b.1 b.2 (-m.1) m.2).2 = 0 ∧ Sm a LB LB ∧ Sm b LB LB ∧ Sm s LB LB ∧ Sm m LB LB := by
  have he' := wide_err he
  have so := start_ok he'
  obtain ⟨_, _, tA⟩ := runQ_zero hA
  obtain ⟨_, _, tB⟩ := runQ_zero hB
  obtain ⟨_, _, tS⟩ := runQ_zero hS
  obtain ⟨_, _, tN⟩ := runQ_zero hN
  have ma := runO_sm he' so tA la (List.mem_of_getElem? qa)
  have mb := runO_sm he' so tB lb (List.mem_of_getElem? qb)
  have ms := runO_sm he' so tS ls (List.mem_of_getElem? qs)
  have mn := runO_sm he' so tN ln (List.mem_of_getElem? qn)
  have sa := ma.1 a (List.mem_of_getElem? ra)
  have sb := mb.1 b (List.mem_of_getElem? rb)
  have ss := ms.1 s (List.mem_of_getElem? rs)
  have sn := mn.1 m (List.mem_of_getElem? rn)
  have hr : r < n := by have := (List.getElem?_eq_some_iff.1 qa).1; rwa [runO_len, rA_len] at this
  have hj : j < os.length := by have := (List.getElem?_eq_some_iff.1 ra).1; rwa [ma.2] at this
  have L := lin_run he' (dg_succ he') haff (lS := rS ps x y n) (lN := rN ps n) (lA := rA ps x n) (lB := rA ps y n) (by rw [rN_len, rS_len]) (by rw [rA_len, rS_len]) (by rw [rA_len, rS_len]) so so so so tS tN tA tB (fun k _ => rfl) (fun r k hk => by
    rw [wideP_len] at hk
    by_cases hr : r < n
    · unfold rS rN rA
      rw [range_at hr, range_at hr, range_at hr, range_at hr]
      obtain ⟨z, hz⟩ : ∃ z, (hfL ps (x[r]?.getD []))[k]? = some z := ⟨_, List.getElem?_eq_getElem (by rw [hf_len]; exact hk)⟩
      obtain ⟨w, hw⟩ : ∃ w, (hfL ps (y[r]?.getD []))[k]? = some w := ⟨_, List.getElem?_eq_getElem (by rw [hf_len]; exact hk)⟩
      unfold zipS
      rw [List.getElem?_zipWith, hz, hw, List.getElem?_replicate, if_pos hk]
      simp
    · unfold rS rN rA
      rw [range_no hr, range_no hr, range_no hr, range_no hr]) r j (by rw [rS_len]; exact hr) hj
  rw [qs, qn, qa, qb] at L
  simp only [Option.getD_some] at L
  rw [rs, rn, ra, rb] at L
  simp only [Option.getD_some] at L
  exact ⟨lin_cmp ss sn sa sb L, sa, sb, ss, sn⟩
theorem lb_nf {p : Pq} (h : Sm p LB LB) : Nf p.1 p.2 ∧ (canon p.1.natAbs).length ≤ 40000 := ⟨h.ok, Nat.le_trans (h.lenN 128 (by decide)) (by decide)⟩
theorem lb_sub {p q : Pq} (h : Sm p LB LB) (h2 : Sm q LB LB) : Nf (dySum p.1 p.2 (-q.1) q.2).1 (dySum p.1 p.2 (-q.1) q.2).2 ∧ (canon (dySum p.1 p.2 (-q.1) q.2).1.natAbs).length ≤ 40000 := by
  have := h.sum h2.neg (by decide)
  exact ⟨this.ok, Nat.le_trans (this.lenN 625 (by decide)) (by decide)⟩
section
variable {P : Program} {G : World → Prop} {o : Oper} {F : Frm} {H : List Ob}
theorem ok_min3 {ts : Array TypeId} {x y z : Operand} {k : IntKind} {p q r u : Int} (ho : o.op = .call { callee := .builtin .min, args := #[x, y, z], argTypes := ts }) (hx : F.ev x = .one (.d (.val (.int k p)))) (hy : F.ev y = .one (.d (.val (.int k q)))) (hz : F.ev z = .one (.d (.val (.int k r)))) (hu : min (min p q) r = u) : OpOk P G o F H (.one (.d (.val (.int k u)))) [] := ok_same fun b0 m a hp hcx hor => by
  subst hu
  have ex := val_of (m := m) (v := a.eval x) (by rw [← hx]; exact ev_rel hor (by rw [ho]; simp [Op.operands, Call.operands]))
  have ey := val_of (m := m) (v := a.eval y) (by rw [← hy]; exact ev_rel hor (by rw [ho]; simp [Op.operands, Call.operands]))
  have ez := val_of (m := m) (v := a.eval z) (by rw [← hz]; exact ev_rel hor (by rw [ho]; simp [Op.operands, Call.operands]))
  refine ⟨_, ?_, DRel.val rfl⟩
  unfold execOp
  have key : ∀ a b : Int, (if b < a then b else a) = min a b := fun a b => by split <;> omega
  simp [ho, resolve, invoke, builtin, ex, ey, ez, Builtin.min_, Builtin.min2, key]
theorem ok_half {t t' : TypeId} {x y : Operand} {z r : Int} (ho : o.op = .binOp .quo t x y t') (hx : F.ev x = .one (.d (.val (.int .i64 z)))) (hy : F.ev y = .one (.d (.val (.int .i64 2)))) (hr : hv z = r) (hb : -2147483648 ≤ z ∧ z ≤ 2147483647) : OpOk P G o F H (.one (.d (.val (.int .i64 r)))) [] := by
  have e : IntKind.i64.wrap (z.tdiv 2) = r := by
    have := hv_in hb
    rw [← hr, IntWalk.i64_in _ (by unfold hv at this; omega)]
    rfl
  rw [← e]
  exact ok_quo ho hx hy (by decide)
theorem ints_all (xs : List Int) : (xs.map fun z => Value.int .i64 z).all (·.oneCell') = true := List.all_eq_true.2 fun v hv => by
  obtain ⟨z, _, rfl⟩ := List.mem_map.1 hv
  rfl
theorem ok_callI {f : FuncId} {fn : Func} {c : Code} {xs : Array Operand} {ts : Array TypeId} (ho : o.op = .call { callee := .value (.func f), args := xs, argTypes := ts })
    (hf : P.funcs[f]? = some fn) (hn : (fn.name == "runtime.NumGoroutine") = false) (hb : fn.body = some c) {args : List A} {ty : TypeId} {n : Nat} {zs : List Int} (h : CVO P G f args ty 1 n (zs.map fun z => .int .i64 z)) (ha : LRel (fun x y => XExp true H (F.ev x) y) xs.toList args) :
    OpOk P G o F H (.one (.own H.length n)) [.row ty 1 n (cI zs)] := by
  have := ok_callO ho hf hn hb (ints_all zs) h ha
  rwa [valsC_int] at this
theorem ok_makeZ {t e : TypeId} {x y : Operand} {by_ n : Nat} {k k' : IntKind} (ho : o.op = .makeSlice t x y) (hx : F.ev x = .one (.d (.val (.int k (n : Int))))) (hy : F.ev y = .one (.d (.val (.int k' (n : Int))))) (ht : TyS P t e 1) (hz : TyZ P e (.int .i64 0) 1 by_) (hn : n ≤ 1000000) (hby : by_ ≤ 1000) : OpOk P G o F H (.one (.d (rowI false (List.replicate n 0)))) [] := by
  have := ok_makeD (P := P) (G := G) (H := H) ho hx hy ht hz hn hby rfl (by decide)
  have e2 : (madeCells (Value.int .i64 0).cells (n * 1)).toList.map D.val = (List.replicate n 0).map dI := by
    rw [Nat.mul_one, show (Value.int .i64 0).cells = #[Value.int .i64 0] from rfl, toList_madeCells_one]
    simp [dI]
  rw [e2] at this
  unfold rowI
  rw [List.length_replicate]
  exact this
end
theorem cI_Dm (xs : List Int) : cI xs = (xs.map dI).map C.d := by simp [cI, dI]
section
variable {P : Program} {G : World → Prop} {o : Oper} {F : Frm} {H : List Ob}
theorem to_apE1 {t e : TypeId} {x y : Operand} {id n by_ : Nat} {tg : Bool} {z : Value} {cs cs2 : List C} {d : D} (ho : o.op = .call { callee := .builtin .append, args := #[x, y], argTypes := #[t, t] }) (hx : F.ev x = .one (.own id n)) (hH : H[id]? = some (.row e 1 n cs)) (hy : F.ev y = .one (.d (.row tg 1 1 [d]))) (ht : TyS P t e 1) (hz : TyZ P e z 1 by_) (hn : n + 1 ≤ 100000000000) (hys : cs ++ [C.d d] = cs2) (hby : by_ ≤ 1000 := by decide) : TOk P G o F H (.one (.own id (n + 1))) (H.set id (.row e 1 (n + 1) cs2)) := by
  subst hys
  exact to_append ho hx hH hy .row ht hz hn (by decide) hby (by simp)
end
theorem rows_app {R : List (List Int)} {R' : List (List Int)} {v : List Int} {n : Nat} (h : R ++ [v] = R') (hn : n = v.length) : (R.map (rowI false)).map C.d ++ [.d (.row false 1 n (v.map dI))] = (R'.map (rowI false)).map C.d := by
  rw [← h, hn, List.map_append, List.map_append]
  rfl
theorem exactAffine_cv (ps : List Prt) (bs : List Bk) (os : List Int) (x y : List (List Int)) : CV Tryd.prog TabAt 7 [aDg true ps bs os, .one (rowLI true x), .one (rowLI true y)] [aB true] := by
  refine cvz Tryd.func7 Tryd.ntmps7 ?_
  have LX := light11_cv true true ps bs os x
  have LY := light11_cv true true ps bs os y
  by_cases h1 : light11 ps bs os x = true
  case neg =>
    rw [Bool.not_eq_true] at h1
    rw [h1] at LX
    repeat' (with_reducible first | apply qa | apply qb | apply qc | apply qd | apply qe | apply qf | apply qg | apply qh | apply qi | apply qj | apply qk | apply ql rfl | apply qm rfl | apply qn rfl | apply Je | (refine Tx 0 ?_; refine Jn xBo ?_; refine Ja ?_) | (refine Tx 1 ?_; refine Jo (xCl Tryd.func9 (awake11_cv)) ?_; refine Jo (by first | exact xNt | exact xNg) ?_; refine Jm ?_; (first | iterate 4 refine Jd ?_ | (refine Jy (xLa tk_Diagram) ?_; refine Jy xM1 ?_; refine Jy (by first | exact xCl Tryd.func14 (LX) | exact xCl Tryd.func14 (LY)) ?_; refine Jy (by first | exact xNt | exact xNg) ?_)); refine Jo xPk ?_; refine Jm ?_; (first | iterate 4 refine Jd ?_ | (refine Jy (xLa tk_Diagram) ?_; refine Jy xM1 ?_; refine Jy (by first | exact xCl Tryd.func14 (LX) | exact xCl Tryd.func14 (LY)) ?_; refine Jy (by first | exact xNt | exact xNg) ?_)); refine Jo xPk ?_; refine Jm ?_; (first | refine Jd ?_ | refine Jy (xLa tk_Diagram) ?_); refine Jd ?_; (first | refine Jd ?_ | refine Jy (xNE ti_error) ?_); refine Jo xPk ?_) | (refine Tx 2 ?_; refine Jo (xCl Tryd.func9 (awake11_cv)) ?_; refine Ja ?_))
    exact ret_q rfl (.cons_ (rv_b rfl (rfl)) .nil_)
  rw [h1] at LX
  by_cases h2 : light11 ps bs os y = true
  case neg =>
    rw [Bool.not_eq_true] at h2
    rw [h2] at LY
    repeat' (with_reducible first | apply qa | apply qb | apply qc | apply qd | apply qe | apply qf | apply qg | apply qh | apply qi | apply qj | apply qk | apply ql rfl | apply qm rfl | apply qn rfl | apply Je | (refine Tx 0 ?_; refine Jn xBo ?_; refine Ja ?_) | (refine Tx 1 ?_; refine Jo (xCl Tryd.func9 (awake11_cv)) ?_; refine Jo (by first | exact xNt | exact xNg) ?_; refine Jm ?_; (first | iterate 4 refine Jd ?_ | (refine Jy (xLa tk_Diagram) ?_; refine Jy xM1 ?_; refine Jy (by first | exact xCl Tryd.func14 (LX) | exact xCl Tryd.func14 (LY)) ?_; refine Jy (by first | exact xNt | exact xNg) ?_)); refine Jo xPk ?_; refine Jm ?_; (first | iterate 4 refine Jd ?_ | (refine Jy (xLa tk_Diagram) ?_; refine Jy xM1 ?_; refine Jy (by first | exact xCl Tryd.func14 (LX) | exact xCl Tryd.func14 (LY)) ?_; refine Jy (by first | exact xNt | exact xNg) ?_)); refine Jo xPk ?_; refine Jm ?_; (first | refine Jd ?_ | refine Jy (xLa tk_Diagram) ?_); refine Jd ?_; (first | refine Jd ?_ | refine Jy (xNE ti_error) ?_); refine Jo xPk ?_) | (refine Tx 2 ?_; refine Jo (xCl Tryd.func9 (awake11_cv)) ?_; refine Ja ?_))
    exact ret_q rfl (.cons_ (rv_b rfl (rfl)) .nil_)
  rw [h2] at LY
  obtain ⟨hl, hbl, hil⟩ := light11_len h1
  obtain ⟨_, hbl2, hil2⟩ := light11_len h2
  have CK := (pcheck_cv true hl).cv
  by_cases h0 : dgErr ps bs os = 0
  case neg =>
    repeat' (with_reducible first | apply qa | apply qb | apply qc | apply qd | apply qe | apply qf | apply qg | apply qh | apply qi | apply qj | apply qk | apply ql rfl | apply qm rfl | apply qn rfl | apply Je | (refine Tx 0 ?_; refine Jn xBo ?_; refine Ja ?_) | (refine Tx 1 ?_; refine Jo (xCl Tryd.func9 (awake11_cv)) ?_; refine Jo (by first | exact xNt | exact xNg) ?_; refine Jm ?_; (first | iterate 4 refine Jd ?_ | (refine Jy (xLa tk_Diagram) ?_; refine Jy xM1 ?_; refine Jy (by first | exact xCl Tryd.func14 (LX) | exact xCl Tryd.func14 (LY)) ?_; refine Jy (by first | exact xNt | exact xNg) ?_)); refine Jo xPk ?_; refine Jm ?_; (first | iterate 4 refine Jd ?_ | (refine Jy (xLa tk_Diagram) ?_; refine Jy xM1 ?_; refine Jy (by first | exact xCl Tryd.func14 (LX) | exact xCl Tryd.func14 (LY)) ?_; refine Jy (by first | exact xNt | exact xNg) ?_)); refine Jo xPk ?_; refine Jm ?_; (first | iterate 3 refine Jd ?_ | (refine Jy (xLa tk_Diagram) ?_; refine Jy (xCl Tryd.func25 (CK)) ?_; refine Jy (by first | exact ok_neqE rfl ti_error rfl (bne_t h0) | exact ok_neqE rfl ti_error rfl (bne_f (by first | rfl | omega)) | exact ok_neqE rfl ti_error rfl (bne_t (by first | assumption | omega)) | exact ok_neqE rfl ti_error rfl rfl) ?_)); refine Jo xPk ?_) | (refine Tx 2 ?_; refine Jo (xCl Tryd.func9 (awake11_cv)) ?_; refine Ja ?_))
    exact ret_q rfl (.cons_ (rv_b rfl (rfl)) .nil_)
  have AF := (affine_cv true hl).cv
  rw [if_pos h0, h0] at AF
  rw [h0] at CK
  by_cases haff : affB bs = true
  case neg =>
    rw [Bool.not_eq_true] at haff
    rw [haff] at AF
    repeat' (with_reducible first | apply qa | apply qb | apply qc | apply qd | apply qe | apply qf | apply qg | apply qh | apply qi | apply qj | apply qk | apply ql rfl | apply qm rfl | apply qn rfl | apply Je | (refine Tx 0 ?_; refine Jn xBo ?_; refine Ja ?_) | (refine Tx 1 ?_; refine Jo (xCl Tryd.func9 (awake11_cv)) ?_; refine Jo (by first | exact xNt | exact xNg) ?_; refine Jm ?_; (first | iterate 4 refine Jd ?_ | (refine Jy (xLa tk_Diagram) ?_; refine Jy xM1 ?_; refine Jy (by first | exact xCl Tryd.func14 (LX) | exact xCl Tryd.func14 (LY)) ?_; refine Jy (by first | exact xNt | exact xNg) ?_)); refine Jo xPk ?_; refine Jm ?_; (first | iterate 4 refine Jd ?_ | (refine Jy (xLa tk_Diagram) ?_; refine Jy xM1 ?_; refine Jy (by first | exact xCl Tryd.func14 (LX) | exact xCl Tryd.func14 (LY)) ?_; refine Jy (by first | exact xNt | exact xNg) ?_)); refine Jo xPk ?_; refine Jm ?_; (first | iterate 3 refine Jd ?_ | (refine Jy (xLa tk_Diagram) ?_; refine Jy (xCl Tryd.func25 (CK)) ?_; refine Jy (xNE ti_error) ?_)); refine Jo xPk ?_) | (refine Tx 3 ?_; refine Jo (xLa tk_Diagram) ?_; refine Jo (xCl Tryd.func30 (AF)) ?_; refine Jo xMt ?_; refine Jo xEx ?_; refine Jo xEx ?_; refine Ja ?_; refine Ja ?_) | (refine Tx 4 ?_; refine Jm ?_; refine Jo (xNE ti_error) ?_; refine Jm ?_; (first | iterate 2 refine Jd ?_ | (refine Jy xM1 ?_; refine Jy (by first | exact xNt | exact xNg) ?_)); refine Jo xPk ?_) | (refine Tx 5 ?_; refine Jm ?_; refine Jo (by first | exact ok_eqlE rfl ti_error rfl (beq_t rfl) | exact ok_eqlE rfl ti_error rfl (beq_t (by first | rfl | omega)) | exact ok_eqlE rfl ti_error rfl (beq_f (by first | assumption | omega)) | exact ok_eqlE rfl ti_error rfl rfl) ?_; refine Ja ?_))
    exact ret_q rfl (.cons_ (rv_b rfl (rfl)) .nil_)
  rw [haff] at AF
  have hl1 := hl.l1
  have hos := (size_of_ok h0).2.2
  have hwl : DgLen (wideP ps) bs os := ⟨by rw [wideP_len]; exact hl.l1, hl.l2, hl.l3, hl.la⟩
  repeat' (with_reducible first | apply qa | apply qb | apply qc | apply qd | apply qe | apply qf | apply qg | apply qh | apply qi | apply qj | apply qk | apply ql rfl | apply qm rfl | apply qn rfl | apply Je | (refine Tx 0 ?_; refine Jn xBo ?_; refine Ja ?_) | (refine Tx 1 ?_; refine Jo (xCl Tryd.func9 (awake11_cv)) ?_; refine Jo (by first | exact xNt | exact xNg) ?_; refine Jm ?_; (first | iterate 4 refine Jd ?_ | (refine Jy (xLa tk_Diagram) ?_; refine Jy xM1 ?_; refine Jy (by first | exact xCl Tryd.func14 (LX) | exact xCl Tryd.func14 (LY)) ?_; refine Jy (by first | exact xNt | exact xNg) ?_)); refine Jo xPk ?_; refine Jm ?_; (first | iterate 4 refine Jd ?_ | (refine Jy (xLa tk_Diagram) ?_; refine Jy xM1 ?_; refine Jy (by first | exact xCl Tryd.func14 (LX) | exact xCl Tryd.func14 (LY)) ?_; refine Jy (by first | exact xNt | exact xNg) ?_)); refine Jo xPk ?_; refine Jm ?_; (first | iterate 3 refine Jd ?_ | (refine Jy (xLa tk_Diagram) ?_; refine Jy (xCl Tryd.func25 (CK)) ?_; refine Jy (xNE ti_error) ?_)); refine Jo xPk ?_) | (refine Tx 3 ?_; refine Jo (xLa tk_Diagram) ?_; refine Jo (xCl Tryd.func30 (AF)) ?_; refine Jo xMt ?_; refine Jo xEx ?_; refine Jo xEx ?_; refine Ja ?_; refine Ja ?_) | (refine Tx 4 ?_; refine Jm ?_; refine Jo (xNE ti_error) ?_; refine Jm ?_; (first | iterate 2 refine Jd ?_ | (refine Jy xM1 ?_; refine Jy (by first | exact xNt | exact xNg) ?_)); refine Jo xPk ?_) | (refine Tx 6 ?_; refine Jo (xFa tf_Diagram1 tk_s_Block) ?_; refine Jo (xLd tk_s_Block) ?_; refine Jo (xFa tf_Diagram2 tk_s_int) ?_; refine Jo (xLd tk_s_int) ?_; refine Jo (by exact ok_build rfl tb_Diagram rfl rfl) ?_; refine Jn (xAl tz_Diagram) ?_; refine Js (xSk tk_Diagram) ?_) | (refine Tx 7 ?_; refine Jo (xFa tf_Diagram0 tk_s_Port) ?_; refine Jo (xLd tk_s_Port) ?_; refine Jo (xLn ts_s_Port) ?_; refine Jm ?_))
  refine cw_wk (wk_nilbox 1 0 69 3 rfl rfl) ?_
  refine cw_wk (F' := ofL [(1, vd (rowLI true x)), (2, vd (rowLI true y)), (3, vr 0), (9, vr 1), (71, vd (rowP true ps)), (72, vi ps.length), (73, vi ((0 : Nat)))]) (H' := [.box 41 [.d (rowP true ps), .d (rowB true bs), .d (rowI true os)], .box 41 [.own 2 ((wideP ps).take (0)).length, .d (rowB true bs), .d (rowI true os)], .row 69 3 ((wideP ps).take (0)).length ((flatD dPrt ((wideP ps).take (0))).map C.d)]) (wk_go _ 3 ?_ ?_ ?_) ?_
  · rfl
  · exact mB rfl rfl
  · exact ⟨bel_lit rfl, bel_lit rfl, bel_D, trivial⟩
  refine cw_loopW (fun n Fr H => ∃ k : Nat, k ≤ ps.length ∧ n = ps.length - k ∧ Fr = ofL [(1, vd (rowLI true x)), (2, vd (rowLI true y)), (3, vr 0), (9, vr 1), (71, vd (rowP true ps)), (72, vi ps.length), (73, vi ((k : Nat)))] ∧ H = [.box 41 [.d (rowP true ps), .d (rowB true bs), .d (rowI true os)], .box 41 [.own 2 ((wideP ps).take (k)).length, .d (rowB true bs), .d (rowI true os)], .row 69 3 ((wideP ps).take (k)).length ((flatD dPrt ((wideP ps).take (k))).map C.d)]) (n0 := ps.length) ⟨0, Nat.zero_le _, rfl, rfl, rfl⟩ ?_
  rintro n Fr H ⟨k, hk, rfl, rfl, rfl⟩
  by_cases hlt : k < ps.length
  case pos =>
    obtain ⟨p, hp⟩ : ∃ p, ps[k]? = some p := ⟨_, List.getElem?_eq_getElem hlt⟩
    have hwp : (wideP ps)[k]? = some ⟨-2147483648, 2147483647, p.fr⟩ := by unfold wideP; rw [List.getElem?_map, hp]; rfl
    have hap : (flatD dPrt ((wideP ps).take (k))).map C.d ++ [.d (.val (.int .i64 (-2147483648))), .d (.val (.int .i64 2147483647)), .d (.val (.int .i64 p.fr))] = (flatD dPrt ((wideP ps).take (k + 1))).map C.d := by rw [List.take_add_one, hwp, Option.toList_some, flatD_app, List.map_append]; rfl
    have hap2 : ((wideP ps).take (k)).length + 1 = ((wideP ps).take (k + 1)).length := by rw [List.take_add_one, hwp, List.length_append]; rfl
    have hoL : ((wideP ps).take (k)).length ≤ k := by rw [List.length_take]; omega
    repeat' (with_reducible first | apply qa | apply qb | apply qc | apply qd | apply qe | apply qf | apply qg | apply qh | apply qi | apply qj | apply qk | apply ql rfl | apply qm rfl | apply qn rfl | apply Je | (refine Tx 8 ?_; refine Jo xLt ?_) | (refine Tx 9 ?_; refine Jo (xIr ts_s_Port (prt_at hp)) ?_; refine Jo (xLa tk_Port) ?_; refine Jn (xAl tz_Port) ?_; refine Js (xSk tk_Port) ?_) | (refine Tx 10 ?_; refine Jo (xFa tf_Diagram0 tk_s_Port) ?_; refine Jo (xLd tk_s_Port) ?_; refine Jo (xFa tf_Port2 tk_int) ?_; refine Jo (xLd tk_int) ?_; refine Jo (by exact ok_build rfl tb_Port rfl rfl) ?_; refine Jn (by exact ok_build1 rfl ts_s_Port tz_Port rfl rfl (by decide) (by decide)) ?_; refine Jt (by exact to_apD rfl rfl rfl rfl rfl rfl ts_s_Port tz_Port (by omega) (by decide) (by decide) rfl hap hap2) ?_; refine Jo (xFa tf_Diagram0 tk_s_Port) ?_; refine Js (by first | exact xS1 tk_s_Port | exact xSk tk_s_Port) ?_) | (refine Tx 11 ?_; refine Jo xAd ?_; refine Jm ?_))
    refine ⟨_, _, wk_go _ 3 ?_ ?_ ?_, _, ?_, k + 1, by omega, rfl, rfl, rfl⟩
    · rfl
    · exact mB rfl rfl
    · exact ⟨bel_lit rfl, bel_lit rfl, bel_D, trivial⟩
    · omega
  obtain rfl : k = ps.length := by omega
  clear hlt hk
  rw [← wideP_len ps, List.take_length]
  obtain ⟨n, hn, n1, n2, n3⟩ : ∃ n : Nat, min (min (x.length : Int) (y.length : Int)) 256 = (n : Int) ∧ n ≤ x.length ∧ n ≤ y.length ∧ n ≤ 256 := ⟨min (min x.length y.length) 256, by omega, by omega, by omega, by omega⟩
  repeat' (with_reducible first | apply qa | apply qb | apply qc | apply qd | apply qe | apply qf | apply qg | apply qh | apply qi | apply qj | apply qk | apply ql rfl | apply qm rfl | apply qn rfl | apply Je | (refine Tx 8 ?_; refine Jo xLt ?_) | (refine Tx 12 ?_; refine Jm ?_; refine Jo (xLn ts_s_s_int) ?_; refine Jm ?_; refine Jo (xLn ts_s_s_int) ?_; refine Jo (by first | exact ok_min3 rfl rfl rfl rfl hn | exact ok_min2 rfl rfl rfl) ?_; refine Ja ?_) | (refine Tx 13 ?_; refine Ja ?_; refine Ja ?_; refine Ja ?_; refine Ja ?_))
  refine cw_wk (wk_nil 13 39 1 rfl) ?_
  refine cw_wk (wk_nil 14 39 1 rfl) ?_
  refine cw_wk (wk_nil 15 39 1 rfl) ?_
  refine cw_wk (wk_nil 16 39 1 rfl) ?_
  repeat' (with_reducible first | apply qa | apply qb | apply qc | apply qd | apply qe | apply qf | apply qg | apply qh | apply qi | apply qj | apply qk | apply ql rfl | apply qm rfl | apply qn rfl | apply Je | (refine Tx 14 ?_; refine Jm ?_; refine Jm ?_))
  refine cw_wk (F' := ofL [(1, vd (rowLI true x)), (2, vd (rowLI true y)), (3, vr 0), (9, vr 1), (12, vi ((n : Nat))), (13, vo 3 0), (14, vo 4 0), (15, vo 5 0), (16, vo 6 0), (91, vi ((n : Nat))), (92, vi ((0 : Nat)))]) (H' := [.box 41 [.d (rowP true ps), .d (rowB true bs), .d (rowI true os)], .box 41 [.own 2 (wideP ps).length, .d (rowB true bs), .d (rowI true os)], .row 69 3 (wideP ps).length ((flatD dPrt (wideP ps)).map C.d), .row 39 1 0 (((rA ps x 0).map (rowI false)).map C.d), .row 39 1 0 (((rA ps y 0).map (rowI false)).map C.d), .row 39 1 0 (((rS ps x y 0).map (rowI false)).map C.d), .row 39 1 0 (((rN ps 0).map (rowI false)).map C.d)]) (wk_go _ 7 ?_ ?_ ?_) ?_
  · rfl
  · exact mB rfl rfl
  · exact ⟨bel_lit rfl, bel_lit rfl, bel_D, bel_D, bel_D, bel_D, bel_D, trivial⟩
  refine cw_loopW (fun m Fr H => ∃ k : Nat, k ≤ n ∧ m = n - k ∧ Fr = ofL [(1, vd (rowLI true x)), (2, vd (rowLI true y)), (3, vr 0), (9, vr 1), (12, vi ((n : Nat))), (13, vo 3 k), (14, vo 4 k), (15, vo 5 k), (16, vo 6 k), (91, vi ((n : Nat))), (92, vi ((k : Nat)))] ∧ H = [.box 41 [.d (rowP true ps), .d (rowB true bs), .d (rowI true os)], .box 41 [.own 2 (wideP ps).length, .d (rowB true bs), .d (rowI true os)], .row 69 3 (wideP ps).length ((flatD dPrt (wideP ps)).map C.d), .row 39 1 k (((rA ps x k).map (rowI false)).map C.d), .row 39 1 k (((rA ps y k).map (rowI false)).map C.d), .row 39 1 k (((rS ps x y k).map (rowI false)).map C.d), .row 39 1 k (((rN ps k).map (rowI false)).map C.d)]) (n0 := n) ⟨0, Nat.zero_le _, rfl, rfl, rfl⟩ ?_
  rintro m Fr H ⟨k, hk, rfl, rfl, rfl⟩
  by_cases hlt : k < n
  case pos =>
    obtain ⟨l, hx⟩ : ∃ l, x[k]? = some l := ⟨_, List.getElem?_eq_getElem (by omega)⟩
    obtain ⟨u, hy⟩ : ∃ u, y[k]? = some u := ⟨_, List.getElem?_eq_getElem (by omega)⟩
    have hll := hil l (List.mem_of_getElem? hx)
    have hul := hil2 u (List.mem_of_getElem? hy)
    have FX := fit_cvo true true l hwl (by omega)
    have FY := fit_cvo true true u hwl (by omega)
    have sA : (rA ps x k) ++ [hfL ps l] = rA ps x (k + 1) := by unfold rA; rw [range_step, hx]; rfl
    have sB : (rA ps y k) ++ [hfL ps u] = rA ps y (k + 1) := by unfold rA; rw [range_step, hy]; rfl
    have sS : (rS ps x y k) ++ [zipS (hfL ps l) (hfL ps u)] = rS ps x y (k + 1) := by unfold rS; rw [range_step, hx, hy]; rfl
    have sN : (rN ps k) ++ [List.replicate ps.length 0] = rN ps (k + 1) := by unfold rN; rw [range_step]
    have lA : (inpV (wideP ps) l (wideP ps).length).length = ps.length := (inp_len _ _).trans (wideP_len ps)
    have lB : (inpV (wideP ps) u (wideP ps).length).length = ps.length := (inp_len _ _).trans (wideP_len ps)
    have wA := fun (j : Nat) (z : Int) => wide_in (ps := ps) (l := l) (z := z) (k := j)
    have wB := fun (j : Nat) (z : Int) => wide_in (ps := ps) (l := u) (z := z) (k := j)
    unfold hfL at sA sB sS
    generalize inpV (wideP ps) l (wideP ps).length = p at *
    generalize inpV (wideP ps) u (wideP ps).length = q at *
    repeat' (with_reducible first | apply qa | apply qb | apply qc | apply qd | apply qe | apply qf | apply qg | apply qh | apply qi | apply qj | apply qk | apply ql rfl | apply qm rfl | apply qn rfl | apply Je | (refine Tx 15 ?_; refine Jo xLt ?_) | (refine Tx 16 ?_; refine Jm ?_; refine Ja ?_) | (refine cw_any (id := 17) mixed (by kernel_rfl) ?_; refine Ko (xLa tk_Diagram) ?_; refine Km ?_; refine Km ?_; refine Ko (by first | exact xIr ts_s_s_int (lin_at hx) | exact xIr ts_s_s_int (lin_at hy)) ?_; refine Ko (xLd tk_s_int) ?_; refine Kn (by exact ok_callI rfl Tryd.func27 (by kernel_rfl) rfl FX (by with_unfolding_all first | ((repeat' first | exact lrel_n rfl rfl | refine lrel_c rfl rfl ?_ ?_ | refine xexp_1 rfl rfl ?_ | refine xexp_a rfl rfl ?_ | exact cexp_d rfl (fun h => by cases h) | exact cexp_dT rfl rfl rfl) <;> fail) | fail)) ?_; refine Ko (xLa tk_Diagram) ?_; refine Km ?_; refine Km ?_; refine Ko (by first | exact xIr ts_s_s_int (lin_at hx) | exact xIr ts_s_s_int (lin_at hy)) ?_; refine Ko (xLd tk_s_int) ?_; refine Kn (by exact ok_callI rfl Tryd.func27 (by kernel_rfl) rfl FY (by with_unfolding_all first | ((repeat' first | exact lrel_n rfl rfl | refine lrel_c rfl rfl ?_ ?_ | refine xexp_1 rfl rfl ?_ | refine xexp_a rfl rfl ?_ | exact cexp_d rfl (fun h => by cases h) | exact cexp_dT rfl rfl rfl) <;> fail) | fail)) ?_; refine Ka ?_; refine Ka ?_; refine Ke ?_) | (refine Tx 18 ?_; refine Ja ?_))
    refine cw_wk (wk_nil 20 3 1 rfl) ?_
    repeat' (with_reducible first | apply qa | apply qb | apply qc | apply qd | apply qe | apply qf | apply qg | apply qh | apply qi | apply qj | apply qk | apply ql rfl | apply qm rfl | apply qn rfl | apply Je | (refine Tx 19 ?_; refine Jm ?_; refine Jo (xLn ts_s_int) ?_; refine Jm ?_))
    refine cw_wk (F' := ofL [(1, vd (rowLI true x)), (2, vd (rowLI true y)), (3, vr 0), (9, vr 1), (12, vi ((n : Nat))), (13, vo 3 k), (14, vo 4 k), (15, vo 5 k), (16, vo 6 k), (17, vi ((k : Nat))), (18, vo 7 p.length), (19, vo 8 q.length), (20, vo 9 0), (91, vi ((n : Nat))), (92, vi ((k : Nat))), (108, vi p.length), (109, vi ((0 : Nat)))]) (H' := [.box 41 [.d (rowP true ps), .d (rowB true bs), .d (rowI true os)], .box 41 [.own 2 (wideP ps).length, .d (rowB true bs), .d (rowI true os)], .row 69 3 (wideP ps).length ((flatD dPrt (wideP ps)).map C.d), .row 39 1 k (((rA ps x k).map (rowI false)).map C.d), .row 39 1 k (((rA ps y k).map (rowI false)).map C.d), .row 39 1 k (((rS ps x y k).map (rowI false)).map C.d), .row 39 1 k (((rN ps k).map (rowI false)).map C.d), .row 3 1 p.length (cI (hpK p 0)), .row 3 1 q.length (cI (hpK q 0)), .row 3 1 0 (cI ((zipS (p.map hv) (q.map hv)).take (0)))]) (wk_go _ 10 ?_ ?_ ?_) ?_
    · rfl
    · exact mB rfl rfl
    · exact ⟨bel_lit rfl, bel_lit rfl, bel_D, bel_D, bel_D, bel_D, bel_D, bel_cI, bel_cI, bel_cI, trivial⟩
    refine cw_loopW (fun m Fr H => ∃ j : Nat, j ≤ p.length ∧ m = p.length - j ∧ Fr = ofL [(1, vd (rowLI true x)), (2, vd (rowLI true y)), (3, vr 0), (9, vr 1), (12, vi ((n : Nat))), (13, vo 3 k), (14, vo 4 k), (15, vo 5 k), (16, vo 6 k), (17, vi ((k : Nat))), (18, vo 7 p.length), (19, vo 8 q.length), (20, vo 9 j), (91, vi ((n : Nat))), (92, vi ((k : Nat))), (108, vi p.length), (109, vi ((j : Nat)))] ∧ H = [.box 41 [.d (rowP true ps), .d (rowB true bs), .d (rowI true os)], .box 41 [.own 2 (wideP ps).length, .d (rowB true bs), .d (rowI true os)], .row 69 3 (wideP ps).length ((flatD dPrt (wideP ps)).map C.d), .row 39 1 k (((rA ps x k).map (rowI false)).map C.d), .row 39 1 k (((rA ps y k).map (rowI false)).map C.d), .row 39 1 k (((rS ps x y k).map (rowI false)).map C.d), .row 39 1 k (((rN ps k).map (rowI false)).map C.d), .row 3 1 p.length (cI (hpK p j)), .row 3 1 q.length (cI (hpK q j)), .row 3 1 j (cI ((zipS (p.map hv) (q.map hv)).take (j)))]) (n0 := p.length) ⟨0, Nat.zero_le _, rfl, rfl, rfl⟩ ?_
    rintro m Fr H ⟨j, hj, rfl, rfl, rfl⟩
    by_cases hlj : j < p.length
    case pos =>
      obtain ⟨z, hz⟩ : ∃ z, p[j]? = some z := ⟨_, List.getElem?_eq_getElem hlj⟩
      obtain ⟨w, hw⟩ : ∃ w, q[j]? = some w := ⟨_, List.getElem?_eq_getElem (by omega)⟩
      have bz := wA j z hz
      have bw := wB j w hw
      have bz2 := hv_in bz
      have bw2 := hv_in bw
      have pz := hpK_at hz
      have pw := hpK_at hw
      have sz := hpK_set hz
      have sw := hpK_set hw
      have tz := hpK_to hz
      have tw := hpK_to hw
      have lz : j < (hpK p j).length := by rw [hpK_len]; exact hlj
      have lw : j < (hpK q j).length := by rw [hpK_len]; omega
      have hap : ((zipS (p.map hv) (q.map hv)).take (j)) ++ [hv z + hv w] = ((zipS (p.map hv) (q.map hv)).take (j + 1)) := by rw [List.take_add_one, zip_at hz hw, Option.toList_some]
      repeat' (with_reducible first | (refine cw_ch (id := 22) tab_G 17 mixed (by kernel_rfl) ?_; dsimp only [List.take, List.drop]; refine cm_o (fun H2 => xM1) ?_; refine cm_o (fun H2 => xM1) ?_; refine cm_o (fun H2 => xM1) ?_; refine cm_o (fun H2 => xM1) ?_; refine cm_o (fun H2 => xM1) ?_; refine cm_o (fun H2 => xM1) ?_; refine cm_r (xIo (i := j) ts_s_int) ?_; refine cm_r (by first | exact xLi pz tk_int | exact xLd tk_int) ?_; refine cm_o (fun H2 => (by first | exact ok_half rfl rfl rfl rfl bz | exact ok_quo rfl rfl rfl (by omega))) ?_; refine cm_o (fun H2 => xM1) ?_; refine cm_o (fun H2 => xM1) ?_; refine cm_r (xIo (i := j) ts_s_int) ?_; refine cm_r (by first | exact xLi pw tk_int | exact xLd tk_int) ?_; refine cm_o (fun H2 => (by first | exact ok_half rfl rfl rfl rfl bw | exact ok_quo rfl rfl rfl (by omega))) ?_; refine cm_r (xIo (i := j) ts_s_int) ?_; refine cm_s (by first | exact to_stI rfl rfl rfl rfl tk_int lz sz | exact xS1 tk_int | exact xSk tk_int) ?_; refine cm_r (xIo (i := j) ts_s_int) ?_; refine cm_nil ?_; refine Js (by first | exact to_stI rfl rfl rfl rfl tk_int lw sw | exact xS1 tk_int | exact xSk tk_int) ?_) | apply qa | apply qb | apply qc | apply qd | apply qe | apply qf | apply qg | apply qh | apply qi | apply qj | apply qk | apply ql rfl | apply qm rfl | apply qn rfl | apply Je | (refine Tx 20 ?_; refine Jo xLt ?_) | (refine Tx 21 ?_; refine Jm ?_; refine Ja ?_) | (refine cw_part (id := 23) 11 mixed (by kernel_rfl) ?_; dsimp only [List.take, List.drop]; refine Km ?_; refine Km ?_; refine Km ?_; refine Ko (xIo (i := j) ts_s_int) ?_; refine Ko (by first | exact xLi tz tk_int | exact xLd tk_int) ?_; refine Km ?_; refine Km ?_; refine Ko (xIo (i := j) ts_s_int) ?_; refine Ko (by first | exact xLi tw tk_int | exact xLd tk_int) ?_; refine Ko xAd ?_; refine Kn (by exact ok_build1 rfl ts_s_int tz_int rfl rfl (by decide) (by decide)) ?_; refine Ke ?_; refine Jt (by exact to_apI rfl rfl rfl rfl rfl rfl ts_s_int tz_int (by omega) (by decide) hap rfl) ?_; refine Ja ?_) | (refine Tx 24 ?_; refine Jo xAd ?_; refine Jm ?_))
      refine ⟨_, _, wk_go _ 10 ?_ ?_ ?_, _, ?_, j + 1, by omega, rfl, rfl, rfl⟩
      · rfl
      · exact mB rfl rfl
      · exact ⟨bel_lit rfl, bel_lit rfl, bel_D, bel_D, bel_D, bel_D, bel_D, bel_cI, bel_cI, bel_cI, trivial⟩
      · omega
    obtain rfl : j = p.length := by omega
    clear hlj hj
    have hzl : ((zipS (p.map hv) (q.map hv)).take (p.length)) = zipS (p.map hv) (q.map hv) := List.take_of_length_le (by simp [zipS]; omega)
    have hpq : q.length = p.length := by omega
    rw [hzl, hpK_end, ← hpq, hpK_end]
    repeat' (with_reducible first | apply qa | apply qb | apply qc | apply qd | apply qe | apply qf | apply qg | apply qh | apply qi | apply qj | apply qk | apply ql rfl | apply qm rfl | apply qn rfl | apply Je | (refine Tx 20 ?_; refine Jo xLt ?_))
    refine cw_wk (wk_freeze (ds := (p.map hv).map dI) 18 7 rfl (by rw [← cI_Dm]; rfl)) ?_
    refine cw_wk (wk_freeze (ds := (q.map hv).map dI) 19 8 rfl (by rw [← cI_Dm]; rfl)) ?_
    refine cw_wk (wk_freeze (ds := (zipS (p.map hv) (q.map hv)).map dI) 20 9 rfl (by rw [← cI_Dm]; rfl)) ?_
    have eA := rows_app sA (n := q.length) (by simp; omega)
    have eB := rows_app sB (n := q.length) (by simp)
    have eS := rows_app sS (n := q.length) (by simp [zipS]; omega)
    have eN : ((rN ps k).map (rowI false)).map C.d ++ [.d (rowI false (List.replicate q.length 0))] = ((rN ps (k + 1)).map (rowI false)).map C.d := by rw [lB, ← sN, List.map_append, List.map_append]; rfl
    repeat' (with_reducible first | (refine cw_ch (id := 25) tab_G 18 mixed (by kernel_rfl) ?_; dsimp only [List.take, List.drop]; refine cm_o (fun H2 => xM1) ?_; refine cm_o (fun H2 => xM1) ?_; refine cm_o (fun H2 => (by first | exact ok_build1D rfl rfl ts_s_s_int tz_s_int | exact ok_build1 rfl ts_s_s_int tz_s_int rfl rfl (by decide) (by decide))) ?_; refine cm_w (by exact to_apE1 rfl rfl rfl rfl ts_s_s_int tz_s_int (by omega) eA) ?_; refine cm_o (fun H2 => xM1) ?_; refine cm_o (fun H2 => xM1) ?_; refine cm_o (fun H2 => (by first | exact ok_build1D rfl rfl ts_s_s_int tz_s_int | exact ok_build1 rfl ts_s_s_int tz_s_int rfl rfl (by decide) (by decide))) ?_; refine cm_w (by exact to_apE1 rfl rfl rfl rfl ts_s_s_int tz_s_int (by omega) eB) ?_; refine cm_o (fun H2 => xM1) ?_; refine cm_o (fun H2 => xM1) ?_; refine cm_o (fun H2 => (by first | exact ok_build1D rfl rfl ts_s_s_int tz_s_int | exact ok_build1 rfl ts_s_s_int tz_s_int rfl rfl (by decide) (by decide))) ?_; refine cm_w (by exact to_apE1 rfl rfl rfl rfl ts_s_s_int tz_s_int (by omega) eS) ?_; refine cm_o (fun H2 => xM1) ?_; refine cm_o (fun H2 => xM1) ?_; refine cm_o (fun H2 => (xLn ts_s_int)) ?_; refine cm_o (fun H2 => (by first | exact ok_makeZ rfl rfl rfl ts_s_int tz_int (by omega) (by decide) | exact ok_makeSlice rfl rfl rfl ts_s_int tz_int (by omega) (by decide))) ?_; refine cm_o (fun H2 => (by first | exact ok_build1D rfl rfl ts_s_s_int tz_s_int | exact ok_build1 rfl ts_s_s_int tz_s_int rfl rfl (by decide) (by decide))) ?_; refine cm_w (by exact to_apE1 rfl rfl rfl rfl ts_s_s_int tz_s_int (by omega) eN) ?_; refine cm_nil ?_; refine Ja ?_; refine Ja ?_; refine Ja ?_; refine Ja ?_) | apply qa | apply qb | apply qc | apply qd | apply qe | apply qf | apply qg | apply qh | apply qi | apply qj | apply qk | apply ql rfl | apply qm rfl | apply qn rfl)
    repeat' (with_reducible first | apply qa | apply qb | apply qc | apply qd | apply qe | apply qf | apply qg | apply qh | apply qi | apply qj | apply qk | apply ql rfl | apply qm rfl | apply qn rfl | apply Je | (refine Tx 26 ?_; refine Jo xAd ?_; refine Jm ?_))
    refine ⟨_, _, wk_go _ 7 ?_ ?_ ?_, _, ?_, k + 1, by omega, rfl, rfl, rfl⟩
    · rfl
    · exact mB rfl rfl
    · exact ⟨bel_lit rfl, bel_lit rfl, bel_D, bel_D, bel_D, bel_D, bel_D, trivial⟩
    · omega
  obtain rfl : k = n := by omega
  clear hlt hk
  have RA := prun_cv true true false hwl (rA ps x k) (inr_len (rA_in ps x k) hl1) (by rw [rA_len]; omega)
  have RB := prun_cv true true false hwl (rA ps y k) (inr_len (rA_in ps y k) hl1) (by rw [rA_len]; omega)
  have RS := prun_cv true true false hwl (rS ps x y k) (inr_len (rS_in ps x y k) hl1) (by rw [rS_len]; omega)
  have RN := prun_cv true true false hwl (rN ps k) (inr_len (rN_in ps k) hl1) (by rw [rN_len]; omega)
  have q0 := inr_run (os := os) h0 (rA_in ps x k)
  have q1 := inr_run (os := os) h0 (rA_in ps y k)
  have q2 := inr_run (os := os) h0 (rS_in ps x y k)
  have q3 := inr_run (os := os) h0 (rN_in ps k)
  have B44 := (bis_cv 4 4).cv
  rw [show isB 4 4 = true from rfl] at B44
  have B04 := (bis_cv 0 4).cv
  rw [show isB 0 4 = false from rfl] at B04
  unfold rowLJ at RA RB RS RN
  rw [rA_len] at RA RB
  rw [rS_len] at RS
  rw [rN_len] at RN
  rcases q0 with z0 | z0
  rotate_left
  ·
    rw [z0] at RA
    repeat' (with_reducible first | apply qa | apply qb | apply qc | apply qd | apply qe | apply qf | apply qg | apply qh | apply qi | apply qj | apply qk | apply ql rfl | apply qm rfl | apply qn rfl | apply Je | (refine Tx 15 ?_; refine Jo xLt ?_) | (refine Tx 27 ?_; refine Jo (xLa tk_Diagram) ?_; refine Jm ?_; refine Jo (xCl Tryd.func23 RA (ha := by with_unfolding_all first | ((repeat' first | exact lrel_n rfl rfl | refine lrel_c rfl rfl ?_ ?_ | refine xexp_1 rfl rfl ?_ | refine xexp_a rfl rfl ?_ | exact cexp_d rfl (fun h => by cases h) | exact cexp_dT rfl rfl rfl) <;> fail) | fail)) ?_; refine Jo xMt ?_; refine Jo xEx ?_; refine Jo xEx ?_; refine Ja ?_; refine Ja ?_) | (refine Tx 28 ?_; refine Jo (xLa tk_Diagram) ?_; refine Jm ?_; refine Jo (xCl Tryd.func23 RB (ha := by with_unfolding_all first | ((repeat' first | exact lrel_n rfl rfl | refine lrel_c rfl rfl ?_ ?_ | refine xexp_1 rfl rfl ?_ | refine xexp_a rfl rfl ?_ | exact cexp_d rfl (fun h => by cases h) | exact cexp_dT rfl rfl rfl) <;> fail) | fail)) ?_; refine Jo xMt ?_; refine Jo xEx ?_; refine Jo xEx ?_; refine Ja ?_; refine Ja ?_) | (refine Tx 29 ?_; refine Jo (xLa tk_Diagram) ?_; refine Jm ?_; refine Jo (xCl Tryd.func23 RS (ha := by with_unfolding_all first | ((repeat' first | exact lrel_n rfl rfl | refine lrel_c rfl rfl ?_ ?_ | refine xexp_1 rfl rfl ?_ | refine xexp_a rfl rfl ?_ | exact cexp_d rfl (fun h => by cases h) | exact cexp_dT rfl rfl rfl) <;> fail) | fail)) ?_; refine Jo xMt ?_; refine Jo xEx ?_; refine Jo xEx ?_; refine Ja ?_; refine Ja ?_) | (refine Tx 30 ?_; refine Jo (xLa tk_Diagram) ?_; refine Jm ?_; refine Jo (xCl Tryd.func23 RN (ha := by with_unfolding_all first | ((repeat' first | exact lrel_n rfl rfl | refine lrel_c rfl rfl ?_ ?_ | refine xexp_1 rfl rfl ?_ | refine xexp_a rfl rfl ?_ | exact cexp_d rfl (fun h => by cases h) | exact cexp_dT rfl rfl rfl) <;> fail) | fail)) ?_; refine Jo xMt ?_; refine Jo xEx ?_; refine Jo xEx ?_; refine Ja ?_; refine Ja ?_) | (refine Tx 31 ?_; refine Jm ?_; refine Jo (by first | exact ok_neqE rfl ti_error rfl (bne_t (by decide)) | exact ok_neqE rfl ti_error rfl (bne_f (by first | rfl | omega)) | exact ok_neqE rfl ti_error rfl (bne_t (by first | assumption | omega)) | exact ok_neqE rfl ti_error rfl rfl) ?_; refine Jm ?_; (first | iterate 2 refine Jd ?_ | (refine Jy xM1 ?_; refine Jy (xNE ti_error) ?_)); refine Jo xPk ?_; refine Jm ?_; (first | iterate 2 refine Jd ?_ | (refine Jy xM1 ?_; refine Jy (xNE ti_error) ?_)); refine Jo xPk ?_; refine Jm ?_; (first | iterate 2 refine Jd ?_ | (refine Jy xM1 ?_; refine Jy (xNE ti_error) ?_)); refine Jo xPk ?_) | (refine Tx 32 ?_; refine Jm ?_; refine Jo (by first | exact xCl Tryd.func11 (B44) | exact xCl Tryd.func11 (B04)) ?_; refine Jm ?_; (first | iterate 2 refine Jd ?_ | (refine Jy xM1 ?_; refine Jy (by first | exact xCl Tryd.func11 (B44) | exact xCl Tryd.func11 (B04)) ?_)); refine Jo xPk ?_; refine Jm ?_; (first | iterate 2 refine Jd ?_ | (refine Jy xM1 ?_; refine Jy (by first | exact xCl Tryd.func11 (B44) | exact xCl Tryd.func11 (B04)) ?_)); refine Jo xPk ?_; refine Jm ?_; (first | iterate 2 refine Jd ?_ | (refine Jy xM1 ?_; refine Jy (by first | exact xCl Tryd.func11 (B44) | exact xCl Tryd.func11 (B04)) ?_)); refine Jo xPk ?_; refine Ja ?_))
    exact ret_q rfl (.cons_ (rv_b rfl (rfl)) .nil_)
  rw [z0, okQ_z rfl] at RA
  rcases q1 with z1 | z1
  rotate_left
  ·
    rw [z1] at RB
    repeat' (with_reducible first | apply qa | apply qb | apply qc | apply qd | apply qe | apply qf | apply qg | apply qh | apply qi | apply qj | apply qk | apply ql rfl | apply qm rfl | apply qn rfl | apply Je | (refine Tx 15 ?_; refine Jo xLt ?_) | (refine Tx 27 ?_; refine Jo (xLa tk_Diagram) ?_; refine Jm ?_; refine Jo (xCl Tryd.func23 RA (ha := by with_unfolding_all first | ((repeat' first | exact lrel_n rfl rfl | refine lrel_c rfl rfl ?_ ?_ | refine xexp_1 rfl rfl ?_ | refine xexp_a rfl rfl ?_ | exact cexp_d rfl (fun h => by cases h) | exact cexp_dT rfl rfl rfl) <;> fail) | fail)) ?_; refine Jo xMt ?_; refine Jo xEx ?_; refine Jo xEx ?_; refine Ja ?_; refine Ja ?_) | (refine Tx 28 ?_; refine Jo (xLa tk_Diagram) ?_; refine Jm ?_; refine Jo (xCl Tryd.func23 RB (ha := by with_unfolding_all first | ((repeat' first | exact lrel_n rfl rfl | refine lrel_c rfl rfl ?_ ?_ | refine xexp_1 rfl rfl ?_ | refine xexp_a rfl rfl ?_ | exact cexp_d rfl (fun h => by cases h) | exact cexp_dT rfl rfl rfl) <;> fail) | fail)) ?_; refine Jo xMt ?_; refine Jo xEx ?_; refine Jo xEx ?_; refine Ja ?_; refine Ja ?_) | (refine Tx 29 ?_; refine Jo (xLa tk_Diagram) ?_; refine Jm ?_; refine Jo (xCl Tryd.func23 RS (ha := by with_unfolding_all first | ((repeat' first | exact lrel_n rfl rfl | refine lrel_c rfl rfl ?_ ?_ | refine xexp_1 rfl rfl ?_ | refine xexp_a rfl rfl ?_ | exact cexp_d rfl (fun h => by cases h) | exact cexp_dT rfl rfl rfl) <;> fail) | fail)) ?_; refine Jo xMt ?_; refine Jo xEx ?_; refine Jo xEx ?_; refine Ja ?_; refine Ja ?_) | (refine Tx 30 ?_; refine Jo (xLa tk_Diagram) ?_; refine Jm ?_; refine Jo (xCl Tryd.func23 RN (ha := by with_unfolding_all first | ((repeat' first | exact lrel_n rfl rfl | refine lrel_c rfl rfl ?_ ?_ | refine xexp_1 rfl rfl ?_ | refine xexp_a rfl rfl ?_ | exact cexp_d rfl (fun h => by cases h) | exact cexp_dT rfl rfl rfl) <;> fail) | fail)) ?_; refine Jo xMt ?_; refine Jo xEx ?_; refine Jo xEx ?_; refine Ja ?_; refine Ja ?_) | (refine Tx 31 ?_; refine Jm ?_; refine Jo (xNE ti_error) ?_; refine Jm ?_; (first | iterate 2 refine Jd ?_ | (refine Jy xM1 ?_; refine Jy (by first | exact ok_neqE rfl ti_error rfl (bne_t (by decide)) | exact ok_neqE rfl ti_error rfl (bne_f (by first | rfl | omega)) | exact ok_neqE rfl ti_error rfl (bne_t (by first | assumption | omega)) | exact ok_neqE rfl ti_error rfl rfl) ?_)); refine Jo xPk ?_; refine Jm ?_; (first | iterate 2 refine Jd ?_ | (refine Jy xM1 ?_; refine Jy (xNE ti_error) ?_)); refine Jo xPk ?_; refine Jm ?_; (first | iterate 2 refine Jd ?_ | (refine Jy xM1 ?_; refine Jy (xNE ti_error) ?_)); refine Jo xPk ?_) | (refine Tx 32 ?_; refine Jm ?_; refine Jo (by first | exact xCl Tryd.func11 (B44) | exact xCl Tryd.func11 (B04)) ?_; refine Jm ?_; (first | iterate 2 refine Jd ?_ | (refine Jy xM1 ?_; refine Jy (by first | exact xCl Tryd.func11 (B44) | exact xCl Tryd.func11 (B04)) ?_)); refine Jo xPk ?_; refine Jm ?_; (first | iterate 2 refine Jd ?_ | (refine Jy xM1 ?_; refine Jy (by first | exact xCl Tryd.func11 (B44) | exact xCl Tryd.func11 (B04)) ?_)); refine Jo xPk ?_; refine Jm ?_; (first | iterate 2 refine Jd ?_ | (refine Jy xM1 ?_; refine Jy (by first | exact xCl Tryd.func11 (B44) | exact xCl Tryd.func11 (B04)) ?_)); refine Jo xPk ?_; refine Ja ?_))
    exact ret_q rfl (.cons_ (rv_b rfl (rfl)) .nil_)
  rw [z1, okQ_z rfl] at RB
  rcases q2 with z2 | z2
  rotate_left
  ·
    rw [z2] at RS
    repeat' (with_reducible first | apply qa | apply qb | apply qc | apply qd | apply qe | apply qf | apply qg | apply qh | apply qi | apply qj | apply qk | apply ql rfl | apply qm rfl | apply qn rfl | apply Je | (refine Tx 15 ?_; refine Jo xLt ?_) | (refine Tx 27 ?_; refine Jo (xLa tk_Diagram) ?_; refine Jm ?_; refine Jo (xCl Tryd.func23 RA (ha := by with_unfolding_all first | ((repeat' first | exact lrel_n rfl rfl | refine lrel_c rfl rfl ?_ ?_ | refine xexp_1 rfl rfl ?_ | refine xexp_a rfl rfl ?_ | exact cexp_d rfl (fun h => by cases h) | exact cexp_dT rfl rfl rfl) <;> fail) | fail)) ?_; refine Jo xMt ?_; refine Jo xEx ?_; refine Jo xEx ?_; refine Ja ?_; refine Ja ?_) | (refine Tx 28 ?_; refine Jo (xLa tk_Diagram) ?_; refine Jm ?_; refine Jo (xCl Tryd.func23 RB (ha := by with_unfolding_all first | ((repeat' first | exact lrel_n rfl rfl | refine lrel_c rfl rfl ?_ ?_ | refine xexp_1 rfl rfl ?_ | refine xexp_a rfl rfl ?_ | exact cexp_d rfl (fun h => by cases h) | exact cexp_dT rfl rfl rfl) <;> fail) | fail)) ?_; refine Jo xMt ?_; refine Jo xEx ?_; refine Jo xEx ?_; refine Ja ?_; refine Ja ?_) | (refine Tx 29 ?_; refine Jo (xLa tk_Diagram) ?_; refine Jm ?_; refine Jo (xCl Tryd.func23 RS (ha := by with_unfolding_all first | ((repeat' first | exact lrel_n rfl rfl | refine lrel_c rfl rfl ?_ ?_ | refine xexp_1 rfl rfl ?_ | refine xexp_a rfl rfl ?_ | exact cexp_d rfl (fun h => by cases h) | exact cexp_dT rfl rfl rfl) <;> fail) | fail)) ?_; refine Jo xMt ?_; refine Jo xEx ?_; refine Jo xEx ?_; refine Ja ?_; refine Ja ?_) | (refine Tx 30 ?_; refine Jo (xLa tk_Diagram) ?_; refine Jm ?_; refine Jo (xCl Tryd.func23 RN (ha := by with_unfolding_all first | ((repeat' first | exact lrel_n rfl rfl | refine lrel_c rfl rfl ?_ ?_ | refine xexp_1 rfl rfl ?_ | refine xexp_a rfl rfl ?_ | exact cexp_d rfl (fun h => by cases h) | exact cexp_dT rfl rfl rfl) <;> fail) | fail)) ?_; refine Jo xMt ?_; refine Jo xEx ?_; refine Jo xEx ?_; refine Ja ?_; refine Ja ?_) | (refine Tx 31 ?_; refine Jm ?_; refine Jo (xNE ti_error) ?_; refine Jm ?_; (first | iterate 2 refine Jd ?_ | (refine Jy xM1 ?_; refine Jy (xNE ti_error) ?_)); refine Jo xPk ?_; refine Jm ?_; (first | iterate 2 refine Jd ?_ | (refine Jy xM1 ?_; refine Jy (by first | exact ok_neqE rfl ti_error rfl (bne_t (by decide)) | exact ok_neqE rfl ti_error rfl (bne_f (by first | rfl | omega)) | exact ok_neqE rfl ti_error rfl (bne_t (by first | assumption | omega)) | exact ok_neqE rfl ti_error rfl rfl) ?_)); refine Jo xPk ?_; refine Jm ?_; (first | iterate 2 refine Jd ?_ | (refine Jy xM1 ?_; refine Jy (xNE ti_error) ?_)); refine Jo xPk ?_) | (refine Tx 32 ?_; refine Jm ?_; refine Jo (by first | exact xCl Tryd.func11 (B44) | exact xCl Tryd.func11 (B04)) ?_; refine Jm ?_; (first | iterate 2 refine Jd ?_ | (refine Jy xM1 ?_; refine Jy (by first | exact xCl Tryd.func11 (B44) | exact xCl Tryd.func11 (B04)) ?_)); refine Jo xPk ?_; refine Jm ?_; (first | iterate 2 refine Jd ?_ | (refine Jy xM1 ?_; refine Jy (by first | exact xCl Tryd.func11 (B44) | exact xCl Tryd.func11 (B04)) ?_)); refine Jo xPk ?_; refine Jm ?_; (first | iterate 2 refine Jd ?_ | (refine Jy xM1 ?_; refine Jy (by first | exact xCl Tryd.func11 (B44) | exact xCl Tryd.func11 (B04)) ?_)); refine Jo xPk ?_; refine Ja ?_))
    exact ret_q rfl (.cons_ (rv_b rfl (rfl)) .nil_)
  rw [z2, okQ_z rfl] at RS
  rcases q3 with z3 | z3
  rotate_left
  ·
    rw [z3] at RN
    repeat' (with_reducible first | apply qa | apply qb | apply qc | apply qd | apply qe | apply qf | apply qg | apply qh | apply qi | apply qj | apply qk | apply ql rfl | apply qm rfl | apply qn rfl | apply Je | (refine Tx 15 ?_; refine Jo xLt ?_) | (refine Tx 27 ?_; refine Jo (xLa tk_Diagram) ?_; refine Jm ?_; refine Jo (xCl Tryd.func23 RA (ha := by with_unfolding_all first | ((repeat' first | exact lrel_n rfl rfl | refine lrel_c rfl rfl ?_ ?_ | refine xexp_1 rfl rfl ?_ | refine xexp_a rfl rfl ?_ | exact cexp_d rfl (fun h => by cases h) | exact cexp_dT rfl rfl rfl) <;> fail) | fail)) ?_; refine Jo xMt ?_; refine Jo xEx ?_; refine Jo xEx ?_; refine Ja ?_; refine Ja ?_) | (refine Tx 28 ?_; refine Jo (xLa tk_Diagram) ?_; refine Jm ?_; refine Jo (xCl Tryd.func23 RB (ha := by with_unfolding_all first | ((repeat' first | exact lrel_n rfl rfl | refine lrel_c rfl rfl ?_ ?_ | refine xexp_1 rfl rfl ?_ | refine xexp_a rfl rfl ?_ | exact cexp_d rfl (fun h => by cases h) | exact cexp_dT rfl rfl rfl) <;> fail) | fail)) ?_; refine Jo xMt ?_; refine Jo xEx ?_; refine Jo xEx ?_; refine Ja ?_; refine Ja ?_) | (refine Tx 29 ?_; refine Jo (xLa tk_Diagram) ?_; refine Jm ?_; refine Jo (xCl Tryd.func23 RS (ha := by with_unfolding_all first | ((repeat' first | exact lrel_n rfl rfl | refine lrel_c rfl rfl ?_ ?_ | refine xexp_1 rfl rfl ?_ | refine xexp_a rfl rfl ?_ | exact cexp_d rfl (fun h => by cases h) | exact cexp_dT rfl rfl rfl) <;> fail) | fail)) ?_; refine Jo xMt ?_; refine Jo xEx ?_; refine Jo xEx ?_; refine Ja ?_; refine Ja ?_) | (refine Tx 30 ?_; refine Jo (xLa tk_Diagram) ?_; refine Jm ?_; refine Jo (xCl Tryd.func23 RN (ha := by with_unfolding_all first | ((repeat' first | exact lrel_n rfl rfl | refine lrel_c rfl rfl ?_ ?_ | refine xexp_1 rfl rfl ?_ | refine xexp_a rfl rfl ?_ | exact cexp_d rfl (fun h => by cases h) | exact cexp_dT rfl rfl rfl) <;> fail) | fail)) ?_; refine Jo xMt ?_; refine Jo xEx ?_; refine Jo xEx ?_; refine Ja ?_; refine Ja ?_) | (refine Tx 31 ?_; refine Jm ?_; refine Jo (xNE ti_error) ?_; refine Jm ?_; (first | iterate 2 refine Jd ?_ | (refine Jy xM1 ?_; refine Jy (xNE ti_error) ?_)); refine Jo xPk ?_; refine Jm ?_; (first | iterate 2 refine Jd ?_ | (refine Jy xM1 ?_; refine Jy (xNE ti_error) ?_)); refine Jo xPk ?_; refine Jm ?_; (first | iterate 2 refine Jd ?_ | (refine Jy xM1 ?_; refine Jy (by first | exact ok_neqE rfl ti_error rfl (bne_t (by decide)) | exact ok_neqE rfl ti_error rfl (bne_f (by first | rfl | omega)) | exact ok_neqE rfl ti_error rfl (bne_t (by first | assumption | omega)) | exact ok_neqE rfl ti_error rfl rfl) ?_)); refine Jo xPk ?_) | (refine Tx 32 ?_; refine Jm ?_; refine Jo (by first | exact xCl Tryd.func11 (B44) | exact xCl Tryd.func11 (B04)) ?_; refine Jm ?_; (first | iterate 2 refine Jd ?_ | (refine Jy xM1 ?_; refine Jy (by first | exact xCl Tryd.func11 (B44) | exact xCl Tryd.func11 (B04)) ?_)); refine Jo xPk ?_; refine Jm ?_; (first | iterate 2 refine Jd ?_ | (refine Jy xM1 ?_; refine Jy (by first | exact xCl Tryd.func11 (B44) | exact xCl Tryd.func11 (B04)) ?_)); refine Jo xPk ?_; refine Jm ?_; (first | iterate 2 refine Jd ?_ | (refine Jy xM1 ?_; refine Jy (by first | exact xCl Tryd.func11 (B44) | exact xCl Tryd.func11 (B04)) ?_)); refine Jo xPk ?_; refine Ja ?_))
    exact ret_q rfl (.cons_ (rv_b rfl (rfl)) .nil_)
  rw [z3, okQ_z rfl] at RN
  have cmp := fun (r j : Nat) (la lb ls ln : List Pq) (a b s m : Pq) => aff_cmp (r := r) (j := j) (la := la) (lb := lb) (ls := ls) (ln := ln) (a := a) (b := b) (s := s) (m := m) h0 haff z0 z1 z2 z3
  have he := wide_err h0
  have so := start_ok he
  have wA := fun l hm => (runO_sm he so (runQ_zero z0).2.2 l hm).2
  have eA : (runO (wideP ps) bs os (startM bs) (rA ps x k)).length = k := by rw [runO_len, rA_len]
  generalize runO (wideP ps) bs os (startM bs) (rA ps x k) = OA at *
  have wB := fun l hm => (runO_sm he so (runQ_zero z1).2.2 l hm).2
  have eB : (runO (wideP ps) bs os (startM bs) (rA ps y k)).length = k := by rw [runO_len, rA_len]
  generalize runO (wideP ps) bs os (startM bs) (rA ps y k) = OB at *
  have wS := fun l hm => (runO_sm he so (runQ_zero z2).2.2 l hm).2
  have eS : (runO (wideP ps) bs os (startM bs) (rS ps x y k)).length = k := by rw [runO_len, rS_len]
  generalize runO (wideP ps) bs os (startM bs) (rS ps x y k) = OS at *
  have wN := fun l hm => (runO_sm he so (runQ_zero z3).2.2 l hm).2
  have eN : (runO (wideP ps) bs os (startM bs) (rN ps k)).length = k := by rw [runO_len, rN_len]
  generalize runO (wideP ps) bs os (startM bs) (rN ps k) = ON at *
  repeat' (with_reducible first | apply qa | apply qb | apply qc | apply qd | apply qe | apply qf | apply qg | apply qh | apply qi | apply qj | apply qk | apply ql rfl | apply qm rfl | apply qn rfl | apply Je | (refine Tx 15 ?_; refine Jo xLt ?_) | (refine Tx 27 ?_; refine Jo (xLa tk_Diagram) ?_; refine Jm ?_; refine Jo (xCl Tryd.func23 RA (ha := by with_unfolding_all first | ((repeat' first | exact lrel_n rfl rfl | refine lrel_c rfl rfl ?_ ?_ | refine xexp_1 rfl rfl ?_ | refine xexp_a rfl rfl ?_ | exact cexp_d rfl (fun h => by cases h) | exact cexp_dT rfl rfl rfl) <;> fail) | fail)) ?_; refine Jo xMt ?_; refine Jo xEx ?_; refine Jo xEx ?_; refine Ja ?_; refine Ja ?_) | (refine Tx 28 ?_; refine Jo (xLa tk_Diagram) ?_; refine Jm ?_; refine Jo (xCl Tryd.func23 RB (ha := by with_unfolding_all first | ((repeat' first | exact lrel_n rfl rfl | refine lrel_c rfl rfl ?_ ?_ | refine xexp_1 rfl rfl ?_ | refine xexp_a rfl rfl ?_ | exact cexp_d rfl (fun h => by cases h) | exact cexp_dT rfl rfl rfl) <;> fail) | fail)) ?_; refine Jo xMt ?_; refine Jo xEx ?_; refine Jo xEx ?_; refine Ja ?_; refine Ja ?_) | (refine Tx 29 ?_; refine Jo (xLa tk_Diagram) ?_; refine Jm ?_; refine Jo (xCl Tryd.func23 RS (ha := by with_unfolding_all first | ((repeat' first | exact lrel_n rfl rfl | refine lrel_c rfl rfl ?_ ?_ | refine xexp_1 rfl rfl ?_ | refine xexp_a rfl rfl ?_ | exact cexp_d rfl (fun h => by cases h) | exact cexp_dT rfl rfl rfl) <;> fail) | fail)) ?_; refine Jo xMt ?_; refine Jo xEx ?_; refine Jo xEx ?_; refine Ja ?_; refine Ja ?_) | (refine Tx 30 ?_; refine Jo (xLa tk_Diagram) ?_; refine Jm ?_; refine Jo (xCl Tryd.func23 RN (ha := by with_unfolding_all first | ((repeat' first | exact lrel_n rfl rfl | refine lrel_c rfl rfl ?_ ?_ | refine xexp_1 rfl rfl ?_ | refine xexp_a rfl rfl ?_ | exact cexp_d rfl (fun h => by cases h) | exact cexp_dT rfl rfl rfl) <;> fail) | fail)) ?_; refine Jo xMt ?_; refine Jo xEx ?_; refine Jo xEx ?_; refine Ja ?_; refine Ja ?_) | (refine Tx 31 ?_; refine Jm ?_; refine Jo (xNE ti_error) ?_; refine Jm ?_; (first | iterate 2 refine Jd ?_ | (refine Jy xM1 ?_; refine Jy (xNE ti_error) ?_)); refine Jo xPk ?_; refine Jm ?_; (first | iterate 2 refine Jd ?_ | (refine Jy xM1 ?_; refine Jy (xNE ti_error) ?_)); refine Jo xPk ?_; refine Jm ?_; (first | iterate 2 refine Jd ?_ | (refine Jy xM1 ?_; refine Jy (xNE ti_error) ?_)); refine Jo xPk ?_) | (refine Tx 33 ?_; refine Jm ?_; refine Jo (xLn ts_s_s_Dyadic) ?_; refine Jm ?_; refine Jo xNe ?_; refine Jm ?_; (first | iterate 4 refine Jd ?_ | (refine Jy xM1 ?_; refine Jy (xLn ts_s_s_Dyadic) ?_; refine Jy xM1 ?_; refine Jy xNe ?_)); refine Jo xPk ?_; refine Jm ?_; (first | iterate 4 refine Jd ?_ | (refine Jy xM1 ?_; refine Jy (xLn ts_s_s_Dyadic) ?_; refine Jy xM1 ?_; refine Jy xNe ?_)); refine Jo xPk ?_; refine Jm ?_; (first | iterate 4 refine Jd ?_ | (refine Jy xM1 ?_; refine Jy (xLn ts_s_s_Dyadic) ?_; refine Jy xM1 ?_; refine Jy xNe ?_)); refine Jo xPk ?_) | (refine Tx 35 ?_; refine Jm ?_; refine Jm ?_))
  refine cw_wk (F' := ofL [(3, vr 0), (12, vi ((k : Nat))), (22, vd (rowLD OA)), (24, vd (rowLD OB)), (26, vd (rowLD OS)), (28, vd (rowLD ON)), (234, vi ((k : Nat))), (235, vi ((0 : Nat)))]) (H' := [.box 41 [.d (rowP true ps), .d (rowB true bs), .d (rowI true os)]]) (wk_go _ 1 ?_ ?_ ?_) ?_
  · rfl
  · exact mB rfl rfl
  · exact ⟨bel_lit rfl, trivial⟩
  refine cw_loopW (fun n Fr H => ∃ r : Nat, r ≤ k ∧ n = k - r ∧ Fr = ofL [(3, vr 0), (12, vi ((k : Nat))), (22, vd (rowLD OA)), (24, vd (rowLD OB)), (26, vd (rowLD OS)), (28, vd (rowLD ON)), (234, vi ((k : Nat))), (235, vi ((r : Nat)))] ∧ H = [.box 41 [.d (rowP true ps), .d (rowB true bs), .d (rowI true os)]]) (n0 := k) ⟨0, Nat.zero_le _, rfl, rfl, rfl⟩ ?_
  rintro n Fr H ⟨r, hr, rfl, rfl, rfl⟩
  by_cases hlt : r < k
  case pos =>
    obtain ⟨lA, hA⟩ : ∃ l, OA[r]? = some l := ⟨_, List.getElem?_eq_getElem (by omega)⟩
    have nA := wA lA (List.mem_of_getElem? hA)
    obtain ⟨lB, hB⟩ : ∃ l, OB[r]? = some l := ⟨_, List.getElem?_eq_getElem (by omega)⟩
    have nB := wB lB (List.mem_of_getElem? hB)
    obtain ⟨lS, hS⟩ : ∃ l, OS[r]? = some l := ⟨_, List.getElem?_eq_getElem (by omega)⟩
    have nS := wS lS (List.mem_of_getElem? hS)
    obtain ⟨lN, hN⟩ : ∃ l, ON[r]? = some l := ⟨_, List.getElem?_eq_getElem (by omega)⟩
    have nN := wN lN (List.mem_of_getElem? hN)
    have cmp := fun (j : Nat) (a b s m : Pq) => cmp r j lA lB lS lN a b s m hA hB hS hN
    repeat' (with_reducible first | apply qa | apply qb | apply qc | apply qd | apply qe | apply qf | apply qg | apply qh | apply qi | apply qj | apply qk | apply ql rfl | apply qm rfl | apply qn rfl | apply Je | (refine Tx 36 ?_; refine Jo xLt ?_) | (refine Tx 37 ?_; refine Jm ?_; refine Ja ?_) | (refine cw_any (id := 38) mixed (by kernel_rfl) ?_; refine Km ?_; refine Km ?_; refine Ko (by first | exact xIr ts_s_s_Dyadic (rows_at hA) | exact xIr ts_s_s_Dyadic (rows_at hB) | exact xIr ts_s_s_Dyadic (rows_at hS) | exact xIr ts_s_s_Dyadic (rows_at hN)) ?_; refine Ko (xLd tk_s_Dyadic) ?_; refine Ko (xLn ts_s_Dyadic) ?_; refine Ko (xFa tf_Diagram2 tk_s_int) ?_; refine Ko (xLd tk_s_int) ?_; refine Ko (xLn ts_s_int) ?_; refine Ko xNe ?_; refine Km ?_; (first | iterate 9 refine Kd ?_ | (refine Ky xM1 ?_; refine Ky xM1 ?_; refine Ky (by first | exact xIr ts_s_s_Dyadic (rows_at hA) | exact xIr ts_s_s_Dyadic (rows_at hB) | exact xIr ts_s_s_Dyadic (rows_at hS) | exact xIr ts_s_s_Dyadic (rows_at hN)) ?_; refine Ky (xLd tk_s_Dyadic) ?_; refine Ky (xLn ts_s_Dyadic) ?_; refine Ky (xFa tf_Diagram2 tk_s_int) ?_; refine Ky (xLd tk_s_int) ?_; refine Ky (xLn ts_s_int) ?_; refine Ky xNe ?_)); refine Ko xPk ?_; refine Km ?_; (first | iterate 9 refine Kd ?_ | (refine Ky xM1 ?_; refine Ky xM1 ?_; refine Ky (by first | exact xIr ts_s_s_Dyadic (rows_at hA) | exact xIr ts_s_s_Dyadic (rows_at hB) | exact xIr ts_s_s_Dyadic (rows_at hS) | exact xIr ts_s_s_Dyadic (rows_at hN)) ?_; refine Ky (xLd tk_s_Dyadic) ?_; refine Ky (xLn ts_s_Dyadic) ?_; refine Ky (xFa tf_Diagram2 tk_s_int) ?_; refine Ky (xLd tk_s_int) ?_; refine Ky (xLn ts_s_int) ?_; refine Ky xNe ?_)); refine Ko xPk ?_; refine Km ?_; (first | iterate 9 refine Kd ?_ | (refine Ky xM1 ?_; refine Ky xM1 ?_; refine Ky (by first | exact xIr ts_s_s_Dyadic (rows_at hA) | exact xIr ts_s_s_Dyadic (rows_at hB) | exact xIr ts_s_s_Dyadic (rows_at hS) | exact xIr ts_s_s_Dyadic (rows_at hN)) ?_; refine Ky (xLd tk_s_Dyadic) ?_; refine Ky (xLn ts_s_Dyadic) ?_; refine Ky (xFa tf_Diagram2 tk_s_int) ?_; refine Ky (xLd tk_s_int) ?_; refine Ky (xLn ts_s_int) ?_; refine Ky xNe ?_)); refine Ko xPk ?_; refine Ke ?_) | (refine Tx 40 ?_; refine Jo (xFa tf_Diagram2 tk_s_int) ?_; refine Jo (xLd tk_s_int) ?_; refine Jo (xLn ts_s_int) ?_; refine Jm ?_))
    refine cw_wk (F' := ofL [(3, vr 0), (12, vi ((k : Nat))), (22, vd (rowLD OA)), (24, vd (rowLD OB)), (26, vd (rowLD OS)), (28, vd (rowLD ON)), (234, vi ((k : Nat))), (235, vi ((r : Nat))), (30, vi ((r : Nat))), (282, vi os.length), (283, vi ((0 : Nat)))]) (H' := [.box 41 [.d (rowP true ps), .d (rowB true bs), .d (rowI true os)]]) (wk_go _ 1 ?_ ?_ ?_) ?_
    · rfl
    · exact mB rfl rfl
    · exact ⟨bel_lit rfl, trivial⟩
    refine cw_loopW (fun n Fr H => ∃ j : Nat, j ≤ os.length ∧ n = os.length - j ∧ Fr = ofL [(3, vr 0), (12, vi ((k : Nat))), (22, vd (rowLD OA)), (24, vd (rowLD OB)), (26, vd (rowLD OS)), (28, vd (rowLD ON)), (234, vi ((k : Nat))), (235, vi ((r : Nat))), (30, vi ((r : Nat))), (282, vi os.length), (283, vi ((j : Nat)))] ∧ H = [.box 41 [.d (rowP true ps), .d (rowB true bs), .d (rowI true os)]]) (n0 := os.length) ⟨0, Nat.zero_le _, rfl, rfl, rfl⟩ ?_
    rintro n Fr H ⟨j, hj, rfl, rfl, rfl⟩
    by_cases hlj : j < os.length
    case pos =>
      obtain ⟨pA, gA⟩ : ∃ l, lA[j]? = some l := ⟨_, List.getElem?_eq_getElem (by omega)⟩
      obtain ⟨pB, gB⟩ : ∃ l, lB[j]? = some l := ⟨_, List.getElem?_eq_getElem (by omega)⟩
      obtain ⟨pS, gS⟩ : ∃ l, lS[j]? = some l := ⟨_, List.getElem?_eq_getElem (by omega)⟩
      obtain ⟨pN, gN⟩ : ∃ l, lN[j]? = some l := ⟨_, List.getElem?_eq_getElem (by omega)⟩
      obtain ⟨hc, sA, sB, sS, sN⟩ := cmp j pA pB pS pN gA gB gS gN
      have SA := pdsub_cv pS.1 pS.2 pA.1 pA.2 (lb_nf sS).1 (lb_nf sA).1 (lb_nf sS).2 (lb_nf sA).2
      have SB := pdsub_cv pB.1 pB.2 pN.1 pN.2 (lb_nf sB).1 (lb_nf sN).1 (lb_nf sB).2 (lb_nf sN).2
      have d1 := lb_sub sS sA
      have d2 := lb_sub sB sN
      have CC := pdcmp_cv _ _ _ _ d1.1 d2.1 d1.2 d2.2
      rw [hc] at CC
      repeat' (with_reducible first | apply qa | apply qb | apply qc | apply qd | apply qe | apply qf | apply qg | apply qh | apply qi | apply qj | apply qk | apply ql rfl | apply qm rfl | apply qn rfl | apply Je | (refine Tx 41 ?_; refine Jo xLt ?_) | (refine Tx 42 ?_; refine Jm ?_; refine Ja ?_) | (refine cw_any (id := 43) mixed (by kernel_rfl) ?_; refine Km ?_; refine Km ?_; refine Ko (by first | exact xIr ts_s_s_Dyadic (rows_at hA) | exact xIr ts_s_s_Dyadic (rows_at hB) | exact xIr ts_s_s_Dyadic (rows_at hS) | exact xIr ts_s_s_Dyadic (rows_at hN) | exact xIr ts_s_s_Dyadic (dy_at gA) | exact xIr ts_s_s_Dyadic (dy_at gB) | exact xIr ts_s_s_Dyadic (dy_at gS) | exact xIr ts_s_s_Dyadic (dy_at gN)) ?_; refine Ko (xLd tk_s_Dyadic) ?_; refine Km ?_; refine Ko (by first | exact xIr ts_s_Dyadic (rows_at hA) | exact xIr ts_s_Dyadic (rows_at hB) | exact xIr ts_s_Dyadic (rows_at hS) | exact xIr ts_s_Dyadic (rows_at hN) | exact xIr ts_s_Dyadic (dy_at gA) | exact xIr ts_s_Dyadic (dy_at gB) | exact xIr ts_s_Dyadic (dy_at gS) | exact xIr ts_s_Dyadic (dy_at gN)) ?_; refine Ko (xLa tk_Dyadic) ?_; refine Km ?_; refine Km ?_; refine Ko (by first | exact xIr ts_s_s_Dyadic (rows_at hA) | exact xIr ts_s_s_Dyadic (rows_at hB) | exact xIr ts_s_s_Dyadic (rows_at hS) | exact xIr ts_s_s_Dyadic (rows_at hN) | exact xIr ts_s_s_Dyadic (dy_at gA) | exact xIr ts_s_s_Dyadic (dy_at gB) | exact xIr ts_s_s_Dyadic (dy_at gS) | exact xIr ts_s_s_Dyadic (dy_at gN)) ?_; refine Ko (xLd tk_s_Dyadic) ?_; refine Km ?_; refine Ko (by first | exact xIr ts_s_Dyadic (rows_at hA) | exact xIr ts_s_Dyadic (rows_at hB) | exact xIr ts_s_Dyadic (rows_at hS) | exact xIr ts_s_Dyadic (rows_at hN) | exact xIr ts_s_Dyadic (dy_at gA) | exact xIr ts_s_Dyadic (dy_at gB) | exact xIr ts_s_Dyadic (dy_at gS) | exact xIr ts_s_Dyadic (dy_at gN)) ?_; refine Ko (xLa tk_Dyadic) ?_; refine Ko (by first | exact xCl Tryd.func32 (SA) | exact xCl Tryd.func32 (SB)) ?_; refine Km ?_; refine Km ?_; refine Ko (by first | exact xIr ts_s_s_Dyadic (rows_at hA) | exact xIr ts_s_s_Dyadic (rows_at hB) | exact xIr ts_s_s_Dyadic (rows_at hS) | exact xIr ts_s_s_Dyadic (rows_at hN) | exact xIr ts_s_s_Dyadic (dy_at gA) | exact xIr ts_s_s_Dyadic (dy_at gB) | exact xIr ts_s_s_Dyadic (dy_at gS) | exact xIr ts_s_s_Dyadic (dy_at gN)) ?_; refine Ko (xLd tk_s_Dyadic) ?_; refine Km ?_; refine Ko (by first | exact xIr ts_s_Dyadic (rows_at hA) | exact xIr ts_s_Dyadic (rows_at hB) | exact xIr ts_s_Dyadic (rows_at hS) | exact xIr ts_s_Dyadic (rows_at hN) | exact xIr ts_s_Dyadic (dy_at gA) | exact xIr ts_s_Dyadic (dy_at gB) | exact xIr ts_s_Dyadic (dy_at gS) | exact xIr ts_s_Dyadic (dy_at gN)) ?_; refine Ko (xLa tk_Dyadic) ?_; refine Km ?_; refine Km ?_; refine Ko (by first | exact xIr ts_s_s_Dyadic (rows_at hA) | exact xIr ts_s_s_Dyadic (rows_at hB) | exact xIr ts_s_s_Dyadic (rows_at hS) | exact xIr ts_s_s_Dyadic (rows_at hN) | exact xIr ts_s_s_Dyadic (dy_at gA) | exact xIr ts_s_s_Dyadic (dy_at gB) | exact xIr ts_s_s_Dyadic (dy_at gS) | exact xIr ts_s_s_Dyadic (dy_at gN)) ?_; refine Ko (xLd tk_s_Dyadic) ?_; refine Km ?_; refine Ko (by first | exact xIr ts_s_Dyadic (rows_at hA) | exact xIr ts_s_Dyadic (rows_at hB) | exact xIr ts_s_Dyadic (rows_at hS) | exact xIr ts_s_Dyadic (rows_at hN) | exact xIr ts_s_Dyadic (dy_at gA) | exact xIr ts_s_Dyadic (dy_at gB) | exact xIr ts_s_Dyadic (dy_at gS) | exact xIr ts_s_Dyadic (dy_at gN)) ?_; refine Ko (xLa tk_Dyadic) ?_; refine Ko (by first | exact xCl Tryd.func32 (SA) | exact xCl Tryd.func32 (SB)) ?_; refine Ko (xCl Tryd.func31 (CC)) ?_; refine Ko xNe ?_; refine Ke ?_) | (refine Tx 45 ?_; refine Jo xAd ?_; refine Jm ?_))
      refine ⟨_, _, wk_go _ 1 ?_ ?_ ?_, _, ?_, j + 1, by omega, rfl, rfl, rfl⟩
      · rfl
      · exact mB rfl rfl
      · exact ⟨bel_lit rfl, trivial⟩
      · omega
    obtain rfl : j = os.length := by omega
    repeat' (with_reducible first | apply qa | apply qb | apply qc | apply qd | apply qe | apply qf | apply qg | apply qh | apply qi | apply qj | apply qk | apply ql rfl | apply qm rfl | apply qn rfl | apply Je | (refine Tx 41 ?_; refine Jo xLt ?_) | (refine Tx 46 ?_; refine Jo xAd ?_; refine Jm ?_))
    refine ⟨_, _, wk_go _ 1 ?_ ?_ ?_, _, ?_, r + 1, by omega, rfl, rfl, rfl⟩
    · rfl
    · exact mB rfl rfl
    · exact ⟨bel_lit rfl, trivial⟩
    · omega
  obtain rfl : r = k := by omega
  repeat' (with_reducible first | apply qa | apply qb | apply qc | apply qd | apply qe | apply qf | apply qg | apply qh | apply qi | apply qj | apply qk | apply ql rfl | apply qm rfl | apply qn rfl | apply Je | (refine Tx 36 ?_; refine Jo xLt ?_) | (refine Tx 47 ?_; refine Ja ?_))
  exact ret_q rfl (.cons_ (rv_b rfl (rfl)) .nil_)
end Go.Proofs.YtfooonellkgaeaaDoor
namespace Go.Proofs.YtfooonellkgaeaaDoor
open Go.ChangeShapes Go.WideShapes Go.ChangeAt Go.RowKit Go.Joins Go.Deep
def AllF (w : World) : Sets := fun _ b => b < w.heap.size
theorem AllF.of {w : World} {x : A} {v : Value} (h : ARel w (AllS w) x v) : ARel w (AllF w) x v := h.mono (fun _ _ hb => hb.2) fun _ _ _ => rfl
theorem cv_lawA {f : FuncId} {args : List A} (h : CV Tryd.prog TabAt f args [aB true]) {w : World} (ht : TabAt w) {vs : List Value} (ha : LRel (ARel w (AllF w)) args vs) :
    Calls Tryd.prog f vs.toArray w fun e w' => e = .returned (.bool true) ∧ Below w.heap.size w w' :=
  (h w _ vs ht (fun t b hb => hb) ha).mono fun e w' ⟨v, h1, h2, h3⟩ => by
    have h4 : DRel w' _ (dB true) v := h2
    cases h4
    exact ⟨h1, h3⟩
structure RowA (α : Type) (s : Nat) where
  cs : List Value
  len : cs.length = s
  a : α
instance {α : Type} {s : Nat} [Inhabited α] : Inhabited (RowA α s) := ⟨⟨List.replicate s undef, List.length_replicate, default⟩⟩
section
variable {H : Type} {enc : TypeId × Value → H} {P : Program} {w : World} {spare : Nat → Bool} {held : Bool}
theorem rowsA_of_cell {α : Type} [Inhabited α] {s : Nat} {Q : α → List Value → Prop} (hs0 : 0 < s) {t e : TypeId} {fuel : Nat} {v : Value} {x : DataW H × List MemPlace} (ht : P.underlying t = some (.slice e)) (hC : P.cellsOf e = s)
    (hrow : ∀ (fuel : Nat) (cs : List Value) (x : DataW H × List MemPlace), DataW.trod enc P w 0 spare held fuel e cs = some x → cs.length = s → ∃ a, Q a cs)
    (h : DataW.trod enc P w 0 spare held fuel t [v] = some x) :
    ∃ (A : Option Addr) (cap : Nat) (l : List (RowA α s)), v = .slice A l.length cap ∧ (A = none → cap = 0) ∧ l.length ≤ cap ∧ l.length ≤ maxLen ∧ CellsAt w w.heap.size A (flat RowA.cs l) ∧ ∀ x ∈ l, Q x.a x.cs := by
  rcases open_slice ht h with ⟨hcs, _⟩ | ⟨a, len, cap, m, n, D, Pl, hcs, _, hl, hm, hmm, _, hx⟩
  · exact ⟨none, 0, [], by simpa using hcs, fun _ => rfl, Nat.le_refl _, Nat.zero_le _, CellsAt.nil_, by simp⟩
  · have hle : len ≤ m := by rw [hmm]; split <;> omega
    rw [hC] at hx
    obtain ⟨R, hR⟩ := choose_lt (α := RowA α s) (n := len) (p := fun i b => Q b.a b.cs ∧ ∀ j, j < s → w.cell? (a.add (i * s + j)) = b.cs[j]?) (fun i hi => by
      obtain ⟨cs', h1, h2⟩ := hx i (by omega)
      obtain ⟨_, hlen, hcell⟩ := World.cells?_some h1
      obtain ⟨b, hb⟩ := hrow _ _ _ h2 (by simpa using hlen)
      exact ⟨⟨cs', by simpa using hlen, b⟩, hb, fun j hj => by rw [← add_add]; exact hcell j hj⟩)
    refine ⟨some a, cap, (List.range len).map R, by simpa using hcs, by simp, by simpa using hl, by simp; omega, fun hne => ?_, ?_⟩
    · have hpos : 0 < len := by
        rcases Nat.eq_zero_or_pos len with h0 | h0
        · subst h0; simp [flat] at hne
        · exact h0
      obtain ⟨b, off, spot⟩ := a
      have h00 := (hR 0 hpos).2 0 hs0
      have hz0 : (R 0).cs[0]? = some ((R 0).cs[0]'(by rw [(R 0).len]; exact hs0)) := List.getElem?_eq_getElem _
      rw [hz0] at h00
      have hspot : spot = none := by simpa [Addr.add] using World.cell?_spot h00
      subst hspot
      have hb : b < w.heap.size := by
        rcases Nat.lt_or_ge b w.heap.size with h | h
        · exact h
        · simp [World.cell?, Addr.add, Array.getElem?_eq_none h] at h00
      refine ⟨b, off, rfl, hb, hb, fun j u hu => ?_⟩
      have hjl : j < len * s := by
        have := (List.getElem?_eq_some_iff.1 hu).1
        rw [flat_len (f := RowA.cs) (s := s) (fun x => x.len)] at this
        simpa using this
      have hk : j / s < len := Nat.div_lt_of_lt_mul (by rw [Nat.mul_comm]; exact hjl)
      have hr : j % s < s := Nat.mod_lt _ hs0
      have hj : j / s * s + j % s = j := by rw [Nat.mul_comm]; exact Nat.div_add_mod j s
      have hg : ((List.range len).map R)[j / s]? = some (R (j / s)) := by simp [hk]
      have h1 := flat_get (f := RowA.cs) (s := s) (fun x => x.len) hg hr
      rw [hj, hu] at h1
      have h2 := (hR _ hk).2 (j % s) hr
      rw [hj, ← h1] at h2
      rw [← Go.WideShapes.add_plain]
      exact h2
    · intro y hy
      obtain ⟨i, hi, rfl⟩ := List.mem_map.1 hy
      exact (hR i (by simpa using hi)).1
theorem row_inF {tg : Bool} {A : Option Addr} {s n c : Nat} {cs : List D} {xs : List Value} (h : CellsAt w w.heap.size A xs) (hc : n ≤ c) (hA : A = none → c = 0) (hl : cs.length = n * s) (hr : LRel (DRel w (AllF w)) cs xs) : DRel w (AllF w) (.row tg s n cs) (.slice A n c) := by
  refine .row xs hc hA hl hr.1 (fun hne => ?_) hr.2
  obtain ⟨b, off, h1, _, h2, h3⟩ := h (fun h0 => hne (by have := hr.1; rw [h0] at this; exact List.eq_nil_of_length_eq_zero (by simpa using this)))
  exact ⟨b, off, h1, h2, h3⟩
theorem sliceD {α : Type} [Inhabited α] (f : α → List D) (Q : α → Prop) {s : Nat} {tg : Bool} (hs0 : 0 < s) (hfl : ∀ a, (f a).length = s) {t e : TypeId} {fuel : Nat} {v : Value} {x : DataW H × List MemPlace} (ht : P.underlying t = some (.slice e)) (hC : P.cellsOf e = s)
    (hrow : ∀ (fuel : Nat) (cs : List Value) (x : DataW H × List MemPlace), DataW.trod enc P w 0 spare held fuel e cs = some x → cs.length = s → ∃ a, Q a ∧ LRel (DRel w (AllF w)) (f a) cs)
    (h : DataW.trod enc P w 0 spare held fuel t [v] = some x) : ∃ l : List α, DRel w (AllF w) (.row tg s l.length (flatD f l)) v ∧ (∀ a ∈ l, Q a) ∧ l.length ≤ maxLen := by
  obtain ⟨A, cap, l, rfl, hA, hc, hm, hcl, hQ⟩ := rowsA_of_cell (Q := fun a cs => Q a ∧ LRel (DRel w (AllF w)) (f a) cs) hs0 ht hC hrow h
  refine ⟨l.map RowA.a, ?_, fun a ha => ?_, by rw [List.length_map]; exact hm⟩
  · have key : ∀ l : List (RowA α s), (∀ x ∈ l, Q x.a ∧ LRel (DRel w (AllF w)) (f x.a) x.cs) → LRel (DRel w (AllF w)) (flatD f (l.map RowA.a)) (flat RowA.cs l) := fun l => by
      induction l with
      | nil => intro _; exact LRel.nil_
      | cons y l ih => intro hq; exact (hq y (List.mem_cons_self ..)).2.app (ih fun z hz => hq z (List.mem_cons_of_mem _ hz))
    have := row_inF (tg := tg) (n := (l.map RowA.a).length) hcl (by rw [List.length_map]; exact hc) hA (flatD_len (f := f) hfl _) (key l hQ)
    rwa [List.length_map] at this ⊢
  · obtain ⟨y, hy, rfl⟩ := List.mem_map.1 ha
    exact (hQ y hy).1
end
theorem flatD_one {α : Type} (f : α → D) (l : List α) : flatD (fun a => [f a]) l = l.map f := by
  induction l with
  | nil => rfl
  | cons a l ih => show f a :: flatD (fun a => [f a]) l = f a :: l.map f; rw [ih]
section
variable {H : Type} {enc : TypeId × Value → H} {w : World} {spare : Nat → Bool} {held : Bool}
instance : Inhabited Rv := ⟨⟨false, [], 0⟩⟩
def RvIn (r : Rv) : Prop := wordsOk r.ws ∧ r.ws.length ≤ maxLen ∧ -9223372036854775808 ≤ r.den ∧ r.den ≤ 9223372036854775807
theorem open_lints (tg : Bool) {r : Go.Reach} {b0 : Nat} {v : Value} {d : DataW H} {p : List MemPlace} (hv : Value.okWide Tryd.prog w r b0 44 v) (h : DataW.Trod enc Tryd.prog w 0 spare held 44 v d p) :
    ∃ ls : List (List Int), ARel w (AllF w) (.one (.row tg 1 ls.length (ls.map (rowI tg)))) v := by
  obtain ⟨a0, len, cap, rfl⟩ := okWide_slice Tryd.underlying44 hv
  obtain ⟨fuel, hf⟩ := h
  obtain ⟨ls, h1, _, _⟩ := sliceD (s := 1) (tg := tg) (fun l => [rowI tg l]) (fun _ => True) (by decide) (fun _ => rfl) Tryd.underlying44 (by kernel_rfl) (fun fuel cs x hx hl => by
    match cs, hl with
    | [c], _ =>
      obtain ⟨A, cp, zs, rfl, n, k, l, hc, b⟩ := ints_of_cell' Tryd.underlying39 Tryd.underlying3 (by kernel_rfl) hx
      refine ⟨zs, trivial, .cons_ ?_ .nil_⟩
      unfold rowI
      rw [dI_map]
      exact row_inF hc k n (by simp [ints]) (rel_vals ints_one)) hf
  rw [flatD_one] at h1
  exact ⟨ls, h1⟩
end
end Go.Proofs.YtfooonellkgaeaaDoor
