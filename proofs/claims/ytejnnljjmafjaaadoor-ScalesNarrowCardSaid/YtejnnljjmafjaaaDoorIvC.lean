/- Dyadic numbers and intervals as they lie in memory, valid or not; such that came in. No conditions. Intervals as pairs of numbers; what goes on while a call of its own block is filled. No conditions. Whether numbers and intervals are valid. Conditions: lists of words not too long. -/
import Derived.Test.YtejnnljjmafjaaaDoorWd
import Derived.Test.YtejnnljjmafjaaaDoorStr
import Derived.Test.YtejnnljjmafjaaaDoorPdJ
import Derived.Test.YtejnnljjmafjaaaDoorPdK
namespace Go.Proofs.YtejnnljjmafjaaaDoor
set_option linter.unusedVariables false
set_option linter.unusedSimpArgs false
set_option linter.unusedSectionVars false
open Go.ChangeShapes Go.WideShapes Go.ChangeAt Go.RowKit Go.Joins Go.Deep

/-- A dyadic number, valid or not, and where its words lie. -/
structure Rw where
  nb : Bool
  A : Option Addr
  ws : List Nat
  cap : Nat
  den : Int
def Rw.cells (r : Rw) : List Value := [.bool r.nb, .slice r.A r.ws.length r.cap, .int .i64 r.den]
def Rw.val (r : Rw) : Value := .agg #[.bool r.nb, .slice r.A r.ws.length r.cap, .int .i64 r.den]
def rw0 : Rw := ⟨false, none, [], 0, 0⟩
instance : Inhabited Rw := ⟨rw0⟩
structure RwAt (w : World) (m : Nat) (r : Rw) : Prop where
  nul : r.A = none → r.cap = 0
  fit : r.ws.length ≤ r.cap
  at_ : CellsAt w m r.A (w32 r.ws)
  ok : wordsOk r.ws
theorem RwAt.below {w w' : World} {m B : Nat} {r : Rw} (h : RwAt w m r) (hb : Below B w w') (hm : m ≤ B) : RwAt w' m r := ⟨h.nul, h.fit, h.at_.below hb hm, h.ok⟩
theorem RwAt.more {w : World} {m m' : Nat} {r : Rw} (h : RwAt w m r) (hm : m ≤ m') : RwAt w m' r := ⟨h.nul, h.fit, h.at_.more hm, h.ok⟩
theorem RwAt.zero_ (w : World) (m : Nat) : RwAt w m rw0 := ⟨fun _ => rfl, Nat.le_refl _, CellsAt.nil_, fun _ h => by cases h⟩
/-- A valid number. -/
def vdP (r : Rw) : Prop := if r.ws.length = 0 then r.nb = false ∧ r.den = 0 else r.ws[r.ws.length - 1]?.getD 0 ≠ 0 ∧ 0 ≤ r.den ∧ r.den ≤ 65536 ∧ (r.den = 0 ∨ r.ws[0]?.getD 0 % 2 = 1)
instance (r : Rw) : Decidable (vdP r) := by unfold vdP; infer_instance
def vdB (r : Rw) : Bool := decide (vdP r)
def Rw.x (r : Rw) : Int := sg r.nb (wval r.ws)
def Rw.d (r : Rw) : Nat := r.den.toNat
theorem vdP_0 {r : Rw} (h : r.ws.length = 0) : vdP r ↔ r.nb = false ∧ r.den = 0 := by unfold vdP; rw [if_pos h]
theorem vdP_n {r : Rw} (h : ¬ r.ws.length = 0) : vdP r ↔ r.ws[r.ws.length - 1]?.getD 0 ≠ 0 ∧ 0 ≤ r.den ∧ r.den ≤ 65536 ∧ (r.den = 0 ∨ r.ws[0]?.getD 0 % 2 = 1) := by unfold vdP; rw [if_neg h]
theorem vd_yes {r : Rw} (h : vdP r) : vdB r = true := decide_eq_true h
theorem vd_no {r : Rw} (h : ¬ vdP r) : vdB r = false := decide_eq_false h
theorem wval_mod2 {ws : List Nat} : wval ws % 2 = ws[0]?.getD 0 % 2 := by
  cases ws with
  | nil => rfl
  | cons x l => simp [wval]; omega
theorem vd_canon {r : Rw} (hok : wordsOk r.ws) (h : vdB r = true) : canon (wval r.ws) = r.ws := by
  have h := of_decide_eq_true h
  refine canon_wval hok fun hne => ?_
  have hl : ¬ r.ws.length = 0 := fun h0 => hne (List.eq_nil_of_length_eq_zero h0)
  exact ((vdP_n hl).1 h).1
theorem x_abs (r : Rw) : r.x.natAbs = wval r.ws := sg_abs _ _
/-- A valid number as such. -/
theorem RwAt.dy {w : World} {m : Nat} {r : Rw} (h : RwAt w m r) (hv : vdB r = true) : DyR w 0 m r.val r.x r.d := by
  have hc := vd_canon h.ok hv
  have hp := of_decide_eq_true hv
  have hneg : decide (r.x < 0) = r.nb := by
    by_cases hl : r.ws.length = 0
    · have h1 := ((vdP_0 hl).1 hp).1
      have h2 : r.ws = [] := List.eq_nil_of_length_eq_zero hl
      unfold Rw.x
      rw [h1, h2]
      rfl
    · refine sg_neg fun h0 => ?_
      have h1 := ((vdP_n hl).1 hp).1
      rw [← canon_wval h.ok (fun _ => h1), h0, canon_zero] at hl
      exact hl rfl
  have hden : r.den = (r.d : Int) := by
    unfold Rw.d
    by_cases hl : r.ws.length = 0
    · have h1 := ((vdP_0 hl).1 hp).2
      omega
    · have h1 := ((vdP_n hl).1 hp).2.1
      omega
  refine ⟨r.A, r.cap, ?_, h.nul, ?_, ?_, fun _ _ => Nat.zero_le _, ?_, fun hd => ?_⟩
  · rw [x_abs, hc, hneg, ← hden]; rfl
  · rw [x_abs, hc]; exact h.fit
  · rw [x_abs, hc]; exact h.at_
  · unfold Rw.d
    by_cases hl : r.ws.length = 0
    · have h1 := ((vdP_0 hl).1 hp).2
      omega
    · have h1 := ((vdP_n hl).1 hp).2.2.1
      omega
  · have hl : ¬ r.ws.length = 0 := fun hl => by
      have h1 := ((vdP_0 hl).1 hp).2
      unfold Rw.d at hd
      omega
    have h1 := ((vdP_n hl).1 hp).2.2.2
    have h2 := wval_mod2 (ws := r.ws)
    unfold Rw.d at hd
    unfold Rw.x sg
    split <;> omega
/-- A number that a call has made, told as such a one. -/
theorem DyR.rw_ {w : World} {lo m d : Nat} {v : Value} {x : Int} (h : DyR w lo m v x d) : ∃ r : Rw, v = r.val ∧ RwAt w m r ∧ vdB r = true ∧ r.x = x ∧ r.d = d ∧ r.ws = canon x.natAbs ∧ (∀ a, r.A = some a → lo ≤ a.block) := by
  have hb := h.bound
  obtain ⟨A, c, rfl, h1, h2, h3, h4, h5, h6⟩ := h
  have hx : sg (decide (x < 0)) (wval (canon x.natAbs)) = x := by rw [wval_canon]; exact sg_back x
  refine ⟨⟨decide (x < 0), A, canon x.natAbs, c, (d : Int)⟩, rfl, ⟨h1, h2, h3, canon_ok _⟩, vd_yes ?_, hx, Int.toNat_natCast d, rfl, h4⟩
  by_cases h0 : x.natAbs = 0
  · have hx0 : x = 0 := by omega
    refine (vdP_0 (by show (canon x.natAbs).length = 0; rw [h0, canon_zero]; rfl)).2 ⟨by show decide (x < 0) = false; rw [hx0]; rfl, ?_⟩
    show (d : Int) = 0
    rcases Nat.eq_zero_or_pos d with h | h
    · rw [h]; rfl
    · have := h6 (by omega)
      omega
  · refine (vdP_n (fun hl => by have := canon_ne h0; have hl : (canon x.natAbs).length = 0 := hl; omega)).2 ⟨?_, ?_, ?_, ?_⟩
    · have := canon_top h0
      show (canon x.natAbs)[(canon x.natAbs).length - 1]?.getD 0 ≠ 0
      exact this
    · show (0 : Int) ≤ (d : Int)
      omega
    · show (d : Int) ≤ 65536
      omega
    · by_cases hd : d = 0
      · exact .inl (by show (d : Int) = 0; omega)
      · right
        have h7 := h6 hd
        have h8 := wval_mod2 (ws := canon x.natAbs)
        rw [wval_canon] at h8
        show (canon x.natAbs)[0]?.getD 0 % 2 = 1
        omega
/-- An interval, valid or not. -/
structure Iv where
  lo : Rw
  hi : Rw
def Iv.cells (a : Iv) : List Value := [.bool a.lo.nb, .slice a.lo.A a.lo.ws.length a.lo.cap, .int .i64 a.lo.den, .bool a.hi.nb, .slice a.hi.A a.hi.ws.length a.hi.cap, .int .i64 a.hi.den]
def Iv.val (a : Iv) : Value := .agg #[.bool a.lo.nb, .slice a.lo.A a.lo.ws.length a.lo.cap, .int .i64 a.lo.den, .bool a.hi.nb, .slice a.hi.A a.hi.ws.length a.hi.cap, .int .i64 a.hi.den]
def iv0 : Iv := ⟨rw0, rw0⟩
instance : Inhabited Iv := ⟨iv0⟩
structure IvAt (w : World) (m : Nat) (a : Iv) : Prop where
  lo : RwAt w m a.lo
  hi : RwAt w m a.hi
theorem IvAt.below {w w' : World} {m B : Nat} {a : Iv} (h : IvAt w m a) (hb : Below B w w') (hm : m ≤ B) : IvAt w' m a := ⟨h.lo.below hb hm, h.hi.below hb hm⟩
theorem IvAt.more {w : World} {m m' : Nat} {a : Iv} (h : IvAt w m a) (hm : m ≤ m') : IvAt w m' a := ⟨h.lo.more hm, h.hi.more hm⟩
theorem IvAt.zero_ (w : World) (m : Nat) : IvAt w m iv0 := ⟨RwAt.zero_ _ _, RwAt.zero_ _ _⟩
/-- A valid interval. -/
def ivP (a : Iv) : Prop := vdB a.lo = true ∧ vdB a.hi = true ∧ pCmp a.lo.x a.lo.d a.hi.x a.hi.d ≤ 0
instance (a : Iv) : Decidable (ivP a) := by unfold ivP; infer_instance
def ivB (a : Iv) : Bool := decide (ivP a)
/-- Short enough to be looked at. -/
def leanB (r : Rw) : Bool := decide (r.ws.length ≤ 140 ∧ r.den ≤ 9000)
def leanI (a : Iv) : Bool := decide (a.lo.ws.length ≤ 140 ∧ a.hi.ws.length ≤ 140 ∧ a.lo.den ≤ 9000 ∧ a.hi.den ≤ 9000)

/- What came in. -/
theorem w32_map {n : Nat} {f : Nat → Int} (h : ∀ j, j < n → 0 ≤ f j) : ((List.range n).map fun j => Value.int .u32 (f j)) = w32 ((List.range n).map fun j => (f j).toNat) := by
  unfold w32
  rw [List.map_map]
  refine List.map_congr_left fun j hj => ?_
  have := h j (by simpa using hj)
  show Value.int .u32 (f j) = Value.int .u32 ((f j).toNat : Int)
  rw [Int.toNat_of_nonneg this]
set_option maxRecDepth 100000
section
variable {H : Type} {enc : TypeId × Value → H} {w : World} {spare : Nat → Bool} {held : Bool}
theorem words_of_cell {fuel : Nat} {v : Value} {x : DataW H × List MemPlace} (h : DataW.trod enc Tryd.prog w 0 spare held fuel 37 [v] = some x) :
    ∃ (A : Option Addr) (cap : Nat) (ws : List Nat), v = .slice A ws.length cap ∧ (A = none → cap = 0) ∧ ws.length ≤ cap ∧ ws.length ≤ maxLen ∧ CellsAt w w.heap.size A (w32 ws) ∧ wordsOk ws := by
  rcases open_ints Tryd.underlying37 Tryd.underlying101 (by kernel_rfl) h with ⟨hcs, _⟩ | ⟨a, len, cap, zs, hcs, _, hl, hm, hz, _, hcell, hwz⟩
  · exact ⟨none, 0, [], by simpa using hcs, fun _ => rfl, Nat.le_refl _, Nat.zero_le _, CellsAt.nil_, fun _ h => by cases h⟩
  · have hle : len ≤ zs.length := by rw [hz]; split <;> omega
    have hlen : ((zs.take len).map Int.toNat).length = len := by simp; omega
    have hpos : ∀ z ∈ zs, 0 ≤ z ∧ z ≤ 4294967295 := fun z hz => bounds_u32 (hwz z hz)
    refine ⟨some a, cap, (zs.take len).map Int.toNat, by rw [hlen]; simpa using hcs, by simp, by omega, by omega, fun hx => ?_, fun y hy => ?_⟩
    · have hp : 0 < len := by
        rcases Nat.eq_zero_or_pos len with h0 | h0
        · subst h0; simp [w32] at hx
        · exact h0
      obtain ⟨b, off, rfl, hcell'⟩ := ints_at hcell (by omega)
      have h0 := hcell' 0 (by omega)
      have hb : b < w.heap.size := by
        rcases Nat.lt_or_ge b w.heap.size with h | h
        · exact h
        · simp [World.cell?, Array.getElem?_eq_none h] at h0
      refine ⟨b, off, rfl, hb, hb, fun j u hu => ?_⟩
      have hj : j < len := by
        have := (List.getElem?_eq_some_iff.1 hu).1
        rw [w32_len, hlen] at this
        exact this
      have hjz : j < zs.length := by omega
      rw [hcell' j hjz]
      simp only [w32, List.getElem?_map, List.getElem?_take, if_pos hj, List.getElem?_eq_getElem hjz, Option.map_some, Option.some.injEq] at hu
      rw [← hu]
      have := (hpos zs[j] (List.getElem_mem hjz)).1
      simp only [List.getD, List.getElem?_eq_getElem hjz, Option.getD_some]
      rw [Int.toNat_of_nonneg this]
    · obtain ⟨z, hz1, rfl⟩ := List.mem_map.1 hy
      have := hpos z (List.mem_of_mem_take hz1)
      omega
theorem row_rw {fuel : Nat} {cs : List Value} {x : DataW H × List MemPlace} (h : DataW.trod enc Tryd.prog w 0 spare held fuel 39 cs = some x) :
    ∃ r : Rw, cs = r.cells ∧ RwAt w w.heap.size r ∧ r.ws.length ≤ maxLen ∧ -9223372036854775808 ≤ r.den ∧ r.den ≤ 9223372036854775807 := by
  obtain ⟨xs, n, _, _, hlen, hxl, hg⟩ := DataW.trod_struct Tryd.underlying39 h
  have hl3 : cs.length = 3 := hlen.trans (by kernel_rfl)
  match cs, hl3 with
  | [c0, c1, c2], _ =>
    have k1 : Tryd.prog.cellsOf 4 = 1 := by kernel_rfl
    have k2 : Tryd.prog.cellsOf 37 = 1 := by kernel_rfl
    have k3 : Tryd.prog.cellsOf 3 = 1 := by kernel_rfl
    have hx3 : xs.length = 3 := hxl
    match xs, hx3 with
    | [x0, x1, x2], _ =>
      have g0 : DataW.trod enc Tryd.prog w 0 spare held n 4 (([c0, c1, c2].drop 0).take (Tryd.prog.cellsOf 4)) = some x0 := hg 0 _ rfl
      have g1 : DataW.trod enc Tryd.prog w 0 spare held n 37 (([c0, c1, c2].drop 1).take (Tryd.prog.cellsOf 37)) = some x1 := hg 1 _ rfl
      have g2 : DataW.trod enc Tryd.prog w 0 spare held n 3 (([c0, c1, c2].drop 2).take (Tryd.prog.cellsOf 3)) = some x2 := hg 2 _ rfl
      rw [k1] at g0
      rw [k2] at g1
      rw [k3] at g2
      obtain ⟨nb, hn, _⟩ := DataW.trod_bool Tryd.underlying4 g0
      obtain ⟨A, cap, ws, ha, hA0, hc1, hc2, hc3, hc4⟩ := words_of_cell g1
      obtain ⟨den, hd, _, hdb⟩ := DataW.trod_int Tryd.underlying3 g2
      have e0 : [c0] = [Value.bool nb] := hn
      have e2 : [c2] = [Value.int .i64 den] := hd
      simp only [List.cons.injEq, and_true] at e0 e2
      refine ⟨⟨nb, A, ws, cap, den⟩, ?_, ⟨hA0, hc1, hc3, hc4⟩, hc2, bounds_i64 hdb⟩
      rw [e0, ha, e2]
      rfl
theorem row_iv {fuel : Nat} {cs : List Value} {x : DataW H × List MemPlace} (h : DataW.trod enc Tryd.prog w 0 spare held fuel 41 cs = some x) :
    ∃ a : Iv, cs = a.cells ∧ IvAt w w.heap.size a ∧ a.lo.ws.length ≤ maxLen ∧ a.hi.ws.length ≤ maxLen ∧ (-9223372036854775808 ≤ a.lo.den ∧ a.lo.den ≤ 9223372036854775807) ∧ -9223372036854775808 ≤ a.hi.den ∧ a.hi.den ≤ 9223372036854775807 := by
  obtain ⟨xs, n, _, _, hlen, hxl, hg⟩ := DataW.trod_struct Tryd.underlying41 h
  have hl6 : cs.length = 6 := hlen.trans (by kernel_rfl)
  match cs, hl6 with
  | [c0, c1, c2, c3, c4, c5], _ =>
    have k1 : Tryd.prog.cellsOf 39 = 3 := by kernel_rfl
    have hx2 : xs.length = 2 := hxl
    match xs, hx2 with
    | [x0, x1], _ =>
      have g0 : DataW.trod enc Tryd.prog w 0 spare held n 39 (([c0, c1, c2, c3, c4, c5].drop 0).take (Tryd.prog.cellsOf 39)) = some x0 := hg 0 _ rfl
      have g1 : DataW.trod enc Tryd.prog w 0 spare held n 39 (([c0, c1, c2, c3, c4, c5].drop 3).take (Tryd.prog.cellsOf 39)) = some x1 := hg 1 _ rfl
      rw [k1] at g0 g1
      obtain ⟨r, hr, h1, h2, h3⟩ := row_rw g0
      obtain ⟨s, hs, h4, h5, h6⟩ := row_rw g1
      have e0 : [c0, c1, c2] = r.cells := hr
      have e1 : [c3, c4, c5] = s.cells := hs
      simp only [Rw.cells, List.cons.injEq, and_true] at e0 e1
      refine ⟨⟨r, s⟩, ?_, ⟨h1, h4⟩, h2, h5, h3, h6⟩
      rw [e0.1, e0.2.1, e0.2.2, e1.1, e1.2.1, e1.2.2]
      rfl
/-- What is known of an interval that came in. -/
def IvIn (w : World) (a : Iv) : Prop := IvAt w w.heap.size a ∧ a.lo.ws.length ≤ maxLen ∧ a.hi.ws.length ≤ maxLen ∧ (-9223372036854775808 ≤ a.lo.den ∧ a.lo.den ≤ 9223372036854775807) ∧ -9223372036854775808 ≤ a.hi.den ∧ a.hi.den ≤ 9223372036854775807
theorem ivs_of_cell {fuel : Nat} {v : Value} {x : DataW H × List MemPlace} (h : DataW.trod enc Tryd.prog w 0 spare held fuel 27 [v] = some x) :
    ∃ (A : Option Addr) (cap : Nat) (l : List Iv), v = .slice A l.length cap ∧ l.length ≤ maxLen ∧ CellsAt w w.heap.size A (flat Iv.cells l) ∧ ∀ a ∈ l, IvIn w a := by
  rcases open_slice Tryd.underlying27 h with ⟨hcs, _⟩ | ⟨a, len, cap, m, n, D, Pl, hcs, _, hl, hm, hmm, _, hx⟩
  · exact ⟨none, 0, [], by simpa using hcs, Nat.zero_le _, CellsAt.nil_, by simp⟩
  · have hle : len ≤ m := by rw [hmm]; split <;> omega
    rw [show Tryd.prog.cellsOf 41 = 6 by kernel_rfl] at hx
    obtain ⟨R, hR⟩ := choose_lt (α := Iv) (n := len) (p := fun i b => IvIn w b ∧ ∀ j, j < 6 → w.cell? (a.add (i * 6 + j)) = b.cells[j]?) (fun i hi => by
      obtain ⟨cs', h1, h2⟩ := hx i (by omega)
      obtain ⟨b, rfl, hb⟩ := row_iv h2
      obtain ⟨_, hlen, hcell⟩ := World.cells?_some h1
      exact ⟨b, hb, fun j hj => by rw [← add_add]; exact hcell j hj⟩)
    refine ⟨some a, cap, (List.range len).map R, by simpa using hcs, by simp; omega, fun hne => ?_, ?_⟩
    · have hpos : 0 < len := by
        rcases Nat.eq_zero_or_pos len with h0 | h0
        · subst h0; simp [flat] at hne
        · exact h0
      obtain ⟨b, off, spot⟩ := a
      have h00 := (hR 0 hpos).2 0 (by decide)
      have hz0 : (R 0).cells[0]? = some (.bool (R 0).lo.nb) := rfl
      rw [hz0] at h00
      have hspot : spot = none := by simpa [Addr.add] using World.cell?_spot h00
      subst hspot
      have hb : b < w.heap.size := by
        rcases Nat.lt_or_ge b w.heap.size with h | h
        · exact h
        · simp [World.cell?, Addr.add, Array.getElem?_eq_none h] at h00
      refine ⟨b, off, rfl, hb, hb, fun j u hu => ?_⟩
      have hjl : j < len * 6 := by
        have := (List.getElem?_eq_some_iff.1 hu).1
        rw [flat_len (s := 6) (fun _ => rfl)] at this
        simpa using this
      have hk : j / 6 < len := Nat.div_lt_of_lt_mul (by rw [Nat.mul_comm]; exact hjl)
      have hr : j % 6 < 6 := Nat.mod_lt _ (by decide)
      have hj : j / 6 * 6 + j % 6 = j := by rw [Nat.mul_comm]; exact Nat.div_add_mod j 6
      have hg : ((List.range len).map R)[j / 6]? = some (R (j / 6)) := by simp [hk]
      have h1 := flat_get (f := Iv.cells) (s := 6) (fun _ => rfl) hg hr
      rw [hj, hu] at h1
      have h2 := (hR _ hk).2 (j % 6) hr
      rw [hj, ← h1] at h2
      rw [← Go.WideShapes.add_plain]
      exact h2
    · intro y hy
      obtain ⟨i, hi, rfl⟩ := List.mem_map.1 hy
      exact (hR i (by simpa using hi)).1
end
end Go.Proofs.YtejnnljjmafjaaaDoor
namespace Go.Proofs.YtejnnljjmafjaaaDoor
set_option linter.unusedVariables false
set_option linter.unusedSimpArgs false
set_option linter.unusedSectionVars false
open Go.RowKit

/-- No word among the cells. -/
def NoW (vs : List Value) : Prop := ∀ u ∈ vs, ∀ z, u ≠ .int .u32 z
theorem RowD.notw {w : World} {g t m : Nat} {vs : List Value} {A : Option Addr} {ws : List Nat} (h : RowD w g vs t) (hn : NoW vs) (hc : CellsAt w m A (w32 ws)) (j : Nat) (u : Value) : CellsAt (w.setCell ⟨g, j, none⟩ u) m A (w32 ws) := fun hx => by
  obtain ⟨b, off, hA, hbm, hbs, hcc⟩ := hc hx
  have hne : b ≠ g := fun he => by
    have hp : 0 < ws.length := by
      have := w32_len ws
      rcases Nat.eq_zero_or_pos ws.length with h0 | h0
      · exact absurd (List.eq_nil_of_length_eq_zero (this.trans h0)) hx
      · exact h0
    have h1 := hcc 0 (.int .u32 (ws[0] : Int)) (by simp [w32, hp])
    rw [he, h.cell] at h1
    exact hn _ (List.mem_of_getElem? h1) _ rfl
  refine ⟨b, off, hA, hbm, by simpa using hbs, fun i v hv => ?_⟩
  rw [World.cell?_setCell_other _ _ _ _ (fun e => hne (by cases e; rfl))]
  exact hcc i v hv
theorem DyR.setG {w : World} {lo hi d g t : Nat} {v : Value} {x : Int} {vs : List Value} (h : DyR w lo hi v x d) (hg : RowD w g vs t) (hn : NoW vs) (j : Nat) (u : Value) : DyR (w.setCell ⟨g, j, none⟩ u) lo hi v x d := by
  obtain ⟨A, c, e, h1, h2, h3, h4, h5, h6⟩ := h
  exact ⟨A, c, e, h1, h2, hg.notw hn h3 j u, h4, h5, h6⟩
theorem NoW.set {vs : List Value} (h : NoW vs) (j : Nat) {u : Value} (hu : ∀ z, u ≠ .int .u32 z) : NoW (vs.set j u) := fun v hv z => by
  rcases List.mem_or_eq_of_mem_set hv with h1 | rfl
  · exact h v h1 z
  · exact hu z
theorem noW_rw (r : Rw) : NoW r.cells := by
  intro u hu z
  simp only [Rw.cells, List.mem_cons, List.not_mem_nil, or_false] at hu
  rcases hu with rfl | rfl | rfl <;> simp
theorem noW_iv (a : Iv) : NoW a.cells := by
  intro u hu z
  simp only [Iv.cells, List.mem_cons, List.not_mem_nil, or_false] at hu
  rcases hu with rfl | rfl | rfl | rfl | rfl | rfl <;> simp
/-- A valid interval's value: its two ends, each in its normal form. -/
def IvR (w : World) (lo hi : Nat) (v : Value) (x : Int) (dx : Nat) (y : Int) (dy : Nat) : Prop :=
  ∃ r s : Rw, v = (Iv.mk r s).val ∧ DyR w lo hi r.val x dx ∧ DyR w lo hi s.val y dy
theorem IvR.below {w w' : World} {lo hi B dx dy : Nat} {v : Value} {x y : Int} (h : IvR w lo hi v x dx y dy) (hb : Below B w w') (hB : hi ≤ B) : IvR w' lo hi v x dx y dy :=
  let ⟨r, s, e, h1, h2⟩ := h; ⟨r, s, e, h1.below hb hB, h2.below hb hB⟩
theorem IvR.more {w : World} {lo hi hi' dx dy : Nat} {v : Value} {x y : Int} (h : IvR w lo hi v x dx y dy) (hB : hi ≤ hi') : IvR w lo hi' v x dx y dy :=
  let ⟨r, s, e, h1, h2⟩ := h; ⟨r, s, e, h1.more hB, h2.more hB⟩
theorem IvR.low {w : World} {lo lo' hi dx dy : Nat} {v : Value} {x y : Int} (h : IvR w lo hi v x dx y dy) (hB : lo' ≤ lo) : IvR w lo' hi v x dx y dy :=
  let ⟨r, s, e, h1, h2⟩ := h; ⟨r, s, e, h1.low hB, h2.low hB⟩
theorem IvR.setG {w : World} {lo hi dx dy g t : Nat} {v : Value} {x y : Int} {vs : List Value} (h : IvR w lo hi v x dx y dy) (hg : RowD w g vs t) (hn : NoW vs) (j : Nat) (u : Value) : IvR (w.setCell ⟨g, j, none⟩ u) lo hi v x dx y dy :=
  let ⟨r, s, e, h1, h2⟩ := h; ⟨r, s, e, h1.setG hg hn j u, h2.setG hg hn j u⟩
theorem IvAt.iv {w : World} {m : Nat} {a : Iv} (h : IvAt w m a) (hv : ivB a = true) : IvR w 0 m a.val a.lo.x a.lo.d a.hi.x a.hi.d := by
  have hp : ivP a := of_decide_eq_true hv
  exact ⟨a.lo, a.hi, rfl, h.lo.dy hp.1, h.hi.dy hp.2.1⟩
theorem IvR.zero_ (w : World) (lo hi : Nat) : IvR w lo hi iv0.val 0 0 0 0 := ⟨rw0, rw0, rfl, DyR.zero_ _ _ _, DyR.zero_ _ _ _⟩
/-- A number's cells, with its room: as a call's result is taken apart. -/
theorem DyR.rw2 {w : World} {lo hi d : Nat} {v : Value} {x : Int} (h : DyR w lo hi v x d) : ∃ r : Rw, v = r.val := by
  obtain ⟨r, e, _⟩ := h.rw_
  exact ⟨r, e⟩
theorem IvR.of {w : World} {lo hi dx dy : Nat} {x y : Int} {nb1 nb2 : Bool} {A1 A2 : Option Addr} {L1 L2 c1 c2 : Nat} {d1 d2 : Int} (h1 : DyR w lo hi (.agg #[.bool nb1, .slice A1 L1 c1, .int .i64 d1]) x dx) (h2 : DyR w lo hi (.agg #[.bool nb2, .slice A2 L2 c2, .int .i64 d2]) y dy) :
    IvR w lo hi (.agg #[.bool nb1, .slice A1 L1 c1, .int .i64 d1, .bool nb2, .slice A2 L2 c2, .int .i64 d2]) x dx y dy := by
  obtain ⟨r, e, _⟩ := h1.rw_
  obtain ⟨s, e2, _⟩ := h2.rw_
  refine ⟨r, s, ?_, e ▸ h1, e2 ▸ h2⟩
  unfold Rw.val at e e2
  simp only [Value.agg.injEq, Array.mk.injEq, List.cons.injEq, Value.bool.injEq, Value.slice.injEq, Value.int.injEq, and_true, true_and] at e e2
  unfold Iv.val
  obtain ⟨rfl, ⟨rfl, rfl, rfl⟩, rfl⟩ := e
  obtain ⟨rfl, ⟨rfl, rfl, rfl⟩, rfl⟩ := e2
  rfl
theorem IvR.form {w : World} {lo hi dx dy : Nat} {v : Value} {x y : Int} (h : IvR w lo hi v x dx y dy) : ∃ nb1 A1 L1 c1 nb2 A2 L2 c2, v = .agg #[.bool nb1, .slice A1 L1 c1, .int .i64 (dx : Int), .bool nb2, .slice A2 L2 c2, .int .i64 (dy : Int)] ∧
    DyR w lo hi (.agg #[.bool nb1, .slice A1 L1 c1, .int .i64 (dx : Int)]) x dx ∧ DyR w lo hi (.agg #[.bool nb2, .slice A2 L2 c2, .int .i64 (dy : Int)]) y dy := by
  obtain ⟨r, s, rfl, h1, h2⟩ := h
  obtain ⟨nb1, A1, L1, c1, e1, _⟩ := h1.form
  obtain ⟨nb2, A2, L2, c2, e2, _⟩ := h2.form
  refine ⟨nb1, A1, L1, c1, nb2, A2, L2, c2, ?_, e1 ▸ h1, e2 ▸ h2⟩
  unfold Rw.val at e1 e2
  simp only [Value.agg.injEq, Array.mk.injEq, List.cons.injEq, and_true] at e1 e2
  unfold Iv.val
  rw [e1.1, e1.2.1, e1.2.2, e2.1, e2.2.1, e2.2.2]
/-- The blocks below m as in W; block r has n cells, of the call's own. -/
structure SKn (W : World) (m r n t : Nat) (w : World) : Prop where
  is : Below m W w
  fits : m ≤ w.heap.size
  own : ∃ vs : List Value, vs.length = n ∧ RowD w r vs t
section
variable {W w w' : World} {m r n t : Nat}
theorem SKn.refl (h : m ≤ w.heap.size) {vs : List Value} (ho : RowD w r vs t) (hl : vs.length = n) : SKn w m r n t w := ⟨Below.refl _ _, h, vs, hl, ho⟩
theorem SKn.drew (h : SKn W m r n t w) : SKn W m r n t w.drew := ⟨h.is.drew, h.fits, h.own⟩
theorem SKn.call (h : SKn W m r n t w) (hb : Below w.heap.size w w') : SKn W m r n t w' :=
  ⟨h.is.trans (hb.mono h.fits), Nat.le_trans h.fits hb.size, let ⟨vs, hl, hr⟩ := h.own; ⟨vs, hl, hr.call hb⟩⟩
theorem SKn.alloc (h : SKn W m r n t w) (o : Obj) : SKn W m r n t (w.alloc o) := h.call (al_ w o)
theorem SKn.set (h : SKn W m r n t w) (hm : m ≤ r) (j : Nat) (u : Value) : SKn W m r n t (w.setCell ⟨r, j, none⟩ u) := by
  refine ⟨h.is.setCell hm u, by simpa using h.fits, ?_⟩
  obtain ⟨vs, hl, hr⟩ := h.own
  exact ⟨vs.set j u, by simpa using hl, hr.set_ j u⟩
theorem SKn.setO (h : SKn W m r n t w) {g : Nat} (hm : m ≤ g) (hg : r ≠ g) (j : Nat) (u : Value) : SKn W m r n t (w.setCell ⟨g, j, none⟩ u) := by
  refine ⟨h.is.setCell hm u, by simpa using h.fits, ?_⟩
  obtain ⟨vs, hl, hr⟩ := h.own
  exact ⟨vs, hl, hr.other_ hg j u⟩
theorem SKn.lt (h : SKn W m r n t w) : r < w.heap.size := let ⟨_, _, hr⟩ := h.own; hr.lt
theorem SKn.all (h : SKn W m r n t w) : (∀ b o, b < m → w.cell? ⟨b, o, none⟩ = W.cell? ⟨b, o, none⟩) ∧ SKn W m r n t w :=
  ⟨fun _ _ hb => h.is.cell (p := ⟨_, _, none⟩) hb, h⟩
theorem SKn.c3 (h : SKn W m r 3 t w) : ∃ v0 v1 v2, RowD w r [v0, v1, v2] t ∧ w.cell? ⟨r, 0, none⟩ = some v0 ∧ w.cell? ⟨r, 1, none⟩ = some v1 ∧ w.cell? ⟨r, 2, none⟩ = some v2 ∧ (∀ o, w.frozen? ⟨r, o, none⟩ = false) := by
  obtain ⟨vs, hl, hr⟩ := h.own
  match vs, hl with
  | [v0, v1, v2], _ => exact ⟨v0, v1, v2, hr, hr.cell 0, hr.cell 1, hr.cell 2, hr.free⟩
theorem SKn.c6 (h : SKn W m r 6 t w) : ∃ v0 v1 v2 v3 v4 v5, RowD w r [v0, v1, v2, v3, v4, v5] t ∧ w.cell? ⟨r, 0, none⟩ = some v0 ∧ w.cell? ⟨r, 1, none⟩ = some v1 ∧ w.cell? ⟨r, 2, none⟩ = some v2 ∧ w.cell? ⟨r, 3, none⟩ = some v3 ∧ w.cell? ⟨r, 4, none⟩ = some v4 ∧ w.cell? ⟨r, 5, none⟩ = some v5 ∧ (∀ o, w.frozen? ⟨r, o, none⟩ = false) := by
  obtain ⟨vs, hl, hr⟩ := h.own
  match vs, hl with
  | [v0, v1, v2, v3, v4, v5], _ => exact ⟨v0, v1, v2, v3, v4, v5, hr, hr.cell 0, hr.cell 1, hr.cell 2, hr.cell 3, hr.cell 4, hr.cell 5, hr.free⟩
end
/-- The block's cells behind stores into all of them. -/
theorem RowD.set3 {w : World} {b t : Nat} {v0 v1 v2 : Value} (h : RowD w b [v0, v1, v2] t) (a0 a1 a2 : Value) : RowD (((w.setCell ⟨b, 0, none⟩ a0).setCell ⟨b, 1, none⟩ a1).setCell ⟨b, 2, none⟩ a2) b [a0, a1, a2] t := ((h.set_ 0 a0).set_ 1 a1).set_ 2 a2
theorem RowD.set6 {w : World} {b t : Nat} {v0 v1 v2 v3 v4 v5 : Value} (h : RowD w b [v0, v1, v2, v3, v4, v5] t) (a0 a1 a2 a3 a4 a5 : Value) :
    RowD ((((((w.setCell ⟨b, 0, none⟩ a0).setCell ⟨b, 1, none⟩ a1).setCell ⟨b, 2, none⟩ a2).setCell ⟨b, 3, none⟩ a3).setCell ⟨b, 4, none⟩ a4).setCell ⟨b, 5, none⟩ a5) b [a0, a1, a2, a3, a4, a5] t :=
  (((((h.set_ 0 a0).set_ 1 a1).set_ 2 a2).set_ 3 a3).set_ 4 a4).set_ 5 a5
theorem noW6 {v0 v1 v2 v3 v4 v5 : Value} (h0 : ∀ z, v0 ≠ .int .u32 z) (h1 : ∀ z, v1 ≠ .int .u32 z) (h2 : ∀ z, v2 ≠ .int .u32 z) (h3 : ∀ z, v3 ≠ .int .u32 z) (h4 : ∀ z, v4 ≠ .int .u32 z) (h5 : ∀ z, v5 ≠ .int .u32 z) : NoW [v0, v1, v2, v3, v4, v5] := by
  intro u hu z
  simp only [List.mem_cons, List.not_mem_nil, or_false] at hu
  rcases hu with rfl | rfl | rfl | rfl | rfl | rfl
  · exact h0 z
  · exact h1 z
  · exact h2 z
  · exact h3 z
  · exact h4 z
  · exact h5 z
theorem noW_6 {b1 b2 : Bool} {A1 A2 : Option Addr} {L1 L2 c1 c2 : Nat} {d1 d2 : Int} : NoW [.bool b1, .slice A1 L1 c1, .int .i64 d1, .bool b2, .slice A2 L2 c2, .int .i64 d2] := noW6 (by simp) (by simp) (by simp) (by simp) (by simp) (by simp)
theorem DyR.set6G {w : World} {lo hi d g t : Nat} {v : Value} {x : Int} {v0 v1 v2 v3 v4 v5 a0 a1 a2 a3 a4 a5 : Value} (h : DyR w lo hi v x d) (hg : RowD w g [v0, v1, v2, v3, v4, v5] t) (hn : NoW [v0, v1, v2, v3, v4, v5]) (ha : NoW [a0, a1, a2, a3, a4, a5]) :
    DyR ((((((w.setCell ⟨g, 0, none⟩ a0).setCell ⟨g, 1, none⟩ a1).setCell ⟨g, 2, none⟩ a2).setCell ⟨g, 3, none⟩ a3).setCell ⟨g, 4, none⟩ a4).setCell ⟨g, 5, none⟩ a5) lo hi v x d := by
  have k0 := hn.set 0 (ha a0 (by simp))
  have k1 := k0.set 1 (ha a1 (by simp))
  have k2 := k1.set 2 (ha a2 (by simp))
  have k3 := k2.set 3 (ha a3 (by simp))
  have k4 := k3.set 4 (ha a4 (by simp))
  exact (((((h.setG hg hn 0 a0).setG (hg.set_ 0 a0) k0 1 a1).setG ((hg.set_ 0 a0).set_ 1 a1) k1 2 a2).setG (((hg.set_ 0 a0).set_ 1 a1).set_ 2 a2) k2 3 a3).setG ((((hg.set_ 0 a0).set_ 1 a1).set_ 2 a2).set_ 3 a3) k3 4 a4).setG (((((hg.set_ 0 a0).set_ 1 a1).set_ 2 a2).set_ 3 a3).set_ 4 a4) k4 5 a5
theorem size6 (w : World) (g : Nat) (a0 a1 a2 a3 a4 a5 : Value) : ((((((w.setCell ⟨g, 0, none⟩ a0).setCell ⟨g, 1, none⟩ a1).setCell ⟨g, 2, none⟩ a2).setCell ⟨g, 3, none⟩ a3).setCell ⟨g, 4, none⟩ a4).setCell ⟨g, 5, none⟩ a5).heap.size = w.heap.size := by simp
theorem below_set6 {W w : World} {m g : Nat} (h : Below m W w) (hg : m ≤ g) (a0 a1 a2 a3 a4 a5 : Value) : Below m W ((((((w.setCell ⟨g, 0, none⟩ a0).setCell ⟨g, 1, none⟩ a1).setCell ⟨g, 2, none⟩ a2).setCell ⟨g, 3, none⟩ a3).setCell ⟨g, 4, none⟩ a4).setCell ⟨g, 5, none⟩ a5) :=
  (((((h.setCell hg a0).setCell hg a1).setCell hg a2).setCell hg a3).setCell hg a4).setCell hg a5
theorem RowD.other6 {w : World} {b t g : Nat} {vs : List Value} (h : RowD w b vs t) (hg : b ≠ g) (a0 a1 a2 a3 a4 a5 : Value) : RowD ((((((w.setCell ⟨g, 0, none⟩ a0).setCell ⟨g, 1, none⟩ a1).setCell ⟨g, 2, none⟩ a2).setCell ⟨g, 3, none⟩ a3).setCell ⟨g, 4, none⟩ a4).setCell ⟨g, 5, none⟩ a5) b vs t :=
  (((((h.other_ hg 0 a0).other_ hg 1 a1).other_ hg 2 a2).other_ hg 3 a3).other_ hg 4 a4).other_ hg 5 a5
/-- Stores into one block, told as one. -/
def setAll (w : World) (b : Nat) : Nat → List Value → World
  | _, [] => w
  | j, v :: vs => setAll (w.setCell ⟨b, j, none⟩ v) b (j + 1) vs
theorem setAll_size : ∀ (vs : List Value) (w : World) (b j : Nat), (setAll w b j vs).heap.size = w.heap.size
  | [], _, _, _ => rfl
  | v :: vs, w, b, j => (setAll_size vs _ b (j + 1)).trans (by simp)
theorem setAll_below {m : Nat} {W : World} : ∀ (vs : List Value) (w : World) (b j : Nat), m ≤ b → Below m W w → Below m W (setAll w b j vs)
  | [], _, _, _, _, h => h
  | v :: vs, w, b, j, hb, h => setAll_below vs _ b (j + 1) hb (h.setCell hb v)
theorem setAll_dy {lo hi d b : Nat} {v : Value} {x : Int} : ∀ (vs : List Value) (w : World) (j : Nat), b < lo → DyR w lo hi v x d → DyR (setAll w b j vs) lo hi v x d
  | [], _, _, _, h => h
  | u :: vs, w, j, hb, h => setAll_dy vs _ (j + 1) hb (h.set_ hb j u)
theorem setAll_row {b c t : Nat} {rs : List Value} : ∀ (vs : List Value) (w : World) (j : Nat), b ≠ c → RowD w c rs t → RowD (setAll w b j vs) c rs t
  | [], _, _, _, h => h
  | u :: vs, w, j, hb, h => setAll_row vs _ (j + 1) hb (h.other_ (Ne.symm hb) j u)
end Go.Proofs.YtejnnljjmafjaaaDoor
namespace Go.Proofs.YtejnnljjmafjaaaDoor
set_option linter.unusedVariables false
set_option linter.unusedSimpArgs false
set_option linter.unusedSectionVars false
open Go.RowKit

theorem rw_len {r : Rw} {w : World} {m : Nat} (h : RwAt w m r) (hv : vdB r = true) : (canon r.x.natAbs).length = r.ws.length := by rw [x_abs, vd_canon h.ok hv]
theorem IvR.raw {w : World} {lo hi dx dy : Nat} {v : Value} {x y : Int} (h : IvR w lo hi v x dx y dy) : ∃ a : Iv, v = a.val ∧ IvAt w hi a ∧ vdB a.lo = true ∧ vdB a.hi = true ∧ a.lo.x = x ∧ a.lo.d = dx ∧ a.hi.x = y ∧ a.hi.d = dy := by
  obtain ⟨r, s, e, h1, h2⟩ := h
  obtain ⟨r', e1, q1, v1, x1, d1, _⟩ := h1.rw_
  obtain ⟨s', e2, q2, v2, x2, d2, _⟩ := h2.rw_
  refine ⟨⟨r', s'⟩, ?_, ⟨q1, q2⟩, v1, v2, x1, d1, x2, d2⟩
  rw [e]
  unfold Rw.val at e1 e2
  simp only [Value.agg.injEq, Array.mk.injEq, List.cons.injEq, and_true] at e1 e2
  unfold Iv.val
  dsimp only
  rw [e1.1, e1.2.1, e1.2.2, e2.1, e2.2.1, e2.2.2]
set_option maxRecDepth 100000 in
set_option maxHeartbeats 4000000 in
theorem pvalid_raw (r : Rw) (m : Nat) (w : World) (hm : m ≤ w.heap.size) (h : RwAt w m r) (hl : r.ws.length ≤ 1000000) :
    Calls Tryd.prog 56 #[r.val] w fun e w' => e = .returned (.bool (vdB r)) ∧ Below w.heap.size w w' := by
  have hat := h.at_
  have hok := h.ok
  obtain ⟨nb, A, ws, cap, den⟩ := r
  dsimp only at hat hok hl
  simp only [Rw.val]
  have key : den < 0 ∨ den = 0 ∨ (0 < den ∧ den ≤ 65536) ∨ 65536 < den := by omega
  by_cases h0 : ws.length = 0
  · have hp := vdP_0 (r := ⟨nb, A, ws, cap, den⟩) h0
    dsimp only at hp
    have hz : (ws.length : Int) = 0 := by omega
    have hzb : ((ws.length : Int) == 0) = true := by rw [hz]; rfl
    rw [h0] at hzb ⊢
    clear hat hok hl h hz h0
    cases nb with
    | true =>
      rcases key with k1 | k1 | k1 | k1
      all_goals
        have HV := Lib.hid (show vdB ⟨true, A, ws, cap, den⟩ = false from vd_no (fun hv => by have := (hp.1 hv).1; cases this))
        clear hp
        go_enter Tryd.func56, Tryd.ntmps56
        go_wp2_with fail
        all_goals first
          | (exfalso; omega)
          | (go_ret
             exact ⟨by rw [HV.out]; rfl, al_ _ _⟩)
    | false =>
      rcases key with k1 | k1 | k1 | k1
      · have d0 : (den == 0) = false := by rw [beq_eq_false_iff_ne]; omega
        have HV := Lib.hid (show vdB ⟨false, A, ws, cap, den⟩ = false from vd_no (fun hv => by have := (hp.1 hv).2; omega))
        clear hp
        go_enter Tryd.func56, Tryd.ntmps56
        go_wp2_with fail
        all_goals first
          | (exfalso; omega)
          | (go_ret
             exact ⟨by rw [HV.out]; rfl, al_ _ _⟩)
      · have d0 : (den == 0) = true := by simp; omega
        have HV := Lib.hid (show vdB ⟨false, A, ws, cap, den⟩ = true from vd_yes (hp.2 ⟨rfl, k1⟩))
        clear hp
        go_enter Tryd.func56, Tryd.ntmps56
        go_wp2_with fail
        all_goals first
          | (exfalso; omega)
          | (go_ret
             exact ⟨by rw [HV.out]; rfl, al_ _ _⟩)
      · have d0 : (den == 0) = false := by rw [beq_eq_false_iff_ne]; omega
        have HV := Lib.hid (show vdB ⟨false, A, ws, cap, den⟩ = false from vd_no (fun hv => by have := (hp.1 hv).2; omega))
        clear hp
        go_enter Tryd.func56, Tryd.ntmps56
        go_wp2_with fail
        all_goals first
          | (exfalso; omega)
          | (go_ret
             exact ⟨by rw [HV.out]; rfl, al_ _ _⟩)
      · have d0 : (den == 0) = false := by rw [beq_eq_false_iff_ne]; omega
        have HV := Lib.hid (show vdB ⟨false, A, ws, cap, den⟩ = false from vd_no (fun hv => by have := (hp.1 hv).2; omega))
        clear hp
        go_enter Tryd.func56, Tryd.ntmps56
        go_wp2_with fail
        all_goals first
          | (exfalso; omega)
          | (go_ret
             exact ⟨by rw [HV.out]; rfl, al_ _ _⟩)
  · have hp := vdP_n (r := ⟨nb, A, ws, cap, den⟩) h0
    dsimp only at hp
    obtain ⟨b, off, z, hA, q1, q2, hz, g1⟩ := hat.w32_ (k := ws.length - 1) (by omega)
    subst hA
    obtain ⟨b', off', y, hA', _, _, hy, g0⟩ := hat.w32_ (k := 0) (by omega)
    cases hA'
    rw [Nat.add_zero] at g0
    obtain ⟨L, hL⟩ : ∃ L, L = ws.length - 1 := ⟨_, rfl⟩
    have hlen : ws.length = L + 1 := by omega
    have hl' : L ≤ 1000000 := by omega
    have e0 : ((L : Int) + 1 == 0) = false := by simp; omega
    rw [← hL] at g1
    rw [hz, hy] at hp
    simp only [Option.getD_some] at hp
    rw [hlen]
    clear hat hok hl h hz hy hL q1 q2 h0 hlen
    by_cases hz0 : z = 0
    · subst hz0
      have hzb : (((0 : Nat) : Int) != 0) = false := by rfl
      rcases key with k1 | k1 | k1 | k1
      all_goals
        have HV := Lib.hid (show vdB ⟨nb, some ⟨b, off, none⟩, ws, cap, den⟩ = false from vd_no (fun hv => (hp.1 hv).1 rfl))
        clear hp
        go_enter Tryd.func56, Tryd.ntmps56
        go_wp2_with fail
        all_goals first
          | (exfalso; omega)
          | (go_ret
             exact ⟨by rw [HV.out]; rfl, al_ _ _⟩)
    · have hzb : ((z : Int) != 0) = true := by simp; omega
      rcases key with k1 | k1 | k1 | k1
      · have HV := Lib.hid (show vdB ⟨nb, some ⟨b, off, none⟩, ws, cap, den⟩ = false from vd_no (fun hv => by have := (hp.1 hv).2.1; omega))
        clear hp
        go_enter Tryd.func56, Tryd.ntmps56
        go_wp2_with fail
        all_goals first
          | (exfalso; omega)
          | (go_ret
             exact ⟨by rw [HV.out]; rfl, al_ _ _⟩)
      · have d0 : (den == 0) = true := by simp; omega
        have HV := Lib.hid (show vdB ⟨nb, some ⟨b, off, none⟩, ws, cap, den⟩ = true from vd_yes (hp.2 ⟨hz0, by omega, by omega, .inl k1⟩))
        clear hp
        go_enter Tryd.func56, Tryd.ntmps56
        go_wp2_with fail
        all_goals first
          | (exfalso; omega)
          | (go_ret
             exact ⟨by rw [HV.out]; rfl, al_ _ _⟩)
      · have d0 : (den == 0) = false := by rw [beq_eq_false_iff_ne]; omega
        have d1 : decide (den ≤ 65536) = true := decide_eq_true k1.2
        have d2 : decide (0 ≤ den) = true := decide_eq_true (by omega)
        by_cases ho : y % 2 = 1
        · have hoi : (y : Int) % 2 = 1 := by omega
          have HV := Lib.hid (show vdB ⟨nb, some ⟨b, off, none⟩, ws, cap, den⟩ = true from vd_yes (hp.2 ⟨hz0, by omega, k1.2, .inr ho⟩))
          clear hp
          go_enter Tryd.func56, Tryd.ntmps56
          go_wp2_with fail
          all_goals first
            | (exfalso; omega)
            | (go_ret
               exact ⟨by rw [HV.out]; rfl, al_ _ _⟩)
        · have hoi : (y : Int) % 2 = 0 := by omega
          have HV := Lib.hid (show vdB ⟨nb, some ⟨b, off, none⟩, ws, cap, den⟩ = false from vd_no (fun hv => by have := (hp.1 hv).2.2.2; omega))
          clear hp
          go_enter Tryd.func56, Tryd.ntmps56
          go_wp2_with fail
          all_goals first
            | (exfalso; omega)
            | (go_ret
               exact ⟨by rw [HV.out]; rfl, al_ _ _⟩)
      · have HV := Lib.hid (show vdB ⟨nb, some ⟨b, off, none⟩, ws, cap, den⟩ = false from vd_no (fun hv => by have := (hp.1 hv).2.2.1; omega))
        clear hp
        go_enter Tryd.func56, Tryd.ntmps56
        go_wp2_with fail
        all_goals first
          | (exfalso; omega)
          | (go_ret
             exact ⟨by rw [HV.out]; rfl, al_ _ _⟩)
set_option maxRecDepth 100000 in
set_option maxHeartbeats 4000000 in
theorem pivalid_any (a : Iv) (m : Nat) (w : World) (hm : m ≤ w.heap.size) (h : IvAt w m a) (l1 : a.lo.ws.length ≤ 50000) (l2 : a.hi.ws.length ≤ 50000) :
    Calls Tryd.prog 55 #[a.val] w fun e w' => e = .returned (.bool (ivB a)) ∧ Below w.heap.size w w' := by
  have H1 := Lib.hid h.lo
  have H2 := Lib.hid h.hi
  clear h
  obtain ⟨⟨nb1, A1, ws1, c1, e1⟩, ⟨nb2, A2, ws2, c2, e2⟩⟩ := a
  dsimp only at H1 H2 l1 l2
  simp only [Iv.val]
  have b0 : Below w.heap.size w (w.alloc (.cells #[.bool nb1, .slice A1 ws1.length c1, .int .i64 e1, .bool nb2, .slice A2 ws2.length c2, .int .i64 e2] 41)) := al_ _ _
  have r0 := RowD.new_ w [.bool nb1, .slice A1 ws1.length c1, .int .i64 e1, .bool nb2, .slice A2 ws2.length c2, .int .i64 e2] 41
  have hl1 := l1
  have hl2 := l2
  replace l1 : ws1.length ≤ 1000000 := by omega
  replace l2 : ws2.length ≤ 1000000 := by omega
  cases v1 : vdB ⟨nb1, A1, ws1, c1, e1⟩ with
  | false =>
    have V1 := Lib.hid v1
    have HV := Lib.hid (show ivB ⟨⟨nb1, A1, ws1, c1, e1⟩, ⟨nb2, A2, ws2, c2, e2⟩⟩ = false from decide_eq_false (fun hp => by have := hp.1; rw [v1] at this; cases this))
    clear v1
    go_enter Tryd.func55, Tryd.ntmps55
    go_wp2_with fail
    go_at_call_of 56 (Value.agg #[.bool nb1, .slice A1 ws1.length c1, .int .i64 e1])
    refine (pvalid_raw ⟨nb1, A1, ws1, c1, e1⟩ m _ (by simp; omega) (H1.out.below b0 hm) l1).mono ?_
    rintro e w1 ⟨rfl, hb1⟩
    rw [V1.out]
    have r1 := r0.call hb1
    have b1 := b0.trans (hb1.mono (by simp))
    clear r0 b0 hb1
    have k0 : w1.cell? ⟨w.heap.size, 0, none⟩ = some (.bool nb1) := r1.cell 0
    have k1 : w1.cell? ⟨w.heap.size, 1, none⟩ = some (.slice A1 ws1.length c1) := r1.cell 1
    have k2 : w1.cell? ⟨w.heap.size, 2, none⟩ = some (.int .i64 e1) := r1.cell 2
    have k3 : w1.cell? ⟨w.heap.size, 3, none⟩ = some (.bool nb2) := r1.cell 3
    have k4 : w1.cell? ⟨w.heap.size, 4, none⟩ = some (.slice A2 ws2.length c2) := r1.cell 4
    have k5 : w1.cell? ⟨w.heap.size, 5, none⟩ = some (.int .i64 e2) := r1.cell 5
    go_wp2_with fail
    go_ret
    exact ⟨by rw [HV.out]; rfl, b1⟩
  | true =>
    have V1 := Lib.hid v1
    cases v2 : vdB ⟨nb2, A2, ws2, c2, e2⟩ with
    | false =>
      have V2 := Lib.hid v2
      have HV := Lib.hid (show ivB ⟨⟨nb1, A1, ws1, c1, e1⟩, ⟨nb2, A2, ws2, c2, e2⟩⟩ = false from decide_eq_false (fun hp => by have := hp.2.1; rw [v2] at this; cases this))
      clear v1 v2
      go_enter Tryd.func55, Tryd.ntmps55
      go_wp2_with fail
      go_at_call_of 56 (Value.agg #[.bool nb1, .slice A1 ws1.length c1, .int .i64 e1])
      refine (pvalid_raw ⟨nb1, A1, ws1, c1, e1⟩ m _ (by simp; omega) (H1.out.below b0 hm) l1).mono ?_
      rintro e w1 ⟨rfl, hb1⟩
      rw [V1.out]
      have r1 := r0.call hb1
      have b1 := b0.trans (hb1.mono (by simp))
      clear r0 b0 hb1
      have k0 : w1.cell? ⟨w.heap.size, 0, none⟩ = some (.bool nb1) := r1.cell 0
      have k1 : w1.cell? ⟨w.heap.size, 1, none⟩ = some (.slice A1 ws1.length c1) := r1.cell 1
      have k2 : w1.cell? ⟨w.heap.size, 2, none⟩ = some (.int .i64 e1) := r1.cell 2
      have k3 : w1.cell? ⟨w.heap.size, 3, none⟩ = some (.bool nb2) := r1.cell 3
      have k4 : w1.cell? ⟨w.heap.size, 4, none⟩ = some (.slice A2 ws2.length c2) := r1.cell 4
      have k5 : w1.cell? ⟨w.heap.size, 5, none⟩ = some (.int .i64 e2) := r1.cell 5
      go_wp2_with fail
      go_at_call_of 56 (Value.agg #[.bool nb2, .slice A2 ws2.length c2, .int .i64 e2])
      have hs1 := b1.size
      refine (pvalid_raw ⟨nb2, A2, ws2, c2, e2⟩ m _ (by omega) (H2.out.below b1 hm) l2).mono ?_
      rintro e w2 ⟨rfl, hb2⟩
      rw [V2.out]
      have r2 := r1.call hb2
      have b2 := b1.trans (hb2.mono (by omega))
      clear r1 b1 hb2 k0 k1 k2 k3 k4 k5
      have k0 : w2.cell? ⟨w.heap.size, 0, none⟩ = some (.bool nb1) := r2.cell 0
      have k1 : w2.cell? ⟨w.heap.size, 1, none⟩ = some (.slice A1 ws1.length c1) := r2.cell 1
      have k2 : w2.cell? ⟨w.heap.size, 2, none⟩ = some (.int .i64 e1) := r2.cell 2
      have k3 : w2.cell? ⟨w.heap.size, 3, none⟩ = some (.bool nb2) := r2.cell 3
      have k4 : w2.cell? ⟨w.heap.size, 4, none⟩ = some (.slice A2 ws2.length c2) := r2.cell 4
      have k5 : w2.cell? ⟨w.heap.size, 5, none⟩ = some (.int .i64 e2) := r2.cell 5
      go_wp2_with fail
      go_ret
      exact ⟨by rw [HV.out]; rfl, b2⟩
    | true =>
      have V2 := Lib.hid v2
      have L1 := Lib.hid (rw_len H1.out v1)
      have L2 := Lib.hid (rw_len H2.out v2)
      obtain ⟨cv, hcv⟩ : ∃ cv, cv = pCmp (Rw.x ⟨nb1, A1, ws1, c1, e1⟩) (Rw.d ⟨nb1, A1, ws1, c1, e1⟩) (Rw.x ⟨nb2, A2, ws2, c2, e2⟩) (Rw.d ⟨nb2, A2, ws2, c2, e2⟩) := ⟨_, rfl⟩
      have HV := Lib.hid (show ivB ⟨⟨nb1, A1, ws1, c1, e1⟩, ⟨nb2, A2, ws2, c2, e2⟩⟩ = decide (cv ≤ 0) by
        refine decide_eq_decide.2 ⟨fun h => ?_, fun h => ⟨v1, v2, ?_⟩⟩
        · rw [hcv]; exact h.2.2
        · rw [hcv] at h; exact h)
      have HC := Lib.hid hcv
      clear v1 v2 hcv
      go_enter Tryd.func55, Tryd.ntmps55
      go_wp2_with fail
      go_at_call_of 56 (Value.agg #[.bool nb1, .slice A1 ws1.length c1, .int .i64 e1])
      refine (pvalid_raw ⟨nb1, A1, ws1, c1, e1⟩ m _ (by simp; omega) (H1.out.below b0 hm) l1).mono ?_
      rintro e w1 ⟨rfl, hb1⟩
      rw [V1.out]
      have r1 := r0.call hb1
      have b1 := b0.trans (hb1.mono (by simp))
      clear r0 b0 hb1
      have k0 : w1.cell? ⟨w.heap.size, 0, none⟩ = some (.bool nb1) := r1.cell 0
      have k1 : w1.cell? ⟨w.heap.size, 1, none⟩ = some (.slice A1 ws1.length c1) := r1.cell 1
      have k2 : w1.cell? ⟨w.heap.size, 2, none⟩ = some (.int .i64 e1) := r1.cell 2
      have k3 : w1.cell? ⟨w.heap.size, 3, none⟩ = some (.bool nb2) := r1.cell 3
      have k4 : w1.cell? ⟨w.heap.size, 4, none⟩ = some (.slice A2 ws2.length c2) := r1.cell 4
      have k5 : w1.cell? ⟨w.heap.size, 5, none⟩ = some (.int .i64 e2) := r1.cell 5
      go_wp2_with fail
      go_at_call_of 56 (Value.agg #[.bool nb2, .slice A2 ws2.length c2, .int .i64 e2])
      have hs1 := b1.size
      refine (pvalid_raw ⟨nb2, A2, ws2, c2, e2⟩ m _ (by omega) (H2.out.below b1 hm) l2).mono ?_
      rintro e w2 ⟨rfl, hb2⟩
      rw [V2.out]
      have r2 := r1.call hb2
      have b2 := b1.trans (hb2.mono (by omega))
      clear r1 b1 hb2 k0 k1 k2 k3 k4 k5
      have k0 : w2.cell? ⟨w.heap.size, 0, none⟩ = some (.bool nb1) := r2.cell 0
      have k1 : w2.cell? ⟨w.heap.size, 1, none⟩ = some (.slice A1 ws1.length c1) := r2.cell 1
      have k2 : w2.cell? ⟨w.heap.size, 2, none⟩ = some (.int .i64 e1) := r2.cell 2
      have k3 : w2.cell? ⟨w.heap.size, 3, none⟩ = some (.bool nb2) := r2.cell 3
      have k4 : w2.cell? ⟨w.heap.size, 4, none⟩ = some (.slice A2 ws2.length c2) := r2.cell 4
      have k5 : w2.cell? ⟨w.heap.size, 5, none⟩ = some (.int .i64 e2) := r2.cell 5
      go_wp2_with fail
      go_at_call 28
      have hs2 := b2.size
      refine (pcmp_any ((H1.out.dy V1.out).below b2 hm) ((H2.out.dy V2.out).below b2 hm) (by omega) (by rw [L1.out]; exact hl1) (by rw [L2.out]; exact hl2)).mono ?_
      rintro e w3 ⟨rfl, hb3⟩
      rw [← HC.out]
      go_wp2_with fail
      go_ret
      exact ⟨by rw [HV.out]; rfl, b2.trans (hb3.mono hs2)⟩
end Go.Proofs.YtejnnljjmafjaaaDoor
