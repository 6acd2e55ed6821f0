/- The document's Result and Fit agree with the code's. And more of the kind. No conditions. -/
import Derived.Test.YtdhlmbnmgioeeaaZc
import Derived.Test.YtdhlmbnmgioeeaaCdK0
import Derived.Test.YtdhlmbnmgioeeaaCdS
/- The document's Result and Fit agree with the code's. No conditions. -/
namespace Go.Proofs.Ytdhlmbnmgioeeaa
set_option linter.unusedVariables false
set_option linter.unusedSimpArgs false
set_option linter.unusedSectionVars false
open Go.RowKit

theorem rResult_any (x : Ins) (A B : Option Addr) (cs inn : List Int) (c1 c2 m : Nat) (w : World) (hm : m ≤ w.heap.size) (hA : CellsAt w m A (ints cs)) (hB : CellsAt w m B (ints inn)) (ok : InsOk inn.length cs.length x)
    (hcs : ∀ z ∈ cs, shortB z = true) (hin : ∀ z ∈ inn, shortB z = true) :
    Calls Try.prog 31 #[.agg #[.int .i64 x.op, .int .i64 x.dst, .int .i64 x.a, .int .i64 x.b, .int .i64 x.sa, .int .i64 x.sb, .int .i64 x.imm], .slice A cs.length c1, .slice B inn.length c2] w (ResPost w (resE x cs inn)) := by
  obtain ⟨op, dst, a, b, sa, sb, imm⟩ := x
  rcases op_cases ok.is with h | h | h | h | h | h | h | h | h | h | h
  · subst h; exact rRes_in A B dst a b sa sb imm cs inn c1 c2 m w hm hA hB ok hcs hin
  · subst h; exact rRes_const A B dst a b sa sb imm cs inn c1 c2 m w hm hA hB ok hcs hin
  · subst h; exact rRes_move A B dst a b sa sb imm cs inn c1 c2 m w hm hA hB ok hcs hin
  · subst h; exact rRes_add A B dst a b sa sb imm cs inn c1 c2 m w hm hA hB ok hcs hin
  · subst h; exact rRes_sub A B dst a b sa sb imm cs inn c1 c2 m w hm hA hB ok hcs hin
  · subst h; exact rRes_neg A B dst a b sa sb imm cs inn c1 c2 m w hm hA hB ok hcs hin
  · subst h; exact rRes_gain A B dst a b sa sb imm cs inn c1 c2 m w hm hA hB ok hcs hin
  · subst h; exact rRes_mul A B dst a b sa sb imm cs inn c1 c2 m w hm hA hB ok hcs hin
  · subst h; exact rRes_min A B dst a b sa sb imm cs inn c1 c2 m w hm hA hB ok hcs hin
  · subst h; exact rRes_max A B dst a b sa sb imm cs inn c1 c2 m w hm hA hB ok hcs hin
  · subst h; exact rRes_abs A B dst a b sa sb imm cs inn c1 c2 m w hm hA hB ok hcs hin

/-- Two numbers that are cut alike. -/
def Alike32 (a b : Int) : Prop := cut32 a = cut32 b ∧ shortB a = shortB b
theorem Alike32.refl (a : Int) : Alike32 a a := ⟨rfl, rfl⟩
theorem alike_hi {a b : Int} (h1 : 2147483647 < a) (h2 : 2147483647 < b) : Alike32 a b := by
  refine ⟨by unfold cut32; omega, ?_⟩
  unfold shortB
  rw [decide_eq_false (by omega), decide_eq_false (by omega)]
theorem alike_lo {a b : Int} (h1 : a < -2147483648) (h2 : b < -2147483648) : Alike32 a b := by
  refine ⟨by unfold cut32; omega, ?_⟩
  unfold shortB
  rw [decide_eq_false (by omega), decide_eq_false (by omega)]
theorem scl_shE {x k : Int} (h1 : -4294967296 ≤ x) (h2 : x ≤ 4294967296) : scl x k = shE x k := by
  unfold scl shE
  rw [show max (-4294967296) (min x 4294967296) = x by omega]
theorem scl_alike (x k : Int) : Alike32 (shE x k) (scl x k) := by
  unfold scl shE
  by_cases hk : k < 0
  · rw [if_pos hk, if_pos hk]; exact Alike32.refl _
  · rw [if_neg hk, if_neg hk]
    generalize k.toNat = p
    have hp : (1 : Int) ≤ 2 ^ p := Int.pow_pos (by decide)
    by_cases ha : 4294967296 < x
    · rw [show max (-4294967296) (min x 4294967296) = 4294967296 by omega]
      have e1 : x * 1 ≤ x * 2 ^ p := Int.mul_le_mul_of_nonneg_left hp (by omega)
      exact alike_hi (by omega) (by omega)
    · by_cases hb : x < -4294967296
      · rw [show max (-4294967296) (min x 4294967296) = -4294967296 by omega]
        have e1 : (-x) * 1 ≤ (-x) * 2 ^ p := Int.mul_le_mul_of_nonneg_left hp (by omega)
        rw [Int.neg_mul, Int.neg_mul] at e1
        exact alike_lo (by omega) (by omega)
      · rw [show max (-4294967296) (min x 4294967296) = x by omega]; exact Alike32.refl _
theorem shE_bound {x k : Int} (h1 : -2147483648 ≤ x) (h2 : x ≤ 2147483647) (h3 : k ≤ 30) : -2305843009213693952 ≤ shE x k ∧ shE x k ≤ 2305843009213693952 := by
  unfold shE
  by_cases hk : k < 0
  · rw [if_pos hk]
    generalize (-k).toNat = p
    have hp : (0 : Int) < 2 ^ p := Int.pow_pos (by decide)
    have e := Int.natAbs_ediv_le_natAbs x (2 ^ p)
    omega
  · rw [if_neg hk]
    have hp : (0 : Int) < 2 ^ k.toNat := Int.pow_pos (by decide)
    have hq : (2 : Int) ^ k.toNat ≤ 2 ^ 30 := by
      have := Nat.pow_le_pow_right (n := 2) (by decide) (show k.toNat ≤ 30 by omega)
      exact_mod_cast this
    generalize (2 : Int) ^ k.toNat = q at *
    have a1 : x * q ≤ 2147483648 * q := Int.mul_le_mul_of_nonneg_right (by omega) (by omega)
    have a2 : -2147483648 * q ≤ x * q := Int.mul_le_mul_of_nonneg_right (by omega) (by omega)
    omega
theorem wrapD {n : Int} (h1 : -9223372036854775808 ≤ n) (h2 : n ≤ 9223372036854775807) : wrap64 n = n := by
  unfold wrap64
  omega
theorem get_short {cs : List Int} (h : ∀ z ∈ cs, shortB z = true) (j : Nat) : -2147483648 ≤ cs[j]?.getD 0 ∧ cs[j]?.getD 0 < 2147483648 := by
  by_cases hj : j < cs.length
  · rw [List.getElem?_eq_getElem hj]
    exact shortB_t (h _ (List.getElem_mem hj))
  · rw [List.getElem?_eq_none (by omega)]
    simp
theorem res_alike {x : Ins} {cs inn : List Int} (ok : InsOk inn.length cs.length x) (hcs : ∀ z ∈ cs, shortB z = true) (hin : ∀ z ∈ inn, shortB z = true) : Alike32 (resE x cs inn) (insVal x cs inn) := by
  obtain ⟨op, dst, a, b, sa, sb, imm⟩ := x
  have ca := get_short hcs a.toNat
  have cb := get_short hcs b.toNat
  have ia := get_short hin a.toNat
  have sA := ok.sa
  have sB := ok.sb
  have iM := ok.imm
  rcases op_cases ok.is with h | h | h | h | h | h | h | h | h | h | h
  all_goals
    subst h
    simp only [resE, insVal] at *
    clear ok hcs hin
  · exact scl_alike _ _
  · exact Alike32.refl _
  · exact scl_alike _ _
  · have ka := (sA rfl)
    have kb := (sB rfl)
    generalize cs[a.toNat]?.getD 0 = p at *
    generalize cs[b.toNat]?.getD 0 = q at *
    show Alike32 (shE p sa + shE q sb) (wrap64 (scl p sa + scl q sb))
    rw [scl_shE (by omega) (by omega), scl_shE (by omega) (by omega)]
    have b1 := shE_bound (k := sa) (x := p) (by omega) (by omega) ka.2
    have b2 := shE_bound (k := sb) (x := q) (by omega) (by omega) kb.2
    rw [wrapD (by omega) (by omega)]
    exact Alike32.refl _
  · have ka := (sA rfl)
    have kb := (sB rfl)
    generalize cs[a.toNat]?.getD 0 = p at *
    generalize cs[b.toNat]?.getD 0 = q at *
    show Alike32 (shE p sa - shE q sb) (wrap64 (scl p sa - scl q sb))
    rw [scl_shE (by omega) (by omega), scl_shE (by omega) (by omega)]
    have b1 := shE_bound (k := sa) (x := p) (by omega) (by omega) ka.2
    have b2 := shE_bound (k := sb) (x := q) (by omega) (by omega) kb.2
    rw [wrapD (by omega) (by omega)]
    exact Alike32.refl _
  · have ka := (sA rfl)
    generalize cs[a.toNat]?.getD 0 = p at *
    show Alike32 (-shE p sa) (wrap64 (-scl p sa))
    rw [scl_shE (by omega) (by omega)]
    have b1 := shE_bound (k := sa) (x := p) (by omega) (by omega) ka.2
    rw [wrapD (by omega) (by omega)]
    exact Alike32.refl _
  · have hi := shortB_t (iM rfl)
    generalize cs[a.toNat]?.getD 0 = p at *
    show Alike32 (shE (p * imm) sa) (scl (wrap64 (p * imm)) sa)
    have hb := mul_short ca.1 ca.2 hi.1 hi.2
    rw [wrapD (by omega) (by omega)]
    exact scl_alike _ _
  · generalize cs[a.toNat]?.getD 0 = p at *
    generalize cs[b.toNat]?.getD 0 = q at *
    show Alike32 (shE (p * q) sa) (scl (wrap64 (p * q)) sa)
    have hb := mul_short ca.1 ca.2 cb.1 cb.2
    rw [wrapD (by omega) (by omega)]
    exact scl_alike _ _
  · generalize cs[a.toNat]?.getD 0 = p at *
    generalize cs[b.toNat]?.getD 0 = q at *
    show Alike32 (min (shE p sa) (shE q sb)) (min (scl p sa) (scl q sb))
    rw [scl_shE (by omega) (by omega), scl_shE (by omega) (by omega)]
    exact Alike32.refl _
  · generalize cs[a.toNat]?.getD 0 = p at *
    generalize cs[b.toNat]?.getD 0 = q at *
    show Alike32 (max (shE p sa) (shE q sb)) (max (scl p sa) (scl q sb))
    rw [scl_shE (by omega) (by omega), scl_shE (by omega) (by omega)]
    exact Alike32.refl _
  · have ka := (sA rfl)
    generalize cs[a.toNat]?.getD 0 = p at *
    show Alike32 (((shE p sa).natAbs : Nat) : Int) (max (scl p sa) (wrap64 (-scl p sa)))
    rw [scl_shE (by omega) (by omega)]
    have b1 := shE_bound (k := sa) (x := p) (by omega) (by omega) ka.2
    rw [wrapD (by omega) (by omega)]
    have : (((shE p sa).natAbs : Nat) : Int) = max (shE p sa) (-shE p sa) := by omega
    rw [this]
    exact Alike32.refl _
theorem shE_abs {x k : Int} (hx : x.natAbs ≤ 4611686018427387904) (hk : k ≤ 30) : (shE x k).natAbs ≤ 4951760157141521099596496896 := by
  unfold shE
  split
  · have := Int.natAbs_ediv_le_natAbs x (2 ^ (-k).toNat)
    omega
  · rw [abs_mul_pow]
    exact Nat.le_trans (Nat.mul_le_mul hx (Nat.pow_le_pow_right (by decide) (show k.toNat ≤ 30 by omega))) (by decide)
/-- The size of a result. -/
theorem resE_len {x : Ins} {cs inn : List Int} (ok : InsOk inn.length cs.length x) (hcs : ∀ z ∈ cs, shortB z = true) (hin : ∀ z ∈ inn, shortB z = true) : (canon (resE x cs inn).natAbs).length ≤ 50000 := by
  refine Nat.le_trans (canon_len_le (k := 4) ?_) (by decide)
  obtain ⟨op, dst, a, b, sa, sb, imm⟩ := x
  have ca := get_short hcs a.toNat
  have cb := get_short hcs b.toNat
  have ia := get_short hin a.toNat
  have sA := ok.sa
  have sB := ok.sb
  have iM := ok.imm
  rcases op_cases ok.is with h | h | h | h | h | h | h | h | h | h | h
  all_goals
    subst h
    simp only [resE] at *
    clear ok hcs hin
  · have e := shE_abs (x := inn[a.toNat]?.getD 0) (k := sa) (by omega) (sA rfl).2
    show (shE (inn[a.toNat]?.getD 0) sa).natAbs < _
    omega
  · have hi := shortB_t (iM rfl)
    show imm.natAbs < _
    omega
  · have e := shE_abs (x := cs[a.toNat]?.getD 0) (k := sa) (by omega) (sA rfl).2
    show (shE (cs[a.toNat]?.getD 0) sa).natAbs < _
    omega
  · have e := shE_abs (x := cs[a.toNat]?.getD 0) (k := sa) (by omega) (sA rfl).2
    have f := shE_abs (x := cs[b.toNat]?.getD 0) (k := sb) (by omega) (sB rfl).2
    show (shE (cs[a.toNat]?.getD 0) sa + shE (cs[b.toNat]?.getD 0) sb).natAbs < _
    omega
  · have e := shE_abs (x := cs[a.toNat]?.getD 0) (k := sa) (by omega) (sA rfl).2
    have f := shE_abs (x := cs[b.toNat]?.getD 0) (k := sb) (by omega) (sB rfl).2
    show (shE (cs[a.toNat]?.getD 0) sa - shE (cs[b.toNat]?.getD 0) sb).natAbs < _
    omega
  · have e := shE_abs (x := cs[a.toNat]?.getD 0) (k := sa) (by omega) (sA rfl).2
    show (-shE (cs[a.toNat]?.getD 0) sa).natAbs < _
    omega
  · have hi := shortB_t (iM rfl)
    have e := shE_abs (x := cs[a.toNat]?.getD 0 * imm) (k := sa) (mul_short ca.1 ca.2 hi.1 hi.2) (sA rfl).2
    show (shE (cs[a.toNat]?.getD 0 * imm) sa).natAbs < _
    omega
  · have e := shE_abs (x := cs[a.toNat]?.getD 0 * cs[b.toNat]?.getD 0) (k := sa) (mul_short ca.1 ca.2 cb.1 cb.2) (sA rfl).2
    show (shE (cs[a.toNat]?.getD 0 * cs[b.toNat]?.getD 0) sa).natAbs < _
    omega
  · have e := shE_abs (x := cs[a.toNat]?.getD 0) (k := sa) (by omega) (sA rfl).2
    have f := shE_abs (x := cs[b.toNat]?.getD 0) (k := sb) (by omega) (sB rfl).2
    show (min (shE (cs[a.toNat]?.getD 0) sa) (shE (cs[b.toNat]?.getD 0) sb)).natAbs < _
    omega
  · have e := shE_abs (x := cs[a.toNat]?.getD 0) (k := sa) (by omega) (sA rfl).2
    have f := shE_abs (x := cs[b.toNat]?.getD 0) (k := sb) (by omega) (sB rfl).2
    show (max (shE (cs[a.toNat]?.getD 0) sa) (shE (cs[b.toNat]?.getD 0) sb)).natAbs < _
    omega
  · have e := shE_abs (x := cs[a.toNat]?.getD 0) (k := sa) (by omega) (sA rfl).2
    show ((((shE (cs[a.toNat]?.getD 0) sa).natAbs : Nat) : Int)).natAbs < _
    omega
end Go.Proofs.Ytdhlmbnmgioeeaa

/- The document's Run: what it is made of. No conditions. -/
namespace Go.Proofs.Ytdhlmbnmgioeeaa
set_option linter.unusedVariables false
set_option linter.unusedSimpArgs false
set_option linter.unusedSectionVars false
open Go.RowKit

/-- What the document's Run hands back: a run and the number of an error. -/
def RunPostN (w : World) (r : RunD) (er : Int) (e : Ending) (w' : World) : Prop :=
  ∃ A c B d, e = .returned (.tuple #[.agg #[.slice A r.cells.length c, .slice B r.outs.length d, .bool r.over], .int .i64 er]) ∧ (A = none → c = 0) ∧ (B = none → d = 0) ∧
    CellsAt w' w'.heap.size A (ints r.cells) ∧ CellsAt w' w'.heap.size B (ints r.outs) ∧ Below w.heap.size w w'
theorem RunPostN.zero {w w' : World} {r : RunD} {er : Int} {v : Value} (hr : r = .zero) (hb : Below w.heap.size w w') (hv : v = .tuple #[.agg #[.slice none 0 0, .slice none 0 0, .bool false], .int .i64 er]) : RunPostN w r er (.returned v) w' := by
  subst hr
  exact ⟨none, 0, none, 0, by rw [hv]; rfl, fun _ => rfl, fun _ => rfl, CellsAt.nil_, CellsAt.nil_, hb⟩
theorem res_rrun {tmps : Array Value} {w : World} {b : Nat} {v0 v1 v2 ev : Value} (h6 : tmps.getD 6 undef = .pointer (some ⟨b, 0, none⟩)) (h7 : tmps.getD 7 undef = ev) (hB : Blk w b [v0, v1, v2] 32) :
    (results Try.f16 tmps).run Try.prog w = .ok (.tuple #[.agg #[v0, v1, v2], ev]) w := by
  have k0 := hB.cell 0
  have k1 := hB.cell 1
  have k2 := hB.cell 2
  simp at k0 k1 k2
  simp at h6 h7
  simp [results, Try.results16, go_sem, h6, h7, k0, k1, k2]
theorem r4_endN {w wr : World} {A : Option Addr} {n c R b : Nat} {r : RunD} {v x0 x1 x2 : Value} (hO : OwnI wr (w.heap.size + 2) (.slice A n c) r.cells) (hv : OwnI wr (R + 1) v r.outs) (hR2 : w.heap.size + 2 ≤ R) (hb : Below w.heap.size w wr) (hw : b = w.heap.size + 1) :
    RunPostN w r 0 (.returned (.tuple #[.agg #[.slice A n c, v, .bool r.over], .int .i64 0])) (((wr.setCell ⟨b, 0, none⟩ x0).setCell ⟨b, 1, none⟩ x1).setCell ⟨b, 2, none⟩ x2) := by
  have h := r4_end (x0 := x0) (x1 := x1) (x2 := x2) hO hv hR2 hb hw
  obtain ⟨A', c', B', d', he, g1, g2, g3, g4, g5, _⟩ := h
  injection he with he
  injection he with he
  have he1 := congrArg (fun a : Array Value => a.getD 0 undef) he
  simp at he1
  obtain ⟨⟨rfl, rfl, rfl⟩, rfl⟩ := he1
  exact ⟨A, c, B', d', rfl, g1, g2, g3, g4, g5⟩
def q2Rel (w1 : World) (n : Nat) (l : List Int) (i : Value) (wr : World) : Prop := ∃ k : Nat, k ≤ n ∧ i = .int .i64 k ∧ firstErr (l.take k) = 0 ∧ Below w1.heap.size w1 wr
theorem cells_short {cs : List Int} (h : firstErr (cs.map initErr) = 0) : ∀ z ∈ cs, shortB z = true := fun z hz => by
  have := firstErr_zero h (initErr z) (List.mem_map.2 ⟨z, hz, rfl⟩)
  unfold initErr at this
  split at this
  · assumption
  · omega
theorem in_short {ps : List Prt} {is : List Int} {xs : List Ins} {os inn : List Int} (hp : POk ps is xs os) (h : firstErr (List.zipWith inErr ps inn) = 0) (hl : inn.length = ps.length) : ∀ z ∈ inn, shortB z = true := fun z hz => by
  obtain ⟨k, hk, rfl⟩ := List.getElem_of_mem hz
  have hk2 : k < ps.length := by omega
  have hm : inErr ps[k] inn[k] ∈ List.zipWith inErr ps inn := by
    refine List.mem_of_getElem? (i := k) ?_
    exact in_at (List.getElem?_eq_getElem hk2) (List.getElem?_eq_getElem hk)
  have h0 := firstErr_zero h _ hm
  have hpp := hp.port _ (List.getElem_mem hk2)
  have s1 := shortB_t hpp.1
  have s2 := shortB_t hpp.2.1
  unfold inErr at h0
  split at h0
  · rename_i hr
    unfold shortB
    rw [decide_eq_true_eq]
    omega
  · omega
section
variable {w wr : World} {vs : List Value} {n c R g d k : Nat} {inn cs : List Int} {xs : List Ins} {x : Ins} {V : Int}
/-- A round of the document's Run. -/
theorem r3_lowN (hO : OwnI wr (w.heap.size + 2) (.slice (some ⟨g, 0, none⟩) n c) (runR inn (xs.take k) (cs, false)).1) (hX : BoxAt wr w.heap.size vs) (hB : Blk wr (w.heap.size + 1) [.slice none 0 0, .slice none 0 0, .bool false] 32)
    (hR : Blk wr R [.slice (some ⟨g, 0, none⟩) n c, .slice none 0 0, .bool (runR inn (xs.take k) (cs, false)).2] 32) (hb : Below w.heap.size w wr) (hg : w.heap.size + 2 ≤ g ∧ g < R) (hn : n = cs.length) (hk : k < xs.length) (hx : xs[k]? = some x) (hd : x.dst = (d : Int)) (hV : insVal x (runR inn (xs.take k) (cs, false)).1 inn = V)
    {w' : World} (st : Below wr.heap.size wr w') : r3Rel w vs (some ⟨g, 0, none⟩) n c R inn xs cs (.int .i64 ((k : Int) + 1)) ((w'.setCell ⟨g, d, none⟩ (.int .i64 (cut32 V))).setCell ⟨R, 2, none⟩ (.bool ((runR inn (xs.take k) (cs, false)).2 || !shortB V))) := by
  have hss := hX.1
  have hl := hR.lt
  have hlen : n = (runR inn (xs.take k) (cs, false)).1.length := by rw [runR_len]; exact hn
  have hnext := runR_step (inn := inn) (st := (cs, false)) hx
  have hdn : x.dst.toNat = d := by rw [hd]; simp
  have O1 : OwnI w' (w.heap.size + 2) (.slice (some ⟨g, 0, none⟩) n c) (runR inn (xs.take k) (cs, false)).1 := hO.below st (fun q hq => by simp [Value.ownBlock] at hq; omega)
  have X1 := hX.below st hss
  have B1 := hB.below st (by omega)
  have R1 := hR.below st hl
  have W1 := hb.trans (st.mono (by omega))
  have b1 : Below g w' (w'.setCell ⟨g, d, none⟩ (.int .i64 (cut32 V))) := (Below.refl _ _).setCell (p := ⟨g, d, none⟩) (Nat.le_refl _) _
  have O2 := O1.put hlen d (cut32 V)
  have X2 := X1.below b1 (by omega)
  have B2 := B1.below b1 (by omega)
  have R2 : Blk (w'.setCell ⟨g, d, none⟩ (.int .i64 (cut32 V))) R [.slice (some ⟨g, 0, none⟩) n c, .slice none 0 0, .bool (runR inn (xs.take k) (cs, false)).2] 32 := by
    have : ((w'.setCell ⟨g, d, none⟩ (.int .i64 (cut32 V))).heap)[R]? = (w'.heap)[R]? := heap_setCell_other _ ⟨g, d, none⟩ R _ (by simp; omega)
    exact this.trans R1
  have W2 := W1.trans (b1.mono (by omega))
  have b2 : Below R (w'.setCell ⟨g, d, none⟩ (.int .i64 (cut32 V))) ((w'.setCell ⟨g, d, none⟩ (.int .i64 (cut32 V))).setCell ⟨R, 2, none⟩ (.bool ((runR inn (xs.take k) (cs, false)).2 || !shortB V))) := (Below.refl _ _).setCell (p := ⟨R, 2, none⟩) (Nat.le_refl _) _
  refine ⟨k + 1, by omega, by simp, ?_, X2.below b2 (by omega), B2.below b2 (by omega), ?_, W2.trans (b2.mono (by omega))⟩
  · rw [hnext]
    simp only [stepR, hV, hdn]
    exact O2.below b2 (fun q hq => by simp [Value.ownBlock] at hq; omega)
  · rw [hnext]
    simp only [stepR, hV, hdn]
    exact R2.set_ 2 _
end
end Go.Proofs.Ytdhlmbnmgioeeaa
