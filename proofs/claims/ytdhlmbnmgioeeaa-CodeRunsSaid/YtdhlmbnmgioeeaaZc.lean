/- The document's Result of an instruction: the others. And more of the kind. No conditions. -/
import Derived.Test.YtdhlmbnmgioeeaaZa
/- The document's Result of an instruction: the others. No conditions. -/
namespace Go.Proofs.Ytdhlmbnmgioeeaa
set_option linter.unusedVariables false
set_option linter.unusedSimpArgs false
set_option linter.unusedSectionVars false
open Go.RowKit

theorem al_ (u : World) (o : Obj) : Below u.heap.size u (u.alloc o) := (Below.refl _ u).alloc (Nat.le_refl _) o
theorem SK.alloc {W w : World} {m r : Nat} (h : SK W m r w) (o : Obj) : SK W m r (w.alloc o) := h.call (al_ _ o)
/-- A variable of the call's own that is a number. -/
def VarD (w : World) (lo hi g : Nat) (x : Int) : Prop := g < hi ∧ hi ≤ w.heap.size ∧ ∃ nb A L c, RowD w g [.bool nb, .slice A L c, .int .i64 0] 75 ∧ DyR w lo hi (.agg #[.bool nb, .slice A L c, .int .i64 0]) x 0
theorem VarD.below {w w' : World} {lo hi g B : Nat} {x : Int} (h : VarD w lo hi g x) (hb : Below B w w') (hB : hi ≤ B) : VarD w' lo hi g x := by
  obtain ⟨h1, h2, nb, A, L, c, h3, h4⟩ := h
  exact ⟨h1, Nat.le_trans h2 hb.size, nb, A, L, c, h3.below hb (by omega), h4.below hb hB⟩
theorem VarD.call {w w' : World} {lo hi g : Nat} {x : Int} (h : VarD w lo hi g x) (hb : Below w.heap.size w w') : VarD w' lo hi g x := h.below hb h.2.1
theorem VarD.set_ {w : World} {lo hi g b : Nat} {x : Int} (h : VarD w lo hi g x) (hb : hi ≤ b) (j : Nat) (u : Value) : VarD (w.setCell ⟨b, j, none⟩ u) lo hi g x := h.below ((Below.refl hi w).setCell (p := ⟨b, j, none⟩) hb u) (Nat.le_refl _)
theorem SK.set_hi {W w : World} {m r : Nat} (h : SK W m r w) {b : Nat} (hm : m ≤ b) (hr : r ≠ b) (j : Nat) (u : Value) : SK W m r (w.setCell ⟨b, j, none⟩ u) := by
  refine ⟨h.is.setCell hm u, by simpa using h.fits, ?_⟩
  obtain ⟨v0, v1, v2, hv⟩ := h.own
  exact ⟨v0, v1, v2, hv.other_ hr j u⟩
/-- The variable is made behind the call. -/
theorem VarD.new_ {w : World} {lo lo' hi : Nat} {nb : Bool} {A : Option Addr} {L c : Nat} {x : Int} (D : DyR w lo hi (.agg #[.bool nb, .slice A L c, .int .i64 0]) x 0) (hl : lo' ≤ lo) (hh : hi ≤ w.heap.size) : VarD (w.alloc (.cells #[.bool nb, .slice A L c, .int .i64 0] 75)) lo' (w.heap.size + 1) w.heap.size x :=
  ⟨Nat.lt_succ_self _, by simp, nb, A, L, c, RowD.new_ w _ _, ((D.below (al_ _ _) hh).more (by omega)).low hl⟩
/-- The variable was made ahead of the call. -/
theorem VarD.old_ {w : World} {lo lo' hi g : Nat} {nb : Bool} {A : Option Addr} {L c : Nat} {x : Int} (D : DyR w lo hi (.agg #[.bool nb, .slice A L c, .int .i64 0]) x 0) (R : RowD w g [.bool false, .slice none 0 0, .int .i64 0] 75) (hg : g < lo) (hl : lo' ≤ lo) (hh : hi ≤ w.heap.size) :
    VarD (((w.setCell ⟨g, 0, none⟩ (.bool nb)).setCell ⟨g, 1, none⟩ (.slice A L c)).setCell ⟨g, 2, none⟩ (.int .i64 0)) lo' w.heap.size g x :=
  ⟨R.lt, by simp, nb, A, L, c, ((R.set_ 0 _).set_ 1 _).set_ 2 _, ((((D.set_ hg 0 _).set_ hg 1 _).set_ hg 2 _).more hh).low hl⟩
set_option maxRecDepth 100000 in
set_option maxHeartbeats 4000000 in
theorem rRes_move (A B : Option Addr) (dst a b sa sb imm : Int) (cs inn : List Int) (c1 c2 m : Nat) (w : World) (hm : m ≤ w.heap.size) (hA : CellsAt w m A (ints cs)) (hB : CellsAt w m B (ints inn)) (ok : InsOk inn.length cs.length ⟨2, dst, a, b, sa, sb, imm⟩)
    (hcs : ∀ z ∈ cs, shortB z = true) (hin : ∀ z ∈ inn, shortB z = true) :
    Calls Try.prog 31 #[.agg #[.int .i64 2, .int .i64 dst, .int .i64 a, .int .i64 b, .int .i64 sa, .int .i64 sb, .int .i64 imm], .slice A cs.length c1, .slice B inn.length c2] w (ResPost w (resE ⟨2, dst, a, b, sa, sb, imm⟩ cs inn)) := by
  have hsa := ok.sa rfl
  have ha : 0 ≤ a ∧ a < (cs.length : Int) := by simpa using ok.a rfl
  obtain ⟨i, hi⟩ : ∃ i : Nat, a = (i : Int) := ⟨a.toNat, by have := ha; omega⟩
  subst hi
  have hil : i < cs.length := by have := ha; simp at this; omega
  obtain ⟨b1, o1, z1, e1, hb1, _, hg1, hc1⟩ := hA.int_ hil
  cases e1
  have hz1 := shortB_t (hcs z1 (List.mem_of_getElem? hg1))
  have hil : (i : Int) < (cs.length : Int) := by omega
  have b1s : b1 < w.heap.size + 1 := by omega
  have H1 := Lib.hid (show cs[((i : Int)).toNat]?.getD 0 = z1 by simp [hg1])
  clear ok ha hg1 
  have b0 : Below w.heap.size w ((w.alloc (.cells #[.int .i64 2, .int .i64 dst, .int .i64 (i : Int), .int .i64 b, .int .i64 sa, .int .i64 sb, .int .i64 imm] 49)).alloc (.cells #[.bool false, .slice none 0 0, .int .i64 0] 75)) := ext_alloc (ext_alloc (Below.refl _ _) _) _
  have r0 := (RowD.new_ w [.int .i64 2, .int .i64 dst, .int .i64 (i : Int), .int .i64 b, .int .i64 sa, .int .i64 sb, .int .i64 imm] 49).call ((Below.refl _ _).alloc (Nat.le_refl _) (.cells #[.bool false, .slice none 0 0, .int .i64 0] 75))
  have r1 := (RowD.new_ (w.alloc (.cells #[.int .i64 2, .int .i64 dst, .int .i64 (i : Int), .int .i64 b, .int .i64 sa, .int .i64 sb, .int .i64 imm] 49)) [.bool false, .slice none 0 0, .int .i64 0] 75)
  rw [show (w.alloc (.cells #[.int .i64 2, .int .i64 dst, .int .i64 (i : Int), .int .i64 b, .int .i64 sa, .int .i64 sb, .int .i64 imm] 49)).heap.size = w.heap.size + 1 by simp] at r1
  go_enter Try.func31, Try.ntmps31
  go_wp2_with fail
  obtain ⟨W, hW⟩ : ∃ W, W = ((w.alloc (.cells #[.int .i64 2, .int .i64 dst, .int .i64 (i : Int), .int .i64 b, .int .i64 sa, .int .i64 sb, .int .i64 imm] 49)).alloc (.cells #[.bool false, .slice none 0 0, .int .i64 0] 75)) := ⟨_, rfl⟩
  have hWs : W.heap.size = w.heap.size + 2 := by rw [hW]; simp
  rw [← hW]
  rw [← hW] at b0 r0 r1
  clear hW
  have hk : SK W (w.heap.size + 1) (w.heap.size + 1) W := SK.refl (by omega) ⟨_, _, _, r1⟩
  have x0 : W.cell? ⟨w.heap.size, 0, none⟩ = some (.int .i64 2) := r0.cell 0
  have x1 : W.cell? ⟨w.heap.size, 1, none⟩ = some (.int .i64 dst) := r0.cell 1
  have x2 : W.cell? ⟨w.heap.size, 2, none⟩ = some (.int .i64 (i : Int)) := r0.cell 2
  have x3 : W.cell? ⟨w.heap.size, 3, none⟩ = some (.int .i64 b) := r0.cell 3
  have x4 : W.cell? ⟨w.heap.size, 4, none⟩ = some (.int .i64 sa) := r0.cell 4
  have x5 : W.cell? ⟨w.heap.size, 5, none⟩ = some (.int .i64 sb) := r0.cell 5
  have x6 : W.cell? ⟨w.heap.size, 6, none⟩ = some (.int .i64 imm) := r0.cell 6
  have hWs2 : w.heap.size + 2 ≤ W.heap.size := Nat.le_of_eq hWs.symm
  clear hWs
  have hc1' : W.cell? ⟨b1, o1 + i, none⟩ = some (.int .i64 z1) := (b0.cell (p := ⟨b1, o1 + i, none⟩) (Nat.lt_of_lt_of_le hb1 hm)).trans hc1
  clear hc1
  go_cut [7] (fun s wx => ∃ g h, s = .pointer (some ⟨g, 0, none⟩) ∧ VarD wx (w.heap.size + 2) h g (shE z1 sa) ∧ SK W (w.heap.size + 1) (w.heap.size + 1) wx)
  case first =>
    have rowA : RowD ((W.alloc (.cells #[.bool false, .slice none 0 0, .int .i64 0] 75)).drew) W.heap.size [.bool false, .slice none 0 0, .int .i64 0] 75 := RowD.new_ W _ _
    have hcs2 : w.heap.size + 2 ≤ W.heap.size := by have := hk.lt; omega
    go_region_held3 (fun w' => (∀ b o, b < w.heap.size + 1 → w'.cell? ⟨b, o, none⟩ = W.cell? ⟨b, o, none⟩) ∧ SK W (w.heap.size + 1) (w.heap.size + 1) w')
      (first
        | (refine SK.all ?_
           first
             | assumption
             | exact hk
             | exact hk.drew
             | exact (hk.alloc _).drew
             | exact SK.alloc (by assumption) _
             | exact ((SK.set_hi (by assumption) (by omega) (by omega) _ _).set_hi (by omega) (by omega) _ _).set_hi (by omega) (by omega) _ _
             | exact (((SK.alloc (by assumption) _).set_hi (by omega) (by omega) _ _).set_hi (by omega) (by omega) _ _).set_hi (by omega) (by omega) _ _))
      ((go_at_call 38; refine (rShift_any z1 sa _ hsa.1 hsa.2 (by omega)).mono ?_; (rintro e w6 ⟨v6, rfl, D6, hb6⟩; have hk6 := SK.call (by first | exact hk.drew | exact (hk.alloc _).drew) hb6; have hf6 := hk6.lt; have hcw6 : W.heap.size ≤ w6.heap.size := (by have := hb6.size; simp at this; omega); obtain ⟨nb6, A9, L9, c9, rfl, _⟩ := D6.form; (try (have rowB := rowA.call hb6; have y0 : w6.cell? ⟨W.heap.size, 0, none⟩ = some (.bool false) := rowB.cell 0; have y1 : w6.cell? ⟨W.heap.size, 1, none⟩ = some (.slice none 0 0) := rowB.cell 1; have y2 : w6.cell? ⟨W.heap.size, 2, none⟩ = some (.int .i64 0) := rowB.cell 2; have yf := rowB.free)))))
    all_goals
      go_wp2_with fail
      go_meet
      first
        | exact ⟨w6.heap.size, w6.heap.size + 1, rfl, VarD.new_ D6 (by simpa using hcs2) (Nat.le_refl _), hk6.alloc _⟩
        | exact ⟨W.heap.size, w6.heap.size, rfl, VarD.old_ D6 rowB (by simp) (by simp; omega) (Nat.le_refl _), ((hk6.set_hi (by omega) (by omega) _ _).set_hi (by omega) (by omega) _ _).set_hi (by omega) (by omega) _ _⟩
  case rest =>
    obtain ⟨g1, h1, rfl, VA, hk2⟩ := hcut
    have HV := Lib.hid (show shE z1 sa = resE ⟨2, dst, (i : Int), b, sa, sb, imm⟩ cs inn by
      simp only [resE, H1.out]
      rfl)
    have hf2 := hk2.lt
    have wc0 : wc.cell? ⟨w.heap.size, 0, none⟩ = some (.int .i64 2) := (hk2.all.1 _ _ (by omega)).trans x0
    have wc1 : wc.cell? ⟨w.heap.size, 1, none⟩ = some (.int .i64 dst) := (hk2.all.1 _ _ (by omega)).trans x1
    have wc2 : wc.cell? ⟨w.heap.size, 2, none⟩ = some (.int .i64 (i : Int)) := (hk2.all.1 _ _ (by omega)).trans x2
    have wc3 : wc.cell? ⟨w.heap.size, 3, none⟩ = some (.int .i64 b) := (hk2.all.1 _ _ (by omega)).trans x3
    have wc4 : wc.cell? ⟨w.heap.size, 4, none⟩ = some (.int .i64 sa) := (hk2.all.1 _ _ (by omega)).trans x4
    have wc5 : wc.cell? ⟨w.heap.size, 5, none⟩ = some (.int .i64 sb) := (hk2.all.1 _ _ (by omega)).trans x5
    have wc6 : wc.cell? ⟨w.heap.size, 6, none⟩ = some (.int .i64 imm) := (hk2.all.1 _ _ (by omega)).trans x6
    obtain ⟨hga, hha, nba, Pa, Qa, Ra, rowa, Da⟩ := VA
    have a0 : wc.cell? ⟨g1, 0, none⟩ = some (.bool nba) := rowa.cell 0
    have a1 : wc.cell? ⟨g1, 1, none⟩ = some (.slice Pa Qa Ra) := rowa.cell 1
    have a2 : wc.cell? ⟨g1, 2, none⟩ = some (.int .i64 0) := rowa.cell 2
    obtain ⟨y0, y1, y2, rz, k0, k1, k2, kf⟩ := SK.cells hk2
    rw [HV.out] at Da
    go_wp2_with fail
    refine bodyPost_ret (res_rResult rfl (((rz.set_ 0 _).set_ 1 _).set_ 2 _)) rfl ⟨_, rfl, ?_, (((b0.trans (hk2.is.mono (by omega))).setCell (by simp) _).setCell (by simp) _).setCell (by simp) _⟩
    exact ((((Da.set_ (by omega) 0 _).set_ (by omega) 1 _).set_ (by omega) 2 _).low (by omega)).more (by simp; omega)
set_option maxRecDepth 100000 in
set_option maxHeartbeats 4000000 in
theorem rRes_neg (A B : Option Addr) (dst a b sa sb imm : Int) (cs inn : List Int) (c1 c2 m : Nat) (w : World) (hm : m ≤ w.heap.size) (hA : CellsAt w m A (ints cs)) (hB : CellsAt w m B (ints inn)) (ok : InsOk inn.length cs.length ⟨5, dst, a, b, sa, sb, imm⟩)
    (hcs : ∀ z ∈ cs, shortB z = true) (hin : ∀ z ∈ inn, shortB z = true) :
    Calls Try.prog 31 #[.agg #[.int .i64 5, .int .i64 dst, .int .i64 a, .int .i64 b, .int .i64 sa, .int .i64 sb, .int .i64 imm], .slice A cs.length c1, .slice B inn.length c2] w (ResPost w (resE ⟨5, dst, a, b, sa, sb, imm⟩ cs inn)) := by
  have hsa := ok.sa rfl
  have ha : 0 ≤ a ∧ a < (cs.length : Int) := by simpa using ok.a rfl
  obtain ⟨i, hi⟩ : ∃ i : Nat, a = (i : Int) := ⟨a.toNat, by have := ha; omega⟩
  subst hi
  have hil : i < cs.length := by have := ha; simp at this; omega
  obtain ⟨b1, o1, z1, e1, hb1, _, hg1, hc1⟩ := hA.int_ hil
  cases e1
  have hz1 := shortB_t (hcs z1 (List.mem_of_getElem? hg1))
  have hil : (i : Int) < (cs.length : Int) := by omega
  have b1s : b1 < w.heap.size + 1 := by omega
  have H1 := Lib.hid (show cs[((i : Int)).toNat]?.getD 0 = z1 by simp [hg1])
  clear ok ha hg1 
  have b0 : Below w.heap.size w ((w.alloc (.cells #[.int .i64 5, .int .i64 dst, .int .i64 (i : Int), .int .i64 b, .int .i64 sa, .int .i64 sb, .int .i64 imm] 49)).alloc (.cells #[.bool false, .slice none 0 0, .int .i64 0] 75)) := ext_alloc (ext_alloc (Below.refl _ _) _) _
  have r0 := (RowD.new_ w [.int .i64 5, .int .i64 dst, .int .i64 (i : Int), .int .i64 b, .int .i64 sa, .int .i64 sb, .int .i64 imm] 49).call ((Below.refl _ _).alloc (Nat.le_refl _) (.cells #[.bool false, .slice none 0 0, .int .i64 0] 75))
  have r1 := (RowD.new_ (w.alloc (.cells #[.int .i64 5, .int .i64 dst, .int .i64 (i : Int), .int .i64 b, .int .i64 sa, .int .i64 sb, .int .i64 imm] 49)) [.bool false, .slice none 0 0, .int .i64 0] 75)
  rw [show (w.alloc (.cells #[.int .i64 5, .int .i64 dst, .int .i64 (i : Int), .int .i64 b, .int .i64 sa, .int .i64 sb, .int .i64 imm] 49)).heap.size = w.heap.size + 1 by simp] at r1
  go_enter Try.func31, Try.ntmps31
  go_wp2_with fail
  obtain ⟨W, hW⟩ : ∃ W, W = ((w.alloc (.cells #[.int .i64 5, .int .i64 dst, .int .i64 (i : Int), .int .i64 b, .int .i64 sa, .int .i64 sb, .int .i64 imm] 49)).alloc (.cells #[.bool false, .slice none 0 0, .int .i64 0] 75)) := ⟨_, rfl⟩
  have hWs : W.heap.size = w.heap.size + 2 := by rw [hW]; simp
  rw [← hW]
  rw [← hW] at b0 r0 r1
  clear hW
  have hk : SK W (w.heap.size + 1) (w.heap.size + 1) W := SK.refl (by omega) ⟨_, _, _, r1⟩
  have x0 : W.cell? ⟨w.heap.size, 0, none⟩ = some (.int .i64 5) := r0.cell 0
  have x1 : W.cell? ⟨w.heap.size, 1, none⟩ = some (.int .i64 dst) := r0.cell 1
  have x2 : W.cell? ⟨w.heap.size, 2, none⟩ = some (.int .i64 (i : Int)) := r0.cell 2
  have x3 : W.cell? ⟨w.heap.size, 3, none⟩ = some (.int .i64 b) := r0.cell 3
  have x4 : W.cell? ⟨w.heap.size, 4, none⟩ = some (.int .i64 sa) := r0.cell 4
  have x5 : W.cell? ⟨w.heap.size, 5, none⟩ = some (.int .i64 sb) := r0.cell 5
  have x6 : W.cell? ⟨w.heap.size, 6, none⟩ = some (.int .i64 imm) := r0.cell 6
  have hWs2 : w.heap.size + 2 ≤ W.heap.size := Nat.le_of_eq hWs.symm
  clear hWs
  have hc1' : W.cell? ⟨b1, o1 + i, none⟩ = some (.int .i64 z1) := (b0.cell (p := ⟨b1, o1 + i, none⟩) (Nat.lt_of_lt_of_le hb1 hm)).trans hc1
  clear hc1
  go_cut [7] (fun s wx => ∃ g h, s = .pointer (some ⟨g, 0, none⟩) ∧ VarD wx (w.heap.size + 2) h g (shE z1 sa) ∧ SK W (w.heap.size + 1) (w.heap.size + 1) wx)
  case first =>
    have rowA : RowD ((W.alloc (.cells #[.bool false, .slice none 0 0, .int .i64 0] 75)).drew) W.heap.size [.bool false, .slice none 0 0, .int .i64 0] 75 := RowD.new_ W _ _
    have hcs2 : w.heap.size + 2 ≤ W.heap.size := by have := hk.lt; omega
    go_region_held3 (fun w' => (∀ b o, b < w.heap.size + 1 → w'.cell? ⟨b, o, none⟩ = W.cell? ⟨b, o, none⟩) ∧ SK W (w.heap.size + 1) (w.heap.size + 1) w')
      (first
        | (refine SK.all ?_
           first
             | assumption
             | exact hk
             | exact hk.drew
             | exact (hk.alloc _).drew
             | exact SK.alloc (by assumption) _
             | exact ((SK.set_hi (by assumption) (by omega) (by omega) _ _).set_hi (by omega) (by omega) _ _).set_hi (by omega) (by omega) _ _
             | exact (((SK.alloc (by assumption) _).set_hi (by omega) (by omega) _ _).set_hi (by omega) (by omega) _ _).set_hi (by omega) (by omega) _ _))
      ((go_at_call 38; refine (rShift_any z1 sa _ hsa.1 hsa.2 (by omega)).mono ?_; (rintro e w6 ⟨v6, rfl, D6, hb6⟩; have hk6 := SK.call (by first | exact hk.drew | exact (hk.alloc _).drew) hb6; have hf6 := hk6.lt; have hcw6 : W.heap.size ≤ w6.heap.size := (by have := hb6.size; simp at this; omega); obtain ⟨nb6, A9, L9, c9, rfl, _⟩ := D6.form; (try (have rowB := rowA.call hb6; have y0 : w6.cell? ⟨W.heap.size, 0, none⟩ = some (.bool false) := rowB.cell 0; have y1 : w6.cell? ⟨W.heap.size, 1, none⟩ = some (.slice none 0 0) := rowB.cell 1; have y2 : w6.cell? ⟨W.heap.size, 2, none⟩ = some (.int .i64 0) := rowB.cell 2; have yf := rowB.free)))))
    all_goals
      go_wp2_with fail
      go_meet
      first
        | exact ⟨w6.heap.size, w6.heap.size + 1, rfl, VarD.new_ D6 (by simpa using hcs2) (Nat.le_refl _), hk6.alloc _⟩
        | exact ⟨W.heap.size, w6.heap.size, rfl, VarD.old_ D6 rowB (by simp) (by simp; omega) (Nat.le_refl _), ((hk6.set_hi (by omega) (by omega) _ _).set_hi (by omega) (by omega) _ _).set_hi (by omega) (by omega) _ _⟩
  case rest =>
    obtain ⟨g1, h1, rfl, VA, hk2⟩ := hcut
    have HV := Lib.hid (show -(shE z1 sa) = resE ⟨5, dst, (i : Int), b, sa, sb, imm⟩ cs inn by
      simp only [resE, H1.out]
      rfl)
    have hf2 := hk2.lt
    have wc0 : wc.cell? ⟨w.heap.size, 0, none⟩ = some (.int .i64 5) := (hk2.all.1 _ _ (by omega)).trans x0
    have wc1 : wc.cell? ⟨w.heap.size, 1, none⟩ = some (.int .i64 dst) := (hk2.all.1 _ _ (by omega)).trans x1
    have wc2 : wc.cell? ⟨w.heap.size, 2, none⟩ = some (.int .i64 (i : Int)) := (hk2.all.1 _ _ (by omega)).trans x2
    have wc3 : wc.cell? ⟨w.heap.size, 3, none⟩ = some (.int .i64 b) := (hk2.all.1 _ _ (by omega)).trans x3
    have wc4 : wc.cell? ⟨w.heap.size, 4, none⟩ = some (.int .i64 sa) := (hk2.all.1 _ _ (by omega)).trans x4
    have wc5 : wc.cell? ⟨w.heap.size, 5, none⟩ = some (.int .i64 sb) := (hk2.all.1 _ _ (by omega)).trans x5
    have wc6 : wc.cell? ⟨w.heap.size, 6, none⟩ = some (.int .i64 imm) := (hk2.all.1 _ _ (by omega)).trans x6
    obtain ⟨hga, hha, nba, Pa, Qa, Ra, rowa, Da⟩ := VA
    have a0 : wc.cell? ⟨g1, 0, none⟩ = some (.bool nba) := rowa.cell 0
    have a1 : wc.cell? ⟨g1, 1, none⟩ = some (.slice Pa Qa Ra) := rowa.cell 1
    have a2 : wc.cell? ⟨g1, 2, none⟩ = some (.int .i64 0) := rowa.cell 2
    go_wp2_with fail
    go_at_call 39
    refine (neg_w (Da.more hha) (Nat.le_refl _) (Nat.le_trans (sh_len hsa.1 hsa.2 (by omega)) (by omega))).mono ?_
    rintro e w6 ⟨v6, rfl, D6, hb6⟩
    have hk6 := hk2.call hb6
    have hf6 := hk6.lt
    rw [HV.out] at D6
    obtain ⟨nb6, A9, L9, c9, rfl, _⟩ := D6.form
    obtain ⟨y0, y1, y2, rz, k0, k1, k2, kf⟩ := SK.cells hk6
    go_wp2_with fail
    refine bodyPost_ret (res_rResult rfl (((rz.set_ 0 _).set_ 1 _).set_ 2 _)) rfl ⟨_, rfl, ?_, (((b0.trans (hk6.is.mono (by omega))).setCell (by simp) _).setCell (by simp) _).setCell (by simp) _⟩
    exact ((((D6.set_ (by omega) 0 _).set_ (by omega) 1 _).set_ (by omega) 2 _).low (by omega)).more (by simp)
set_option maxRecDepth 100000 in
set_option maxHeartbeats 4000000 in
theorem rRes_abs (A B : Option Addr) (dst a b sa sb imm : Int) (cs inn : List Int) (c1 c2 m : Nat) (w : World) (hm : m ≤ w.heap.size) (hA : CellsAt w m A (ints cs)) (hB : CellsAt w m B (ints inn)) (ok : InsOk inn.length cs.length ⟨10, dst, a, b, sa, sb, imm⟩)
    (hcs : ∀ z ∈ cs, shortB z = true) (hin : ∀ z ∈ inn, shortB z = true) :
    Calls Try.prog 31 #[.agg #[.int .i64 10, .int .i64 dst, .int .i64 a, .int .i64 b, .int .i64 sa, .int .i64 sb, .int .i64 imm], .slice A cs.length c1, .slice B inn.length c2] w (ResPost w (resE ⟨10, dst, a, b, sa, sb, imm⟩ cs inn)) := by
  have hsa := ok.sa rfl
  have ha : 0 ≤ a ∧ a < (cs.length : Int) := by simpa using ok.a rfl
  obtain ⟨i, hi⟩ : ∃ i : Nat, a = (i : Int) := ⟨a.toNat, by have := ha; omega⟩
  subst hi
  have hil : i < cs.length := by have := ha; simp at this; omega
  obtain ⟨b1, o1, z1, e1, hb1, _, hg1, hc1⟩ := hA.int_ hil
  cases e1
  have hz1 := shortB_t (hcs z1 (List.mem_of_getElem? hg1))
  have hil : (i : Int) < (cs.length : Int) := by omega
  have b1s : b1 < w.heap.size + 1 := by omega
  have H1 := Lib.hid (show cs[((i : Int)).toNat]?.getD 0 = z1 by simp [hg1])
  clear ok ha hg1 
  have b0 : Below w.heap.size w ((w.alloc (.cells #[.int .i64 10, .int .i64 dst, .int .i64 (i : Int), .int .i64 b, .int .i64 sa, .int .i64 sb, .int .i64 imm] 49)).alloc (.cells #[.bool false, .slice none 0 0, .int .i64 0] 75)) := ext_alloc (ext_alloc (Below.refl _ _) _) _
  have r0 := (RowD.new_ w [.int .i64 10, .int .i64 dst, .int .i64 (i : Int), .int .i64 b, .int .i64 sa, .int .i64 sb, .int .i64 imm] 49).call ((Below.refl _ _).alloc (Nat.le_refl _) (.cells #[.bool false, .slice none 0 0, .int .i64 0] 75))
  have r1 := (RowD.new_ (w.alloc (.cells #[.int .i64 10, .int .i64 dst, .int .i64 (i : Int), .int .i64 b, .int .i64 sa, .int .i64 sb, .int .i64 imm] 49)) [.bool false, .slice none 0 0, .int .i64 0] 75)
  rw [show (w.alloc (.cells #[.int .i64 10, .int .i64 dst, .int .i64 (i : Int), .int .i64 b, .int .i64 sa, .int .i64 sb, .int .i64 imm] 49)).heap.size = w.heap.size + 1 by simp] at r1
  go_enter Try.func31, Try.ntmps31
  go_wp2_with fail
  obtain ⟨W, hW⟩ : ∃ W, W = ((w.alloc (.cells #[.int .i64 10, .int .i64 dst, .int .i64 (i : Int), .int .i64 b, .int .i64 sa, .int .i64 sb, .int .i64 imm] 49)).alloc (.cells #[.bool false, .slice none 0 0, .int .i64 0] 75)) := ⟨_, rfl⟩
  have hWs : W.heap.size = w.heap.size + 2 := by rw [hW]; simp
  rw [← hW]
  rw [← hW] at b0 r0 r1
  clear hW
  have hk : SK W (w.heap.size + 1) (w.heap.size + 1) W := SK.refl (by omega) ⟨_, _, _, r1⟩
  have x0 : W.cell? ⟨w.heap.size, 0, none⟩ = some (.int .i64 10) := r0.cell 0
  have x1 : W.cell? ⟨w.heap.size, 1, none⟩ = some (.int .i64 dst) := r0.cell 1
  have x2 : W.cell? ⟨w.heap.size, 2, none⟩ = some (.int .i64 (i : Int)) := r0.cell 2
  have x3 : W.cell? ⟨w.heap.size, 3, none⟩ = some (.int .i64 b) := r0.cell 3
  have x4 : W.cell? ⟨w.heap.size, 4, none⟩ = some (.int .i64 sa) := r0.cell 4
  have x5 : W.cell? ⟨w.heap.size, 5, none⟩ = some (.int .i64 sb) := r0.cell 5
  have x6 : W.cell? ⟨w.heap.size, 6, none⟩ = some (.int .i64 imm) := r0.cell 6
  have hWs2 : w.heap.size + 2 ≤ W.heap.size := Nat.le_of_eq hWs.symm
  clear hWs
  have hc1' : W.cell? ⟨b1, o1 + i, none⟩ = some (.int .i64 z1) := (b0.cell (p := ⟨b1, o1 + i, none⟩) (Nat.lt_of_lt_of_le hb1 hm)).trans hc1
  clear hc1
  go_cut [7] (fun s wx => ∃ g h, s = .pointer (some ⟨g, 0, none⟩) ∧ VarD wx (w.heap.size + 2) h g (shE z1 sa) ∧ SK W (w.heap.size + 1) (w.heap.size + 1) wx)
  case first =>
    have rowA : RowD ((W.alloc (.cells #[.bool false, .slice none 0 0, .int .i64 0] 75)).drew) W.heap.size [.bool false, .slice none 0 0, .int .i64 0] 75 := RowD.new_ W _ _
    have hcs2 : w.heap.size + 2 ≤ W.heap.size := by have := hk.lt; omega
    go_region_held3 (fun w' => (∀ b o, b < w.heap.size + 1 → w'.cell? ⟨b, o, none⟩ = W.cell? ⟨b, o, none⟩) ∧ SK W (w.heap.size + 1) (w.heap.size + 1) w')
      (first
        | (refine SK.all ?_
           first
             | assumption
             | exact hk
             | exact hk.drew
             | exact (hk.alloc _).drew
             | exact SK.alloc (by assumption) _
             | exact ((SK.set_hi (by assumption) (by omega) (by omega) _ _).set_hi (by omega) (by omega) _ _).set_hi (by omega) (by omega) _ _
             | exact (((SK.alloc (by assumption) _).set_hi (by omega) (by omega) _ _).set_hi (by omega) (by omega) _ _).set_hi (by omega) (by omega) _ _))
      ((go_at_call 38; refine (rShift_any z1 sa _ hsa.1 hsa.2 (by omega)).mono ?_; (rintro e w6 ⟨v6, rfl, D6, hb6⟩; have hk6 := SK.call (by first | exact hk.drew | exact (hk.alloc _).drew) hb6; have hf6 := hk6.lt; have hcw6 : W.heap.size ≤ w6.heap.size := (by have := hb6.size; simp at this; omega); obtain ⟨nb6, A9, L9, c9, rfl, _⟩ := D6.form; (try (have rowB := rowA.call hb6; have y0 : w6.cell? ⟨W.heap.size, 0, none⟩ = some (.bool false) := rowB.cell 0; have y1 : w6.cell? ⟨W.heap.size, 1, none⟩ = some (.slice none 0 0) := rowB.cell 1; have y2 : w6.cell? ⟨W.heap.size, 2, none⟩ = some (.int .i64 0) := rowB.cell 2; have yf := rowB.free)))))
    all_goals
      go_wp2_with fail
      go_meet
      first
        | exact ⟨w6.heap.size, w6.heap.size + 1, rfl, VarD.new_ D6 (by simpa using hcs2) (Nat.le_refl _), hk6.alloc _⟩
        | exact ⟨W.heap.size, w6.heap.size, rfl, VarD.old_ D6 rowB (by simp) (by simp; omega) (Nat.le_refl _), ((hk6.set_hi (by omega) (by omega) _ _).set_hi (by omega) (by omega) _ _).set_hi (by omega) (by omega) _ _⟩
  case rest =>
    obtain ⟨g1, h1, rfl, VA, hk2⟩ := hcut
    have HV := Lib.hid (show (((shE z1 sa).natAbs : Nat) : Int) = resE ⟨10, dst, (i : Int), b, sa, sb, imm⟩ cs inn by
      simp only [resE, H1.out]
      rfl)
    have hf2 := hk2.lt
    have wc0 : wc.cell? ⟨w.heap.size, 0, none⟩ = some (.int .i64 10) := (hk2.all.1 _ _ (by omega)).trans x0
    have wc1 : wc.cell? ⟨w.heap.size, 1, none⟩ = some (.int .i64 dst) := (hk2.all.1 _ _ (by omega)).trans x1
    have wc2 : wc.cell? ⟨w.heap.size, 2, none⟩ = some (.int .i64 (i : Int)) := (hk2.all.1 _ _ (by omega)).trans x2
    have wc3 : wc.cell? ⟨w.heap.size, 3, none⟩ = some (.int .i64 b) := (hk2.all.1 _ _ (by omega)).trans x3
    have wc4 : wc.cell? ⟨w.heap.size, 4, none⟩ = some (.int .i64 sa) := (hk2.all.1 _ _ (by omega)).trans x4
    have wc5 : wc.cell? ⟨w.heap.size, 5, none⟩ = some (.int .i64 sb) := (hk2.all.1 _ _ (by omega)).trans x5
    have wc6 : wc.cell? ⟨w.heap.size, 6, none⟩ = some (.int .i64 imm) := (hk2.all.1 _ _ (by omega)).trans x6
    obtain ⟨hga, hha, nba, Pa, Qa, Ra, rowa, Da⟩ := VA
    have a0 : wc.cell? ⟨g1, 0, none⟩ = some (.bool nba) := rowa.cell 0
    have a1 : wc.cell? ⟨g1, 1, none⟩ = some (.slice Pa Qa Ra) := rowa.cell 1
    have a2 : wc.cell? ⟨g1, 2, none⟩ = some (.int .i64 0) := rowa.cell 2
    go_wp2_with fail
    go_at_call 40
    refine (abs_w (Da.more hha) (Nat.le_refl _) (Nat.le_trans (sh_len hsa.1 hsa.2 (by omega)) (by omega))).mono ?_
    rintro e w6 ⟨v6, rfl, D6, hb6⟩
    have hk6 := hk2.call hb6
    have hf6 := hk6.lt
    rw [HV.out] at D6
    obtain ⟨nb6, A9, L9, c9, rfl, _⟩ := D6.form
    obtain ⟨y0, y1, y2, rz, k0, k1, k2, kf⟩ := SK.cells hk6
    go_wp2_with fail
    refine bodyPost_ret (res_rResult rfl (((rz.set_ 0 _).set_ 1 _).set_ 2 _)) rfl ⟨_, rfl, ?_, (((b0.trans (hk6.is.mono (by omega))).setCell (by simp) _).setCell (by simp) _).setCell (by simp) _⟩
    exact ((((D6.set_ (by omega) 0 _).set_ (by omega) 1 _).set_ (by omega) 2 _).low (by omega)).more (by simp)
theorem dySum_int (x y : Int) : dySum x 0 y 0 = (x + y, 0) := by
  show (x * 2 ^ 0 + y * 2 ^ 0, 0) = _
  simp
theorem sgI_pos (x : Int) : 0 < sgI x ↔ 0 < x := by
  unfold sgI
  by_cases h : x = 0
  · simp [h]
  · by_cases h1 : x < 0
    · simp [h, h1]; omega
    · simp [h, h1]; omega
theorem sgI_neg (x : Int) : sgI x < 0 ↔ x < 0 := by
  unfold sgI
  by_cases h : x = 0
  · simp [h]
  · by_cases h1 : x < 0
    · simp [h, h1]
    · simp [h, h1]
theorem dyMin_int (x y : Int) : dyMin x 0 y 0 = (min x y, 0) := by
  unfold dyMin
  rw [dyCmp_int]
  by_cases h : 0 < sgI (x - y)
  · rw [if_pos h, Int.min_eq_right (by have := (sgI_pos _).1 h; omega)]
  · rw [if_neg h, Int.min_eq_left (by have := mt (sgI_pos _).2 h; omega)]
theorem dyMax_int (x y : Int) : dyMax x 0 y 0 = (max x y, 0) := by
  unfold dyMax
  rw [dyCmp_int]
  by_cases h : sgI (x - y) < 0
  · rw [if_pos h, Int.max_eq_right (by have := (sgI_neg _).1 h; omega)]
  · rw [if_neg h, Int.max_eq_left (by have := mt (sgI_neg _).2 h; omega)]
set_option maxRecDepth 100000 in
set_option maxHeartbeats 4000000 in
theorem rRes_add (A B : Option Addr) (dst a b sa sb imm : Int) (cs inn : List Int) (c1 c2 m : Nat) (w : World) (hm : m ≤ w.heap.size) (hA : CellsAt w m A (ints cs)) (hB : CellsAt w m B (ints inn)) (ok : InsOk inn.length cs.length ⟨3, dst, a, b, sa, sb, imm⟩)
    (hcs : ∀ z ∈ cs, shortB z = true) (hin : ∀ z ∈ inn, shortB z = true) :
    Calls Try.prog 31 #[.agg #[.int .i64 3, .int .i64 dst, .int .i64 a, .int .i64 b, .int .i64 sa, .int .i64 sb, .int .i64 imm], .slice A cs.length c1, .slice B inn.length c2] w (ResPost w (resE ⟨3, dst, a, b, sa, sb, imm⟩ cs inn)) := by
  have hsa := ok.sa rfl
  have hsb := ok.sb rfl
  have ha : 0 ≤ a ∧ a < (cs.length : Int) := by simpa using ok.a rfl
  have hbb : 0 ≤ b ∧ b < (cs.length : Int) := by simpa using ok.b rfl
  obtain ⟨i, hi⟩ : ∃ i : Nat, a = (i : Int) := ⟨a.toNat, by have := ha; omega⟩
  subst hi
  have hil : i < cs.length := by have := ha; simp at this; omega
  obtain ⟨b1, o1, z1, e1, hb1, _, hg1, hc1⟩ := hA.int_ hil
  cases e1
  have hz1 := shortB_t (hcs z1 (List.mem_of_getElem? hg1))
  have hil : (i : Int) < (cs.length : Int) := by omega
  have b1s : b1 < w.heap.size + 1 := by omega
  obtain ⟨j, hj⟩ : ∃ j : Nat, b = (j : Int) := ⟨b.toNat, by have := hbb; omega⟩
  subst hj
  have hjl : j < cs.length := by have := hbb; simp at this; omega
  obtain ⟨b2, o2, z2, e2, hb2, _, hg2, hc2⟩ := hA.int_ hjl
  cases e2
  have hz2 := shortB_t (hcs z2 (List.mem_of_getElem? hg2))
  have hjl : (j : Int) < (cs.length : Int) := by omega
  have H1 := Lib.hid (show cs[((i : Int)).toNat]?.getD 0 = z1 by simp [hg1])
  have H2 := Lib.hid (show cs[((j : Int)).toNat]?.getD 0 = z2 by simp [hg2])
  clear ok ha hg1 hbb hg2
  have b0 : Below w.heap.size w ((w.alloc (.cells #[.int .i64 3, .int .i64 dst, .int .i64 (i : Int), .int .i64 (j : Int), .int .i64 sa, .int .i64 sb, .int .i64 imm] 49)).alloc (.cells #[.bool false, .slice none 0 0, .int .i64 0] 75)) := ext_alloc (ext_alloc (Below.refl _ _) _) _
  have r0 := (RowD.new_ w [.int .i64 3, .int .i64 dst, .int .i64 (i : Int), .int .i64 (j : Int), .int .i64 sa, .int .i64 sb, .int .i64 imm] 49).call ((Below.refl _ _).alloc (Nat.le_refl _) (.cells #[.bool false, .slice none 0 0, .int .i64 0] 75))
  have r1 := (RowD.new_ (w.alloc (.cells #[.int .i64 3, .int .i64 dst, .int .i64 (i : Int), .int .i64 (j : Int), .int .i64 sa, .int .i64 sb, .int .i64 imm] 49)) [.bool false, .slice none 0 0, .int .i64 0] 75)
  rw [show (w.alloc (.cells #[.int .i64 3, .int .i64 dst, .int .i64 (i : Int), .int .i64 (j : Int), .int .i64 sa, .int .i64 sb, .int .i64 imm] 49)).heap.size = w.heap.size + 1 by simp] at r1
  go_enter Try.func31, Try.ntmps31
  go_wp2_with fail
  obtain ⟨W, hW⟩ : ∃ W, W = ((w.alloc (.cells #[.int .i64 3, .int .i64 dst, .int .i64 (i : Int), .int .i64 (j : Int), .int .i64 sa, .int .i64 sb, .int .i64 imm] 49)).alloc (.cells #[.bool false, .slice none 0 0, .int .i64 0] 75)) := ⟨_, rfl⟩
  have hWs : W.heap.size = w.heap.size + 2 := by rw [hW]; simp
  rw [← hW]
  rw [← hW] at b0 r0 r1
  clear hW
  have hk : SK W (w.heap.size + 1) (w.heap.size + 1) W := SK.refl (by omega) ⟨_, _, _, r1⟩
  have x0 : W.cell? ⟨w.heap.size, 0, none⟩ = some (.int .i64 3) := r0.cell 0
  have x1 : W.cell? ⟨w.heap.size, 1, none⟩ = some (.int .i64 dst) := r0.cell 1
  have x2 : W.cell? ⟨w.heap.size, 2, none⟩ = some (.int .i64 (i : Int)) := r0.cell 2
  have x3 : W.cell? ⟨w.heap.size, 3, none⟩ = some (.int .i64 (j : Int)) := r0.cell 3
  have x4 : W.cell? ⟨w.heap.size, 4, none⟩ = some (.int .i64 sa) := r0.cell 4
  have x5 : W.cell? ⟨w.heap.size, 5, none⟩ = some (.int .i64 sb) := r0.cell 5
  have x6 : W.cell? ⟨w.heap.size, 6, none⟩ = some (.int .i64 imm) := r0.cell 6
  have hWs2 : w.heap.size + 2 ≤ W.heap.size := Nat.le_of_eq hWs.symm
  clear hWs
  have hc1' : W.cell? ⟨b1, o1 + i, none⟩ = some (.int .i64 z1) := (b0.cell (p := ⟨b1, o1 + i, none⟩) (Nat.lt_of_lt_of_le hb1 hm)).trans hc1
  clear hc1
  have hc2' : W.cell? ⟨b1, o1 + j, none⟩ = some (.int .i64 z2) := (b0.cell (p := ⟨b1, o1 + j, none⟩) (Nat.lt_of_lt_of_le hb1 hm)).trans hc2
  clear hc2
  go_cut [7] (fun s wx => ∃ g h, s = .pointer (some ⟨g, 0, none⟩) ∧ VarD wx (w.heap.size + 2) h g (shE z1 sa) ∧ SK W (w.heap.size + 1) (w.heap.size + 1) wx)
  case first =>
    have rowA : RowD ((W.alloc (.cells #[.bool false, .slice none 0 0, .int .i64 0] 75)).drew) W.heap.size [.bool false, .slice none 0 0, .int .i64 0] 75 := RowD.new_ W _ _
    have hcs2 : w.heap.size + 2 ≤ W.heap.size := by have := hk.lt; omega
    go_region_held3 (fun w' => (∀ b o, b < w.heap.size + 1 → w'.cell? ⟨b, o, none⟩ = W.cell? ⟨b, o, none⟩) ∧ SK W (w.heap.size + 1) (w.heap.size + 1) w')
      (first
        | (refine SK.all ?_
           first
             | assumption
             | exact hk
             | exact hk.drew
             | exact (hk.alloc _).drew
             | exact SK.alloc (by assumption) _
             | exact ((SK.set_hi (by assumption) (by omega) (by omega) _ _).set_hi (by omega) (by omega) _ _).set_hi (by omega) (by omega) _ _
             | exact (((SK.alloc (by assumption) _).set_hi (by omega) (by omega) _ _).set_hi (by omega) (by omega) _ _).set_hi (by omega) (by omega) _ _))
      ((go_at_call 38; refine (rShift_any z1 sa _ hsa.1 hsa.2 (by omega)).mono ?_; (rintro e w6 ⟨v6, rfl, D6, hb6⟩; have hk6 := SK.call (by first | exact hk.drew | exact (hk.alloc _).drew) hb6; have hf6 := hk6.lt; have hcw6 : W.heap.size ≤ w6.heap.size := (by have := hb6.size; simp at this; omega); obtain ⟨nb6, A9, L9, c9, rfl, _⟩ := D6.form; (try (have rowB := rowA.call hb6; have y0 : w6.cell? ⟨W.heap.size, 0, none⟩ = some (.bool false) := rowB.cell 0; have y1 : w6.cell? ⟨W.heap.size, 1, none⟩ = some (.slice none 0 0) := rowB.cell 1; have y2 : w6.cell? ⟨W.heap.size, 2, none⟩ = some (.int .i64 0) := rowB.cell 2; have yf := rowB.free)))))
    all_goals
      go_wp2_with fail
      go_meet
      first
        | exact ⟨w6.heap.size, w6.heap.size + 1, rfl, VarD.new_ D6 (by simpa using hcs2) (Nat.le_refl _), hk6.alloc _⟩
        | exact ⟨W.heap.size, w6.heap.size, rfl, VarD.old_ D6 rowB (by simp) (by simp; omega) (Nat.le_refl _), ((hk6.set_hi (by omega) (by omega) _ _).set_hi (by omega) (by omega) _ _).set_hi (by omega) (by omega) _ _⟩
  case rest =>
    obtain ⟨g1, h1, rfl, VA, hk2⟩ := hcut
    obtain ⟨wd, hwd⟩ : ∃ wd, wd = wc := ⟨_, rfl⟩
    rw [← hwd]
    rw [← hwd] at VA hk2
    clear hwd
    have wd0 : wd.cell? ⟨w.heap.size, 0, none⟩ = some (.int .i64 3) := (hk2.all.1 _ _ (by omega)).trans x0
    have wd1 : wd.cell? ⟨w.heap.size, 1, none⟩ = some (.int .i64 dst) := (hk2.all.1 _ _ (by omega)).trans x1
    have wd2 : wd.cell? ⟨w.heap.size, 2, none⟩ = some (.int .i64 (i : Int)) := (hk2.all.1 _ _ (by omega)).trans x2
    have wd3 : wd.cell? ⟨w.heap.size, 3, none⟩ = some (.int .i64 (j : Int)) := (hk2.all.1 _ _ (by omega)).trans x3
    have wd4 : wd.cell? ⟨w.heap.size, 4, none⟩ = some (.int .i64 sa) := (hk2.all.1 _ _ (by omega)).trans x4
    have wd5 : wd.cell? ⟨w.heap.size, 5, none⟩ = some (.int .i64 sb) := (hk2.all.1 _ _ (by omega)).trans x5
    have wd6 : wd.cell? ⟨w.heap.size, 6, none⟩ = some (.int .i64 imm) := (hk2.all.1 _ _ (by omega)).trans x6
    have hd1 : wd.cell? ⟨b1, o1 + j, none⟩ = some (.int .i64 z2) := (hk2.all.1 _ _ (by omega)).trans hc2'
    have hh1 := VA.2.1
    have hhg := VA.1
    go_wp2_with fail
    go_cut [8] (fun s wx => ∃ g h, s = .pointer (some ⟨g, 0, none⟩) ∧ VarD wx (w.heap.size + 2) h g (shE z2 sb) ∧ SK W (w.heap.size + 1) (w.heap.size + 1) wx ∧ VarD wx (w.heap.size + 2) h1 g1 (shE z1 sa))
    case first =>
      have rowA : RowD ((wd.alloc (.cells #[.bool false, .slice none 0 0, .int .i64 0] 75)).drew) wd.heap.size [.bool false, .slice none 0 0, .int .i64 0] 75 := RowD.new_ wd _ _
      have hcs2 : w.heap.size + 2 ≤ wd.heap.size := by have := hk2.lt; omega
      go_region_held3 (fun w' => (∀ b o, b < w.heap.size + 1 → w'.cell? ⟨b, o, none⟩ = W.cell? ⟨b, o, none⟩) ∧ SK W (w.heap.size + 1) (w.heap.size + 1) w')
        (first
          | (refine SK.all ?_
             first
               | assumption
               | exact hk2
               | exact hk2.drew
               | exact (hk2.alloc _).drew
               | exact SK.alloc (by assumption) _
               | exact ((SK.set_hi (by assumption) (by omega) (by omega) _ _).set_hi (by omega) (by omega) _ _).set_hi (by omega) (by omega) _ _
               | exact (((SK.alloc (by assumption) _).set_hi (by omega) (by omega) _ _).set_hi (by omega) (by omega) _ _).set_hi (by omega) (by omega) _ _))
        ((go_at_call 38; refine (rShift_any z2 sb _ hsb.1 hsb.2 (by omega)).mono ?_; (rintro e w6 ⟨v6, rfl, D6, hb6⟩; have hk6 := SK.call (by first | exact hk2.drew | exact (hk2.alloc _).drew) hb6; have hf6 := hk6.lt; have hcw6 : wd.heap.size ≤ w6.heap.size := (by have := hb6.size; simp at this; omega); obtain ⟨nb6, A9, L9, c9, rfl, _⟩ := D6.form; (try (have rowB := rowA.call hb6; have y0 : w6.cell? ⟨wd.heap.size, 0, none⟩ = some (.bool false) := rowB.cell 0; have y1 : w6.cell? ⟨wd.heap.size, 1, none⟩ = some (.slice none 0 0) := rowB.cell 1; have y2 : w6.cell? ⟨wd.heap.size, 2, none⟩ = some (.int .i64 0) := rowB.cell 2; have yf := rowB.free)))))
      all_goals
        go_wp2_with fail
        go_meet
        first
          | exact ⟨w6.heap.size, w6.heap.size + 1, rfl, VarD.new_ D6 (by simpa using hcs2) (Nat.le_refl _), hk6.alloc _, (VA.call (Below.refl _ _).drew).call hb6 |>.call (al_ _ _)⟩
          | exact ⟨wd.heap.size, w6.heap.size, rfl, VarD.old_ D6 rowB (by simp) (by simp; omega) (Nat.le_refl _), ((hk6.set_hi (by omega) (by omega) _ _).set_hi (by omega) (by omega) _ _).set_hi (by omega) (by omega) _ _, ((((((VA.call (al_ _ _)).call (Below.refl _ _).drew).call hb6).set_ (by omega) _ _).set_ (by omega) _ _).set_ (by omega) _ _)⟩
    case rest =>
      obtain ⟨g2, h2, rfl, VB, hk3, VA3⟩ := hcut
      have HV := Lib.hid (show shE z1 sa + shE z2 sb = resE ⟨3, dst, (i : Int), (j : Int), sa, sb, imm⟩ cs inn by
        simp only [resE, H1.out, H2.out]
        rfl)
      have hf2 := hk3.lt
      have wc0 : wc.cell? ⟨w.heap.size, 0, none⟩ = some (.int .i64 3) := (hk3.all.1 _ _ (by omega)).trans x0
      have wc1 : wc.cell? ⟨w.heap.size, 1, none⟩ = some (.int .i64 dst) := (hk3.all.1 _ _ (by omega)).trans x1
      have wc2 : wc.cell? ⟨w.heap.size, 2, none⟩ = some (.int .i64 (i : Int)) := (hk3.all.1 _ _ (by omega)).trans x2
      have wc3 : wc.cell? ⟨w.heap.size, 3, none⟩ = some (.int .i64 (j : Int)) := (hk3.all.1 _ _ (by omega)).trans x3
      have wc4 : wc.cell? ⟨w.heap.size, 4, none⟩ = some (.int .i64 sa) := (hk3.all.1 _ _ (by omega)).trans x4
      have wc5 : wc.cell? ⟨w.heap.size, 5, none⟩ = some (.int .i64 sb) := (hk3.all.1 _ _ (by omega)).trans x5
      have wc6 : wc.cell? ⟨w.heap.size, 6, none⟩ = some (.int .i64 imm) := (hk3.all.1 _ _ (by omega)).trans x6
      obtain ⟨hga, hha, nba, Pa, Qa, Ra, rowa, Da⟩ := VA3
      have a0 : wc.cell? ⟨g1, 0, none⟩ = some (.bool nba) := rowa.cell 0
      have a1 : wc.cell? ⟨g1, 1, none⟩ = some (.slice Pa Qa Ra) := rowa.cell 1
      have a2 : wc.cell? ⟨g1, 2, none⟩ = some (.int .i64 0) := rowa.cell 2
      obtain ⟨hgq, hhq, nbq, Pq, Qq, Rq, rowq, Dq⟩ := VB
      have q0 : wc.cell? ⟨g2, 0, none⟩ = some (.bool nbq) := rowq.cell 0
      have q1 : wc.cell? ⟨g2, 1, none⟩ = some (.slice Pq Qq Rq) := rowq.cell 1
      have q2 : wc.cell? ⟨g2, 2, none⟩ = some (.int .i64 0) := rowq.cell 2
      have ls1 := Nat.le_trans (sh_len hsa.1 hsa.2 (show z1.natAbs ≤ 4611686018427387904 by omega)) (show 10 ≤ 50000 by omega)
      have ls2 := Nat.le_trans (sh_len hsb.1 hsb.2 (show z2.natAbs ≤ 4611686018427387904 by omega)) (show 10 ≤ 50000 by omega)
      go_wp2_with fail
      go_at_call 41
      refine (add_any (Da.more hha) (Dq.more hhq) (Nat.le_refl _) (Nat.le_refl _) ls1 ls2).mono ?_
      rintro e w6 ⟨v6, rfl, D6, hb6⟩
      have hk6 := hk3.call hb6
      have hf6 := hk6.lt
      rw [dySum_int] at D6
      rw [HV.out] at D6
      obtain ⟨nb6, A9, L9, c9, rfl, _⟩ := D6.form
      obtain ⟨y0, y1, y2, rz, k0, k1, k2, kf⟩ := SK.cells hk6
      go_wp2_with fail
      refine bodyPost_ret (res_rResult rfl (((rz.set_ 0 _).set_ 1 _).set_ 2 _)) rfl ⟨_, rfl, ?_, (((b0.trans (hk6.is.mono (by omega))).setCell (by simp) _).setCell (by simp) _).setCell (by simp) _⟩
      exact ((((D6.set_ (by omega) 0 _).set_ (by omega) 1 _).set_ (by omega) 2 _).low (by omega)).more (by simp)
set_option maxRecDepth 100000 in
set_option maxHeartbeats 4000000 in
theorem rRes_sub (A B : Option Addr) (dst a b sa sb imm : Int) (cs inn : List Int) (c1 c2 m : Nat) (w : World) (hm : m ≤ w.heap.size) (hA : CellsAt w m A (ints cs)) (hB : CellsAt w m B (ints inn)) (ok : InsOk inn.length cs.length ⟨4, dst, a, b, sa, sb, imm⟩)
    (hcs : ∀ z ∈ cs, shortB z = true) (hin : ∀ z ∈ inn, shortB z = true) :
    Calls Try.prog 31 #[.agg #[.int .i64 4, .int .i64 dst, .int .i64 a, .int .i64 b, .int .i64 sa, .int .i64 sb, .int .i64 imm], .slice A cs.length c1, .slice B inn.length c2] w (ResPost w (resE ⟨4, dst, a, b, sa, sb, imm⟩ cs inn)) := by
  have hsa := ok.sa rfl
  have hsb := ok.sb rfl
  have ha : 0 ≤ a ∧ a < (cs.length : Int) := by simpa using ok.a rfl
  have hbb : 0 ≤ b ∧ b < (cs.length : Int) := by simpa using ok.b rfl
  obtain ⟨i, hi⟩ : ∃ i : Nat, a = (i : Int) := ⟨a.toNat, by have := ha; omega⟩
  subst hi
  have hil : i < cs.length := by have := ha; simp at this; omega
  obtain ⟨b1, o1, z1, e1, hb1, _, hg1, hc1⟩ := hA.int_ hil
  cases e1
  have hz1 := shortB_t (hcs z1 (List.mem_of_getElem? hg1))
  have hil : (i : Int) < (cs.length : Int) := by omega
  have b1s : b1 < w.heap.size + 1 := by omega
  obtain ⟨j, hj⟩ : ∃ j : Nat, b = (j : Int) := ⟨b.toNat, by have := hbb; omega⟩
  subst hj
  have hjl : j < cs.length := by have := hbb; simp at this; omega
  obtain ⟨b2, o2, z2, e2, hb2, _, hg2, hc2⟩ := hA.int_ hjl
  cases e2
  have hz2 := shortB_t (hcs z2 (List.mem_of_getElem? hg2))
  have hjl : (j : Int) < (cs.length : Int) := by omega
  have H1 := Lib.hid (show cs[((i : Int)).toNat]?.getD 0 = z1 by simp [hg1])
  have H2 := Lib.hid (show cs[((j : Int)).toNat]?.getD 0 = z2 by simp [hg2])
  clear ok ha hg1 hbb hg2
  have b0 : Below w.heap.size w ((w.alloc (.cells #[.int .i64 4, .int .i64 dst, .int .i64 (i : Int), .int .i64 (j : Int), .int .i64 sa, .int .i64 sb, .int .i64 imm] 49)).alloc (.cells #[.bool false, .slice none 0 0, .int .i64 0] 75)) := ext_alloc (ext_alloc (Below.refl _ _) _) _
  have r0 := (RowD.new_ w [.int .i64 4, .int .i64 dst, .int .i64 (i : Int), .int .i64 (j : Int), .int .i64 sa, .int .i64 sb, .int .i64 imm] 49).call ((Below.refl _ _).alloc (Nat.le_refl _) (.cells #[.bool false, .slice none 0 0, .int .i64 0] 75))
  have r1 := (RowD.new_ (w.alloc (.cells #[.int .i64 4, .int .i64 dst, .int .i64 (i : Int), .int .i64 (j : Int), .int .i64 sa, .int .i64 sb, .int .i64 imm] 49)) [.bool false, .slice none 0 0, .int .i64 0] 75)
  rw [show (w.alloc (.cells #[.int .i64 4, .int .i64 dst, .int .i64 (i : Int), .int .i64 (j : Int), .int .i64 sa, .int .i64 sb, .int .i64 imm] 49)).heap.size = w.heap.size + 1 by simp] at r1
  go_enter Try.func31, Try.ntmps31
  go_wp2_with fail
  obtain ⟨W, hW⟩ : ∃ W, W = ((w.alloc (.cells #[.int .i64 4, .int .i64 dst, .int .i64 (i : Int), .int .i64 (j : Int), .int .i64 sa, .int .i64 sb, .int .i64 imm] 49)).alloc (.cells #[.bool false, .slice none 0 0, .int .i64 0] 75)) := ⟨_, rfl⟩
  have hWs : W.heap.size = w.heap.size + 2 := by rw [hW]; simp
  rw [← hW]
  rw [← hW] at b0 r0 r1
  clear hW
  have hk : SK W (w.heap.size + 1) (w.heap.size + 1) W := SK.refl (by omega) ⟨_, _, _, r1⟩
  have x0 : W.cell? ⟨w.heap.size, 0, none⟩ = some (.int .i64 4) := r0.cell 0
  have x1 : W.cell? ⟨w.heap.size, 1, none⟩ = some (.int .i64 dst) := r0.cell 1
  have x2 : W.cell? ⟨w.heap.size, 2, none⟩ = some (.int .i64 (i : Int)) := r0.cell 2
  have x3 : W.cell? ⟨w.heap.size, 3, none⟩ = some (.int .i64 (j : Int)) := r0.cell 3
  have x4 : W.cell? ⟨w.heap.size, 4, none⟩ = some (.int .i64 sa) := r0.cell 4
  have x5 : W.cell? ⟨w.heap.size, 5, none⟩ = some (.int .i64 sb) := r0.cell 5
  have x6 : W.cell? ⟨w.heap.size, 6, none⟩ = some (.int .i64 imm) := r0.cell 6
  have hWs2 : w.heap.size + 2 ≤ W.heap.size := Nat.le_of_eq hWs.symm
  clear hWs
  have hc1' : W.cell? ⟨b1, o1 + i, none⟩ = some (.int .i64 z1) := (b0.cell (p := ⟨b1, o1 + i, none⟩) (Nat.lt_of_lt_of_le hb1 hm)).trans hc1
  clear hc1
  have hc2' : W.cell? ⟨b1, o1 + j, none⟩ = some (.int .i64 z2) := (b0.cell (p := ⟨b1, o1 + j, none⟩) (Nat.lt_of_lt_of_le hb1 hm)).trans hc2
  clear hc2
  go_cut [7] (fun s wx => ∃ g h, s = .pointer (some ⟨g, 0, none⟩) ∧ VarD wx (w.heap.size + 2) h g (shE z1 sa) ∧ SK W (w.heap.size + 1) (w.heap.size + 1) wx)
  case first =>
    have rowA : RowD ((W.alloc (.cells #[.bool false, .slice none 0 0, .int .i64 0] 75)).drew) W.heap.size [.bool false, .slice none 0 0, .int .i64 0] 75 := RowD.new_ W _ _
    have hcs2 : w.heap.size + 2 ≤ W.heap.size := by have := hk.lt; omega
    go_region_held3 (fun w' => (∀ b o, b < w.heap.size + 1 → w'.cell? ⟨b, o, none⟩ = W.cell? ⟨b, o, none⟩) ∧ SK W (w.heap.size + 1) (w.heap.size + 1) w')
      (first
        | (refine SK.all ?_
           first
             | assumption
             | exact hk
             | exact hk.drew
             | exact (hk.alloc _).drew
             | exact SK.alloc (by assumption) _
             | exact ((SK.set_hi (by assumption) (by omega) (by omega) _ _).set_hi (by omega) (by omega) _ _).set_hi (by omega) (by omega) _ _
             | exact (((SK.alloc (by assumption) _).set_hi (by omega) (by omega) _ _).set_hi (by omega) (by omega) _ _).set_hi (by omega) (by omega) _ _))
      ((go_at_call 38; refine (rShift_any z1 sa _ hsa.1 hsa.2 (by omega)).mono ?_; (rintro e w6 ⟨v6, rfl, D6, hb6⟩; have hk6 := SK.call (by first | exact hk.drew | exact (hk.alloc _).drew) hb6; have hf6 := hk6.lt; have hcw6 : W.heap.size ≤ w6.heap.size := (by have := hb6.size; simp at this; omega); obtain ⟨nb6, A9, L9, c9, rfl, _⟩ := D6.form; (try (have rowB := rowA.call hb6; have y0 : w6.cell? ⟨W.heap.size, 0, none⟩ = some (.bool false) := rowB.cell 0; have y1 : w6.cell? ⟨W.heap.size, 1, none⟩ = some (.slice none 0 0) := rowB.cell 1; have y2 : w6.cell? ⟨W.heap.size, 2, none⟩ = some (.int .i64 0) := rowB.cell 2; have yf := rowB.free)))))
    all_goals
      go_wp2_with fail
      go_meet
      first
        | exact ⟨w6.heap.size, w6.heap.size + 1, rfl, VarD.new_ D6 (by simpa using hcs2) (Nat.le_refl _), hk6.alloc _⟩
        | exact ⟨W.heap.size, w6.heap.size, rfl, VarD.old_ D6 rowB (by simp) (by simp; omega) (Nat.le_refl _), ((hk6.set_hi (by omega) (by omega) _ _).set_hi (by omega) (by omega) _ _).set_hi (by omega) (by omega) _ _⟩
  case rest =>
    obtain ⟨g1, h1, rfl, VA, hk2⟩ := hcut
    obtain ⟨wd, hwd⟩ : ∃ wd, wd = wc := ⟨_, rfl⟩
    rw [← hwd]
    rw [← hwd] at VA hk2
    clear hwd
    have wd0 : wd.cell? ⟨w.heap.size, 0, none⟩ = some (.int .i64 4) := (hk2.all.1 _ _ (by omega)).trans x0
    have wd1 : wd.cell? ⟨w.heap.size, 1, none⟩ = some (.int .i64 dst) := (hk2.all.1 _ _ (by omega)).trans x1
    have wd2 : wd.cell? ⟨w.heap.size, 2, none⟩ = some (.int .i64 (i : Int)) := (hk2.all.1 _ _ (by omega)).trans x2
    have wd3 : wd.cell? ⟨w.heap.size, 3, none⟩ = some (.int .i64 (j : Int)) := (hk2.all.1 _ _ (by omega)).trans x3
    have wd4 : wd.cell? ⟨w.heap.size, 4, none⟩ = some (.int .i64 sa) := (hk2.all.1 _ _ (by omega)).trans x4
    have wd5 : wd.cell? ⟨w.heap.size, 5, none⟩ = some (.int .i64 sb) := (hk2.all.1 _ _ (by omega)).trans x5
    have wd6 : wd.cell? ⟨w.heap.size, 6, none⟩ = some (.int .i64 imm) := (hk2.all.1 _ _ (by omega)).trans x6
    have hd1 : wd.cell? ⟨b1, o1 + j, none⟩ = some (.int .i64 z2) := (hk2.all.1 _ _ (by omega)).trans hc2'
    have hh1 := VA.2.1
    have hhg := VA.1
    go_wp2_with fail
    go_cut [8] (fun s wx => ∃ g h, s = .pointer (some ⟨g, 0, none⟩) ∧ VarD wx (w.heap.size + 2) h g (shE z2 sb) ∧ SK W (w.heap.size + 1) (w.heap.size + 1) wx ∧ VarD wx (w.heap.size + 2) h1 g1 (shE z1 sa))
    case first =>
      have rowA : RowD ((wd.alloc (.cells #[.bool false, .slice none 0 0, .int .i64 0] 75)).drew) wd.heap.size [.bool false, .slice none 0 0, .int .i64 0] 75 := RowD.new_ wd _ _
      have hcs2 : w.heap.size + 2 ≤ wd.heap.size := by have := hk2.lt; omega
      go_region_held3 (fun w' => (∀ b o, b < w.heap.size + 1 → w'.cell? ⟨b, o, none⟩ = W.cell? ⟨b, o, none⟩) ∧ SK W (w.heap.size + 1) (w.heap.size + 1) w')
        (first
          | (refine SK.all ?_
             first
               | assumption
               | exact hk2
               | exact hk2.drew
               | exact (hk2.alloc _).drew
               | exact SK.alloc (by assumption) _
               | exact ((SK.set_hi (by assumption) (by omega) (by omega) _ _).set_hi (by omega) (by omega) _ _).set_hi (by omega) (by omega) _ _
               | exact (((SK.alloc (by assumption) _).set_hi (by omega) (by omega) _ _).set_hi (by omega) (by omega) _ _).set_hi (by omega) (by omega) _ _))
        ((go_at_call 38; refine (rShift_any z2 sb _ hsb.1 hsb.2 (by omega)).mono ?_; (rintro e w6 ⟨v6, rfl, D6, hb6⟩; have hk6 := SK.call (by first | exact hk2.drew | exact (hk2.alloc _).drew) hb6; have hf6 := hk6.lt; have hcw6 : wd.heap.size ≤ w6.heap.size := (by have := hb6.size; simp at this; omega); obtain ⟨nb6, A9, L9, c9, rfl, _⟩ := D6.form; (try (have rowB := rowA.call hb6; have y0 : w6.cell? ⟨wd.heap.size, 0, none⟩ = some (.bool false) := rowB.cell 0; have y1 : w6.cell? ⟨wd.heap.size, 1, none⟩ = some (.slice none 0 0) := rowB.cell 1; have y2 : w6.cell? ⟨wd.heap.size, 2, none⟩ = some (.int .i64 0) := rowB.cell 2; have yf := rowB.free)))))
      all_goals
        go_wp2_with fail
        go_meet
        first
          | exact ⟨w6.heap.size, w6.heap.size + 1, rfl, VarD.new_ D6 (by simpa using hcs2) (Nat.le_refl _), hk6.alloc _, (VA.call (Below.refl _ _).drew).call hb6 |>.call (al_ _ _)⟩
          | exact ⟨wd.heap.size, w6.heap.size, rfl, VarD.old_ D6 rowB (by simp) (by simp; omega) (Nat.le_refl _), ((hk6.set_hi (by omega) (by omega) _ _).set_hi (by omega) (by omega) _ _).set_hi (by omega) (by omega) _ _, ((((((VA.call (al_ _ _)).call (Below.refl _ _).drew).call hb6).set_ (by omega) _ _).set_ (by omega) _ _).set_ (by omega) _ _)⟩
    case rest =>
      obtain ⟨g2, h2, rfl, VB, hk3, VA3⟩ := hcut
      have HV := Lib.hid (show shE z1 sa - shE z2 sb = resE ⟨4, dst, (i : Int), (j : Int), sa, sb, imm⟩ cs inn by
        simp only [resE, H1.out, H2.out]
        rfl)
      have hf2 := hk3.lt
      have wc0 : wc.cell? ⟨w.heap.size, 0, none⟩ = some (.int .i64 4) := (hk3.all.1 _ _ (by omega)).trans x0
      have wc1 : wc.cell? ⟨w.heap.size, 1, none⟩ = some (.int .i64 dst) := (hk3.all.1 _ _ (by omega)).trans x1
      have wc2 : wc.cell? ⟨w.heap.size, 2, none⟩ = some (.int .i64 (i : Int)) := (hk3.all.1 _ _ (by omega)).trans x2
      have wc3 : wc.cell? ⟨w.heap.size, 3, none⟩ = some (.int .i64 (j : Int)) := (hk3.all.1 _ _ (by omega)).trans x3
      have wc4 : wc.cell? ⟨w.heap.size, 4, none⟩ = some (.int .i64 sa) := (hk3.all.1 _ _ (by omega)).trans x4
      have wc5 : wc.cell? ⟨w.heap.size, 5, none⟩ = some (.int .i64 sb) := (hk3.all.1 _ _ (by omega)).trans x5
      have wc6 : wc.cell? ⟨w.heap.size, 6, none⟩ = some (.int .i64 imm) := (hk3.all.1 _ _ (by omega)).trans x6
      obtain ⟨hga, hha, nba, Pa, Qa, Ra, rowa, Da⟩ := VA3
      have a0 : wc.cell? ⟨g1, 0, none⟩ = some (.bool nba) := rowa.cell 0
      have a1 : wc.cell? ⟨g1, 1, none⟩ = some (.slice Pa Qa Ra) := rowa.cell 1
      have a2 : wc.cell? ⟨g1, 2, none⟩ = some (.int .i64 0) := rowa.cell 2
      obtain ⟨hgq, hhq, nbq, Pq, Qq, Rq, rowq, Dq⟩ := VB
      have q0 : wc.cell? ⟨g2, 0, none⟩ = some (.bool nbq) := rowq.cell 0
      have q1 : wc.cell? ⟨g2, 1, none⟩ = some (.slice Pq Qq Rq) := rowq.cell 1
      have q2 : wc.cell? ⟨g2, 2, none⟩ = some (.int .i64 0) := rowq.cell 2
      have ls1 := Nat.le_trans (sh_len hsa.1 hsa.2 (show z1.natAbs ≤ 4611686018427387904 by omega)) (show 10 ≤ 50000 by omega)
      have ls2 := Nat.le_trans (sh_len hsb.1 hsb.2 (show z2.natAbs ≤ 4611686018427387904 by omega)) (show 10 ≤ 50000 by omega)
      go_wp2_with fail
      go_at_call 42
      refine (sub_any (Da.more hha) (Dq.more hhq) (Nat.le_refl _) ls1 ls2).mono ?_
      rintro e w6 ⟨v6, rfl, D6, hb6⟩
      have hk6 := hk3.call hb6
      have hf6 := hk6.lt
      rw [dySum_int, ← Int.sub_eq_add_neg] at D6
      rw [HV.out] at D6
      obtain ⟨nb6, A9, L9, c9, rfl, _⟩ := D6.form
      obtain ⟨y0, y1, y2, rz, k0, k1, k2, kf⟩ := SK.cells hk6
      go_wp2_with fail
      refine bodyPost_ret (res_rResult rfl (((rz.set_ 0 _).set_ 1 _).set_ 2 _)) rfl ⟨_, rfl, ?_, (((b0.trans (hk6.is.mono (by omega))).setCell (by simp) _).setCell (by simp) _).setCell (by simp) _⟩
      exact ((((D6.set_ (by omega) 0 _).set_ (by omega) 1 _).set_ (by omega) 2 _).low (by omega)).more (by simp)
set_option maxRecDepth 100000 in
set_option maxHeartbeats 4000000 in
theorem rRes_min (A B : Option Addr) (dst a b sa sb imm : Int) (cs inn : List Int) (c1 c2 m : Nat) (w : World) (hm : m ≤ w.heap.size) (hA : CellsAt w m A (ints cs)) (hB : CellsAt w m B (ints inn)) (ok : InsOk inn.length cs.length ⟨8, dst, a, b, sa, sb, imm⟩)
    (hcs : ∀ z ∈ cs, shortB z = true) (hin : ∀ z ∈ inn, shortB z = true) :
    Calls Try.prog 31 #[.agg #[.int .i64 8, .int .i64 dst, .int .i64 a, .int .i64 b, .int .i64 sa, .int .i64 sb, .int .i64 imm], .slice A cs.length c1, .slice B inn.length c2] w (ResPost w (resE ⟨8, dst, a, b, sa, sb, imm⟩ cs inn)) := by
  have hsa := ok.sa rfl
  have hsb := ok.sb rfl
  have ha : 0 ≤ a ∧ a < (cs.length : Int) := by simpa using ok.a rfl
  have hbb : 0 ≤ b ∧ b < (cs.length : Int) := by simpa using ok.b rfl
  obtain ⟨i, hi⟩ : ∃ i : Nat, a = (i : Int) := ⟨a.toNat, by have := ha; omega⟩
  subst hi
  have hil : i < cs.length := by have := ha; simp at this; omega
  obtain ⟨b1, o1, z1, e1, hb1, _, hg1, hc1⟩ := hA.int_ hil
  cases e1
  have hz1 := shortB_t (hcs z1 (List.mem_of_getElem? hg1))
  have hil : (i : Int) < (cs.length : Int) := by omega
  have b1s : b1 < w.heap.size + 1 := by omega
  obtain ⟨j, hj⟩ : ∃ j : Nat, b = (j : Int) := ⟨b.toNat, by have := hbb; omega⟩
  subst hj
  have hjl : j < cs.length := by have := hbb; simp at this; omega
  obtain ⟨b2, o2, z2, e2, hb2, _, hg2, hc2⟩ := hA.int_ hjl
  cases e2
  have hz2 := shortB_t (hcs z2 (List.mem_of_getElem? hg2))
  have hjl : (j : Int) < (cs.length : Int) := by omega
  have H1 := Lib.hid (show cs[((i : Int)).toNat]?.getD 0 = z1 by simp [hg1])
  have H2 := Lib.hid (show cs[((j : Int)).toNat]?.getD 0 = z2 by simp [hg2])
  clear ok ha hg1 hbb hg2
  have b0 : Below w.heap.size w ((w.alloc (.cells #[.int .i64 8, .int .i64 dst, .int .i64 (i : Int), .int .i64 (j : Int), .int .i64 sa, .int .i64 sb, .int .i64 imm] 49)).alloc (.cells #[.bool false, .slice none 0 0, .int .i64 0] 75)) := ext_alloc (ext_alloc (Below.refl _ _) _) _
  have r0 := (RowD.new_ w [.int .i64 8, .int .i64 dst, .int .i64 (i : Int), .int .i64 (j : Int), .int .i64 sa, .int .i64 sb, .int .i64 imm] 49).call ((Below.refl _ _).alloc (Nat.le_refl _) (.cells #[.bool false, .slice none 0 0, .int .i64 0] 75))
  have r1 := (RowD.new_ (w.alloc (.cells #[.int .i64 8, .int .i64 dst, .int .i64 (i : Int), .int .i64 (j : Int), .int .i64 sa, .int .i64 sb, .int .i64 imm] 49)) [.bool false, .slice none 0 0, .int .i64 0] 75)
  rw [show (w.alloc (.cells #[.int .i64 8, .int .i64 dst, .int .i64 (i : Int), .int .i64 (j : Int), .int .i64 sa, .int .i64 sb, .int .i64 imm] 49)).heap.size = w.heap.size + 1 by simp] at r1
  go_enter Try.func31, Try.ntmps31
  go_wp2_with fail
  obtain ⟨W, hW⟩ : ∃ W, W = ((w.alloc (.cells #[.int .i64 8, .int .i64 dst, .int .i64 (i : Int), .int .i64 (j : Int), .int .i64 sa, .int .i64 sb, .int .i64 imm] 49)).alloc (.cells #[.bool false, .slice none 0 0, .int .i64 0] 75)) := ⟨_, rfl⟩
  have hWs : W.heap.size = w.heap.size + 2 := by rw [hW]; simp
  rw [← hW]
  rw [← hW] at b0 r0 r1
  clear hW
  have hk : SK W (w.heap.size + 1) (w.heap.size + 1) W := SK.refl (by omega) ⟨_, _, _, r1⟩
  have x0 : W.cell? ⟨w.heap.size, 0, none⟩ = some (.int .i64 8) := r0.cell 0
  have x1 : W.cell? ⟨w.heap.size, 1, none⟩ = some (.int .i64 dst) := r0.cell 1
  have x2 : W.cell? ⟨w.heap.size, 2, none⟩ = some (.int .i64 (i : Int)) := r0.cell 2
  have x3 : W.cell? ⟨w.heap.size, 3, none⟩ = some (.int .i64 (j : Int)) := r0.cell 3
  have x4 : W.cell? ⟨w.heap.size, 4, none⟩ = some (.int .i64 sa) := r0.cell 4
  have x5 : W.cell? ⟨w.heap.size, 5, none⟩ = some (.int .i64 sb) := r0.cell 5
  have x6 : W.cell? ⟨w.heap.size, 6, none⟩ = some (.int .i64 imm) := r0.cell 6
  have hWs2 : w.heap.size + 2 ≤ W.heap.size := Nat.le_of_eq hWs.symm
  clear hWs
  have hc1' : W.cell? ⟨b1, o1 + i, none⟩ = some (.int .i64 z1) := (b0.cell (p := ⟨b1, o1 + i, none⟩) (Nat.lt_of_lt_of_le hb1 hm)).trans hc1
  clear hc1
  have hc2' : W.cell? ⟨b1, o1 + j, none⟩ = some (.int .i64 z2) := (b0.cell (p := ⟨b1, o1 + j, none⟩) (Nat.lt_of_lt_of_le hb1 hm)).trans hc2
  clear hc2
  go_cut [7] (fun s wx => ∃ g h, s = .pointer (some ⟨g, 0, none⟩) ∧ VarD wx (w.heap.size + 2) h g (shE z1 sa) ∧ SK W (w.heap.size + 1) (w.heap.size + 1) wx)
  case first =>
    have rowA : RowD ((W.alloc (.cells #[.bool false, .slice none 0 0, .int .i64 0] 75)).drew) W.heap.size [.bool false, .slice none 0 0, .int .i64 0] 75 := RowD.new_ W _ _
    have hcs2 : w.heap.size + 2 ≤ W.heap.size := by have := hk.lt; omega
    go_region_held3 (fun w' => (∀ b o, b < w.heap.size + 1 → w'.cell? ⟨b, o, none⟩ = W.cell? ⟨b, o, none⟩) ∧ SK W (w.heap.size + 1) (w.heap.size + 1) w')
      (first
        | (refine SK.all ?_
           first
             | assumption
             | exact hk
             | exact hk.drew
             | exact (hk.alloc _).drew
             | exact SK.alloc (by assumption) _
             | exact ((SK.set_hi (by assumption) (by omega) (by omega) _ _).set_hi (by omega) (by omega) _ _).set_hi (by omega) (by omega) _ _
             | exact (((SK.alloc (by assumption) _).set_hi (by omega) (by omega) _ _).set_hi (by omega) (by omega) _ _).set_hi (by omega) (by omega) _ _))
      ((go_at_call 38; refine (rShift_any z1 sa _ hsa.1 hsa.2 (by omega)).mono ?_; (rintro e w6 ⟨v6, rfl, D6, hb6⟩; have hk6 := SK.call (by first | exact hk.drew | exact (hk.alloc _).drew) hb6; have hf6 := hk6.lt; have hcw6 : W.heap.size ≤ w6.heap.size := (by have := hb6.size; simp at this; omega); obtain ⟨nb6, A9, L9, c9, rfl, _⟩ := D6.form; (try (have rowB := rowA.call hb6; have y0 : w6.cell? ⟨W.heap.size, 0, none⟩ = some (.bool false) := rowB.cell 0; have y1 : w6.cell? ⟨W.heap.size, 1, none⟩ = some (.slice none 0 0) := rowB.cell 1; have y2 : w6.cell? ⟨W.heap.size, 2, none⟩ = some (.int .i64 0) := rowB.cell 2; have yf := rowB.free)))))
    all_goals
      go_wp2_with fail
      go_meet
      first
        | exact ⟨w6.heap.size, w6.heap.size + 1, rfl, VarD.new_ D6 (by simpa using hcs2) (Nat.le_refl _), hk6.alloc _⟩
        | exact ⟨W.heap.size, w6.heap.size, rfl, VarD.old_ D6 rowB (by simp) (by simp; omega) (Nat.le_refl _), ((hk6.set_hi (by omega) (by omega) _ _).set_hi (by omega) (by omega) _ _).set_hi (by omega) (by omega) _ _⟩
  case rest =>
    obtain ⟨g1, h1, rfl, VA, hk2⟩ := hcut
    obtain ⟨wd, hwd⟩ : ∃ wd, wd = wc := ⟨_, rfl⟩
    rw [← hwd]
    rw [← hwd] at VA hk2
    clear hwd
    have wd0 : wd.cell? ⟨w.heap.size, 0, none⟩ = some (.int .i64 8) := (hk2.all.1 _ _ (by omega)).trans x0
    have wd1 : wd.cell? ⟨w.heap.size, 1, none⟩ = some (.int .i64 dst) := (hk2.all.1 _ _ (by omega)).trans x1
    have wd2 : wd.cell? ⟨w.heap.size, 2, none⟩ = some (.int .i64 (i : Int)) := (hk2.all.1 _ _ (by omega)).trans x2
    have wd3 : wd.cell? ⟨w.heap.size, 3, none⟩ = some (.int .i64 (j : Int)) := (hk2.all.1 _ _ (by omega)).trans x3
    have wd4 : wd.cell? ⟨w.heap.size, 4, none⟩ = some (.int .i64 sa) := (hk2.all.1 _ _ (by omega)).trans x4
    have wd5 : wd.cell? ⟨w.heap.size, 5, none⟩ = some (.int .i64 sb) := (hk2.all.1 _ _ (by omega)).trans x5
    have wd6 : wd.cell? ⟨w.heap.size, 6, none⟩ = some (.int .i64 imm) := (hk2.all.1 _ _ (by omega)).trans x6
    have hd1 : wd.cell? ⟨b1, o1 + j, none⟩ = some (.int .i64 z2) := (hk2.all.1 _ _ (by omega)).trans hc2'
    have hh1 := VA.2.1
    have hhg := VA.1
    go_wp2_with fail
    go_cut [8] (fun s wx => ∃ g h, s = .pointer (some ⟨g, 0, none⟩) ∧ VarD wx (w.heap.size + 2) h g (shE z2 sb) ∧ SK W (w.heap.size + 1) (w.heap.size + 1) wx ∧ VarD wx (w.heap.size + 2) h1 g1 (shE z1 sa))
    case first =>
      have rowA : RowD ((wd.alloc (.cells #[.bool false, .slice none 0 0, .int .i64 0] 75)).drew) wd.heap.size [.bool false, .slice none 0 0, .int .i64 0] 75 := RowD.new_ wd _ _
      have hcs2 : w.heap.size + 2 ≤ wd.heap.size := by have := hk2.lt; omega
      go_region_held3 (fun w' => (∀ b o, b < w.heap.size + 1 → w'.cell? ⟨b, o, none⟩ = W.cell? ⟨b, o, none⟩) ∧ SK W (w.heap.size + 1) (w.heap.size + 1) w')
        (first
          | (refine SK.all ?_
             first
               | assumption
               | exact hk2
               | exact hk2.drew
               | exact (hk2.alloc _).drew
               | exact SK.alloc (by assumption) _
               | exact ((SK.set_hi (by assumption) (by omega) (by omega) _ _).set_hi (by omega) (by omega) _ _).set_hi (by omega) (by omega) _ _
               | exact (((SK.alloc (by assumption) _).set_hi (by omega) (by omega) _ _).set_hi (by omega) (by omega) _ _).set_hi (by omega) (by omega) _ _))
        ((go_at_call 38; refine (rShift_any z2 sb _ hsb.1 hsb.2 (by omega)).mono ?_; (rintro e w6 ⟨v6, rfl, D6, hb6⟩; have hk6 := SK.call (by first | exact hk2.drew | exact (hk2.alloc _).drew) hb6; have hf6 := hk6.lt; have hcw6 : wd.heap.size ≤ w6.heap.size := (by have := hb6.size; simp at this; omega); obtain ⟨nb6, A9, L9, c9, rfl, _⟩ := D6.form; (try (have rowB := rowA.call hb6; have y0 : w6.cell? ⟨wd.heap.size, 0, none⟩ = some (.bool false) := rowB.cell 0; have y1 : w6.cell? ⟨wd.heap.size, 1, none⟩ = some (.slice none 0 0) := rowB.cell 1; have y2 : w6.cell? ⟨wd.heap.size, 2, none⟩ = some (.int .i64 0) := rowB.cell 2; have yf := rowB.free)))))
      all_goals
        go_wp2_with fail
        go_meet
        first
          | exact ⟨w6.heap.size, w6.heap.size + 1, rfl, VarD.new_ D6 (by simpa using hcs2) (Nat.le_refl _), hk6.alloc _, (VA.call (Below.refl _ _).drew).call hb6 |>.call (al_ _ _)⟩
          | exact ⟨wd.heap.size, w6.heap.size, rfl, VarD.old_ D6 rowB (by simp) (by simp; omega) (Nat.le_refl _), ((hk6.set_hi (by omega) (by omega) _ _).set_hi (by omega) (by omega) _ _).set_hi (by omega) (by omega) _ _, ((((((VA.call (al_ _ _)).call (Below.refl _ _).drew).call hb6).set_ (by omega) _ _).set_ (by omega) _ _).set_ (by omega) _ _)⟩
    case rest =>
      obtain ⟨g2, h2, rfl, VB, hk3, VA3⟩ := hcut
      have HV := Lib.hid (show min (shE z1 sa) (shE z2 sb) = resE ⟨8, dst, (i : Int), (j : Int), sa, sb, imm⟩ cs inn by
        simp only [resE, H1.out, H2.out]
        rfl)
      have hf2 := hk3.lt
      have wc0 : wc.cell? ⟨w.heap.size, 0, none⟩ = some (.int .i64 8) := (hk3.all.1 _ _ (by omega)).trans x0
      have wc1 : wc.cell? ⟨w.heap.size, 1, none⟩ = some (.int .i64 dst) := (hk3.all.1 _ _ (by omega)).trans x1
      have wc2 : wc.cell? ⟨w.heap.size, 2, none⟩ = some (.int .i64 (i : Int)) := (hk3.all.1 _ _ (by omega)).trans x2
      have wc3 : wc.cell? ⟨w.heap.size, 3, none⟩ = some (.int .i64 (j : Int)) := (hk3.all.1 _ _ (by omega)).trans x3
      have wc4 : wc.cell? ⟨w.heap.size, 4, none⟩ = some (.int .i64 sa) := (hk3.all.1 _ _ (by omega)).trans x4
      have wc5 : wc.cell? ⟨w.heap.size, 5, none⟩ = some (.int .i64 sb) := (hk3.all.1 _ _ (by omega)).trans x5
      have wc6 : wc.cell? ⟨w.heap.size, 6, none⟩ = some (.int .i64 imm) := (hk3.all.1 _ _ (by omega)).trans x6
      obtain ⟨hga, hha, nba, Pa, Qa, Ra, rowa, Da⟩ := VA3
      have a0 : wc.cell? ⟨g1, 0, none⟩ = some (.bool nba) := rowa.cell 0
      have a1 : wc.cell? ⟨g1, 1, none⟩ = some (.slice Pa Qa Ra) := rowa.cell 1
      have a2 : wc.cell? ⟨g1, 2, none⟩ = some (.int .i64 0) := rowa.cell 2
      obtain ⟨hgq, hhq, nbq, Pq, Qq, Rq, rowq, Dq⟩ := VB
      have q0 : wc.cell? ⟨g2, 0, none⟩ = some (.bool nbq) := rowq.cell 0
      have q1 : wc.cell? ⟨g2, 1, none⟩ = some (.slice Pq Qq Rq) := rowq.cell 1
      have q2 : wc.cell? ⟨g2, 2, none⟩ = some (.int .i64 0) := rowq.cell 2
      have ls1 := Nat.le_trans (sh_len hsa.1 hsa.2 (show z1.natAbs ≤ 4611686018427387904 by omega)) (show 10 ≤ 50000 by omega)
      have ls2 := Nat.le_trans (sh_len hsb.1 hsb.2 (show z2.natAbs ≤ 4611686018427387904 by omega)) (show 10 ≤ 50000 by omega)
      go_wp2_with fail
      go_at_call 43
      refine (min_any (Da.more hha) (Dq.more hhq) (Nat.le_refl _) ls1 ls2).mono ?_
      rintro e w6 ⟨v6, rfl, D6, hb6⟩
      have hk6 := hk3.call hb6
      have hf6 := hk6.lt
      rw [dyMin_int] at D6
      rw [HV.out] at D6
      obtain ⟨nb6, A9, L9, c9, rfl, _⟩ := D6.form
      obtain ⟨y0, y1, y2, rz, k0, k1, k2, kf⟩ := SK.cells hk6
      go_wp2_with fail
      refine bodyPost_ret (res_rResult rfl (((rz.set_ 0 _).set_ 1 _).set_ 2 _)) rfl ⟨_, rfl, ?_, (((b0.trans (hk6.is.mono (by omega))).setCell (by simp) _).setCell (by simp) _).setCell (by simp) _⟩
      exact ((((D6.set_ (by omega) 0 _).set_ (by omega) 1 _).set_ (by omega) 2 _).low (by omega)).more (by simp)
set_option maxRecDepth 100000 in
set_option maxHeartbeats 4000000 in
theorem rRes_max (A B : Option Addr) (dst a b sa sb imm : Int) (cs inn : List Int) (c1 c2 m : Nat) (w : World) (hm : m ≤ w.heap.size) (hA : CellsAt w m A (ints cs)) (hB : CellsAt w m B (ints inn)) (ok : InsOk inn.length cs.length ⟨9, dst, a, b, sa, sb, imm⟩)
    (hcs : ∀ z ∈ cs, shortB z = true) (hin : ∀ z ∈ inn, shortB z = true) :
    Calls Try.prog 31 #[.agg #[.int .i64 9, .int .i64 dst, .int .i64 a, .int .i64 b, .int .i64 sa, .int .i64 sb, .int .i64 imm], .slice A cs.length c1, .slice B inn.length c2] w (ResPost w (resE ⟨9, dst, a, b, sa, sb, imm⟩ cs inn)) := by
  have hsa := ok.sa rfl
  have hsb := ok.sb rfl
  have ha : 0 ≤ a ∧ a < (cs.length : Int) := by simpa using ok.a rfl
  have hbb : 0 ≤ b ∧ b < (cs.length : Int) := by simpa using ok.b rfl
  obtain ⟨i, hi⟩ : ∃ i : Nat, a = (i : Int) := ⟨a.toNat, by have := ha; omega⟩
  subst hi
  have hil : i < cs.length := by have := ha; simp at this; omega
  obtain ⟨b1, o1, z1, e1, hb1, _, hg1, hc1⟩ := hA.int_ hil
  cases e1
  have hz1 := shortB_t (hcs z1 (List.mem_of_getElem? hg1))
  have hil : (i : Int) < (cs.length : Int) := by omega
  have b1s : b1 < w.heap.size + 1 := by omega
  obtain ⟨j, hj⟩ : ∃ j : Nat, b = (j : Int) := ⟨b.toNat, by have := hbb; omega⟩
  subst hj
  have hjl : j < cs.length := by have := hbb; simp at this; omega
  obtain ⟨b2, o2, z2, e2, hb2, _, hg2, hc2⟩ := hA.int_ hjl
  cases e2
  have hz2 := shortB_t (hcs z2 (List.mem_of_getElem? hg2))
  have hjl : (j : Int) < (cs.length : Int) := by omega
  have H1 := Lib.hid (show cs[((i : Int)).toNat]?.getD 0 = z1 by simp [hg1])
  have H2 := Lib.hid (show cs[((j : Int)).toNat]?.getD 0 = z2 by simp [hg2])
  clear ok ha hg1 hbb hg2
  have b0 : Below w.heap.size w ((w.alloc (.cells #[.int .i64 9, .int .i64 dst, .int .i64 (i : Int), .int .i64 (j : Int), .int .i64 sa, .int .i64 sb, .int .i64 imm] 49)).alloc (.cells #[.bool false, .slice none 0 0, .int .i64 0] 75)) := ext_alloc (ext_alloc (Below.refl _ _) _) _
  have r0 := (RowD.new_ w [.int .i64 9, .int .i64 dst, .int .i64 (i : Int), .int .i64 (j : Int), .int .i64 sa, .int .i64 sb, .int .i64 imm] 49).call ((Below.refl _ _).alloc (Nat.le_refl _) (.cells #[.bool false, .slice none 0 0, .int .i64 0] 75))
  have r1 := (RowD.new_ (w.alloc (.cells #[.int .i64 9, .int .i64 dst, .int .i64 (i : Int), .int .i64 (j : Int), .int .i64 sa, .int .i64 sb, .int .i64 imm] 49)) [.bool false, .slice none 0 0, .int .i64 0] 75)
  rw [show (w.alloc (.cells #[.int .i64 9, .int .i64 dst, .int .i64 (i : Int), .int .i64 (j : Int), .int .i64 sa, .int .i64 sb, .int .i64 imm] 49)).heap.size = w.heap.size + 1 by simp] at r1
  go_enter Try.func31, Try.ntmps31
  go_wp2_with fail
  obtain ⟨W, hW⟩ : ∃ W, W = ((w.alloc (.cells #[.int .i64 9, .int .i64 dst, .int .i64 (i : Int), .int .i64 (j : Int), .int .i64 sa, .int .i64 sb, .int .i64 imm] 49)).alloc (.cells #[.bool false, .slice none 0 0, .int .i64 0] 75)) := ⟨_, rfl⟩
  have hWs : W.heap.size = w.heap.size + 2 := by rw [hW]; simp
  rw [← hW]
  rw [← hW] at b0 r0 r1
  clear hW
  have hk : SK W (w.heap.size + 1) (w.heap.size + 1) W := SK.refl (by omega) ⟨_, _, _, r1⟩
  have x0 : W.cell? ⟨w.heap.size, 0, none⟩ = some (.int .i64 9) := r0.cell 0
  have x1 : W.cell? ⟨w.heap.size, 1, none⟩ = some (.int .i64 dst) := r0.cell 1
  have x2 : W.cell? ⟨w.heap.size, 2, none⟩ = some (.int .i64 (i : Int)) := r0.cell 2
  have x3 : W.cell? ⟨w.heap.size, 3, none⟩ = some (.int .i64 (j : Int)) := r0.cell 3
  have x4 : W.cell? ⟨w.heap.size, 4, none⟩ = some (.int .i64 sa) := r0.cell 4
  have x5 : W.cell? ⟨w.heap.size, 5, none⟩ = some (.int .i64 sb) := r0.cell 5
  have x6 : W.cell? ⟨w.heap.size, 6, none⟩ = some (.int .i64 imm) := r0.cell 6
  have hWs2 : w.heap.size + 2 ≤ W.heap.size := Nat.le_of_eq hWs.symm
  clear hWs
  have hc1' : W.cell? ⟨b1, o1 + i, none⟩ = some (.int .i64 z1) := (b0.cell (p := ⟨b1, o1 + i, none⟩) (Nat.lt_of_lt_of_le hb1 hm)).trans hc1
  clear hc1
  have hc2' : W.cell? ⟨b1, o1 + j, none⟩ = some (.int .i64 z2) := (b0.cell (p := ⟨b1, o1 + j, none⟩) (Nat.lt_of_lt_of_le hb1 hm)).trans hc2
  clear hc2
  go_cut [7] (fun s wx => ∃ g h, s = .pointer (some ⟨g, 0, none⟩) ∧ VarD wx (w.heap.size + 2) h g (shE z1 sa) ∧ SK W (w.heap.size + 1) (w.heap.size + 1) wx)
  case first =>
    have rowA : RowD ((W.alloc (.cells #[.bool false, .slice none 0 0, .int .i64 0] 75)).drew) W.heap.size [.bool false, .slice none 0 0, .int .i64 0] 75 := RowD.new_ W _ _
    have hcs2 : w.heap.size + 2 ≤ W.heap.size := by have := hk.lt; omega
    go_region_held3 (fun w' => (∀ b o, b < w.heap.size + 1 → w'.cell? ⟨b, o, none⟩ = W.cell? ⟨b, o, none⟩) ∧ SK W (w.heap.size + 1) (w.heap.size + 1) w')
      (first
        | (refine SK.all ?_
           first
             | assumption
             | exact hk
             | exact hk.drew
             | exact (hk.alloc _).drew
             | exact SK.alloc (by assumption) _
             | exact ((SK.set_hi (by assumption) (by omega) (by omega) _ _).set_hi (by omega) (by omega) _ _).set_hi (by omega) (by omega) _ _
             | exact (((SK.alloc (by assumption) _).set_hi (by omega) (by omega) _ _).set_hi (by omega) (by omega) _ _).set_hi (by omega) (by omega) _ _))
      ((go_at_call 38; refine (rShift_any z1 sa _ hsa.1 hsa.2 (by omega)).mono ?_; (rintro e w6 ⟨v6, rfl, D6, hb6⟩; have hk6 := SK.call (by first | exact hk.drew | exact (hk.alloc _).drew) hb6; have hf6 := hk6.lt; have hcw6 : W.heap.size ≤ w6.heap.size := (by have := hb6.size; simp at this; omega); obtain ⟨nb6, A9, L9, c9, rfl, _⟩ := D6.form; (try (have rowB := rowA.call hb6; have y0 : w6.cell? ⟨W.heap.size, 0, none⟩ = some (.bool false) := rowB.cell 0; have y1 : w6.cell? ⟨W.heap.size, 1, none⟩ = some (.slice none 0 0) := rowB.cell 1; have y2 : w6.cell? ⟨W.heap.size, 2, none⟩ = some (.int .i64 0) := rowB.cell 2; have yf := rowB.free)))))
    all_goals
      go_wp2_with fail
      go_meet
      first
        | exact ⟨w6.heap.size, w6.heap.size + 1, rfl, VarD.new_ D6 (by simpa using hcs2) (Nat.le_refl _), hk6.alloc _⟩
        | exact ⟨W.heap.size, w6.heap.size, rfl, VarD.old_ D6 rowB (by simp) (by simp; omega) (Nat.le_refl _), ((hk6.set_hi (by omega) (by omega) _ _).set_hi (by omega) (by omega) _ _).set_hi (by omega) (by omega) _ _⟩
  case rest =>
    obtain ⟨g1, h1, rfl, VA, hk2⟩ := hcut
    obtain ⟨wd, hwd⟩ : ∃ wd, wd = wc := ⟨_, rfl⟩
    rw [← hwd]
    rw [← hwd] at VA hk2
    clear hwd
    have wd0 : wd.cell? ⟨w.heap.size, 0, none⟩ = some (.int .i64 9) := (hk2.all.1 _ _ (by omega)).trans x0
    have wd1 : wd.cell? ⟨w.heap.size, 1, none⟩ = some (.int .i64 dst) := (hk2.all.1 _ _ (by omega)).trans x1
    have wd2 : wd.cell? ⟨w.heap.size, 2, none⟩ = some (.int .i64 (i : Int)) := (hk2.all.1 _ _ (by omega)).trans x2
    have wd3 : wd.cell? ⟨w.heap.size, 3, none⟩ = some (.int .i64 (j : Int)) := (hk2.all.1 _ _ (by omega)).trans x3
    have wd4 : wd.cell? ⟨w.heap.size, 4, none⟩ = some (.int .i64 sa) := (hk2.all.1 _ _ (by omega)).trans x4
    have wd5 : wd.cell? ⟨w.heap.size, 5, none⟩ = some (.int .i64 sb) := (hk2.all.1 _ _ (by omega)).trans x5
    have wd6 : wd.cell? ⟨w.heap.size, 6, none⟩ = some (.int .i64 imm) := (hk2.all.1 _ _ (by omega)).trans x6
    have hd1 : wd.cell? ⟨b1, o1 + j, none⟩ = some (.int .i64 z2) := (hk2.all.1 _ _ (by omega)).trans hc2'
    have hh1 := VA.2.1
    have hhg := VA.1
    go_wp2_with fail
    go_cut [8] (fun s wx => ∃ g h, s = .pointer (some ⟨g, 0, none⟩) ∧ VarD wx (w.heap.size + 2) h g (shE z2 sb) ∧ SK W (w.heap.size + 1) (w.heap.size + 1) wx ∧ VarD wx (w.heap.size + 2) h1 g1 (shE z1 sa))
    case first =>
      have rowA : RowD ((wd.alloc (.cells #[.bool false, .slice none 0 0, .int .i64 0] 75)).drew) wd.heap.size [.bool false, .slice none 0 0, .int .i64 0] 75 := RowD.new_ wd _ _
      have hcs2 : w.heap.size + 2 ≤ wd.heap.size := by have := hk2.lt; omega
      go_region_held3 (fun w' => (∀ b o, b < w.heap.size + 1 → w'.cell? ⟨b, o, none⟩ = W.cell? ⟨b, o, none⟩) ∧ SK W (w.heap.size + 1) (w.heap.size + 1) w')
        (first
          | (refine SK.all ?_
             first
               | assumption
               | exact hk2
               | exact hk2.drew
               | exact (hk2.alloc _).drew
               | exact SK.alloc (by assumption) _
               | exact ((SK.set_hi (by assumption) (by omega) (by omega) _ _).set_hi (by omega) (by omega) _ _).set_hi (by omega) (by omega) _ _
               | exact (((SK.alloc (by assumption) _).set_hi (by omega) (by omega) _ _).set_hi (by omega) (by omega) _ _).set_hi (by omega) (by omega) _ _))
        ((go_at_call 38; refine (rShift_any z2 sb _ hsb.1 hsb.2 (by omega)).mono ?_; (rintro e w6 ⟨v6, rfl, D6, hb6⟩; have hk6 := SK.call (by first | exact hk2.drew | exact (hk2.alloc _).drew) hb6; have hf6 := hk6.lt; have hcw6 : wd.heap.size ≤ w6.heap.size := (by have := hb6.size; simp at this; omega); obtain ⟨nb6, A9, L9, c9, rfl, _⟩ := D6.form; (try (have rowB := rowA.call hb6; have y0 : w6.cell? ⟨wd.heap.size, 0, none⟩ = some (.bool false) := rowB.cell 0; have y1 : w6.cell? ⟨wd.heap.size, 1, none⟩ = some (.slice none 0 0) := rowB.cell 1; have y2 : w6.cell? ⟨wd.heap.size, 2, none⟩ = some (.int .i64 0) := rowB.cell 2; have yf := rowB.free)))))
      all_goals
        go_wp2_with fail
        go_meet
        first
          | exact ⟨w6.heap.size, w6.heap.size + 1, rfl, VarD.new_ D6 (by simpa using hcs2) (Nat.le_refl _), hk6.alloc _, (VA.call (Below.refl _ _).drew).call hb6 |>.call (al_ _ _)⟩
          | exact ⟨wd.heap.size, w6.heap.size, rfl, VarD.old_ D6 rowB (by simp) (by simp; omega) (Nat.le_refl _), ((hk6.set_hi (by omega) (by omega) _ _).set_hi (by omega) (by omega) _ _).set_hi (by omega) (by omega) _ _, ((((((VA.call (al_ _ _)).call (Below.refl _ _).drew).call hb6).set_ (by omega) _ _).set_ (by omega) _ _).set_ (by omega) _ _)⟩
    case rest =>
      obtain ⟨g2, h2, rfl, VB, hk3, VA3⟩ := hcut
      have HV := Lib.hid (show max (shE z1 sa) (shE z2 sb) = resE ⟨9, dst, (i : Int), (j : Int), sa, sb, imm⟩ cs inn by
        simp only [resE, H1.out, H2.out]
        rfl)
      have hf2 := hk3.lt
      have wc0 : wc.cell? ⟨w.heap.size, 0, none⟩ = some (.int .i64 9) := (hk3.all.1 _ _ (by omega)).trans x0
      have wc1 : wc.cell? ⟨w.heap.size, 1, none⟩ = some (.int .i64 dst) := (hk3.all.1 _ _ (by omega)).trans x1
      have wc2 : wc.cell? ⟨w.heap.size, 2, none⟩ = some (.int .i64 (i : Int)) := (hk3.all.1 _ _ (by omega)).trans x2
      have wc3 : wc.cell? ⟨w.heap.size, 3, none⟩ = some (.int .i64 (j : Int)) := (hk3.all.1 _ _ (by omega)).trans x3
      have wc4 : wc.cell? ⟨w.heap.size, 4, none⟩ = some (.int .i64 sa) := (hk3.all.1 _ _ (by omega)).trans x4
      have wc5 : wc.cell? ⟨w.heap.size, 5, none⟩ = some (.int .i64 sb) := (hk3.all.1 _ _ (by omega)).trans x5
      have wc6 : wc.cell? ⟨w.heap.size, 6, none⟩ = some (.int .i64 imm) := (hk3.all.1 _ _ (by omega)).trans x6
      obtain ⟨hga, hha, nba, Pa, Qa, Ra, rowa, Da⟩ := VA3
      have a0 : wc.cell? ⟨g1, 0, none⟩ = some (.bool nba) := rowa.cell 0
      have a1 : wc.cell? ⟨g1, 1, none⟩ = some (.slice Pa Qa Ra) := rowa.cell 1
      have a2 : wc.cell? ⟨g1, 2, none⟩ = some (.int .i64 0) := rowa.cell 2
      obtain ⟨hgq, hhq, nbq, Pq, Qq, Rq, rowq, Dq⟩ := VB
      have q0 : wc.cell? ⟨g2, 0, none⟩ = some (.bool nbq) := rowq.cell 0
      have q1 : wc.cell? ⟨g2, 1, none⟩ = some (.slice Pq Qq Rq) := rowq.cell 1
      have q2 : wc.cell? ⟨g2, 2, none⟩ = some (.int .i64 0) := rowq.cell 2
      have ls1 := Nat.le_trans (sh_len hsa.1 hsa.2 (show z1.natAbs ≤ 4611686018427387904 by omega)) (show 10 ≤ 50000 by omega)
      have ls2 := Nat.le_trans (sh_len hsb.1 hsb.2 (show z2.natAbs ≤ 4611686018427387904 by omega)) (show 10 ≤ 50000 by omega)
      go_wp2_with fail
      go_at_call 44
      refine (max_any (Da.more hha) (Dq.more hhq) (Nat.le_refl _) ls1 ls2).mono ?_
      rintro e w6 ⟨v6, rfl, D6, hb6⟩
      have hk6 := hk3.call hb6
      have hf6 := hk6.lt
      rw [dyMax_int] at D6
      rw [HV.out] at D6
      obtain ⟨nb6, A9, L9, c9, rfl, _⟩ := D6.form
      obtain ⟨y0, y1, y2, rz, k0, k1, k2, kf⟩ := SK.cells hk6
      go_wp2_with fail
      refine bodyPost_ret (res_rResult rfl (((rz.set_ 0 _).set_ 1 _).set_ 2 _)) rfl ⟨_, rfl, ?_, (((b0.trans (hk6.is.mono (by omega))).setCell (by simp) _).setCell (by simp) _).setCell (by simp) _⟩
      exact ((((D6.set_ (by omega) 0 _).set_ (by omega) 1 _).set_ (by omega) 2 _).low (by omega)).more (by simp)
end Go.Proofs.Ytdhlmbnmgioeeaa
