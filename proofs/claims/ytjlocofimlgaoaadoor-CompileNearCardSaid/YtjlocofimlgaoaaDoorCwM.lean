/- A run of a program that is accepted, told on values. No conditions. What a program writes; inputs moved into the ports' ranges; told on values. No conditions. The law CompileCells on values. No conditions. -/
import Derived.Test.YtjlocofimlgaoaaDoorCwJ
import Derived.Test.YtjlocofimlgaoaaDoorCom
namespace Go.Proofs.YtjlocofimlgaoaaDoor
set_option linter.unusedVariables false
set_option linter.unusedSimpArgs false
set_option linter.unusedSectionVars false
open Go.RowKit Cd
theorem cw_cutK {P : Program} {G : World → Prop} {N : Nat} {x y : Code} {F : Frm} {H : List Ob} {Q : Post} (K : Frm → List Ob → Prop) (h : CW P G N x F H (thenC (wkC N K) Q)) (k : ∀ F' H', K F' H' → CW P G N y F' H' Q) : CW P G N x F H (thenC (fun F' H' => CW P G N y F' H' Q) Q) :=
  cw_mono h fun e F H h3 => by
    cases e with
    | normal =>
      obtain ⟨F3, H3, k4, hK⟩ := h3
      exact cw_wk k4 (k _ _ hK)
    | _ => exact h3
theorem vshort_cv (n : Int) : CVF Tryd.prog TabAt 56 [aI n] [aB (shortB n)] := fun w S vs hg hlt ha => by
  obtain ⟨u, hu, h2⟩ := one_arg ha
  subst hu
  cases h2
  refine (short_any n w).mono fun r w' ⟨he, hw⟩ => ?_
  subst hw
  exact ⟨_, he, DRel.val rfl, Below.refl _ _⟩
theorem vscaled_cv (x : Int) {k : Int} (h1 : -62 ≤ k) (h2 : k ≤ 30) : CVF Tryd.prog TabAt 59 [aI x, aI k] [aI (scl x k)] := fun w S vs hg hlt ha => by
  obtain ⟨v, vs', rfl, q1, ha⟩ := ha.uncons
  obtain ⟨u, hu, q2⟩ := one_arg ha
  subst hu
  cases q1
  cases q2
  refine (scaled_any x k w h1 h2).mono fun r w' ⟨he, hw⟩ => ?_
  subst hw
  exact ⟨_, he, DRel.val rfl, Below.refl _ _⟩
/-- What an instruction's operation gives, before it is cut to 32 bits. -/
def insV (x : Ins) (cs inn : List Int) : Int :=
  if x.op = 0 then scl (inn[x.a.toNat]?.getD 0) x.sa
  else if x.op = 1 then x.imm
  else if x.op = 2 then scl (cs[x.a.toNat]?.getD 0) x.sa
  else if x.op = 3 then scl (cs[x.a.toNat]?.getD 0) x.sa + scl (cs[x.b.toNat]?.getD 0) x.sb
  else if x.op = 4 then scl (cs[x.a.toNat]?.getD 0) x.sa - scl (cs[x.b.toNat]?.getD 0) x.sb
  else if x.op = 5 then -scl (cs[x.a.toNat]?.getD 0) x.sa
  else if x.op = 6 then scl (cs[x.a.toNat]?.getD 0 * x.imm) x.sa
  else if x.op = 7 then scl (cs[x.a.toNat]?.getD 0 * cs[x.b.toNat]?.getD 0) x.sa
  else if x.op = 8 then min (scl (cs[x.a.toNat]?.getD 0) x.sa) (scl (cs[x.b.toNat]?.getD 0) x.sb)
  else if x.op = 9 then max (scl (cs[x.a.toNat]?.getD 0) x.sa) (scl (cs[x.b.toNat]?.getD 0) x.sb)
  else max (scl (cs[x.a.toNat]?.getD 0) x.sa) (-scl (cs[x.a.toNat]?.getD 0) x.sa)
section
variable {x : Ins} {cs inn : List Int} {w y : Int}
theorem iv_in (h : x.op = 0) (hw : inn[x.a.toNat]? = some w) : insV x cs inn = scl w x.sa := by simp [insV, h, hw]
theorem iv_const (h : x.op = 1) : insV x cs inn = x.imm := by simp [insV, h]
theorem iv_move (h : x.op = 2) (hw : cs[x.a.toNat]? = some w) : insV x cs inn = scl w x.sa := by simp [insV, h, hw]
theorem iv_add (h : x.op = 3) (hw : cs[x.a.toNat]? = some w) (hy : cs[x.b.toNat]? = some y) : insV x cs inn = scl w x.sa + scl y x.sb := by simp [insV, h, hw, hy]
theorem iv_sub (h : x.op = 4) (hw : cs[x.a.toNat]? = some w) (hy : cs[x.b.toNat]? = some y) : insV x cs inn = scl w x.sa - scl y x.sb := by simp [insV, h, hw, hy]
theorem iv_neg (h : x.op = 5) (hw : cs[x.a.toNat]? = some w) : insV x cs inn = -scl w x.sa := by simp [insV, h, hw]
theorem iv_gain (h : x.op = 6) (hw : cs[x.a.toNat]? = some w) : insV x cs inn = scl (w * x.imm) x.sa := by simp [insV, h, hw]
theorem iv_mul (h : x.op = 7) (hw : cs[x.a.toNat]? = some w) (hy : cs[x.b.toNat]? = some y) : insV x cs inn = scl (w * y) x.sa := by simp [insV, h, hw, hy]
theorem iv_min (h : x.op = 8) (hw : cs[x.a.toNat]? = some w) (hy : cs[x.b.toNat]? = some y) : insV x cs inn = min (scl w x.sa) (scl y x.sb) := by simp [insV, h, hw, hy]
theorem iv_max (h : x.op = 9) (hw : cs[x.a.toNat]? = some w) (hy : cs[x.b.toNat]? = some y) : insV x cs inn = max (scl w x.sa) (scl y x.sb) := by simp [insV, h, hw, hy]
theorem iv_abs (h : x.op = 10) (hw : cs[x.a.toNat]? = some w) : insV x cs inn = max (scl w x.sa) (-scl w x.sa) := by simp [insV, h, hw]
end
def cutV (n : Int) : Int := max (-2147483648) (min n 2147483647)
theorem cutV_in {n : Int} (h : shortB n = true) : cutV n = n := by have := shortB_t h; unfold cutV; omega
theorem cutV_short (n : Int) : shortB (cutV n) = true := by unfold shortB cutV; rw [decide_eq_true_eq]; omega
def stepV (inn : List Int) (st : List Int × Bool) (x : Ins) : List Int × Bool := (st.1.set x.dst.toNat (cutV (insV x st.1 inn)), st.2 || !shortB (insV x st.1 inn))
def runV (inn : List Int) (xs : List Ins) (cs : List Int) : List Int × Bool := xs.foldl (stepV inn) (cs, false)
theorem runV_snoc (inn : List Int) (xs : List Ins) (x : Ins) (cs : List Int) : runV inn (xs ++ [x]) cs = stepV inn (runV inn xs cs) x := by simp [runV, List.foldl_append]
theorem runV_step {inn : List Int} {xs : List Ins} {cs : List Int} {k : Nat} {x : Ins} (h : xs[k]? = some x) : runV inn (xs.take (k + 1)) cs = ((runV inn (xs.take k) cs).1.set x.dst.toNat (cutV (insV x (runV inn (xs.take k) cs).1 inn)), (runV inn (xs.take k) cs).2 || !shortB (insV x (runV inn (xs.take k) cs).1 inn)) := by
  rw [List.take_add_one, h]
  exact runV_snoc _ _ _ _
theorem runV_len (inn : List Int) (xs : List Ins) (cs : List Int) : (runV inn xs cs).1.length = cs.length := by
  unfold runV
  suffices h : ∀ (l : List Ins) (st : List Int × Bool), (l.foldl (stepV inn) st).1.length = st.1.length from h xs (cs, false)
  intro l
  induction l with
  | nil => exact fun _ => rfl
  | cons x l ih =>
    intro st
    rw [List.foldl_cons, ih]
    simp [stepV]
theorem runV_short {inn : List Int} {xs : List Ins} {cs : List Int} (h : ∀ z ∈ cs, shortB z = true) : ∀ z ∈ (runV inn xs cs).1, -2147483648 ≤ z ∧ z < 2147483648 := by
  suffices hh : ∀ (l : List Ins) (st : List Int × Bool), (∀ z ∈ st.1, shortB z = true) → ∀ z ∈ (l.foldl (stepV inn) st).1, shortB z = true from fun z hz => shortB_t (hh xs (cs, false) h z hz)
  intro l
  induction l with
  | nil => exact fun _ h => h
  | cons x l ih =>
    intro st hst
    refine ih _ fun z hz => ?_
    rcases List.mem_or_eq_of_mem_set hz with hz | rfl
    · exact hst z hz
    · exact cutV_short _
def outsV (C os : List Int) : List Int := os.map fun o => C[o.toNat]?.getD 0
theorem outsV_step {C os : List Int} {k : Nat} {o w : Int} (h : os[k]? = some o) (hw : C[o.toNat]? = some w) : outsV C (os.take (k + 1)) = outsV C (os.take k) ++ [w] := by
  rw [List.take_add_one, h]
  simp [outsV, hw]
theorem outsV_len (C os : List Int) (k : Nat) : (outsV C (os.take k)).length ≤ k := by simp [outsV]; omega
theorem mul_fit {x y : Int} (x0 : -2147483648 ≤ x) (x1 : x < 2147483648) (y0 : -2147483648 ≤ y) (y1 : y < 2147483648) : -9223372036854775808 ≤ x * y ∧ x * y ≤ 9223372036854775807 := by
  have h : (x * y).natAbs ≤ 2147483648 * 2147483648 := by
    rw [Int.natAbs_mul]
    exact Nat.mul_le_mul (by omega) (by omega)
  omega
theorem scl_fit {x k : Int} (x0 : -2147483648 ≤ x) (x1 : x < 2147483648) (h1 : -62 ≤ k) (h2 : k ≤ 30) : -2305843009213693952 ≤ scl x k ∧ scl x k ≤ 2305843009213693952 := by
  unfold scl
  split
  · have := abs_div_le (x := x) (-k).toNat
    omega
  · rw [show max (-4294967296) (min x 4294967296) = x by omega]
    have h : (x * 2 ^ k.toNat).natAbs ≤ 2147483648 * 2 ^ 30 := by
      rw [Int.natAbs_mul, Int.natAbs_pow]
      exact Nat.mul_le_mul (by omega) (Nat.pow_le_pow_right (by decide) (by omega))
    omega
theorem prog_len {ps : List Prt} {is : List Int} {xs : List Ins} {os : List Int} (h : progErr ps is xs os = 0) : ps.length ≤ 16 ∧ is.length ≤ 192 ∧ xs.length ≤ 256 ∧ os.length ≤ 16 := Classical.byContradiction fun hn => by
  unfold progErr at h
  rw [if_pos hn] at h
  cases h
theorem prog_zero {ps : List Prt} {is : List Int} {xs : List Ins} {os : List Int} (h : progErr ps is xs os = 0) : ∀ e ∈ ps.map portErr ++ (is.map initErr ++ (xs.map (Ins.err ps.length is.length) ++ os.map (outErr is.length))), e = 0 := by
  have hl := prog_len h
  unfold progErr at h
  rw [if_neg (not_not_intro hl)] at h
  exact firstErr_zero h
theorem out_facts {ps : List Prt} {is : List Int} {xs : List Ins} {os : List Int} {k : Nat} {o : Int} (h : progErr ps is xs os = 0) (ho : os[k]? = some o) : 0 ≤ o ∧ o < is.length := by
  have := prog_zero h (outErr is.length o) (by simp only [List.mem_append, List.mem_map]; exact .inr (.inr (.inr ⟨o, List.mem_of_getElem? ho, rfl⟩)))
  unfold outErr at this
  exact Classical.byContradiction fun hn => by rw [if_neg hn] at this; cases this
theorem ins_facts {ps : List Prt} {is : List Int} {xs : List Ins} {os : List Int} {k : Nat} {x : Ins} (h : progErr ps is xs os = 0) (hx : xs[k]? = some x) :
    (x.op = 0 ∨ x.op = 1 ∨ x.op = 2 ∨ x.op = 3 ∨ x.op = 4 ∨ x.op = 5 ∨ x.op = 6 ∨ x.op = 7 ∨ x.op = 8 ∨ x.op = 9 ∨ x.op = 10) ∧ 0 ≤ x.dst ∧ x.dst < is.length ∧
    (x.op ≠ 1 → 0 ≤ x.a ∧ x.a < (if x.op = 0 then (ps.length : Int) else is.length) ∧ -62 ≤ x.sa ∧ x.sa ≤ 30) ∧
    ((x.op = 3 ∨ x.op = 4 ∨ x.op = 7 ∨ x.op = 8 ∨ x.op = 9) → 0 ≤ x.b ∧ x.b < is.length ∧ (x.op ≠ 7 → -62 ≤ x.sb ∧ x.sb ≤ 30)) ∧
    ((x.op = 1 ∨ x.op = 6) → -2147483648 ≤ x.imm ∧ x.imm < 2147483648) := by
  have h0 : insErr ps.length is.length x.op x.dst x.a x.b x.sa x.sb x.imm = 0 := prog_zero h (Ins.err ps.length is.length x) (by simp only [List.mem_append, List.mem_map]; exact .inr (.inr (.inl ⟨x, List.mem_of_getElem? hx, rfl⟩)))
  have hu : (usesR x.op).2.2.2.2.2 = true := by
    cases hb : (usesR x.op).2.2.2.2.2 with
    | true => rfl
    | false => unfold insErr at h0; rw [if_pos hb] at h0; cases h0
  have hop : x.op = 0 ∨ x.op = 1 ∨ x.op = 2 ∨ x.op = 3 ∨ x.op = 4 ∨ x.op = 5 ∨ x.op = 6 ∨ x.op = 7 ∨ x.op = 8 ∨ x.op = 9 ∨ x.op = 10 := by
    unfold usesR at hu
    (repeat' split at hu) <;> first | omega | (simp at hu)
  have sh : ∀ n : Int, ¬ (shiftB n = false) → -62 ≤ n ∧ n ≤ 30 := fun n hn => by
    have : shiftB n = true := by cases hb : shiftB n with | true => rfl | false => exact absurd hb hn
    simpa [shiftB] using this
  have si : ∀ n : Int, ¬ (shortB n = false) → -2147483648 ≤ n ∧ n < 2147483648 := fun n hn => by
    have : shortB n = true := by cases hb : shortB n with | true => rfl | false => exact absurd hb hn
    exact shortB_t this
  unfold insErr at h0
  rw [if_neg (by rw [hu]; decide)] at h0
  by_cases c1 : ¬ (0 ≤ x.dst ∧ x.dst < is.length)
  · rw [if_pos c1] at h0; cases h0
  rw [if_neg c1] at h0
  by_cases c2 : (usesR x.op).1 = true ∧ ¬ (0 ≤ x.a ∧ x.a < (if x.op = 0 then (ps.length : Int) else is.length))
  · rw [if_pos c2] at h0; cases h0
  rw [if_neg c2] at h0
  by_cases c3 : (usesR x.op).2.1 = true ∧ ¬ (0 ≤ x.b ∧ x.b < is.length)
  · rw [if_pos c3] at h0; cases h0
  rw [if_neg c3] at h0
  by_cases c4 : (usesR x.op).2.2.1 = true ∧ shiftB x.sa = false
  · rw [if_pos c4] at h0; cases h0
  rw [if_neg c4] at h0
  by_cases c5 : (usesR x.op).2.2.2.1 = true ∧ shiftB x.sb = false
  · rw [if_pos c5] at h0; cases h0
  rw [if_neg c5] at h0
  by_cases c6 : (usesR x.op).2.2.2.2.1 = true ∧ shortB x.imm = false
  · rw [if_pos c6] at h0; cases h0
  have c1' := Classical.not_not.1 c1
  refine ⟨hop, c1'.1, c1'.2, fun h1 => ?_, fun h1 => ?_, fun h1 => ?_⟩
  · have ua : (usesR x.op).1 = true ∧ (usesR x.op).2.2.1 = true := by rcases hop with h | h | h | h | h | h | h | h | h | h | h <;> first | exact absurd h h1 | (rw [h]; exact ⟨rfl, rfl⟩)
    have ha : 0 ≤ x.a ∧ x.a < (if x.op = 0 then (ps.length : Int) else is.length) := Classical.byContradiction fun hn => c2 ⟨ua.1, hn⟩
    have hs := sh x.sa fun hn => c4 ⟨ua.2, hn⟩
    exact ⟨ha.1, ha.2, hs.1, hs.2⟩
  · have ub : (usesR x.op).2.1 = true := by rcases h1 with h | h | h | h | h <;> (rw [h]; rfl)
    have hb : 0 ≤ x.b ∧ x.b < is.length := Classical.byContradiction fun hn => c3 ⟨ub, hn⟩
    refine ⟨hb.1, hb.2, fun h7 => sh x.sb fun hn => c5 ⟨?_, hn⟩⟩
    rcases h1 with h | h | h | h | h <;> first | exact absurd h h7 | (rw [h]; rfl)
  · have ui : (usesR x.op).2.2.2.2.1 = true := by rcases h1 with h | h <;> (rw [h]; rfl)
    exact si x.imm fun hn => c6 ⟨ui, hn⟩

set_option maxRecDepth 100000 in
set_option maxHeartbeats 8000000 in
theorem run_cv (t u v : Bool) {ps : List Prt} {is : List Int} {xs : List Ins} {os cs inn : List Int} (hp : progErr ps is xs os = 0) (hcl : cs.length = is.length) (hs : ∀ z ∈ cs, shortB z = true) (hil : inn.length = ps.length) (hr : ∀ (k : Nat) (p : Prt) (z : Int), ps[k]? = some p → inn[k]? = some z → p.lo ≤ z ∧ z ≤ p.hi) :
    CV Tryd.prog TabAt 25 [aProg t ps is xs os, .one (rowI u cs), .one (rowI v inn)] [.agg [rowI false (runV inn xs cs).1, rowI false (outsV (runV inn xs cs).1 os), .val (.bool (runV inn xs cs).2)], aE 0] := by
  refine cv_of tab_G Tryd.func25 rfl Tryd.ntmps25 (Nat.le_of_ble_eq_true rfl) ?_
  obtain ⟨hp1, hi1, hx1, ho1⟩ := prog_len hp
  have CK := pcheck_t t (Nat.le_trans hp1 (by decide)) (Nat.le_trans hi1 (by decide)) (Nat.le_trans hx1 (by decide)) (Nat.le_trans ho1 (by decide)) hp
  repeat' (with_reducible first | apply qa | apply qb | apply qc | apply qd | apply qe | apply qf | apply qg | apply qh | apply qi | apply qj | apply qk | apply ql rfl | apply qm rfl | apply qn rfl | (refine Tx 0 ?_; refine Jn xBo ?_; refine Jn (by exact ok_alloc rfl tz_CodeRun) ?_; refine Ja ?_; refine Je ?_) | (refine Tx 1 ?_; refine Jo (xLa tk_Program) ?_; refine Jo (xCl Tryd.func22 (CK)) ?_; refine Ja ?_; refine Je ?_) | (refine Tx 2 ?_; refine Jm ?_; refine Jo (by first | exact ok_neqE rfl ti_error rfl (bne_f (by first | rfl | omega)) | exact ok_neqE rfl ti_error rfl (bne_t (by first | assumption | omega)) | exact ok_neqE rfl ti_error rfl rfl) ?_; refine Je ?_) | (refine Tx 4 ?_; refine Jm ?_; refine Jo (xLn ts_s_int) ?_; refine Jo (xFa tf_Program1 tk_s_int) ?_; refine Jo (xLd tk_s_int) ?_; refine Jo (xLn ts_s_int) ?_; refine Jo xNe ?_; refine Je ?_) | (refine Tx 6 ?_; refine Jm ?_; refine Jo (xLn ts_s_int) ?_; refine Jm ?_; refine Je ?_))
  refine cw_wk (F' := ofL [(1, vd (rowI u cs)), (2, vd (rowI v inn)), (3, vr 0), (6, vr 1), (33, vd (rowI u cs)), (34, vi cs.length), (35, vi ((0 : Nat)))]) (H' := [.box 50 [.d (rowP t ps), .d (rowI t is), .d (rowN t xs), .d (rowI t os)], .box 63 [.d (.val (.slice none 0 0)), .d (.val (.slice none 0 0)), .d (.val (.bool false))]]) (wk_go [(1, vd (rowI u cs)), (2, vd (rowI v inn)), (3, vr 0), (6, vr 1), (33, vd (rowI u cs)), (34, vi cs.length), (35, vi ((0 : Nat)))] 2 ?_ ?_ ?_) ?_
  · rfl
  · exact mB rfl rfl
  · exact ⟨bel_lit rfl, bel_lit rfl, trivial⟩
  refine cw_loopW (fun n Fr H => ∃ k : Nat, k ≤ cs.length ∧ n = cs.length - k ∧ Fr = ofL [(1, vd (rowI u cs)), (2, vd (rowI v inn)), (3, vr 0), (6, vr 1), (33, vd (rowI u cs)), (34, vi cs.length), (35, vi ((k : Nat)))] ∧ H = [.box 50 [.d (rowP t ps), .d (rowI t is), .d (rowN t xs), .d (rowI t os)], .box 63 [.d (.val (.slice none 0 0)), .d (.val (.slice none 0 0)), .d (.val (.bool false))]]) (n0 := cs.length) ⟨0, Nat.zero_le _, rfl, rfl, rfl⟩ ?_
  rintro n Fr H ⟨k, hk, rfl, rfl, rfl⟩
  by_cases hlt : k < cs.length
  case pos =>
    obtain ⟨z, hz⟩ : ∃ z, cs[k]? = some z := ⟨_, List.getElem?_eq_getElem hlt⟩
    have SH := vshort_cv z
    rw [hs z (List.mem_of_getElem? hz)] at SH
    repeat' (with_reducible first | apply qa | apply qb | apply qc | apply qd | apply qe | apply qf | apply qg | apply qh | apply qi | apply qj | apply qk | apply ql rfl | apply qm rfl | apply qn rfl | (refine Tx 7 ?_; refine Jo xLt ?_; refine Je ?_) | (refine Tx 8 ?_; refine Jo (xIr ts_s_int (int_at hz)) ?_; refine Jo (xLd tk_int) ?_; refine Ja ?_; refine Je ?_) | (refine Tx 9 ?_; refine Jm ?_; refine Jo (xCl Tryd.func56 (SH.cv)) ?_; refine Jo (by first | exact ok_not rfl rfl | exact ok_neg64 rfl rfl (by omega)) ?_; refine Je ?_) | (refine Tx 11 ?_; refine Jo xAd ?_; refine Jm ?_; refine Je ?_))
    refine ⟨_, _, wk_go [(1, vd (rowI u cs)), (2, vd (rowI v inn)), (3, vr 0), (6, vr 1), (33, vd (rowI u cs)), (34, vi cs.length), (35, vi (((k + 1) : Nat)))] 2 ?_ ?_ ?_, _, ?_, k + 1, by omega, rfl, rfl, rfl⟩
    · rfl
    · exact mB rfl rfl
    · exact ⟨bel_lit rfl, bel_lit rfl, trivial⟩
    · omega
  repeat' (with_reducible first | apply qa | apply qb | apply qc | apply qd | apply qe | apply qf | apply qg | apply qh | apply qi | apply qj | apply qk | apply ql rfl | apply qm rfl | apply qn rfl | (refine Tx 7 ?_; refine Jo xLt ?_; refine Je ?_) | (refine Tx 12 ?_; refine Jm ?_; refine Jo (xLn ts_s_int) ?_; refine Jo (xFa tf_Program0 tk_s_Port) ?_; refine Jo (xLd tk_s_Port) ?_; refine Jo (xLn ts_s_Port) ?_; refine Jo xNe ?_; refine Je ?_) | (refine Tx 14 ?_; refine Jm ?_; refine Jo (xLn ts_s_int) ?_; refine Jm ?_; refine Je ?_))
  refine cw_wk (F' := ofL [(1, vd (rowI u cs)), (2, vd (rowI v inn)), (3, vr 0), (6, vr 1), (53, vd (rowI v inn)), (54, vi inn.length), (55, vi ((0 : Nat)))]) (H' := [.box 50 [.d (rowP t ps), .d (rowI t is), .d (rowN t xs), .d (rowI t os)], .box 63 [.d (.val (.slice none 0 0)), .d (.val (.slice none 0 0)), .d (.val (.bool false))]]) (wk_go [(1, vd (rowI u cs)), (2, vd (rowI v inn)), (3, vr 0), (6, vr 1), (53, vd (rowI v inn)), (54, vi inn.length), (55, vi ((0 : Nat)))] 2 ?_ ?_ ?_) ?_
  · rfl
  · exact mB rfl rfl
  · exact ⟨bel_lit rfl, bel_lit rfl, trivial⟩
  refine cw_loopW (fun n Fr H => ∃ k : Nat, k ≤ inn.length ∧ n = inn.length - k ∧ Fr = ofL [(1, vd (rowI u cs)), (2, vd (rowI v inn)), (3, vr 0), (6, vr 1), (53, vd (rowI v inn)), (54, vi inn.length), (55, vi ((k : Nat)))] ∧ H = [.box 50 [.d (rowP t ps), .d (rowI t is), .d (rowN t xs), .d (rowI t os)], .box 63 [.d (.val (.slice none 0 0)), .d (.val (.slice none 0 0)), .d (.val (.bool false))]]) (n0 := inn.length) ⟨0, Nat.zero_le _, rfl, rfl, rfl⟩ ?_
  clear hk
  rintro n Fr H ⟨k, hk, rfl, rfl, rfl⟩
  by_cases hlt : k < inn.length
  case pos =>
    obtain ⟨z, hz⟩ : ∃ z, inn[k]? = some z := ⟨_, List.getElem?_eq_getElem hlt⟩
    obtain ⟨p, hp0⟩ : ∃ p, ps[k]? = some p := ⟨_, List.getElem?_eq_getElem (by omega)⟩
    obtain ⟨hz1, hz2⟩ := hr k p z hp0 hz
    repeat' (with_reducible first | apply qa | apply qb | apply qc | apply qd | apply qe | apply qf | apply qg | apply qh | apply qi | apply qj | apply qk | apply ql rfl | apply qm rfl | apply qn rfl | (refine Tx 15 ?_; refine Jo xLt ?_; refine Je ?_) | (refine Tx 16 ?_; refine Jm ?_; refine Jo (xIr ts_s_int (int_at hz)) ?_; refine Jo (xLd tk_int) ?_; refine Ja ?_; refine Ja ?_; refine Je ?_) | (refine Tx 17 ?_; refine Jm ?_; refine Jo (xFa tf_Program0 tk_s_Port) ?_; refine Jo (xLd tk_s_Port) ?_; refine Jm ?_; refine Jo (xIr ts_s_Port (prt_at hp0)) ?_; refine Jo (xFa tf_Port0 tk_int) ?_; refine Jo (xLd tk_int) ?_; refine Jo xLt ?_; refine Jm ?_; (first | refine Jd ?_ | refine Jy (by exact ok_mv1 rfl rfl) ?_); (first | refine Jd ?_ | refine Jy (xFa tf_Program0 tk_s_Port) ?_); (first | refine Jd ?_ | refine Jy (xLd tk_s_Port) ?_); (first | refine Jd ?_ | refine Jy (by exact ok_mv1 rfl rfl) ?_); (first | refine Jd ?_ | refine Jy (xIr ts_s_Port (prt_at hp0)) ?_); (first | refine Jd ?_ | refine Jy (xFa tf_Port1 tk_int) ?_); (first | refine Jd ?_ | refine Jy (xLd tk_int) ?_); (first | refine Jd ?_ | refine Jy xGt ?_); refine Jo xPk ?_; refine Je ?_) | (refine Tx 19 ?_; refine Jo xAd ?_; refine Jm ?_; refine Je ?_))
    refine ⟨_, _, wk_go [(1, vd (rowI u cs)), (2, vd (rowI v inn)), (3, vr 0), (6, vr 1), (53, vd (rowI v inn)), (54, vi inn.length), (55, vi (((k + 1) : Nat)))] 2 ?_ ?_ ?_, _, ?_, k + 1, by omega, rfl, rfl, rfl⟩
    · rfl
    · exact mB rfl rfl
    · exact ⟨bel_lit rfl, bel_lit rfl, trivial⟩
    · omega
  clear hk
  have hc1 : cs.length ≤ 1000000 := by omega
  repeat' (with_reducible first | apply qa | apply qb | apply qc | apply qd | apply qe | apply qf | apply qg | apply qh | apply qi | apply qj | apply qk | apply ql rfl | apply qm rfl | apply qn rfl | (refine Tx 15 ?_; refine Jo xLt ?_; refine Je ?_) | (refine Tx 20 ?_; refine Jn (by first | exact ok_buildSlice (ps := []) (cs := []) rfl ts_s_int tz_int (by decide) (by decide) rfl rfl rfl (by decide) | exact ok_buildN rfl rfl ts_s_int tz_int (by decide) (by decide) (by decide) rfl rfl rfl) ?_; refine Jm ?_; refine Jt (by exact to_apE rfl rfl rfl rfl ts_s_int tz_int (by omega) (by decide) (by decide) (by simp) (cI_D cs).symm (Nat.zero_add _)) ?_; refine Jo (by exact ok_build rfl tb_CodeRun rfl rfl) ?_; refine Jn (by exact ok_alloc rfl tz_CodeRun) ?_; refine Js (xSk tk_CodeRun) ?_; refine Je ?_) | (refine Tx 21 ?_; refine Jo (xFa tf_Program2 tk_s_Instr) ?_; refine Jo (xLd tk_s_Instr) ?_; refine Jo (xLn ts_s_Instr) ?_; refine Jm ?_; refine Je ?_))
  refine cw_wk (F' := ofL [(2, vd (rowI v inn)), (3, vr 0), (6, vr 1), (13, vr 3), (86, vd (rowN t xs)), (87, vi xs.length), (88, vi ((0 : Nat)))]) (H' := [.box 50 [.d (rowP t ps), .d (rowI t is), .d (rowN t xs), .d (rowI t os)], .box 63 [.d (.val (.slice none 0 0)), .d (.val (.slice none 0 0)), .d (.val (.bool false))], .row 3 1 cs.length (cI (runV inn (xs.take (0)) cs).1), .box 63 [.own 2 cs.length, .d (.val (.slice none 0 0)), .d (.val (.bool (runV inn (xs.take (0)) cs).2))]]) (wk_go [(2, vd (rowI v inn)), (3, vr 0), (6, vr 1), (13, vr 3), (86, vd (rowN t xs)), (87, vi xs.length), (88, vi ((0 : Nat)))] 4 ?_ ?_ ?_) ?_
  · rfl
  · exact mB rfl rfl
  · exact ⟨bel_lit rfl, bel_lit rfl, bel_cI, bel_lit rfl, trivial⟩
  refine cw_loopW (fun n Fr H => ∃ k : Nat, k ≤ xs.length ∧ n = xs.length - k ∧ Fr = ofL [(2, vd (rowI v inn)), (3, vr 0), (6, vr 1), (13, vr 3), (86, vd (rowN t xs)), (87, vi xs.length), (88, vi ((k : Nat)))] ∧ H = [.box 50 [.d (rowP t ps), .d (rowI t is), .d (rowN t xs), .d (rowI t os)], .box 63 [.d (.val (.slice none 0 0)), .d (.val (.slice none 0 0)), .d (.val (.bool false))], .row 3 1 cs.length (cI (runV inn (xs.take (k)) cs).1), .box 63 [.own 2 cs.length, .d (.val (.slice none 0 0)), .d (.val (.bool (runV inn (xs.take (k)) cs).2))]]) (n0 := xs.length) ⟨0, Nat.zero_le _, rfl, rfl, rfl⟩ ?_
  rintro n Fr H ⟨k, hk, rfl, rfl, rfl⟩
  by_cases hlt : k < xs.length
  case pos =>
    obtain ⟨x, hx⟩ : ∃ x, xs[k]? = some x := ⟨_, List.getElem?_eq_getElem hlt⟩
    obtain ⟨hop, hd0, hd1, hA, hB, hI⟩ := ins_facts hp hx
    have hst := runV_step (inn := inn) (cs := cs) hx
    have hCl : (runV inn (xs.take (k)) cs).1.length = cs.length := runV_len _ _ _
    have hCs := runV_short hs (inn := inn) (xs := xs.take k)
    generalize hC : (runV inn (xs.take (k)) cs).1 = Z at hst hCl hCs ⊢
    generalize hO : (runV inn (xs.take (k)) cs).2 = O at hst ⊢
    repeat' (with_reducible first | apply qa | apply qb | apply qc | apply qd | apply qe | apply qf | apply qg | apply qh | apply qi | apply qj | apply qk | apply ql rfl | apply qm rfl | apply qn rfl | (refine Tx 22 ?_; refine Jo xLt ?_; refine Je ?_) | (refine Tx 23 ?_; refine Jo (xIr ts_s_Instr (ins_at hx)) ?_; refine Jo (xLa tk_Instr) ?_; refine Jn (by exact ok_alloc rfl tz_Instr) ?_; refine Js (xSk tk_Instr) ?_; refine Je ?_) | (refine Tx 24 ?_; refine Ja ?_; refine Je ?_))
    with_reducible refine Tx 25 ?_
    with_reducible refine Jo (xFa tf_Instr0 tk_int) ?_
    with_reducible refine Jo (xLd tk_int) ?_
    with_reducible refine Je ?_
    refine qb ?_
    refine cw_cutK (fun F' H' => ∃ V : Int, insV x Z inn = V ∧ F' = ofL [(2, vd (rowI v inn)), (3, vr 0), (6, vr 1), (13, vr 3), (15, vr 4), (16, vi V), (86, vd (rowN t xs)), (87, vi xs.length), (88, vi ((k : Nat)))] ∧ H' = [.box 50 [.d (rowP t ps), .d (rowI t is), .d (rowN t xs), .d (rowI t os)], .box 63 [.d (.val (.slice none 0 0)), .d (.val (.slice none 0 0)), .d (.val (.bool false))], .row 3 1 cs.length (cI Z), .box 63 [.own 2 cs.length, .d (.val (.slice none 0 0)), .d (.val (.bool O))], .box 89 ((dIns x).map C.d)]) ?_ ?_
    ·
      rcases hop with h | h | h | h | h | h | h | h | h | h | h
      ·
        obtain ⟨ha0, ha1, hs0, hs1⟩ := hA (by omega)
        rw [if_pos h] at ha1
        obtain ⟨w, hw⟩ : ∃ w, inn[x.a.toNat]? = some w := ⟨_, List.getElem?_eq_getElem (by omega)⟩
        have SA := vscaled_cv w hs0 hs1
        repeat' (with_reducible first | apply qa | apply qb | apply qc | apply qd | apply qe | apply qf | apply qg | apply qh | apply qi | apply qj | apply qk | apply ql rfl | apply qm rfl | apply qn rfl | (refine Tx 26 ?_; refine Jo xEq ?_; refine Ja ?_; refine Je ?_) | (refine cw_any (id := 27) mixed (by kernel_rfl) ?_; refine Km ?_; refine Ko (xFa tf_Instr2 tk_int) ?_; refine Ko (xLd tk_int) ?_; refine Ko (xIr ts_s_int (int_at hw)) ?_; refine Ko (xLd tk_int) ?_; refine Ko (xFa tf_Instr4 tk_int) ?_; refine Ko (xLd tk_int) ?_; refine Ko (xCl Tryd.func59 (SA.cv)) ?_; refine Ka ?_; refine Ke ?_))
        exact ⟨_, _, wk_go [(2, vd (rowI v inn)), (3, vr 0), (6, vr 1), (13, vr 3), (15, vr 4), (16, vi (scl w x.sa)), (86, vd (rowN t xs)), (87, vi xs.length), (88, vi ((k : Nat)))] 5 rfl (mB rfl rfl) ⟨bel_lit rfl, bel_lit rfl, bel_cI, bel_lit rfl, bel_lit rfl, trivial⟩, scl w x.sa, iv_in h hw, rfl, rfl⟩
      ·
        repeat' (with_reducible first | apply qa | apply qb | apply qc | apply qd | apply qe | apply qf | apply qg | apply qh | apply qi | apply qj | apply qk | apply ql rfl | apply qm rfl | apply qn rfl | (refine Tx 26 ?_; refine Jo xEq ?_; refine Ja ?_; refine Je ?_) | (refine Tx 28 ?_; refine Jo xEq ?_; refine Ja ?_; refine Je ?_) | (refine Tx 29 ?_; refine Jo (xFa tf_Instr6 tk_int) ?_; refine Jo (xLd tk_int) ?_; refine Ja ?_; refine Je ?_))
        exact ⟨_, _, wk_go [(2, vd (rowI v inn)), (3, vr 0), (6, vr 1), (13, vr 3), (15, vr 4), (16, vi x.imm), (86, vd (rowN t xs)), (87, vi xs.length), (88, vi ((k : Nat)))] 5 rfl (mB rfl rfl) ⟨bel_lit rfl, bel_lit rfl, bel_cI, bel_lit rfl, bel_lit rfl, trivial⟩, x.imm, iv_const h, rfl, rfl⟩
      ·
        obtain ⟨ha0, ha1, hs0, hs1⟩ := hA (by omega)
        rw [if_neg (by omega)] at ha1
        obtain ⟨w, hw⟩ : ∃ w, Z[x.a.toNat]? = some w := ⟨_, List.getElem?_eq_getElem (by omega)⟩
        obtain ⟨w0, w1⟩ := hCs w (List.mem_of_getElem? hw)
        have SA := vscaled_cv w hs0 hs1
        have b1 := scl_fit w0 w1 hs0 hs1
        repeat' (with_reducible first | apply qa | apply qb | apply qc | apply qd | apply qe | apply qf | apply qg | apply qh | apply qi | apply qj | apply qk | apply ql rfl | apply qm rfl | apply qn rfl | (refine Tx 26 ?_; refine Jo xEq ?_; refine Ja ?_; refine Je ?_) | (refine Tx 28 ?_; refine Jo xEq ?_; refine Ja ?_; refine Je ?_) | (refine Tx 30 ?_; refine Jo xEq ?_; refine Ja ?_; refine Je ?_) | (refine cw_any (id := 31) mixed (by kernel_rfl) ?_; refine Ko (xFa tf_CodeRun0 tk_s_int) ?_; refine Ko (xLd tk_s_int) ?_; refine Ko (xFa tf_Instr2 tk_int) ?_; refine Ko (xLd tk_int) ?_; refine Ko (by exact ok_ixO (i := x.a.toNat) rfl rfl rfl rfl (by omega) ts_s_int (by omega) (by decide)) ?_; refine Ko (by first | exact xLi hw tk_int | exact xLd tk_int) ?_; refine Ko (xFa tf_Instr4 tk_int) ?_; refine Ko (xLd tk_int) ?_; refine Ko (xCl Tryd.func59 (SA.cv)) ?_; refine Ka ?_; refine Ke ?_))
        exact ⟨_, _, wk_go [(2, vd (rowI v inn)), (3, vr 0), (6, vr 1), (13, vr 3), (15, vr 4), (16, vi ((scl w x.sa))), (86, vd (rowN t xs)), (87, vi xs.length), (88, vi ((k : Nat)))] 5 rfl (mB rfl rfl) ⟨bel_lit rfl, bel_lit rfl, bel_cI, bel_lit rfl, bel_lit rfl, trivial⟩, (scl w x.sa), iv_move h hw, rfl, rfl⟩
      ·
        obtain ⟨ha0, ha1, hs0, hs1⟩ := hA (by omega)
        rw [if_neg (by omega)] at ha1
        obtain ⟨w, hw⟩ : ∃ w, Z[x.a.toNat]? = some w := ⟨_, List.getElem?_eq_getElem (by omega)⟩
        obtain ⟨w0, w1⟩ := hCs w (List.mem_of_getElem? hw)
        obtain ⟨hb0, hb1, hbs⟩ := hB (by omega)
        obtain ⟨y, hy⟩ : ∃ y, Z[x.b.toNat]? = some y := ⟨_, List.getElem?_eq_getElem (by omega)⟩
        obtain ⟨y0, y1⟩ := hCs y (List.mem_of_getElem? hy)
        have SA := vscaled_cv w hs0 hs1
        have b1 := scl_fit w0 w1 hs0 hs1
        obtain ⟨hb2, hb3⟩ := hbs (by omega)
        have SB := vscaled_cv y hb2 hb3
        have b2 := scl_fit y0 y1 hb2 hb3
        repeat' (with_reducible first | apply qa | apply qb | apply qc | apply qd | apply qe | apply qf | apply qg | apply qh | apply qi | apply qj | apply qk | apply ql rfl | apply qm rfl | apply qn rfl | (refine Tx 26 ?_; refine Jo xEq ?_; refine Ja ?_; refine Je ?_) | (refine Tx 28 ?_; refine Jo xEq ?_; refine Ja ?_; refine Je ?_) | (refine Tx 30 ?_; refine Jo xEq ?_; refine Ja ?_; refine Je ?_) | (refine Tx 32 ?_; refine Jo xEq ?_; refine Ja ?_; refine Je ?_) | (refine cw_any (id := 33) mixed (by kernel_rfl) ?_; refine Ko (xFa tf_CodeRun0 tk_s_int) ?_; refine Ko (xLd tk_s_int) ?_; refine Ko (xFa tf_Instr2 tk_int) ?_; refine Ko (xLd tk_int) ?_; refine Ko (by first | exact ok_ixO (i := x.a.toNat) rfl rfl rfl rfl (by omega) ts_s_int (by omega) (by decide) | exact ok_ixO (i := x.b.toNat) rfl rfl rfl rfl (by omega) ts_s_int (by omega) (by decide)) ?_; refine Ko (by first | exact xLi hw tk_int | exact xLi hy tk_int | exact xLd tk_int) ?_; refine Ko (xFa tf_Instr4 tk_int) ?_; refine Ko (xLd tk_int) ?_; refine Ko (by first | exact xCl Tryd.func59 (SA.cv) | exact xCl Tryd.func59 (SB.cv)) ?_; refine Ko (xFa tf_CodeRun0 tk_s_int) ?_; refine Ko (xLd tk_s_int) ?_; refine Ko (xFa tf_Instr3 tk_int) ?_; refine Ko (xLd tk_int) ?_; refine Ko (by first | exact ok_ixO (i := x.a.toNat) rfl rfl rfl rfl (by omega) ts_s_int (by omega) (by decide) | exact ok_ixO (i := x.b.toNat) rfl rfl rfl rfl (by omega) ts_s_int (by omega) (by decide)) ?_; refine Ko (by first | exact xLi hw tk_int | exact xLi hy tk_int | exact xLd tk_int) ?_; refine Ko (xFa tf_Instr5 tk_int) ?_; refine Ko (xLd tk_int) ?_; refine Ko (by first | exact xCl Tryd.func59 (SA.cv) | exact xCl Tryd.func59 (SB.cv)) ?_; refine Ko xAd ?_; refine Ka ?_; refine Ke ?_))
        exact ⟨_, _, wk_go [(2, vd (rowI v inn)), (3, vr 0), (6, vr 1), (13, vr 3), (15, vr 4), (16, vi ((scl w x.sa + scl y x.sb))), (86, vd (rowN t xs)), (87, vi xs.length), (88, vi ((k : Nat)))] 5 rfl (mB rfl rfl) ⟨bel_lit rfl, bel_lit rfl, bel_cI, bel_lit rfl, bel_lit rfl, trivial⟩, (scl w x.sa + scl y x.sb), iv_add h hw hy, rfl, rfl⟩
      ·
        obtain ⟨ha0, ha1, hs0, hs1⟩ := hA (by omega)
        rw [if_neg (by omega)] at ha1
        obtain ⟨w, hw⟩ : ∃ w, Z[x.a.toNat]? = some w := ⟨_, List.getElem?_eq_getElem (by omega)⟩
        obtain ⟨w0, w1⟩ := hCs w (List.mem_of_getElem? hw)
        obtain ⟨hb0, hb1, hbs⟩ := hB (by omega)
        obtain ⟨y, hy⟩ : ∃ y, Z[x.b.toNat]? = some y := ⟨_, List.getElem?_eq_getElem (by omega)⟩
        obtain ⟨y0, y1⟩ := hCs y (List.mem_of_getElem? hy)
        have SA := vscaled_cv w hs0 hs1
        have b1 := scl_fit w0 w1 hs0 hs1
        obtain ⟨hb2, hb3⟩ := hbs (by omega)
        have SB := vscaled_cv y hb2 hb3
        have b2 := scl_fit y0 y1 hb2 hb3
        repeat' (with_reducible first | apply qa | apply qb | apply qc | apply qd | apply qe | apply qf | apply qg | apply qh | apply qi | apply qj | apply qk | apply ql rfl | apply qm rfl | apply qn rfl | (refine Tx 26 ?_; refine Jo xEq ?_; refine Ja ?_; refine Je ?_) | (refine Tx 28 ?_; refine Jo xEq ?_; refine Ja ?_; refine Je ?_) | (refine Tx 30 ?_; refine Jo xEq ?_; refine Ja ?_; refine Je ?_) | (refine Tx 32 ?_; refine Jo xEq ?_; refine Ja ?_; refine Je ?_) | (refine Tx 34 ?_; refine Jo xEq ?_; refine Ja ?_; refine Je ?_) | (refine cw_any (id := 35) mixed (by kernel_rfl) ?_; refine Ko (xFa tf_CodeRun0 tk_s_int) ?_; refine Ko (xLd tk_s_int) ?_; refine Ko (xFa tf_Instr2 tk_int) ?_; refine Ko (xLd tk_int) ?_; refine Ko (by first | exact ok_ixO (i := x.a.toNat) rfl rfl rfl rfl (by omega) ts_s_int (by omega) (by decide) | exact ok_ixO (i := x.b.toNat) rfl rfl rfl rfl (by omega) ts_s_int (by omega) (by decide)) ?_; refine Ko (by first | exact xLi hw tk_int | exact xLi hy tk_int | exact xLd tk_int) ?_; refine Ko (xFa tf_Instr4 tk_int) ?_; refine Ko (xLd tk_int) ?_; refine Ko (by first | exact xCl Tryd.func59 (SA.cv) | exact xCl Tryd.func59 (SB.cv)) ?_; refine Ko (xFa tf_CodeRun0 tk_s_int) ?_; refine Ko (xLd tk_s_int) ?_; refine Ko (xFa tf_Instr3 tk_int) ?_; refine Ko (xLd tk_int) ?_; refine Ko (by first | exact ok_ixO (i := x.a.toNat) rfl rfl rfl rfl (by omega) ts_s_int (by omega) (by decide) | exact ok_ixO (i := x.b.toNat) rfl rfl rfl rfl (by omega) ts_s_int (by omega) (by decide)) ?_; refine Ko (by first | exact xLi hw tk_int | exact xLi hy tk_int | exact xLd tk_int) ?_; refine Ko (xFa tf_Instr5 tk_int) ?_; refine Ko (xLd tk_int) ?_; refine Ko (by first | exact xCl Tryd.func59 (SA.cv) | exact xCl Tryd.func59 (SB.cv)) ?_; refine Ko xSb ?_; refine Ka ?_; refine Ke ?_))
        exact ⟨_, _, wk_go [(2, vd (rowI v inn)), (3, vr 0), (6, vr 1), (13, vr 3), (15, vr 4), (16, vi ((scl w x.sa - scl y x.sb))), (86, vd (rowN t xs)), (87, vi xs.length), (88, vi ((k : Nat)))] 5 rfl (mB rfl rfl) ⟨bel_lit rfl, bel_lit rfl, bel_cI, bel_lit rfl, bel_lit rfl, trivial⟩, (scl w x.sa - scl y x.sb), iv_sub h hw hy, rfl, rfl⟩
      ·
        obtain ⟨ha0, ha1, hs0, hs1⟩ := hA (by omega)
        rw [if_neg (by omega)] at ha1
        obtain ⟨w, hw⟩ : ∃ w, Z[x.a.toNat]? = some w := ⟨_, List.getElem?_eq_getElem (by omega)⟩
        obtain ⟨w0, w1⟩ := hCs w (List.mem_of_getElem? hw)
        have SA := vscaled_cv w hs0 hs1
        have b1 := scl_fit w0 w1 hs0 hs1
        repeat' (with_reducible first | apply qa | apply qb | apply qc | apply qd | apply qe | apply qf | apply qg | apply qh | apply qi | apply qj | apply qk | apply ql rfl | apply qm rfl | apply qn rfl | (refine Tx 26 ?_; refine Jo xEq ?_; refine Ja ?_; refine Je ?_) | (refine Tx 28 ?_; refine Jo xEq ?_; refine Ja ?_; refine Je ?_) | (refine Tx 30 ?_; refine Jo xEq ?_; refine Ja ?_; refine Je ?_) | (refine Tx 32 ?_; refine Jo xEq ?_; refine Ja ?_; refine Je ?_) | (refine Tx 34 ?_; refine Jo xEq ?_; refine Ja ?_; refine Je ?_) | (refine Tx 36 ?_; refine Jo xEq ?_; refine Ja ?_; refine Je ?_) | (refine cw_any (id := 37) mixed (by kernel_rfl) ?_; refine Ko (xFa tf_CodeRun0 tk_s_int) ?_; refine Ko (xLd tk_s_int) ?_; refine Ko (xFa tf_Instr2 tk_int) ?_; refine Ko (xLd tk_int) ?_; refine Ko (by exact ok_ixO (i := x.a.toNat) rfl rfl rfl rfl (by omega) ts_s_int (by omega) (by decide)) ?_; refine Ko (by first | exact xLi hw tk_int | exact xLd tk_int) ?_; refine Ko (xFa tf_Instr4 tk_int) ?_; refine Ko (xLd tk_int) ?_; refine Ko (xCl Tryd.func59 (SA.cv)) ?_; refine Ko (by first | exact ok_not rfl rfl | exact ok_neg64 rfl rfl (by omega)) ?_; refine Ka ?_; refine Ke ?_))
        exact ⟨_, _, wk_go [(2, vd (rowI v inn)), (3, vr 0), (6, vr 1), (13, vr 3), (15, vr 4), (16, vi ((-scl w x.sa))), (86, vd (rowN t xs)), (87, vi xs.length), (88, vi ((k : Nat)))] 5 rfl (mB rfl rfl) ⟨bel_lit rfl, bel_lit rfl, bel_cI, bel_lit rfl, bel_lit rfl, trivial⟩, (-scl w x.sa), iv_neg h hw, rfl, rfl⟩
      ·
        obtain ⟨ha0, ha1, hs0, hs1⟩ := hA (by omega)
        rw [if_neg (by omega)] at ha1
        obtain ⟨w, hw⟩ : ∃ w, Z[x.a.toNat]? = some w := ⟨_, List.getElem?_eq_getElem (by omega)⟩
        obtain ⟨w0, w1⟩ := hCs w (List.mem_of_getElem? hw)
        obtain ⟨i0, i1⟩ := hI (.inr h)
        have hm := mul_fit w0 w1 i0 i1
        have SA := vscaled_cv (w * x.imm) hs0 hs1
        repeat' (with_reducible first | apply qa | apply qb | apply qc | apply qd | apply qe | apply qf | apply qg | apply qh | apply qi | apply qj | apply qk | apply ql rfl | apply qm rfl | apply qn rfl | (refine Tx 26 ?_; refine Jo xEq ?_; refine Ja ?_; refine Je ?_) | (refine Tx 28 ?_; refine Jo xEq ?_; refine Ja ?_; refine Je ?_) | (refine Tx 30 ?_; refine Jo xEq ?_; refine Ja ?_; refine Je ?_) | (refine Tx 32 ?_; refine Jo xEq ?_; refine Ja ?_; refine Je ?_) | (refine Tx 34 ?_; refine Jo xEq ?_; refine Ja ?_; refine Je ?_) | (refine Tx 36 ?_; refine Jo xEq ?_; refine Ja ?_; refine Je ?_) | (refine Tx 38 ?_; refine Jo xEq ?_; refine Ja ?_; refine Je ?_) | (refine Tx 41 ?_; refine Jo xEq ?_; refine Ja ?_; refine Je ?_) | (refine cw_any (id := 42) mixed (by kernel_rfl) ?_; refine Ko (xFa tf_CodeRun0 tk_s_int) ?_; refine Ko (xLd tk_s_int) ?_; refine Ko (xFa tf_Instr2 tk_int) ?_; refine Ko (xLd tk_int) ?_; refine Ko (by exact ok_ixO (i := x.a.toNat) rfl rfl rfl rfl (by omega) ts_s_int (by omega) (by decide)) ?_; refine Ko (by first | exact xLi hw tk_int | exact xLd tk_int) ?_; refine Ko (xFa tf_Instr6 tk_int) ?_; refine Ko (xLd tk_int) ?_; refine Ko (by first | exact ok_mul64 rfl rfl rfl hm | exact ok_mul64 rfl rfl rfl (by omega)) ?_; refine Ko (xFa tf_Instr4 tk_int) ?_; refine Ko (xLd tk_int) ?_; refine Ko (xCl Tryd.func59 (SA.cv)) ?_; refine Ka ?_; refine Ke ?_))
        exact ⟨_, _, wk_go [(2, vd (rowI v inn)), (3, vr 0), (6, vr 1), (13, vr 3), (15, vr 4), (16, vi (scl (w * x.imm) x.sa)), (86, vd (rowN t xs)), (87, vi xs.length), (88, vi ((k : Nat)))] 5 rfl (mB rfl rfl) ⟨bel_lit rfl, bel_lit rfl, bel_cI, bel_lit rfl, bel_lit rfl, trivial⟩, scl (w * x.imm) x.sa, iv_gain h hw, rfl, rfl⟩
      ·
        obtain ⟨ha0, ha1, hs0, hs1⟩ := hA (by omega)
        rw [if_neg (by omega)] at ha1
        obtain ⟨w, hw⟩ : ∃ w, Z[x.a.toNat]? = some w := ⟨_, List.getElem?_eq_getElem (by omega)⟩
        obtain ⟨w0, w1⟩ := hCs w (List.mem_of_getElem? hw)
        obtain ⟨hb0, hb1, hbs⟩ := hB (by omega)
        obtain ⟨y, hy⟩ : ∃ y, Z[x.b.toNat]? = some y := ⟨_, List.getElem?_eq_getElem (by omega)⟩
        obtain ⟨y0, y1⟩ := hCs y (List.mem_of_getElem? hy)
        have hm := mul_fit w0 w1 y0 y1
        have SA := vscaled_cv (w * y) hs0 hs1
        repeat' (with_reducible first | apply qa | apply qb | apply qc | apply qd | apply qe | apply qf | apply qg | apply qh | apply qi | apply qj | apply qk | apply ql rfl | apply qm rfl | apply qn rfl | (refine Tx 26 ?_; refine Jo xEq ?_; refine Ja ?_; refine Je ?_) | (refine Tx 28 ?_; refine Jo xEq ?_; refine Ja ?_; refine Je ?_) | (refine Tx 30 ?_; refine Jo xEq ?_; refine Ja ?_; refine Je ?_) | (refine Tx 32 ?_; refine Jo xEq ?_; refine Ja ?_; refine Je ?_) | (refine Tx 34 ?_; refine Jo xEq ?_; refine Ja ?_; refine Je ?_) | (refine Tx 36 ?_; refine Jo xEq ?_; refine Ja ?_; refine Je ?_) | (refine Tx 38 ?_; refine Jo xEq ?_; refine Ja ?_; refine Je ?_) | (refine Tx 41 ?_; refine Jo xEq ?_; refine Ja ?_; refine Je ?_) | (refine Tx 43 ?_; refine Jo xEq ?_; refine Ja ?_; refine Je ?_) | (refine cw_any (id := 44) mixed (by kernel_rfl) ?_; refine Ko (xFa tf_CodeRun0 tk_s_int) ?_; refine Ko (xLd tk_s_int) ?_; refine Ko (xFa tf_Instr2 tk_int) ?_; refine Ko (xLd tk_int) ?_; refine Ko (by first | exact ok_ixO (i := x.a.toNat) rfl rfl rfl rfl (by omega) ts_s_int (by omega) (by decide) | exact ok_ixO (i := x.b.toNat) rfl rfl rfl rfl (by omega) ts_s_int (by omega) (by decide)) ?_; refine Ko (by first | exact xLi hw tk_int | exact xLi hy tk_int | exact xLd tk_int) ?_; refine Ko (xFa tf_CodeRun0 tk_s_int) ?_; refine Ko (xLd tk_s_int) ?_; refine Ko (xFa tf_Instr3 tk_int) ?_; refine Ko (xLd tk_int) ?_; refine Ko (by first | exact ok_ixO (i := x.a.toNat) rfl rfl rfl rfl (by omega) ts_s_int (by omega) (by decide) | exact ok_ixO (i := x.b.toNat) rfl rfl rfl rfl (by omega) ts_s_int (by omega) (by decide)) ?_; refine Ko (by first | exact xLi hw tk_int | exact xLi hy tk_int | exact xLd tk_int) ?_; refine Ko (by first | exact ok_mul64 rfl rfl rfl hm | exact ok_mul64 rfl rfl rfl (by omega)) ?_; refine Ko (xFa tf_Instr4 tk_int) ?_; refine Ko (xLd tk_int) ?_; refine Ko (xCl Tryd.func59 (SA.cv)) ?_; refine Ka ?_; refine Ke ?_))
        exact ⟨_, _, wk_go [(2, vd (rowI v inn)), (3, vr 0), (6, vr 1), (13, vr 3), (15, vr 4), (16, vi (scl (w * y) x.sa)), (86, vd (rowN t xs)), (87, vi xs.length), (88, vi ((k : Nat)))] 5 rfl (mB rfl rfl) ⟨bel_lit rfl, bel_lit rfl, bel_cI, bel_lit rfl, bel_lit rfl, trivial⟩, scl (w * y) x.sa, iv_mul h hw hy, rfl, rfl⟩
      ·
        obtain ⟨ha0, ha1, hs0, hs1⟩ := hA (by omega)
        rw [if_neg (by omega)] at ha1
        obtain ⟨w, hw⟩ : ∃ w, Z[x.a.toNat]? = some w := ⟨_, List.getElem?_eq_getElem (by omega)⟩
        obtain ⟨w0, w1⟩ := hCs w (List.mem_of_getElem? hw)
        obtain ⟨hb0, hb1, hbs⟩ := hB (by omega)
        obtain ⟨y, hy⟩ : ∃ y, Z[x.b.toNat]? = some y := ⟨_, List.getElem?_eq_getElem (by omega)⟩
        obtain ⟨y0, y1⟩ := hCs y (List.mem_of_getElem? hy)
        have SA := vscaled_cv w hs0 hs1
        have b1 := scl_fit w0 w1 hs0 hs1
        obtain ⟨hb2, hb3⟩ := hbs (by omega)
        have SB := vscaled_cv y hb2 hb3
        have b2 := scl_fit y0 y1 hb2 hb3
        repeat' (with_reducible first | apply qa | apply qb | apply qc | apply qd | apply qe | apply qf | apply qg | apply qh | apply qi | apply qj | apply qk | apply ql rfl | apply qm rfl | apply qn rfl | (refine Tx 26 ?_; refine Jo xEq ?_; refine Ja ?_; refine Je ?_) | (refine Tx 28 ?_; refine Jo xEq ?_; refine Ja ?_; refine Je ?_) | (refine Tx 30 ?_; refine Jo xEq ?_; refine Ja ?_; refine Je ?_) | (refine Tx 32 ?_; refine Jo xEq ?_; refine Ja ?_; refine Je ?_) | (refine Tx 34 ?_; refine Jo xEq ?_; refine Ja ?_; refine Je ?_) | (refine Tx 36 ?_; refine Jo xEq ?_; refine Ja ?_; refine Je ?_) | (refine Tx 38 ?_; refine Jo xEq ?_; refine Ja ?_; refine Je ?_) | (refine Tx 41 ?_; refine Jo xEq ?_; refine Ja ?_; refine Je ?_) | (refine Tx 43 ?_; refine Jo xEq ?_; refine Ja ?_; refine Je ?_) | (refine Tx 45 ?_; refine Jo xEq ?_; refine Ja ?_; refine Je ?_) | (refine cw_any (id := 46) mixed (by kernel_rfl) ?_; refine Ko (xFa tf_CodeRun0 tk_s_int) ?_; refine Ko (xLd tk_s_int) ?_; refine Ko (xFa tf_Instr2 tk_int) ?_; refine Ko (xLd tk_int) ?_; refine Ko (by first | exact ok_ixO (i := x.a.toNat) rfl rfl rfl rfl (by omega) ts_s_int (by omega) (by decide) | exact ok_ixO (i := x.b.toNat) rfl rfl rfl rfl (by omega) ts_s_int (by omega) (by decide)) ?_; refine Ko (by first | exact xLi hw tk_int | exact xLi hy tk_int | exact xLd tk_int) ?_; refine Ko (xFa tf_Instr4 tk_int) ?_; refine Ko (xLd tk_int) ?_; refine Ko (by first | exact xCl Tryd.func59 (SA.cv) | exact xCl Tryd.func59 (SB.cv)) ?_; refine Ko (xFa tf_CodeRun0 tk_s_int) ?_; refine Ko (xLd tk_s_int) ?_; refine Ko (xFa tf_Instr3 tk_int) ?_; refine Ko (xLd tk_int) ?_; refine Ko (by first | exact ok_ixO (i := x.a.toNat) rfl rfl rfl rfl (by omega) ts_s_int (by omega) (by decide) | exact ok_ixO (i := x.b.toNat) rfl rfl rfl rfl (by omega) ts_s_int (by omega) (by decide)) ?_; refine Ko (by first | exact xLi hw tk_int | exact xLi hy tk_int | exact xLd tk_int) ?_; refine Ko (xFa tf_Instr5 tk_int) ?_; refine Ko (xLd tk_int) ?_; refine Ko (by first | exact xCl Tryd.func59 (SA.cv) | exact xCl Tryd.func59 (SB.cv)) ?_; refine Ko (by exact ok_min2 rfl rfl rfl) ?_; refine Ka ?_; refine Ke ?_))
        exact ⟨_, _, wk_go [(2, vd (rowI v inn)), (3, vr 0), (6, vr 1), (13, vr 3), (15, vr 4), (16, vi ((min (scl w x.sa) (scl y x.sb)))), (86, vd (rowN t xs)), (87, vi xs.length), (88, vi ((k : Nat)))] 5 rfl (mB rfl rfl) ⟨bel_lit rfl, bel_lit rfl, bel_cI, bel_lit rfl, bel_lit rfl, trivial⟩, (min (scl w x.sa) (scl y x.sb)), iv_min h hw hy, rfl, rfl⟩
      ·
        obtain ⟨ha0, ha1, hs0, hs1⟩ := hA (by omega)
        rw [if_neg (by omega)] at ha1
        obtain ⟨w, hw⟩ : ∃ w, Z[x.a.toNat]? = some w := ⟨_, List.getElem?_eq_getElem (by omega)⟩
        obtain ⟨w0, w1⟩ := hCs w (List.mem_of_getElem? hw)
        obtain ⟨hb0, hb1, hbs⟩ := hB (by omega)
        obtain ⟨y, hy⟩ : ∃ y, Z[x.b.toNat]? = some y := ⟨_, List.getElem?_eq_getElem (by omega)⟩
        obtain ⟨y0, y1⟩ := hCs y (List.mem_of_getElem? hy)
        have SA := vscaled_cv w hs0 hs1
        have b1 := scl_fit w0 w1 hs0 hs1
        obtain ⟨hb2, hb3⟩ := hbs (by omega)
        have SB := vscaled_cv y hb2 hb3
        have b2 := scl_fit y0 y1 hb2 hb3
        repeat' (with_reducible first | apply qa | apply qb | apply qc | apply qd | apply qe | apply qf | apply qg | apply qh | apply qi | apply qj | apply qk | apply ql rfl | apply qm rfl | apply qn rfl | (refine Tx 26 ?_; refine Jo xEq ?_; refine Ja ?_; refine Je ?_) | (refine Tx 28 ?_; refine Jo xEq ?_; refine Ja ?_; refine Je ?_) | (refine Tx 30 ?_; refine Jo xEq ?_; refine Ja ?_; refine Je ?_) | (refine Tx 32 ?_; refine Jo xEq ?_; refine Ja ?_; refine Je ?_) | (refine Tx 34 ?_; refine Jo xEq ?_; refine Ja ?_; refine Je ?_) | (refine Tx 36 ?_; refine Jo xEq ?_; refine Ja ?_; refine Je ?_) | (refine Tx 38 ?_; refine Jo xEq ?_; refine Ja ?_; refine Je ?_) | (refine Tx 41 ?_; refine Jo xEq ?_; refine Ja ?_; refine Je ?_) | (refine Tx 43 ?_; refine Jo xEq ?_; refine Ja ?_; refine Je ?_) | (refine Tx 45 ?_; refine Jo xEq ?_; refine Ja ?_; refine Je ?_) | (refine Tx 47 ?_; refine Jo xEq ?_; refine Ja ?_; refine Je ?_) | (refine cw_any (id := 48) mixed (by kernel_rfl) ?_; refine Ko (xFa tf_CodeRun0 tk_s_int) ?_; refine Ko (xLd tk_s_int) ?_; refine Ko (xFa tf_Instr2 tk_int) ?_; refine Ko (xLd tk_int) ?_; refine Ko (by first | exact ok_ixO (i := x.a.toNat) rfl rfl rfl rfl (by omega) ts_s_int (by omega) (by decide) | exact ok_ixO (i := x.b.toNat) rfl rfl rfl rfl (by omega) ts_s_int (by omega) (by decide)) ?_; refine Ko (by first | exact xLi hw tk_int | exact xLi hy tk_int | exact xLd tk_int) ?_; refine Ko (xFa tf_Instr4 tk_int) ?_; refine Ko (xLd tk_int) ?_; refine Ko (by first | exact xCl Tryd.func59 (SA.cv) | exact xCl Tryd.func59 (SB.cv)) ?_; refine Ko (xFa tf_CodeRun0 tk_s_int) ?_; refine Ko (xLd tk_s_int) ?_; refine Ko (xFa tf_Instr3 tk_int) ?_; refine Ko (xLd tk_int) ?_; refine Ko (by first | exact ok_ixO (i := x.a.toNat) rfl rfl rfl rfl (by omega) ts_s_int (by omega) (by decide) | exact ok_ixO (i := x.b.toNat) rfl rfl rfl rfl (by omega) ts_s_int (by omega) (by decide)) ?_; refine Ko (by first | exact xLi hw tk_int | exact xLi hy tk_int | exact xLd tk_int) ?_; refine Ko (xFa tf_Instr5 tk_int) ?_; refine Ko (xLd tk_int) ?_; refine Ko (by first | exact xCl Tryd.func59 (SA.cv) | exact xCl Tryd.func59 (SB.cv)) ?_; refine Ko (by exact ok_max2 rfl rfl rfl) ?_; refine Ka ?_; refine Ke ?_))
        exact ⟨_, _, wk_go [(2, vd (rowI v inn)), (3, vr 0), (6, vr 1), (13, vr 3), (15, vr 4), (16, vi ((max (scl w x.sa) (scl y x.sb)))), (86, vd (rowN t xs)), (87, vi xs.length), (88, vi ((k : Nat)))] 5 rfl (mB rfl rfl) ⟨bel_lit rfl, bel_lit rfl, bel_cI, bel_lit rfl, bel_lit rfl, trivial⟩, (max (scl w x.sa) (scl y x.sb)), iv_max h hw hy, rfl, rfl⟩
      ·
        obtain ⟨ha0, ha1, hs0, hs1⟩ := hA (by omega)
        rw [if_neg (by omega)] at ha1
        obtain ⟨w, hw⟩ : ∃ w, Z[x.a.toNat]? = some w := ⟨_, List.getElem?_eq_getElem (by omega)⟩
        obtain ⟨w0, w1⟩ := hCs w (List.mem_of_getElem? hw)
        have SA := vscaled_cv w hs0 hs1
        have b1 := scl_fit w0 w1 hs0 hs1
        repeat' (with_reducible first | apply qa | apply qb | apply qc | apply qd | apply qe | apply qf | apply qg | apply qh | apply qi | apply qj | apply qk | apply ql rfl | apply qm rfl | apply qn rfl | (refine Tx 26 ?_; refine Jo xEq ?_; refine Ja ?_; refine Je ?_) | (refine Tx 28 ?_; refine Jo xEq ?_; refine Ja ?_; refine Je ?_) | (refine Tx 30 ?_; refine Jo xEq ?_; refine Ja ?_; refine Je ?_) | (refine Tx 32 ?_; refine Jo xEq ?_; refine Ja ?_; refine Je ?_) | (refine Tx 34 ?_; refine Jo xEq ?_; refine Ja ?_; refine Je ?_) | (refine Tx 36 ?_; refine Jo xEq ?_; refine Ja ?_; refine Je ?_) | (refine Tx 38 ?_; refine Jo xEq ?_; refine Ja ?_; refine Je ?_) | (refine cw_any (id := 39) mixed (by kernel_rfl) ?_; refine Ko (xFa tf_CodeRun0 tk_s_int) ?_; refine Ko (xLd tk_s_int) ?_; refine Ko (xFa tf_Instr2 tk_int) ?_; refine Ko (xLd tk_int) ?_; refine Ko (by exact ok_ixO (i := x.a.toNat) rfl rfl rfl rfl (by omega) ts_s_int (by omega) (by decide)) ?_; refine Ko (by first | exact xLi hw tk_int | exact xLd tk_int) ?_; refine Ko (xFa tf_Instr4 tk_int) ?_; refine Ko (xLd tk_int) ?_; refine Ko (xCl Tryd.func59 (SA.cv)) ?_; refine Ka ?_; refine Ke ?_) | (refine Tx 40 ?_; refine Jm ?_; refine Jm ?_; refine Jo (by first | exact ok_not rfl rfl | exact ok_neg64 rfl rfl (by omega)) ?_; refine Jo (by exact ok_max2 rfl rfl rfl) ?_; refine Ja ?_; refine Je ?_))
        exact ⟨_, _, wk_go [(2, vd (rowI v inn)), (3, vr 0), (6, vr 1), (13, vr 3), (15, vr 4), (16, vi ((max (scl w x.sa) (-scl w x.sa)))), (86, vd (rowN t xs)), (87, vi xs.length), (88, vi ((k : Nat)))] 5 rfl (mB rfl rfl) ⟨bel_lit rfl, bel_lit rfl, bel_cI, bel_lit rfl, bel_lit rfl, trivial⟩, (max (scl w x.sa) (-scl w x.sa)), iv_abs h hw, rfl, rfl⟩
    ·
      rintro F' H' ⟨V, hV, rfl, rfl⟩
      have SH := vshort_cv V
      rw [hV] at hst
      have tl : x.dst.toNat < Z.length := by omega
      by_cases hsv : shortB V = true
      case pos =>
        rw [hsv] at SH
        have st : Z.set x.dst.toNat V = (runV inn (xs.take (k + 1)) cs).1 := by rw [hst, cutV_in hsv]
        have hO2 : (runV inn (xs.take (k + 1)) cs).2 = O := by rw [hst, hsv]; simp
        repeat' (with_reducible first | apply qa | apply qb | apply qc | apply qd | apply qe | apply qf | apply qg | apply qh | apply qi | apply qj | apply qk | apply ql rfl | apply qm rfl | apply qn rfl | (refine Tx 49 ?_; refine Jm ?_; refine Jo (xCl Tryd.func56 (SH.cv)) ?_; refine Jo (by first | exact ok_not rfl rfl | exact ok_neg64 rfl rfl (by omega)) ?_; refine Je ?_) | (refine Tx 52 ?_; refine Jo (xFa tf_CodeRun0 tk_s_int) ?_; refine Jo (xLd tk_s_int) ?_; refine Jo (xFa tf_Instr1 tk_int) ?_; refine Jo (xLd tk_int) ?_; refine Jm ?_; refine Jo (by exact ok_ixO (i := x.dst.toNat) rfl rfl rfl rfl (by omega) ts_s_int (by omega) (by decide)) ?_; refine Js (by first | exact to_stI rfl rfl rfl rfl tk_int tl st | exact xS1 tk_int | exact xSk tk_int) ?_; refine Je ?_) | (refine Tx 53 ?_; refine Jo xAd ?_; refine Jm ?_; refine Je ?_))
        refine ⟨_, _, wk_go [(2, vd (rowI v inn)), (3, vr 0), (6, vr 1), (13, vr 3), (86, vd (rowN t xs)), (87, vi xs.length), (88, vi (((k + 1) : Nat)))] 4 ?_ ?_ ?_, _, ?_, k + 1, by omega, rfl, rfl, rfl⟩
        · rw [hO2]; rfl
        · exact mB rfl rfl
        · exact ⟨bel_lit rfl, bel_lit rfl, bel_cI, bel_lit rfl, trivial⟩
        · omega
      case neg =>
        rw [Bool.not_eq_true] at hsv
        rw [hsv] at SH
        have st : Z.set x.dst.toNat (max (-2147483648) (min V 2147483647)) = (runV inn (xs.take (k + 1)) cs).1 := by rw [hst, show cutV V = max (-2147483648) (min V 2147483647) from rfl]
        have hO2 : (runV inn (xs.take (k + 1)) cs).2 = true := by rw [hst, hsv]; simp
        repeat' (with_reducible first | apply qa | apply qb | apply qc | apply qd | apply qe | apply qf | apply qg | apply qh | apply qi | apply qj | apply qk | apply ql rfl | apply qm rfl | apply qn rfl | (refine Tx 49 ?_; refine Jm ?_; refine Jo (xCl Tryd.func56 (SH.cv)) ?_; refine Jo (by first | exact ok_not rfl rfl | exact ok_neg64 rfl rfl (by omega)) ?_; refine Je ?_) | (refine Tx 50 ?_; refine Jm ?_; refine Jo (by exact ok_min2 rfl rfl rfl) ?_; refine Jo (by exact ok_max2 rfl rfl rfl) ?_; refine Ja ?_; refine Je ?_) | (refine Tx 51 ?_; refine Jo (xFa tf_CodeRun2 tk_bool) ?_; refine Js (by first | exact xS1 tk_bool | exact xSk tk_bool) ?_; refine Je ?_) | (refine Tx 52 ?_; refine Jo (xFa tf_CodeRun0 tk_s_int) ?_; refine Jo (xLd tk_s_int) ?_; refine Jo (xFa tf_Instr1 tk_int) ?_; refine Jo (xLd tk_int) ?_; refine Jm ?_; refine Jo (by exact ok_ixO (i := x.dst.toNat) rfl rfl rfl rfl (by omega) ts_s_int (by omega) (by decide)) ?_; refine Js (by first | exact to_stI rfl rfl rfl rfl tk_int tl st | exact xS1 tk_int | exact xSk tk_int) ?_; refine Je ?_) | (refine Tx 53 ?_; refine Jo xAd ?_; refine Jm ?_; refine Je ?_))
        refine ⟨_, _, wk_go [(2, vd (rowI v inn)), (3, vr 0), (6, vr 1), (13, vr 3), (86, vd (rowN t xs)), (87, vi xs.length), (88, vi (((k + 1) : Nat)))] 4 ?_ ?_ ?_, _, ?_, k + 1, by omega, rfl, rfl, rfl⟩
        · rw [hO2]; rfl
        · exact mB rfl rfl
        · exact ⟨bel_lit rfl, bel_lit rfl, bel_cI, bel_lit rfl, trivial⟩
        · omega
  obtain rfl : k = xs.length := by omega
  clear hlt hk
  rw [List.take_length]
  have hCl : (runV inn xs cs).1.length = cs.length := runV_len _ _ _
  generalize hC : (runV inn xs cs).1 = Z at hCl ⊢
  generalize hO : (runV inn xs cs).2 = O
  repeat' (with_reducible first | apply qa | apply qb | apply qc | apply qd | apply qe | apply qf | apply qg | apply qh | apply qi | apply qj | apply qk | apply ql rfl | apply qm rfl | apply qn rfl | (refine Tx 22 ?_; refine Jo xLt ?_; refine Je ?_) | (refine Tx 54 ?_; refine Jo (xFa tf_Program3 tk_s_int) ?_; refine Jo (xLd tk_s_int) ?_; refine Jo (xLn ts_s_int) ?_; refine Jm ?_; refine Je ?_))
  refine cw_wk (wk_nilbox 3 1 3 1 rfl rfl) ?_
  refine cw_wk (F' := ofL [(3, vr 0), (6, vr 1), (13, vr 3), (277, vd (rowI t os)), (278, vi os.length), (279, vi ((0 : Nat)))]) (H' := [.box 50 [.d (rowP t ps), .d (rowI t is), .d (rowN t xs), .d (rowI t os)], .box 63 [.d (.val (.slice none 0 0)), .d (.val (.slice none 0 0)), .d (.val (.bool false))], .row 3 1 cs.length (cI Z), .box 63 [.own 2 cs.length, .own 4 (outsV Z (os.take (0))).length, .d (.val (.bool O))], .row 3 1 (outsV Z (os.take (0))).length (cI (outsV Z (os.take (0))))]) (wk_go [(3, vr 0), (6, vr 1), (13, vr 3), (277, vd (rowI t os)), (278, vi os.length), (279, vi ((0 : Nat)))] 5 ?_ ?_ ?_) ?_
  · rfl
  · exact mB rfl rfl
  · exact ⟨bel_lit rfl, bel_lit rfl, bel_cI, bel_lit rfl, bel_cI, trivial⟩
  refine cw_loopW (fun n Fr H => ∃ k : Nat, k ≤ os.length ∧ n = os.length - k ∧ Fr = ofL [(3, vr 0), (6, vr 1), (13, vr 3), (277, vd (rowI t os)), (278, vi os.length), (279, vi ((k : Nat)))] ∧ H = [.box 50 [.d (rowP t ps), .d (rowI t is), .d (rowN t xs), .d (rowI t os)], .box 63 [.d (.val (.slice none 0 0)), .d (.val (.slice none 0 0)), .d (.val (.bool false))], .row 3 1 cs.length (cI Z), .box 63 [.own 2 cs.length, .own 4 (outsV Z (os.take (k))).length, .d (.val (.bool O))], .row 3 1 (outsV Z (os.take (k))).length (cI (outsV Z (os.take (k))))]) (n0 := os.length) ⟨0, Nat.zero_le _, rfl, rfl, rfl⟩ ?_
  rintro n Fr H ⟨k, hk, rfl, rfl, rfl⟩
  by_cases hlt : k < os.length
  case pos =>
    obtain ⟨o, ho⟩ : ∃ o, os[k]? = some o := ⟨_, List.getElem?_eq_getElem hlt⟩
    obtain ⟨o0, o2⟩ := out_facts hp ho
    obtain ⟨w, hw⟩ : ∃ w, Z[o.toNat]? = some w := ⟨_, List.getElem?_eq_getElem (by omega)⟩
    have hap : (outsV Z (os.take (k))) ++ [w] = (outsV Z (os.take (k + 1))) := (outsV_step ho hw).symm
    have hap2 : (outsV Z (os.take (k))).length + 1 = (outsV Z (os.take (k + 1))).length := by rw [← hap]; simp
    have hol : (outsV Z (os.take (k))).length ≤ k := outsV_len _ _ _
    repeat' (with_reducible first | apply qa | apply qb | apply qc | apply qd | apply qe | apply qf | apply qg | apply qh | apply qi | apply qj | apply qk | apply ql rfl | apply qm rfl | apply qn rfl | (refine Tx 55 ?_; refine Jo xLt ?_; refine Je ?_) | (refine Tx 56 ?_; refine Jo (by first | exact xIr ts_s_int (int_at ho) | exact ok_ixO (i := o.toNat) rfl rfl rfl rfl (by omega) ts_s_int (by omega) (by decide)) ?_; refine Jo (by first | exact xLi hw tk_int | exact xLd tk_int) ?_; refine Ja ?_; refine Je ?_) | (refine cw_part (id := 57) 8 mixed (by kernel_rfl) ?_; dsimp only [List.take, List.drop]; refine Ko (xFa tf_CodeRun1 tk_s_int) ?_; refine Ko (xLd tk_s_int) ?_; refine Ko (xFa tf_CodeRun0 tk_s_int) ?_; refine Ko (xLd tk_s_int) ?_; refine Km ?_; refine Ko (by first | exact xIr ts_s_int (int_at ho) | exact ok_ixO (i := o.toNat) rfl rfl rfl rfl (by omega) ts_s_int (by omega) (by decide)) ?_; refine Ko (by first | exact xLi hw tk_int | exact xLd tk_int) ?_; refine Kn (by exact ok_build1 rfl ts_s_int tz_int rfl rfl (by decide) (by decide)) ?_; refine Ke ?_; refine Jt (by exact to_apI rfl rfl rfl rfl rfl rfl ts_s_int tz_int (by omega) (by decide) hap hap2) ?_; refine Jo (xFa tf_CodeRun1 tk_s_int) ?_; refine Js (by first | exact xS1 tk_s_int | exact xSk tk_s_int) ?_; refine Je ?_) | (refine Tx 58 ?_; refine Jo xAd ?_; refine Jm ?_; refine Je ?_))
    refine ⟨_, _, wk_go [(3, vr 0), (6, vr 1), (13, vr 3), (277, vd (rowI t os)), (278, vi os.length), (279, vi (((k + 1) : Nat)))] 5 ?_ ?_ ?_, _, ?_, k + 1, by omega, rfl, rfl, rfl⟩
    · rfl
    · exact mB rfl rfl
    · exact ⟨bel_lit rfl, bel_lit rfl, bel_cI, bel_lit rfl, bel_cI, trivial⟩
    · omega
  obtain rfl : k = os.length := by omega
  clear hlt hk
  rw [List.take_length]
  repeat' (with_reducible first | apply qa | apply qb | apply qc | apply qd | apply qe | apply qf | apply qg | apply qh | apply qi | apply qj | apply qk | apply ql rfl | apply qm rfl | apply qn rfl | (refine Tx 55 ?_; refine Jo xLt ?_; refine Je ?_) | (refine Tx 59 ?_; refine Jo (xLa tk_CodeRun) ?_; refine Js (xSk tk_CodeRun) ?_; refine Ja ?_; refine Je ?_))
  exact ret_q rfl (.cons_ (rv_box rfl rfl tk_CodeRun rfl rfl (lrel_c rfl rfl (cexp_oI rfl rfl hCl.symm rfl) (lrel_c rfl rfl (cexp_oI rfl rfl rfl rfl) (lrel_c rfl rfl (cexp_d rfl (fun _ => .val _)) (lrel_n rfl rfl))))) (.cons_ (rv_e0 rfl rfl) .nil_))
end Go.Proofs.YtjlocofimlgaoaaDoor
namespace Go.Proofs.YtjlocofimlgaoaaDoor
set_option linter.unusedVariables false
set_option linter.unusedSimpArgs false
set_option linter.unusedSectionVars false
open Go.RowKit Cd
def cB (l : List Bool) : List C := l.map fun b => .d (.val (.bool b))
section
variable {P : Program} {G : World → Prop} {o : Oper} {F : Frm} {H : List Ob}
end
theorem rv_oI {P : Program} {F : Frm} {H : List Ob} {t id ty n : Nat} {xs : List Int} (hF : F t = .one (.own id n)) (hH : H[id]? = some (.row ty 1 n (cI xs))) (hn : n = xs.length) : RV P F H (.tmp t) (.one (rowI false xs)) := .tmp (by rw [hF]; exact .one (cexp_oI rfl hH hn rfl))
def wrP (xs : List Ins) (i : Nat) : Bool := xs.any fun x => x.dst == (i : Int)
def wrM (xs : List Ins) (n : Nat) : List Bool := (List.range n).map (wrP xs)
def wrL (xs : List Ins) (n : Nat) : List Int := ((List.range n).filter (wrP xs)).map fun i : Nat => (i : Int)
def prtD : Prt := ⟨0, 0, 0⟩
def inpV (ps : List Prt) (inn : List Int) (n : Nat) : List Int := (List.range n).map fun i => clipI (inn[i]?.getD 0) (ps[i]?.getD prtD).lo (ps[i]?.getD prtD).hi
theorem inpV_len (ps : List Prt) (inn : List Int) (k : Nat) : (inpV ps inn k).length ≤ k := by simp [inpV]
theorem inpV_step {ps : List Prt} {inn : List Int} {k : Nat} {p : Prt} {z : Int} (hp : ps[k]? = some p) (hz : inn[k]?.getD 0 = z) : inpV ps inn (k + 1) = inpV ps inn k ++ [clipI z p.lo p.hi] := by
  unfold inpV
  rw [List.range_succ, List.map_append]
  simp [hp, hz]
theorem bclip_cv (x lo hi : Int) : CVF Tryd.prog TabAt 58 [aI x, aI lo, aI hi] [aI (clipI x lo hi)] := fun w S vs hg hlt ha => by
  obtain ⟨v, vs', rfl, q1, ha⟩ := ha.uncons
  obtain ⟨v2, vs', rfl, q2, ha⟩ := ha.uncons
  obtain ⟨u, hu, q3⟩ := one_arg ha
  subst hu
  cases q1
  cases q2
  cases q3
  refine (bclip_any x lo hi w).mono fun r w' ⟨he, hw⟩ => ?_
  subst hw
  exact ⟨_, he, DRel.val rfl, Below.refl _ _⟩

set_option maxRecDepth 100000 in
set_option maxHeartbeats 4000000 in
theorem inputs_cv (t u : Bool) {ps : List Prt} {bs : List Bk} {os : List Int} (inn : List Int) (hl : DgLen ps bs os) (h2 : inn.length ≤ 1000000) : CV Tryd.prog TabAt 24 [aDg t ps bs os, .one (rowI u inn)] [.one (rowI false (inpV ps inn ps.length))] := by
  refine cv_of tab_G Tryd.func24 rfl Tryd.ntmps24 (Nat.le_of_ble_eq_true rfl) ?_
  have hl1 := hl.l1
  repeat' (with_reducible first | apply qa | apply qb | apply qc | apply qd | apply qe | apply qf | apply qg | apply qh | apply qi | apply qj | apply qk | apply ql rfl | apply qm rfl | apply qn rfl | (refine Tx 0 ?_; refine Jn xBo ?_; refine Ja ?_; refine Je ?_) | (refine Tx 1 ?_; refine Ja ?_; refine Je ?_) | (refine Tx 2 ?_; refine Jo (xFa tf_Diagram0 tk_s_Port) ?_; refine Jo (xLd tk_s_Port) ?_; refine Jo (xLn ts_s_Port) ?_; refine Jm ?_; refine Je ?_))
  refine cw_wk (wk_nil 5 3 1 rfl) ?_
  refine cw_wk (F' := ofL [(1, vd (rowI u inn)), (2, vr 0), (5, vo 1 ((inpV ps inn 0).length)), (10, vd (rowP t ps)), (11, vi ps.length), (12, vi ((0 : Nat)))]) (H' := [.box 46 [.d (rowP t ps), .d (rowB t bs), .d (rowI t os)], .row 3 1 (inpV ps inn (0)).length (cI (inpV ps inn (0)))]) (wk_go [(1, vd (rowI u inn)), (2, vr 0), (5, vo 1 ((inpV ps inn 0).length)), (10, vd (rowP t ps)), (11, vi ps.length), (12, vi ((0 : Nat)))] 2 ?_ ?_ ?_) ?_
  · rfl
  · exact mB rfl rfl
  · exact ⟨bel_lit rfl, bel_cI, trivial⟩
  refine cw_loopW (fun n Fr H => ∃ k : Nat, k ≤ ps.length ∧ n = ps.length - k ∧ Fr = ofL [(1, vd (rowI u inn)), (2, vr 0), (5, vo 1 ((inpV ps inn k).length)), (10, vd (rowP t ps)), (11, vi ps.length), (12, vi ((k : Nat)))] ∧ H = [.box 46 [.d (rowP t ps), .d (rowB t bs), .d (rowI t os)], .row 3 1 (inpV ps inn (k)).length (cI (inpV ps inn (k)))]) (n0 := ps.length) ⟨0, Nat.zero_le _, rfl, rfl, rfl⟩ ?_
  rintro n Fr H ⟨k, hk, rfl, rfl, rfl⟩
  by_cases hlt : k < ps.length
  case pos =>
    obtain ⟨p, hp⟩ : ∃ p, ps[k]? = some p := ⟨_, List.getElem?_eq_getElem hlt⟩
    have hol : (inpV ps inn (k)).length ≤ k := inpV_len _ _ _
    by_cases hki : k < inn.length
    case pos =>
      obtain ⟨z, hz⟩ : ∃ z, inn[k]? = some z := ⟨_, List.getElem?_eq_getElem hki⟩
      have hap : (inpV ps inn (k)) ++ [clipI z p.lo p.hi] = (inpV ps inn (k + 1)) := (inpV_step hp (by rw [hz]; rfl)).symm
      have hap2 : (inpV ps inn (k)).length + 1 = (inpV ps inn (k + 1)).length := by rw [← hap]; simp
      have BC := bclip_cv z p.lo p.hi
      repeat' (with_reducible first | apply qa | apply qb | apply qc | apply qd | apply qe | apply qf | apply qg | apply qh | apply qi | apply qj | apply qk | apply ql rfl | apply qm rfl | apply qn rfl | (refine Tx 3 ?_; refine Jo xLt ?_; refine Je ?_) | (refine Tx 4 ?_; refine Jm ?_; refine Jo (xIr ts_s_Port (prt_at hp)) ?_; refine Jo (xLa tk_Port) ?_; refine Jn (by exact ok_alloc rfl tz_Port) ?_; refine Ja ?_; refine Js (xSk tk_Port) ?_; refine Je ?_) | (refine Tx 5 ?_; refine Ja ?_; refine Je ?_) | (refine Tx 6 ?_; refine Jm ?_; refine Jm ?_; refine Jo (xLn ts_s_int) ?_; refine Jo xLt ?_; refine Je ?_) | (refine Tx 7 ?_; refine Jm ?_; refine Jm ?_; refine Jo (xIr ts_s_int (int_at hz)) ?_; refine Jo (xLd tk_int) ?_; refine Ja ?_; refine Je ?_) | (refine Tx 8 ?_; refine Jm ?_; refine Jm ?_; refine Jo (xFa tf_Port0 tk_int) ?_; refine Jo (xLd tk_int) ?_; refine Jo (xFa tf_Port1 tk_int) ?_; refine Jo (xLd tk_int) ?_; refine Jo (xCl Tryd.func58 (BC.cv)) ?_; refine Jn (by exact ok_build1 rfl ts_s_int tz_int rfl rfl (by decide) (by decide)) ?_; refine Jt (by exact to_apI rfl rfl rfl rfl rfl rfl ts_s_int tz_int (by omega) (by decide) hap hap2) ?_; refine Ja ?_; refine Je ?_) | (refine Tx 9 ?_; refine Jo xAd ?_; refine Jm ?_; refine Je ?_))
      refine ⟨_, _, wk_go [(1, vd (rowI u inn)), (2, vr 0), (5, vo 1 ((inpV ps inn ((k + 1))).length)), (10, vd (rowP t ps)), (11, vi ps.length), (12, vi (((k + 1) : Nat)))] 2 ?_ ?_ ?_, _, ?_, k + 1, by omega, rfl, rfl, rfl⟩
      · rfl
      · exact mB rfl rfl
      · exact ⟨bel_lit rfl, bel_cI, trivial⟩
      · omega
    case neg =>
      have hap : (inpV ps inn (k)) ++ [clipI 0 p.lo p.hi] = (inpV ps inn (k + 1)) := (inpV_step hp (by rw [List.getElem?_eq_none (by omega)]; rfl)).symm
      have hap2 : (inpV ps inn (k)).length + 1 = (inpV ps inn (k + 1)).length := by rw [← hap]; simp
      have BC := bclip_cv 0 p.lo p.hi
      repeat' (with_reducible first | apply qa | apply qb | apply qc | apply qd | apply qe | apply qf | apply qg | apply qh | apply qi | apply qj | apply qk | apply ql rfl | apply qm rfl | apply qn rfl | (refine Tx 3 ?_; refine Jo xLt ?_; refine Je ?_) | (refine Tx 4 ?_; refine Jm ?_; refine Jo (xIr ts_s_Port (prt_at hp)) ?_; refine Jo (xLa tk_Port) ?_; refine Jn (by exact ok_alloc rfl tz_Port) ?_; refine Ja ?_; refine Js (xSk tk_Port) ?_; refine Je ?_) | (refine Tx 5 ?_; refine Ja ?_; refine Je ?_) | (refine Tx 6 ?_; refine Jm ?_; refine Jm ?_; refine Jo (xLn ts_s_int) ?_; refine Jo xLt ?_; refine Je ?_) | (refine Tx 8 ?_; refine Jm ?_; refine Jm ?_; refine Jo (xFa tf_Port0 tk_int) ?_; refine Jo (xLd tk_int) ?_; refine Jo (xFa tf_Port1 tk_int) ?_; refine Jo (xLd tk_int) ?_; refine Jo (xCl Tryd.func58 (BC.cv)) ?_; refine Jn (by exact ok_build1 rfl ts_s_int tz_int rfl rfl (by decide) (by decide)) ?_; refine Jt (by exact to_apI rfl rfl rfl rfl rfl rfl ts_s_int tz_int (by omega) (by decide) hap hap2) ?_; refine Ja ?_; refine Je ?_) | (refine Tx 9 ?_; refine Jo xAd ?_; refine Jm ?_; refine Je ?_))
      refine ⟨_, _, wk_go [(1, vd (rowI u inn)), (2, vr 0), (5, vo 1 ((inpV ps inn ((k + 1))).length)), (10, vd (rowP t ps)), (11, vi ps.length), (12, vi (((k + 1) : Nat)))] 2 ?_ ?_ ?_, _, ?_, k + 1, by omega, rfl, rfl, rfl⟩
      · rfl
      · exact mB rfl rfl
      · exact ⟨bel_lit rfl, bel_cI, trivial⟩
      · omega
  obtain rfl : k = ps.length := by omega
  clear hlt hk
  repeat' (with_reducible first | apply qa | apply qb | apply qc | apply qd | apply qe | apply qf | apply qg | apply qh | apply qi | apply qj | apply qk | apply ql rfl | apply qm rfl | apply qn rfl | (refine Tx 3 ?_; refine Jo xLt ?_; refine Je ?_) | (refine Tx 10 ?_; refine Jm ?_; refine Ja ?_; refine Je ?_))
  exact ret_q rfl (.cons_ (rv_oI rfl rfl rfl) .nil_)
end Go.Proofs.YtjlocofimlgaoaaDoor
namespace Go.Proofs.YtjlocofimlgaoaaDoor
set_option linter.unusedVariables false
set_option linter.unusedSimpArgs false
set_option linter.unusedSectionVars false
open Go.RowKit Cd
/-! what Compile's code writes -/
theorem ord_all {bs : List Bk} (h : ordErr bs = 0) {j : Nat} (hj : j < bs.length) (hk : kindAt bs j ≠ 2) : j ∈ ordM bs := Classical.byContradiction fun hn => by
  have hlen : (ordM bs).length = nonDel bs := by
    unfold ordErr at h
    exact Classical.byContradiction fun hx => by rw [if_neg hx] at h; cases h
  have ho := ordN_ok bs.length (OutOk.nil bs)
  have := OutOk.le (bs := bs) (out := j :: ordM bs) ⟨List.nodup_cons.2 ⟨hn, ho.nodup⟩, fun i hi => by
    rcases List.mem_cons.1 hi with rfl | hi
    · exact ⟨hj, hk⟩
    · exact ho.mem i hi⟩
  rw [List.length_cons] at this
  omega
theorem blk_dst {ps : List Prt} {bs : List Bk} {F : List Int} {j : Nat} {c : Int} : (∀ x ∈ blkC ps bs F j c, x.dst = (j : Int)) ∧ ∃ x, x ∈ blkC ps bs F j c ∧ x.dst = (j : Int) := by
  unfold blkC
  dsimp only
  repeat' split
  all_goals simp
theorem del_mem {bs : List Bk} {j : Nat} : j ∈ delL bs ↔ j < bs.length ∧ kindAt bs j = 2 := by
  rw [delL_is]
  unfold dlK dlB
  simp
theorem cell_del {bs : List Bk} {t j : Nat} (h : (delL bs)[t]? = some j) : cellF bs j = (bs.length : Int) + (t : Int) := by
  rw [delL_is] at h
  obtain ⟨_, h2, h3⟩ := dl_at.1 h
  unfold cellF
  rw [if_pos h2, h3]
theorem run_free {inn : List Int} {j : Nat} : ∀ {xs : List Ins} {st : List Int × Bool}, (∀ x ∈ xs, x.dst.toNat ≠ j) → (xs.foldl (stepV inn) st).1[j]? = st.1[j]?
  | [], _, _ => rfl
  | x :: xs, st, h => by
    rw [List.foldl_cons, run_free fun y hy => h y (List.mem_cons_of_mem _ hy)]
    show (st.1.set x.dst.toNat _)[j]? = _
    rw [List.getElem?_set, if_neg (h x (List.mem_cons_self ..))]
theorem scl_zero {z : Int} (h : shortB z = true) : scl z 0 = z := by
  have := shortB_t h
  unfold scl
  rw [if_neg (by decide)]
  show _ * 1 = z
  rw [Int.mul_one]
  omega
theorem run_moves {bs : List Bk} {inn : List Int} {st : List Int × Bool} (hlen : bs.length + (delL bs).length ≤ st.1.length) (hs : ∀ z ∈ st.1, shortB z = true) : ∀ t, t ≤ (delL bs).length →
    (((delL bs).take t).map (mv2 bs)).foldl (stepV inn) st = ((((delL bs).take t).map (mv2 bs)).foldl (stepV inn) st) ∧
    (∀ k, k < (delL bs).length → ((((delL bs).take t).map (mv2 bs)).foldl (stepV inn) st).1[bs.length + k]? = st.1[bs.length + k]?) ∧
    ((((delL bs).take t).map (mv2 bs)).foldl (stepV inn) st).1.length = st.1.length ∧
    (∀ k j, k < t → (delL bs)[k]? = some j → ((((delL bs).take t).map (mv2 bs)).foldl (stepV inn) st).1[j]? = st.1[bs.length + k]?)
  | 0, _ => ⟨rfl, fun _ _ => rfl, rfl, fun _ _ h => absurd h (Nat.not_lt_zero _)⟩
  | t + 1, ht => by
    obtain ⟨_, ih1, ih2, ih3⟩ := run_moves (inn := inn) hlen hs t (by omega)
    obtain ⟨d, hd⟩ : ∃ d, (delL bs)[t]? = some d := ⟨_, List.getElem?_eq_getElem (by omega)⟩
    have hdn := (del_mem.1 (List.mem_of_getElem? hd)).1
    have hc := cell_del hd
    obtain ⟨z, hz⟩ : ∃ z, st.1[bs.length + t]? = some z := ⟨_, List.getElem?_eq_getElem (by omega)⟩
    have hzs := hs z (List.mem_of_getElem? hz)
    have e : (((delL bs).take (t + 1)).map (mv2 bs)).foldl (stepV inn) st = stepV inn ((((delL bs).take t).map (mv2 bs)).foldl (stepV inn) st) (mv2 bs d) := by
      rw [List.take_add_one, hd]
      simp [List.foldl_append]
    generalize (((delL bs).take t).map (mv2 bs)).foldl (stepV inn) st = A at ih1 ih2 ih3 e
    have hv : insV (mv2 bs d) A.1 inn = z := by
      rw [iv_move (w := z) rfl (by show A.1[(cellF bs d).toNat]? = _; rw [hc, show ((bs.length : Int) + (t : Int)).toNat = bs.length + t by omega, ih1 t (by omega)]; exact hz)]
      exact scl_zero hzs
    have hA : (stepV inn A (mv2 bs d)).1 = A.1.set d z := by
      show A.1.set ((d : Int)).toNat (cutV (insV (mv2 bs d) A.1 inn)) = _
      rw [hv, cutV_in hzs]
      rfl
    rw [e, hA]
    refine ⟨rfl, fun k hk => ?_, by rw [List.length_set]; exact ih2, fun k j hk hj => ?_⟩
    · rw [List.getElem?_set, if_neg (by omega)]
      exact ih1 k hk
    · by_cases hjd : d = j
      · subst hjd
        have hkt : k = t := by
          have h1 := hj; have h2 := hd
          rw [delL_is] at h1 h2
          have := (dl_at.1 h1).2.2; have := (dl_at.1 h2).2.2; omega
        subst hkt
        rw [List.getElem?_set, if_pos rfl, if_pos (by omega)]
        exact hz.symm
      · rw [List.getElem?_set, if_neg hjd]
        refine ih3 k j ?_ hj
        rcases Nat.lt_or_ge k t with h | h
        · exact h
        · exfalso
          have : k = t := by omega
          subst this
          rw [hd] at hj
          exact hjd (Option.some.inj hj)
section
variable {ps : List Prt} {bs : List Bk} {F inn : List Int}
theorem run_delay {k j : Nat} (hj : (delL bs)[k]? = some j) : (runV inn (codeM ps bs F) (initM bs F)).1[j]? = (runV inn (codeM ps bs F) (initM bs F)).1[bs.length + k]? := by
  have hk := (List.getElem?_eq_some_iff.1 hj).1
  have hsplit : runV inn (codeM ps bs F) (initM bs F) = ((delL bs).map (mv2 bs)).foldl (stepV inn) (runV inn ((ordM bs).flatMap (fun j => blkC ps bs F j (cellF bs j)) ++ (delL bs).map (mv1 bs F)) (initM bs F)) := by
    unfold runV codeM
    rw [List.foldl_append]
  have hs := runV_short (inn := inn) (xs := (ordM bs).flatMap (fun j => blkC ps bs F j (cellF bs j)) ++ (delL bs).map (mv1 bs F)) (cs := initM bs F) (fun z hz => init_short hz)
  have hlen := runV_len inn ((ordM bs).flatMap (fun j => blkC ps bs F j (cellF bs j)) ++ (delL bs).map (mv1 bs F)) (initM bs F)
  rw [init_len, ← delL_is] at hlen
  rw [hsplit]
  generalize runV inn ((ordM bs).flatMap (fun j => blkC ps bs F j (cellF bs j)) ++ (delL bs).map (mv1 bs F)) (initM bs F) = st at hs hlen ⊢
  obtain ⟨_, h1, _, h3⟩ := run_moves (bs := bs) (inn := inn) (st := st) (by omega) (fun z hz => decide_eq_true (hs z hz)) (delL bs).length (Nat.le_refl _)
  rw [List.take_length] at h1 h3
  rw [h3 k j hk hj, h1 k hk]
end
theorem inp_fit {ps : List Prt} {is : List Int} {xs : List Ins} {os inn : List Int} (hp : progErr ps is xs os = 0) (k : Nat) (p : Prt) (z : Int) (h1 : ps[k]? = some p) (h2 : (inpV ps inn ps.length)[k]? = some z) : p.lo ≤ z ∧ z ≤ p.hi := by
  have hk := (List.getElem?_eq_some_iff.1 h1).1
  have := prog_zero hp (portErr p) (by simp only [List.mem_append, List.mem_map]; exact .inl ⟨p, List.mem_of_getElem? h1, rfl⟩)
  have hle : p.lo ≤ p.hi := by
    unfold portErr at this
    exact Classical.byContradiction fun hn => by rw [if_neg (fun h => hn h.2.2.1)] at this; cases this
  unfold inpV at h2
  rw [List.getElem?_map, List.getElem?_range hk] at h2
  simp only [Option.map_some, Option.some.injEq, h1, Option.getD_some] at h2
  subst h2
  unfold clipI
  omega
theorem inp_len (ps : List Prt) (inn : List Int) : (inpV ps inn ps.length).length = ps.length := by simp [inpV]
end Go.Proofs.YtjlocofimlgaoaaDoor
