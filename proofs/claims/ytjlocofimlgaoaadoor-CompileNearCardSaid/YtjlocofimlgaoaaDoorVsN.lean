/- The types of the program: sizes, zeros, fields. No conditions. Data of the program's types; contracts whose results are new. No conditions. -/
import Derived.Test.YtjlocofimlgaoaaDoorVsJ
import Derived.Test.YtjlocofimlgaoaaDoorRows
namespace Go.Proofs.YtjlocofimlgaoaaDoor
set_option linter.unusedVariables false
set_option linter.unusedSimpArgs false
set_option linter.unusedSectionVars false
open Go.RowKit

theorem tk_int : TyK Tryd.prog 3 false 1 := ⟨⟨_, Tryd.underlying3, rfl⟩, by kernel_rfl⟩
theorem tz_int : TyZ Tryd.prog 3 (.int .i64 0) 1 8 := ⟨by kernel_rfl, rfl, by kernel_rfl⟩
theorem tk_bool : TyK Tryd.prog 4 false 1 := ⟨⟨_, Tryd.underlying4, rfl⟩, by kernel_rfl⟩
theorem tk_uint32 : TyK Tryd.prog 130 false 1 := ⟨⟨_, Tryd.underlying130, rfl⟩, by kernel_rfl⟩
theorem tz_uint32 : TyZ Tryd.prog 130 (.int .u32 0) 1 4 := ⟨by kernel_rfl, rfl, by kernel_rfl⟩
theorem tk_s_int : TyK Tryd.prog 44 false 1 := ⟨⟨_, Tryd.underlying44, rfl⟩, by kernel_rfl⟩
theorem tk_s_uint32 : TyK Tryd.prog 35 false 1 := ⟨⟨_, Tryd.underlying35, rfl⟩, by kernel_rfl⟩
theorem tk_s_Port : TyK Tryd.prog 42 false 1 := ⟨⟨_, Tryd.underlying42, rfl⟩, by kernel_rfl⟩
theorem tk_s_Block : TyK Tryd.prog 43 false 1 := ⟨⟨_, Tryd.underlying43, rfl⟩, by kernel_rfl⟩
theorem tk_s_Instr : TyK Tryd.prog 48 false 1 := ⟨⟨_, Tryd.underlying48, rfl⟩, by kernel_rfl⟩
theorem tk_Diagram : TyK Tryd.prog 46 true 3 := ⟨⟨_, Tryd.underlying46, rfl⟩, by kernel_rfl⟩
theorem tz_Diagram : TyZ Tryd.prog 46 (.agg #[.slice none 0 0, .slice none 0 0, .slice none 0 0]) 3 72 := ⟨by kernel_rfl, rfl, by kernel_rfl⟩
theorem tf_Diagram0 : TyF Tryd.prog 46 0 0 42 := ⟨_, _, Tryd.underlying46, rfl, rfl, rfl⟩
theorem tf_Diagram1 : TyF Tryd.prog 46 1 1 43 := ⟨_, _, Tryd.underlying46, rfl, rfl, rfl⟩
theorem tf_Diagram2 : TyF Tryd.prog 46 2 2 44 := ⟨_, _, Tryd.underlying46, rfl, rfl, rfl⟩
theorem tb_Diagram : TyB Tryd.prog 46 [(0, 1), (1, 1), (2, 1)] [.slice none 0 0, .slice none 0 0, .slice none 0 0] := ⟨⟨_, Tryd.underlying46, by kernel_rfl⟩, by kernel_rfl, by kernel_rfl⟩
theorem tk_Dyadic : TyK Tryd.prog 37 true 3 := ⟨⟨_, Tryd.underlying37, rfl⟩, by kernel_rfl⟩
theorem tz_Dyadic : TyZ Tryd.prog 37 (.agg #[.bool false, .slice none 0 0, .int .i64 0]) 3 40 := ⟨by kernel_rfl, rfl, by kernel_rfl⟩
theorem tf_Dyadic0 : TyF Tryd.prog 37 0 0 4 := ⟨_, _, Tryd.underlying37, rfl, rfl, rfl⟩
theorem tf_Dyadic1 : TyF Tryd.prog 37 1 1 35 := ⟨_, _, Tryd.underlying37, rfl, rfl, rfl⟩
theorem tf_Dyadic2 : TyF Tryd.prog 37 2 2 3 := ⟨_, _, Tryd.underlying37, rfl, rfl, rfl⟩
theorem tk_Scalar : TyK Tryd.prog 23 true 2 := ⟨⟨_, Tryd.underlying23, rfl⟩, by kernel_rfl⟩
theorem tf_Scalar0 : TyF Tryd.prog 23 0 0 3 := ⟨_, _, Tryd.underlying23, rfl, rfl, rfl⟩
theorem tf_Scalar1 : TyF Tryd.prog 23 1 1 3 := ⟨_, _, Tryd.underlying23, rfl, rfl, rfl⟩
theorem tb_Scalar : TyB Tryd.prog 23 [(0, 1), (1, 1)] [.int .i64 0, .int .i64 0] := ⟨⟨_, Tryd.underlying23, by kernel_rfl⟩, by kernel_rfl, by kernel_rfl⟩
theorem tk_Block : TyK Tryd.prog 67 true 6 := ⟨⟨_, Tryd.underlying67, rfl⟩, by kernel_rfl⟩
theorem tz_Block : TyZ Tryd.prog 67 (.agg #[.int .i64 0, .slice none 0 0, .int .i64 0, .int .i64 0, .int .i64 0, .int .i64 0]) 6 64 := ⟨by kernel_rfl, rfl, by kernel_rfl⟩
theorem tf_Block0 : TyF Tryd.prog 67 0 0 3 := ⟨_, _, Tryd.underlying67, rfl, rfl, rfl⟩
theorem tf_Block1 : TyF Tryd.prog 67 1 1 44 := ⟨_, _, Tryd.underlying67, rfl, rfl, rfl⟩
theorem tf_Block2 : TyF Tryd.prog 67 2 2 23 := ⟨_, _, Tryd.underlying67, rfl, rfl, rfl⟩
theorem tf_Block3 : TyF Tryd.prog 67 3 4 23 := ⟨_, _, Tryd.underlying67, rfl, rfl, rfl⟩
theorem tb_Block : TyB Tryd.prog 67 [(0, 1), (1, 1), (2, 2), (4, 2)] [.int .i64 0, .slice none 0 0, .int .i64 0, .int .i64 0, .int .i64 0, .int .i64 0] := ⟨⟨_, Tryd.underlying67, by kernel_rfl⟩, by kernel_rfl, by kernel_rfl⟩
theorem tk_Port : TyK Tryd.prog 72 true 3 := ⟨⟨_, Tryd.underlying72, rfl⟩, by kernel_rfl⟩
theorem tz_Port : TyZ Tryd.prog 72 (.agg #[.int .i64 0, .int .i64 0, .int .i64 0]) 3 24 := ⟨by kernel_rfl, rfl, by kernel_rfl⟩
theorem tf_Port0 : TyF Tryd.prog 72 0 0 3 := ⟨_, _, Tryd.underlying72, rfl, rfl, rfl⟩
theorem tf_Port1 : TyF Tryd.prog 72 1 1 3 := ⟨_, _, Tryd.underlying72, rfl, rfl, rfl⟩
theorem tf_Port2 : TyF Tryd.prog 72 2 2 3 := ⟨_, _, Tryd.underlying72, rfl, rfl, rfl⟩
theorem tb_Port : TyB Tryd.prog 72 [(0, 1), (1, 1), (2, 1)] [.int .i64 0, .int .i64 0, .int .i64 0] := ⟨⟨_, Tryd.underlying72, by kernel_rfl⟩, by kernel_rfl, by kernel_rfl⟩
theorem tk_Program : TyK Tryd.prog 50 true 4 := ⟨⟨_, Tryd.underlying50, rfl⟩, by kernel_rfl⟩
theorem tz_Program : TyZ Tryd.prog 50 (.agg #[.slice none 0 0, .slice none 0 0, .slice none 0 0, .slice none 0 0]) 4 96 := ⟨by kernel_rfl, rfl, by kernel_rfl⟩
theorem tf_Program0 : TyF Tryd.prog 50 0 0 42 := ⟨_, _, Tryd.underlying50, rfl, rfl, rfl⟩
theorem tf_Program1 : TyF Tryd.prog 50 1 1 44 := ⟨_, _, Tryd.underlying50, rfl, rfl, rfl⟩
theorem tf_Program2 : TyF Tryd.prog 50 2 2 48 := ⟨_, _, Tryd.underlying50, rfl, rfl, rfl⟩
theorem tf_Program3 : TyF Tryd.prog 50 3 3 44 := ⟨_, _, Tryd.underlying50, rfl, rfl, rfl⟩
theorem tb_Program : TyB Tryd.prog 50 [(0, 1), (1, 1), (2, 1), (3, 1)] [.slice none 0 0, .slice none 0 0, .slice none 0 0, .slice none 0 0] := ⟨⟨_, Tryd.underlying50, by kernel_rfl⟩, by kernel_rfl, by kernel_rfl⟩
theorem tk_CodeRun : TyK Tryd.prog 63 true 3 := ⟨⟨_, Tryd.underlying63, rfl⟩, by kernel_rfl⟩
theorem tz_CodeRun : TyZ Tryd.prog 63 (.agg #[.slice none 0 0, .slice none 0 0, .bool false]) 3 56 := ⟨by kernel_rfl, rfl, by kernel_rfl⟩
theorem tf_CodeRun0 : TyF Tryd.prog 63 0 0 44 := ⟨_, _, Tryd.underlying63, rfl, rfl, rfl⟩
theorem tf_CodeRun1 : TyF Tryd.prog 63 1 1 44 := ⟨_, _, Tryd.underlying63, rfl, rfl, rfl⟩
theorem tf_CodeRun2 : TyF Tryd.prog 63 2 2 4 := ⟨_, _, Tryd.underlying63, rfl, rfl, rfl⟩
theorem tb_CodeRun : TyB Tryd.prog 63 [(0, 1), (1, 1), (2, 1)] [.slice none 0 0, .slice none 0 0, .bool false] := ⟨⟨_, Tryd.underlying63, by kernel_rfl⟩, by kernel_rfl, by kernel_rfl⟩
theorem tk_Instr : TyK Tryd.prog 89 true 7 := ⟨⟨_, Tryd.underlying89, rfl⟩, by kernel_rfl⟩
theorem tz_Instr : TyZ Tryd.prog 89 (.agg #[.int .i64 0, .int .i64 0, .int .i64 0, .int .i64 0, .int .i64 0, .int .i64 0, .int .i64 0]) 7 56 := ⟨by kernel_rfl, rfl, by kernel_rfl⟩
theorem tf_Instr0 : TyF Tryd.prog 89 0 0 3 := ⟨_, _, Tryd.underlying89, rfl, rfl, rfl⟩
theorem tf_Instr1 : TyF Tryd.prog 89 1 1 3 := ⟨_, _, Tryd.underlying89, rfl, rfl, rfl⟩
theorem tf_Instr2 : TyF Tryd.prog 89 2 2 3 := ⟨_, _, Tryd.underlying89, rfl, rfl, rfl⟩
theorem tf_Instr3 : TyF Tryd.prog 89 3 3 3 := ⟨_, _, Tryd.underlying89, rfl, rfl, rfl⟩
theorem tf_Instr4 : TyF Tryd.prog 89 4 4 3 := ⟨_, _, Tryd.underlying89, rfl, rfl, rfl⟩
theorem tf_Instr5 : TyF Tryd.prog 89 5 5 3 := ⟨_, _, Tryd.underlying89, rfl, rfl, rfl⟩
theorem tf_Instr6 : TyF Tryd.prog 89 6 6 3 := ⟨_, _, Tryd.underlying89, rfl, rfl, rfl⟩
theorem tb_Instr : TyB Tryd.prog 89 [(0, 1), (1, 1), (2, 1), (3, 1), (4, 1), (5, 1), (6, 1)] [.int .i64 0, .int .i64 0, .int .i64 0, .int .i64 0, .int .i64 0, .int .i64 0, .int .i64 0] := ⟨⟨_, Tryd.underlying89, by kernel_rfl⟩, by kernel_rfl, by kernel_rfl⟩
theorem ts_s_int : TyS Tryd.prog 44 3 1 := ⟨Tryd.underlying44, by kernel_rfl⟩
theorem ts_s_uint32 : TyS Tryd.prog 35 130 1 := ⟨Tryd.underlying35, by kernel_rfl⟩
theorem ts_s_Port : TyS Tryd.prog 42 72 3 := ⟨Tryd.underlying42, by kernel_rfl⟩
theorem ts_s_Block : TyS Tryd.prog 43 67 6 := ⟨Tryd.underlying43, by kernel_rfl⟩
theorem ts_s_Dyadic : TyS Tryd.prog 73 37 3 := ⟨Tryd.underlying73, by kernel_rfl⟩
theorem ts_s_Instr : TyS Tryd.prog 48 89 7 := ⟨Tryd.underlying48, by kernel_rfl⟩
theorem ti_error : TyI Tryd.prog 26 := ⟨by kernel_rfl⟩
end Go.Proofs.YtjlocofimlgaoaaDoor
namespace Go.Proofs.YtjlocofimlgaoaaDoor
set_option linter.unusedVariables false
set_option linter.unusedSimpArgs false
set_option linter.unusedSectionVars false
open Go.RowKit

/-- Data up to the marks. -/
inductive TEq : D → D → Prop
  | val (v : Value) : TEq (.val v) (.val v)
  | row {t t' : Bool} {s n : Nat} {cs ds : List D} (hl : cs.length = ds.length) (hr : ∀ (j : Nat) (c d : D), cs[j]? = some c → ds[j]? = some d → TEq c d) : TEq (.row t s n cs) (.row t' s n ds)
  | ptr {t t' : Bool} {cs ds : List D} (hl : cs.length = ds.length) (hr : ∀ (j : Nat) (c d : D), cs[j]? = some c → ds[j]? = some d → TEq c d) : TEq (.ptr t cs) (.ptr t' ds)
/-- All that is looked at. -/
def anyS (S : Sets) : Sets := fun _ b => S true b ∨ S false b
theorem TEq.rel {w : World} {S : Sets} {d d' : D} (h : TEq d d') : ∀ v, DRel w (anyS S) d v → DRel w (anyS S) d' v := by
  induction h with
  | val v => exact fun _ h => h
  | @row t t' s n cs ds hl _ ih =>
    intro v hv
    cases hv with
    | row xs hc hA hln hx hm hr =>
      refine .row xs hc hA (by omega) (by omega) (fun hne => hm (fun h0 => hne (by rw [h0] at hl; exact List.eq_nil_of_length_eq_zero (by simpa using hl.symm)))) fun j u x hu hj => ?_
      obtain ⟨c, hcj⟩ : ∃ c, cs[j]? = some c := ⟨_, List.getElem?_eq_getElem (by have := (List.getElem?_eq_some_iff.1 hu).1; omega)⟩
      exact ih j c u hcj hu x (hr j c x hcj hj)
  | @ptr t t' cs ds hl _ ih =>
    intro v hv
    cases hv with
    | ptr xs hx hb hm hr =>
      refine .ptr xs (by omega) hb hm fun j u x hu hj => ?_
      obtain ⟨c, hcj⟩ : ∃ c, cs[j]? = some c := ⟨_, List.getElem?_eq_getElem (by have := (List.getElem?_eq_some_iff.1 hu).1; omega)⟩
      exact ih j c u hcj hu x (hr j c x hcj hj)
theorem TEq.refl : ∀ d, TEq d d
  | .val v => .val v
  | .row t s n cs => .row rfl fun j c d h1 h2 => by
    rw [h1] at h2
    cases h2
    have := List.sizeOf_lt_of_mem (List.mem_of_getElem? h1)
    exact TEq.refl c
  | .ptr t cs => .ptr rfl fun j c d h1 h2 => by
    rw [h1] at h2
    cases h2
    have := List.sizeOf_lt_of_mem (List.mem_of_getElem? h1)
    exact TEq.refl c
termination_by d => SizeOf.sizeOf d
decreasing_by all_goals (simp only [D.row.sizeOf_spec, D.ptr.sizeOf_spec]; omega)
/-- A contract whose results are new: nothing of what came in is in them. -/
def Fresh (w w' : World) : Sets := fun t b => t = false ∧ w.heap.size ≤ b ∧ b < w'.heap.size
def CVF (P : Program) (G : World → Prop) (f : FuncId) (args res : List A) : Prop :=
  ∀ (w : World) (S : Sets) (vs : List Value), G w → (∀ t b, S t b → b < w.heap.size) → LRel (ARel w S) args vs →
    Calls P f vs.toArray w fun e w' => ∃ v, e = .returned v ∧ RRel w' (Fresh w w') res v ∧ Below w.heap.size w w'
theorem RRel.mono {w w' : World} {S S' : Sets} (hS : ∀ t b, S t b → S' t b) (hw : ∀ t b, S t b → w'.heap[b]? = w.heap[b]?) {res : List A} {v : Value} (h : RRel w S res v) : RRel w' S' res v := by
  match res, h with
  | [], h => obtain ⟨vs, h1, h2⟩ := h; exact ⟨vs, h1, h2.imp fun _ _ => ARel.mono hS hw⟩
  | [x], h => exact ARel.mono hS hw h
  | x :: y :: l, h => obtain ⟨vs, h1, h2⟩ := h; exact ⟨vs, h1, h2.imp fun _ _ => ARel.mono hS hw⟩
theorem CVF.cv {P : Program} {G : World → Prop} {f : FuncId} {args res : List A} (h : CVF P G f args res) : CV P G f args res := fun w S vs hg hlt ha =>
  (h w S vs hg hlt ha).mono fun e w' ⟨v, h1, h2, h3⟩ => ⟨v, h1, h2.mono (fun t b hb => ⟨hb.1, .inr hb.2⟩) (fun _ _ _ => rfl), h3⟩
inductive AEq : A → A → Prop
  | one {d d' : D} (h : TEq d d') : AEq (.one d) (.one d')
  | agg {ds ds' : List D} (h : LRel TEq ds ds') : AEq (.agg ds) (.agg ds')
theorem AEq.refl (a : A) : AEq a a := by
  cases a with
  | one d => exact .one (TEq.refl d)
  | agg ds => exact .agg ⟨rfl, fun j a b h1 h2 => by rw [h1] at h2; cases h2; exact TEq.refl a⟩
/-- Marks do not matter where the results are new. -/
theorem CVF.tags {P : Program} {G : World → Prop} {f : FuncId} {args args' res : List A} (h : CVF P G f args res) (he : LRel AEq args' args) : CV P G f args' res := fun w S vs hg hlt ha => by
  have ha' : LRel (ARel w (anyS S)) args vs := ⟨he.1.symm.trans ha.1, fun j y v hy hv => by
    obtain ⟨y', hy'⟩ : ∃ y', args'[j]? = some y' := ⟨_, List.getElem?_eq_getElem (by have := (List.getElem?_eq_some_iff.1 hy).1; have := he.1; omega)⟩
    have h1 := ha.2 j y' v hy' hv
    have h2 := he.2 j y' y hy' hy
    have hS : ∀ t b, S t b → anyS S t b := fun t b hb => by cases t <;> first | exact .inl hb | exact .inr hb
    cases h2 with
    | one h2 => exact h2.rel v (DRel.mono hS (fun _ _ _ => rfl) h1)
    | @agg ds ds' h2 =>
      obtain ⟨xs, rfl, h3⟩ := h1
      exact ⟨xs, rfl, h2.1.symm.trans h3.1, fun i d x hd hx => by
        obtain ⟨c, hc⟩ : ∃ c, ds[i]? = some c := ⟨_, List.getElem?_eq_getElem (by have := (List.getElem?_eq_some_iff.1 hd).1; have := h2.1; omega)⟩
        exact (h2.2 i c d hc hd).rel x (DRel.mono hS (fun _ _ _ => rfl) (h3.2 i c x hc hx))⟩⟩
  exact (h w (anyS S) vs hg (fun t b hb => hb.elim (hlt _ b) (hlt _ b)) ha').mono fun e w' ⟨v, h1, h2, h3⟩ => ⟨v, h1, h2.mono (fun t b hb => ⟨hb.1, .inr hb.2⟩) (fun _ _ _ => rfl), h3⟩

/-! encodings -/
def dI (z : Int) : D := .val (.int .i64 z)
def dB (b : Bool) : D := .val (.bool b)
def dU (z : Nat) : D := .val (.int .u32 (z : Int))
def aI (z : Int) : A := .one (dI z)
def aB (b : Bool) : A := .one (dB b)
def rowI (t : Bool) (xs : List Int) : D := .row t 1 xs.length (xs.map dI)
def flatD {α : Type} (f : α → List D) (l : List α) : List D := (l.map f).flatten
theorem flatD_app {α : Type} (f : α → List D) (a b : List α) : flatD f (a ++ b) = flatD f a ++ flatD f b := by simp [flatD]
theorem flatD_at {α : Type} {f : α → List D} {s : Nat} (hf : ∀ x, (f x).length = s) : ∀ {l : List α} {k : Nat} {x : α}, l[k]? = some x → ((flatD f l).drop (k * s)).take s = f x
  | [], k, x, h => by simp at h
  | y :: l, 0, x, h => by
    simp only [List.getElem?_cons_zero, Option.some.injEq] at h
    subst h
    simp only [flatD, List.map_cons, List.flatten_cons, Nat.zero_mul, List.drop_zero]
    rw [List.take_append_of_le_length (by rw [hf]; exact Nat.le_refl _), List.take_of_length_le (by rw [hf]; exact Nat.le_refl _)]
  | y :: l, k + 1, x, h => by
    simp only [List.getElem?_cons_succ] at h
    have ih := flatD_at hf h
    simp only [flatD, List.map_cons, List.flatten_cons] at ih ⊢
    rw [← ih, show (k + 1) * s = (f y).length + k * s by rw [hf, Nat.add_mul]; omega, List.drop_append]
    rw [List.drop_of_length_le (by omega), List.nil_append]
    congr 2
    omega
theorem map_at {α : Type} {f : α → D} {l : List α} {k : Nat} {x : α} (h : l[k]? = some x) : ((l.map f).drop (k * 1)).take 1 = [f x] := by
  rw [Nat.mul_one]
  have hk := (List.getElem?_eq_some_iff.1 h).1
  rw [← List.map_drop, ← List.map_take, List.drop_eq_getElem_cons hk]
  have : l[k] = x := (List.getElem?_eq_some_iff.1 h).2
  simp [this]
end Go.Proofs.YtjlocofimlgaoaaDoor
