/- Diagrams as data; the contracts of the elder texts on diagrams, told on values. No conditions. -/
import Derived.Test.YtjlocofimlgaoaaDoorVsM
import Derived.Test.YtjlocofimlgaoaaDoorDgV
namespace Go.Proofs.YtjlocofimlgaoaaDoor
set_option linter.unusedVariables false
set_option linter.unusedSimpArgs false
set_option linter.unusedSectionVars false
open Go.RowKit

theorem vals_rel {w : World} {S : Sets} {vs xs : List Value} (h : LRel (DRel w S) (vs.map .val) xs) : xs = vs := by
  induction vs generalizing xs with
  | nil => exact h.unnil
  | cons v vs ih =>
    obtain ⟨x, xs', rfl, h1, h2⟩ := (show LRel (DRel w S) (D.val v :: vs.map .val) xs from h).uncons
    cases h1
    rw [ih h2]
theorem rel_vals {w : World} {S : Sets} {vs : List Value} (h : ∀ v ∈ vs, v.oneCell' = true) : LRel (DRel w S) (vs.map .val) vs :=
  ⟨by simp, fun j d v hd hv => by
    simp only [List.getElem?_map, hv, Option.map_some, Option.some.injEq] at hd
    subst hd
    exact .val (h v (List.mem_of_getElem? hv))⟩
theorem row_open {w : World} {S : Sets} (hlt : ∀ t b, S t b → b < w.heap.size) {t : Bool} {s n : Nat} {cs : List D} {v : Value} (h : DRel w S (.row t s n cs) v) :
    ∃ A c xs, v = .slice A n c ∧ (A = none → c = 0) ∧ n ≤ c ∧ cs.length = n * s ∧ LRel (DRel w S) cs xs ∧ CellsAt w w.heap.size A xs := by
  cases h with
  | @row _ _ _ c _ A xs hc hA hl hx hm hr =>
    refine ⟨A, c, xs, rfl, hA, hc, hl, ⟨hx, hr⟩, fun hne => ?_⟩
    obtain ⟨b, off, h1, h2, h3⟩ := hm (fun h0 => hne (by rw [h0] at hx; exact List.eq_nil_of_length_eq_zero (by simpa using hx.symm)))
    exact ⟨b, off, h1, hlt _ _ h2, hlt _ _ h2, h3⟩
theorem row_vals {w : World} {S : Sets} (hlt : ∀ t b, S t b → b < w.heap.size) {t : Bool} {s n : Nat} {vs : List Value} {v : Value} (h : DRel w S (.row t s n (vs.map .val)) v) :
    ∃ A c, v = .slice A n c ∧ (A = none → c = 0) ∧ n ≤ c ∧ vs.length = n * s ∧ CellsAt w w.heap.size A vs := by
  obtain ⟨A, c, xs, h1, h2, h3, h4, h5, h6⟩ := row_open hlt h
  rw [vals_rel h5] at h6
  exact ⟨A, c, h1, h2, h3, by simpa using h4, h6⟩
theorem dI_map (xs : List Int) : xs.map dI = (ints xs).map .val := by simp [ints, dI]
theorem rowI_open {w : World} {S : Sets} (hlt : ∀ t b, S t b → b < w.heap.size) {t : Bool} {xs : List Int} {v : Value} (h : DRel w S (rowI t xs) v) : ∃ A c, v = .slice A xs.length c ∧ (A = none → c = 0) ∧ xs.length ≤ c ∧ CellsAt w w.heap.size A (ints xs) := by
  unfold rowI at h
  rw [dI_map] at h
  obtain ⟨A, c, h1, h2, h3, _, h4⟩ := row_vals hlt h
  exact ⟨A, c, h1, h2, h3, h4⟩
/-- An own row of values, handed out. -/
theorem own_fresh {w w' : World} {e s n : Nat} {v : Value} {xs : List Value} (h : w'.ownsRow w.heap.size e s v n xs) (h1 : ∀ u ∈ xs, u.oneCell' = true) : DRel w' (Fresh w w') (.row false s n (xs.map .val)) v := by
  have hl := h.1
  rcases h.2 with ⟨rfl, rfl⟩ | ⟨g, cap, cur, rfl, hb, hg, hnc, hcm, hcs, htk⟩
  · have : xs = [] := List.eq_nil_of_length_eq_zero (by simpa using hl)
    subst this
    exact .row [] (Nat.le_refl _) (fun _ => rfl) (by simp) rfl (fun h => absurd rfl h) (fun j u x h => by simp at h)
  · have hlt := (Array.getElem?_eq_some_iff.1 hg).1
    refine .row xs hnc (by simp) (by simpa using hl) (by simp) (fun _ => ⟨g, 0, rfl, ⟨rfl, hb, hlt⟩, fun j x hj => ?_⟩) (rel_vals h1).2
    rw [Nat.zero_add, own_cell h (List.getElem?_eq_some_iff.1 hj).1]
    exact hj
theorem own_freshI {w w' : World} {v : Value} {xs : List Int} (h : OwnI w' w.heap.size v xs) : DRel w' (Fresh w w') (rowI false xs) v := by
  unfold rowI
  rw [dI_map]
  exact own_fresh h (fun u hu => by obtain ⟨z, _, rfl⟩ := List.mem_map.1 hu; rfl)

def dPrt (p : Prt) : List D := [dI p.lo, dI p.hi, dI p.fr]
def dBk (t : Bool) (b : Bk) : List D := [dI b.kind, rowI t b.args, dI b.vn, dI b.ve, dI b.un, dI b.ue]
def dIns (x : Ins) : List D := [dI x.op, dI x.dst, dI x.a, dI x.b, dI x.sa, dI x.sb, dI x.imm]
def rowP (t : Bool) (ps : List Prt) : D := .row t 3 ps.length (flatD dPrt ps)
def rowB (t : Bool) (bs : List Bk) : D := .row t 6 bs.length (flatD (dBk t) bs)
def rowN (t : Bool) (xs : List Ins) : D := .row t 7 xs.length (flatD dIns xs)
def dDg (t : Bool) (ps : List Prt) (bs : List Bk) (os : List Int) : List D := [rowP t ps, rowB t bs, rowI t os]
def aDg (t : Bool) (ps : List Prt) (bs : List Bk) (os : List Int) : A := .agg (dDg t ps bs os)
def aE (n : Int) : A := .one (.val (errV n))
theorem errV_one (n : Int) : (errV n).oneCell' = true := by unfold errV; split <;> rfl
theorem flatD_vals {α : Type} {f : α → List D} {g : α → List Value} (h : ∀ x, f x = (g x).map .val) (l : List α) : flatD f l = (flat g l).map .val := by
  induction l with
  | nil => rfl
  | cons x l ih =>
    simp only [flatD, flat, List.map_cons, List.flatten_cons, List.map_append] at ih ⊢
    rw [ih, h]
theorem dPrt_vals (p : Prt) : dPrt p = (Prt.cells p).map .val := rfl
theorem dIns_vals (p : Ins) : dIns p = (Ins.cells p).map .val := rfl
/-- A block without its addresses. -/
def Bk.z (b : Bk) : Bk := { b with A := none, cap := 0 }
section
variable (bs : List Bk)
theorem bk_z (i : Nat) : ((bs.map Bk.z)[i]?.getD bk0) = (bs[i]?.getD bk0).z := by
  rw [List.getElem?_map]
  cases bs[i]? <;> rfl
theorem kindAt_z : kindAt (bs.map Bk.z) = kindAt bs := funext fun i => by unfold kindAt; rw [bk_z]; rfl
theorem argsAt_z : argsAt (bs.map Bk.z) = argsAt bs := funext fun i => by unfold argsAt; rw [bk_z]; rfl
theorem preds_z : preds (bs.map Bk.z) = preds bs := funext fun i => by unfold preds; rw [kindAt_z, argsAt_z]
theorem doneB_z : doneB (bs.map Bk.z) = doneB bs := funext fun o => funext fun j => by unfold doneB; rw [kindAt_z]
theorem rdy_z : rdy (bs.map Bk.z) = rdy bs := funext fun o => funext fun j => by unfold rdy; rw [doneB_z, preds_z]
theorem nxt_z : nxt (bs.map Bk.z) = nxt bs := funext fun o => by unfold nxt; rw [rdy_z, List.length_map]
theorem ordN_z : ∀ f o, ordN (bs.map Bk.z) f o = ordN bs f o
  | 0, o => rfl
  | f + 1, o => by
    unfold ordN
    rw [nxt_z]
    cases nxt bs o with
    | none => rfl
    | some i => exact ordN_z f _
theorem ordM_z : ordM (bs.map Bk.z) = ordM bs := by unfold ordM; rw [ordN_z, List.length_map]
theorem nonDel_z : nonDel (bs.map Bk.z) = nonDel bs := by unfold nonDel; rw [kindAt_z, List.length_map]
theorem ordErr_z : ordErr (bs.map Bk.z) = ordErr bs := by unfold ordErr; rw [ordM_z, nonDel_z]
theorem dgErr_z (ps : List Prt) (os : List Int) : dgErr ps (bs.map Bk.z) os = dgErr ps bs os := by
  have h1 : sizeOk ps (bs.map Bk.z) os = sizeOk ps bs os := by unfold sizeOk; rw [List.length_map]
  have h2 : preErr ps (bs.map Bk.z) os = preErr ps bs os := by
    unfold preErr
    rw [List.length_map, List.map_map]
    rfl
  unfold dgErr
  simp only [h1, h2, ordErr_z]
end
theorem bk_open {w : World} {S : Sets} {t : Bool} (hlt : ∀ t b, S t b → b < w.heap.size) : ∀ {bs : List Bk} {xs : List Value}, LRel (DRel w S) (flatD (dBk t) bs) xs → ∃ bs', xs = flat Bk.cells bs' ∧ bs'.map Bk.z = bs.map Bk.z ∧ ∀ b ∈ bs', CellsAt w w.heap.size b.A (ints b.args)
  | [], xs, h => by
    have := (show LRel (DRel w S) [] xs from h).unnil
    exact ⟨[], this, rfl, by simp⟩
  | b :: bs, xs, h => by
    have h' : LRel (DRel w S) (dI b.kind :: rowI t b.args :: dI b.vn :: dI b.ve :: dI b.un :: dI b.ue :: flatD (dBk t) bs) xs := h
    obtain ⟨v0, x1, rfl, q0, h⟩ := h'.uncons
    obtain ⟨v1, x2, rfl, q1, h⟩ := h.uncons
    obtain ⟨v2, x3, rfl, q2, h⟩ := h.uncons
    obtain ⟨v3, x4, rfl, q3, h⟩ := h.uncons
    obtain ⟨v4, x5, rfl, q4, h⟩ := h.uncons
    obtain ⟨v5, x6, rfl, q5, h⟩ := h.uncons
    obtain ⟨bs', rfl, h2, h3⟩ := bk_open hlt h
    obtain ⟨A, c, rfl, _, _, hc⟩ := rowI_open hlt q1
    cases q0; cases q2; cases q3; cases q4; cases q5
    refine ⟨⟨b.kind, A, b.args, c, b.vn, b.ve, b.un, b.ue⟩ :: bs', rfl, ?_, fun x hx => ?_⟩
    · simp only [List.map_cons, h2]
      rfl
    · rcases List.mem_cons.1 hx with rfl | hx
      · exact hc
      · exact h3 x hx
/-- A diagram that is short enough, as the elder texts have it. -/
structure DgLen (ps : List Prt) (bs : List Bk) (os : List Int) : Prop where
  l1 : ps.length ≤ 1000000
  l2 : bs.length ≤ 1000000
  l3 : os.length ≤ 1000000
  la : ∀ b ∈ bs, b.args.length ≤ 1000000
theorem dg_open {w : World} {S : Sets} (hlt : ∀ t b, S t b → b < w.heap.size) {t : Bool} {ps : List Prt} {bs : List Bk} {os : List Int} {v : Value} (h : ARel w S (aDg t ps bs os) v) (hl : DgLen ps bs os) :
    ∃ d : Dg, v = d.val ∧ DgAt w w.heap.size d ∧ d.ps = ps ∧ d.bs.map Bk.z = bs.map Bk.z ∧ d.os = os ∧ (d.A1 = none → d.c1 = 0) ∧ (d.A3 = none → d.c3 = 0) := by
  obtain ⟨xs, rfl, hl0⟩ := h
  obtain ⟨v0, x1, rfl, q0, h⟩ := LRel.uncons hl0
  obtain ⟨v1, x2, rfl, q1, h⟩ := h.uncons
  obtain ⟨v2, x3, rfl, q2, h⟩ := h.uncons
  have := h.unnil
  subst this
  unfold rowP at q0
  rw [flatD_vals dPrt_vals] at q0
  obtain ⟨A1, c1, rfl, n1, _, _, k1⟩ := row_vals hlt q0
  obtain ⟨A2, c2, ys, rfl, _, _, hlen, hr, k2⟩ := row_open hlt q1
  obtain ⟨bs', rfl, h2, h3⟩ := bk_open hlt hr
  obtain ⟨A3, c3, rfl, n3, _, k3⟩ := rowI_open hlt q2
  have hbl : bs'.length = bs.length := by have := congrArg List.length h2; simpa using this
  refine ⟨⟨A1, ps, c1, A2, bs', c2, A3, os, c3⟩, ?_, ⟨k1, k2, k3, fun b hb => ⟨h3 b hb, ?_⟩, hl.l1, by show bs'.length ≤ _; rw [hbl]; exact hl.l2, hl.l3⟩, rfl, h2, rfl, n1, n3⟩
  · simp [Dg.val, hbl]
  · have hz : b.z ∈ bs.map Bk.z := by rw [← h2]; exact List.mem_map_of_mem hb
    obtain ⟨b0, hb0, he⟩ := List.mem_map.1 hz
    have : b.args = b0.args := (congrArg Bk.args he).symm
    rw [this]
    exact hl.la b0 hb0
theorem tab_G (w w' : World) (h : Below w.heap.size w w') (ht : TabAt w) : TabAt w' := ht.call h
theorem two_rel {w : World} {S : Sets} {x y : A} {a b : Value} (h1 : ARel w S x a) (h2 : ARel w S y b) : RRel w S [x, y] (.tuple #[a, b]) := ⟨[a, b], rfl, .cons_ h1 (.cons_ h2 .nil_)⟩
theorem one_arg {w : World} {S : Sets} {x : A} {vs : List Value} (h : LRel (ARel w S) [x] vs) : ∃ v, vs = [v] ∧ ARel w S x v := by
  obtain ⟨v, vs', rfl, h1, h2⟩ := h.uncons
  rw [h2.unnil]
  exact ⟨v, rfl, h1⟩
theorem order_cv (t : Bool) {ps : List Prt} {bs : List Bk} {os : List Int} (hl : DgLen ps bs os) : CVF Tryd.prog TabAt 49 [aDg t ps bs os] [.one (rowI false (if dgErr ps bs os = 0 then natI (ordM bs) else [])), aE (dgErr ps bs os)] := fun w S vs hg hlt ha => by
  obtain ⟨v, rfl, hv⟩ := one_arg ha
  obtain ⟨d, rfl, hd, rfl, hz, rfl, _, _⟩ := dg_open hlt hv hl
  refine (Order_any d _ w (Nat.le_refl _) hd hg).mono fun e w' ⟨so, he, hown, hb⟩ => ?_
  have e1 : dgErr d.ps d.bs d.os = dgErr d.ps bs d.os := by rw [← dgErr_z, hz, dgErr_z]
  have e2 : ordM d.bs = ordM bs := by rw [← ordM_z, hz, ordM_z]
  unfold ordO at hown
  rw [e1, e2] at hown
  unfold dgE at he
  rw [e1] at he
  exact ⟨_, he, two_rel (own_freshI hown) (DRel.val (errV_one _)), hb⟩
theorem bk_at {t : Bool} {bs : List Bk} {k : Nat} {y : Bk} (h : bs[k]? = some y) : ((flatD (dBk t) bs).drop (k * 6)).take 6 = dBk t y := flatD_at (f := dBk t) (s := 6) (fun _ => rfl) h
theorem prt_at {ps : List Prt} {k : Nat} {y : Prt} (h : ps[k]? = some y) : ((flatD dPrt ps).drop (k * 3)).take 3 = dPrt y := flatD_at (f := dPrt) (s := 3) (fun _ => rfl) h
theorem ins_at {xs : List Ins} {k : Nat} {y : Ins} (h : xs[k]? = some y) : ((flatD dIns xs).drop (k * 7)).take 7 = dIns y := flatD_at (f := dIns) (s := 7) (fun _ => rfl) h
theorem int_at {xs : List Int} {k : Nat} {z : Int} (h : xs[k]? = some z) : ((xs.map dI).drop (k * 1)).take 1 = [dI z] := map_at h
/-! all marks alike -/
inductive DTag (t : Bool) : D → Prop
  | val (v : Value) : DTag t (.val v)
  | row {s n : Nat} {cs : List D} (h : ∀ d ∈ cs, DTag t d) : DTag t (.row t s n cs)
  | ptr {cs : List D} (h : ∀ d ∈ cs, DTag t d) : DTag t (.ptr t cs)
theorem DTag.free {d : D} (h : DTag false d) (hp : ∀ cs, d ≠ .ptr false cs) (hq : ∀ s n cs, d = .row false s n cs → ∀ x ∈ cs, DFree x) : DFree d := by
  cases h with
  | val v => exact .val v
  | row h => exact .row (hq _ _ _ rfl)
  | ptr h => exact absurd rfl (hp _)
theorem DTag.rel {w : World} {S : Sets} {t : Bool} {d : D} (h : DTag t d) : ∀ v, DRel w S d v → DRel w (fun u b => u = t ∧ S t b) d v := by
  induction h with
  | val v => intro u hu; cases hu with | val h => exact .val h
  | @row s n cs _ ih =>
    intro v hv
    cases hv with
    | row xs hc hA hln hx hm hr =>
      refine .row xs hc hA hln hx (fun hne => ?_) fun j u x hu hj => ih u (List.mem_of_getElem? hu) x (hr j u x hu hj)
      obtain ⟨b, off, h1, h2, h3⟩ := hm hne
      exact ⟨b, off, h1, ⟨rfl, h2⟩, h3⟩
  | @ptr cs _ ih =>
    intro v hv
    cases hv with
    | ptr xs hx hb hm hr => exact .ptr xs hx ⟨rfl, hb⟩ hm fun j u x hu hj => ih u (List.mem_of_getElem? hu) x (hr j u x hu hj)
def ATag (t : Bool) : A → Prop
  | .one d => DTag t d
  | .agg ds => ∀ d ∈ ds, DTag t d
/-- What is proved with all arguments marked has new results. -/
theorem CV.fresh {P : Program} {G : World → Prop} {f : FuncId} {args res : List A} (h : CV P G f args res) (ht : ∀ a ∈ args, ATag true a) : CVF P G f args res := fun w S vs hg hlt ha => by
  have ha' : LRel (ARel w fun u b => u = true ∧ S true b) args vs := ⟨ha.1, fun j y v hy hv => by
    have h1 := ha.2 j y v hy hv
    have h2 := ht y (List.mem_of_getElem? hy)
    cases y with
    | one d => exact DTag.rel h2 v h1
    | agg ds =>
      obtain ⟨xs, rfl, h3⟩ := h1
      exact ⟨xs, rfl, h3.1, fun i d x hd hx => DTag.rel (h2 d (List.mem_of_getElem? hd)) x (h3.2 i d x hd hx)⟩⟩
  refine (h w (fun u b => u = true ∧ S true b) vs hg (fun t b hb => hlt true b hb.2) ha').mono fun e w' ⟨v, h1, h2, h3⟩ => ⟨v, h1, h2.mono (fun t b hb => ?_) (fun _ _ _ => rfl), h3⟩
  obtain ⟨rfl, hb | hb⟩ := hb
  · cases hb.1
  · exact ⟨rfl, hb⟩
theorem tag_I (t : Bool) (xs : List Int) : DTag t (rowI t xs) := .row fun d hd => by obtain ⟨z, _, rfl⟩ := List.mem_map.1 hd; exact .val _
theorem tag_flat {α : Type} {f : α → List D} {t : Bool} (hf : ∀ x, ∀ d ∈ f x, DTag t d) (l : List α) : ∀ d ∈ flatD f l, DTag t d := fun d hd => by
  obtain ⟨ds, h1, h2⟩ := List.mem_flatten.1 hd
  obtain ⟨x, _, rfl⟩ := List.mem_map.1 h1
  exact hf x d h2
theorem tag_P (t : Bool) (ps : List Prt) : DTag t (rowP t ps) := .row (tag_flat (fun x d hd => by simp only [dPrt, List.mem_cons, List.not_mem_nil, or_false] at hd; rcases hd with rfl | rfl | rfl <;> exact .val _) ps)
theorem tag_B (t : Bool) (bs : List Bk) : DTag t (rowB t bs) := .row (tag_flat (fun x d hd => by
  simp only [dBk, List.mem_cons, List.not_mem_nil, or_false] at hd
  rcases hd with rfl | rfl | rfl | rfl | rfl | rfl
  · exact .val _
  · exact tag_I t _
  all_goals exact .val _) bs)
theorem tag_Dg (t : Bool) (ps : List Prt) (bs : List Bk) (os : List Int) : ATag t (aDg t ps bs os) := fun d hd => by
  simp only [dDg, List.mem_cons, List.not_mem_nil, or_false] at hd
  rcases hd with rfl | rfl | rfl
  · exact tag_P t ps
  · exact tag_B t bs
  · exact tag_I t os
theorem free_I (xs : List Int) : DFree (rowI false xs) := .row fun d hd => by obtain ⟨z, _, rfl⟩ := List.mem_map.1 hd; exact .val _
theorem flatD_free {α : Type} {f : α → List D} (hf : ∀ x, ∀ d ∈ f x, DFree d) (l : List α) : ∀ d ∈ flatD f l, DFree d := fun d hd => by
  obtain ⟨ds, h1, h2⟩ := List.mem_flatten.1 hd
  obtain ⟨x, _, rfl⟩ := List.mem_map.1 h1
  exact hf x d h2
theorem prt_free (x : Prt) : ∀ d ∈ dPrt x, DFree d := fun d hd => by simp only [dPrt, List.mem_cons, List.not_mem_nil, or_false] at hd; rcases hd with rfl | rfl | rfl <;> exact .val _
theorem ins_free (x : Ins) : ∀ d ∈ dIns x, DFree d := fun d hd => by simp only [dIns, List.mem_cons, List.not_mem_nil, or_false] at hd; rcases hd with rfl | rfl | rfl | rfl | rfl | rfl | rfl <;> exact .val _
section
variable {P : Program} {G : World → Prop} {o : Oper} {F : Frm} {H : List Ob}
theorem ok_neqE {t t' : TypeId} {x : Operand} {E : Int} {b : Bool} (ho : o.op = .binOp .neq t x (.const .nilIface) t') (ht : TyI P t) (hx : F.ev x = .one (.d (.val (errV E)))) (hb : (E != 0) = b) : OpOk P G o F H (.one (.d (.val (.bool b)))) [] := by
  by_cases h : E = 0
  · refine ok_nilN ho ht hx (.inr (.inl ⟨rfl, ?_, ?_⟩))
    · rw [h, errV_0]
    · rw [← hb, bne_f h]
  · refine ok_nilN ho ht hx (.inr (.inr (.inr ⟨rfl, ⟨_, _, errV_n h⟩, ?_⟩)))
    rw [← hb, bne_t h]
theorem ok_eqlE {t t' : TypeId} {x : Operand} {E : Int} {b : Bool} (ho : o.op = .binOp .eql t x (.const .nilIface) t') (ht : TyI P t) (hx : F.ev x = .one (.d (.val (errV E)))) (hb : (E == 0) = b) : OpOk P G o F H (.one (.d (.val (.bool b)))) [] := by
  by_cases h : E = 0
  · refine ok_nilN ho ht hx (.inl ⟨rfl, ?_, ?_⟩)
    · rw [h, errV_0]
    · rw [← hb, beq_t h]
  · refine ok_nilN ho ht hx (.inr (.inr (.inl ⟨rfl, ⟨_, _, errV_n h⟩, ?_⟩)))
    rw [← hb, beq_f h]
theorem rv_e {t : Tmp} {E E' : Int} (hF : F t = .one (.d (.val (errV E)))) (hz : E = E') : RV P F H (.tmp t) (aE E') := .tmp (by rw [hF, hz]; exact .one (.d fun _ => .val _))
theorem rv_e0 {t : Tmp} {E' : Int} (hF : F t = .one (.d (.val .nilIface))) (hz : E' = 0) : RV P F H (.tmp t) (aE E') := .tmp (by rw [hF, hz]; exact .one (.d fun _ => .val _))
theorem rv_en {t : Tmp} {n E' : Int} (hF : F t = .one (.d (.val (.iface 34 (.int .i64 n))))) (h0 : n ≠ 0) (hz : E' = n) : RV P F H (.tmp t) (aE E') := .tmp (by rw [hF, hz, ← errV_n h0]; exact .one (.d fun _ => .val _))
/-- A struct that lies in a variable. -/
theorem rv_box {t : Tmp} {ty ty' id k : Nat} {cs : List C} {ds : List D} {y : A} (hF : F t = .one (.ref id 0 none)) (hH : H[id]? = some (.box ty' cs)) (hk : TyK P ty true k) (hi : cs.length = k) (hy : y = .agg ds) (h : LRel (CExp false H) cs ds) : RV P F H (.cell t ty) y := by
  obtain ⟨d, h1, h2⟩ := hk.h
  rw [hy]
  exact .cellA hF hH h1 h2 (by rw [hk.s, hi]) h
end
end Go.Proofs.YtjlocofimlgaoaaDoor
