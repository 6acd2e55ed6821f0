/- Code told on values: what may be forgotten of a frame and of objects; loops and cuts up to that. No conditions. Code told on values: statements in which parts of a result are taken out late; nil slices in variables. No conditions. Code told on values: errors compared with nil, empty slices appended to, rows of ints. No conditions. -/
import Derived.Test.YtjlocofimlgaoaaDoorVsG
import Derived.Test.YtjlocofimlgaoaaDoorNoi
import Derived.WideLaws
namespace Go.Proofs.YtjlocofimlgaoaaDoor
set_option linter.unusedVariables false
set_option linter.unusedSimpArgs false
set_option linter.unusedSectionVars false
open Go.RowKit

/-- What is known, told otherwise. -/
def Wk (N : Nat) (F : Frm) (H : List Ob) (F' : Frm) (H' : List Ob) : Prop :=
  ∀ (b0 : Nat) (w0 : World) (S0 : Sets) (a : Act) (m : Mm), m.H = H → St b0 N w0 S0 F a m → ∃ m', m'.w = m.w ∧ m'.H = H' ∧ St b0 N w0 S0 F' a m'
theorem Wk.refl (N : Nat) (F : Frm) (H : List Ob) : Wk N F H F H := fun _ _ _ _ m h hs => ⟨m, rfl, h, hs⟩
theorem Wk.trans {N : Nat} {F F' F2 : Frm} {H H' H2 : List Ob} (h : Wk N F H F' H') (k : Wk N F' H' F2 H2) : Wk N F H F2 H2 := fun b0 w0 S0 a m hH hs => by
  obtain ⟨m1, h1, h2, h3⟩ := h b0 w0 S0 a m hH hs
  obtain ⟨m2, h4, h5, h6⟩ := k b0 w0 S0 a m1 h2 h3
  exact ⟨m2, h4.trans h1, h5, h6⟩
section
variable {P : Program} {G : World → Prop} {N : Nat} {F F' : Frm} {H H' : List Ob} {Q : Post}
theorem cw_wk {c : Code} (h : Wk N F H F' H') (k : CW P G N c F' H' Q) : CW P G N c F H Q := fun b0 w0 S0 a m hG hH hs => by
  obtain ⟨m', h1, h2, h3⟩ := h b0 w0 S0 a m hH hs
  rw [← h1]
  exact k b0 w0 S0 a m' hG h2 h3
/-- The post up to what may be forgotten. -/
def wkC (N : Nat) (K : Frm → List Ob → Prop) : Frm → List Ob → Prop := fun F H => ∃ F' H', Wk N F H F' H' ∧ K F' H'
theorem cw_loopW {c : Code} (I : Nat → Frm → List Ob → Prop) {n0 : Nat} (h0 : I n0 F H) (round : ∀ n F H, I n F H → CW P G N c F H (thenC (wkC N fun F' H' => ∃ n', n' < n ∧ I n' F' H') Q)) : CW P G N (.loop c) F H Q := fun b0 w0 S0 a m hG hH hs => by
  refine wp_loopG (fun n a w => ∃ F' m', m'.w = w ∧ St b0 N w0 S0 F' a m' ∧ I n F' m'.H) (n0 := n0) ⟨F, m, rfl, hs, by rw [hH]; exact h0⟩ fun n a w ⟨F', m', h1, h2, h3⟩ => ?_
  subst h1
  refine wp_mono (round n F' m'.H h3 b0 w0 S0 a m' hG rfl h2) fun e a w ⟨F2, m2, k1, k2, k3⟩ => ?_
  cases e with
  | normal =>
    obtain ⟨F3, H3, k4, n', hlt, hI⟩ := k3
    obtain ⟨m3, k5, k6, k7⟩ := k4 b0 w0 S0 a m2 rfl k2
    subst k6
    exact ⟨n', hlt, F3, m3, k5.trans k1, k7, hI⟩
  | exit id => exact ⟨F2, m2, k1, k2, k3⟩
  | goto l => exact ⟨F2, m2, k1, k2, k3⟩
  | ret => exact ⟨F2, m2, k1, k2, k3⟩
  | panic ch => exact ⟨F2, m2, k1, k2, k3⟩
  | outgrown => exact ⟨F2, m2, k1, k2, k3⟩
end
/-- A frame as a list of slots. -/
def ofL : List (Nat × X) → Frm
  | [] => fun _ => .any
  | (s, x) :: l => fun t => match Nat.beq t s with | true => x | false => ofL l t
def C.bel (n : Nat) : C → Prop
  | .d _ => True
  | .own id _ => id < n
  | .ref id _ _ => id < n
  | .clo _ caps => ∀ p ∈ caps, p.1 < n
  | .emp => True
def X.bel (n : Nat) : X → Prop
  | .one c => c.bel n
  | .agg cs => ∀ c ∈ cs, c.bel n
  | .tup _ => True
  | .any => True
def matchL (F : Frm) (n : Nat) : List (Nat × X) → Prop
  | [] => True
  | (s, x) :: l => F s = x ∧ x.bel n ∧ matchL F n l
theorem matchL_at {F : Frm} {n : Nat} : ∀ {l : List (Nat × X)}, matchL F n l → ∀ t, (ofL l t = F t ∧ (ofL l t).bel n) ∨ ofL l t = .any
  | [], _, t => .inr rfl
  | (s, x) :: l, h, t => by
    obtain ⟨h1, h2, h3⟩ := h
    simp only [ofL]
    cases hb : Nat.beq t s with
    | true =>
      have := Nat.eq_of_beq_eq_true hb
      subst this
      exact .inl ⟨h1.symm, h2⟩
    | false => exact matchL_at h3 t
theorem PRel.cut {m : Mm} {n id off : Nat} {k : Option Nat} {v : Value} {E : Nat → Option Et} (h : PRel m id off k v) (hb : id < n) (hE : ∀ i, i < n → E i = m.E i) : PRel { m with H := m.H.take n, E := E } id off k v := by
  obtain ⟨h1, ob, h2, h3, h4⟩ := h
  refine ⟨h1, ob, by rw [List.getElem?_take, if_pos hb]; exact h2, h3, fun hk => ?_⟩
  obtain ⟨e, g, h5, h6, h7⟩ := h4 hk
  exact ⟨e, g, by rw [show ({ m with H := m.H.take n, E := E } : Mm).E id = m.E id from hE id hb]; exact h5, h6, h7⟩
theorem CRel.cut {m : Mm} {n : Nat} {c : C} {v : Value} {E : Nat → Option Et} (h : CRel m c v) (hb : c.bel n) (hE : ∀ i, i < n → E i = m.E i) : CRel { m with H := m.H.take n, E := E } c v := by
  cases c with
  | d x => exact h
  | own id p =>
    obtain ⟨h1, ob, h2, h3, h4⟩ := h
    have hb' : id < n := hb
    refine ⟨h1, ob, by rw [List.getElem?_take, if_pos hb']; exact h2, h3, fun hk => ?_⟩
    obtain ⟨e, h5, h6⟩ := h4 hk
    exact ⟨e, (hE id hb).trans h5, h6⟩
  | ref id off k => exact PRel.cut h hb hE
  | clo fn caps =>
    obtain ⟨vs, h1, h2, h3⟩ := h
    exact ⟨vs, h1, h2, fun j p v hp hv => (h3 j p v hp hv).cut (hb p (List.mem_of_getElem? hp)) hE⟩
  | emp => exact h
/-- The frame's slots l, the first n objects. -/
theorem wk_to {N : Nat} {F : Frm} {H : List Ob} (l : List (Nat × X)) (n : Nat) (h : matchL F n l) (hH : ∀ ob ∈ H.take n, ∀ c ∈ ob.cs, C.bel n c) : Wk N F H (ofL l) (H.take n) := fun b0 w0 S0 a m hm hs => by
  subst hm
  let E : Nat → Option Et := fun i => if i < n then m.E i else none
  have hE : ∀ i, i < n → E i = m.E i := fun i hi => if_pos hi
  have hE' : ∀ i e, E i = some e → i < n ∧ m.E i = some e := fun i e he => by
    have he' : (if i < n then m.E i else none) = some e := he
    split at he'
    · exact ⟨by assumption, he'⟩
    · cases he'
  have lcut : ∀ {cs : List C} {vs : List Value}, (∀ c ∈ cs, C.bel n c) → LRel (CRel m) cs vs → LRel (CRel { m with H := m.H.take n, E := E }) cs vs := fun hb hl => ⟨hl.1, fun j c v hc hv => (hl.2 j c v hc hv).cut (hb c (List.mem_of_getElem? hc)) hE⟩
  refine ⟨{ m with H := m.H.take n, E := E }, rfl, rfl, ⟨⟨fun id e he => ?_, fun i j e e' hij hi hj => hs.cx.apart i j e e' hij (hE' i e hi).2 (hE' j e' hj).2, fun id e g t he => hs.cx.far id e g t (hE' id e he).2, hs.cx.lt⟩, fun id ob hob hk => ?_, fun t => ?_, hs.size, hs.defers, hs.below, hs.base, hs.S, hs.T⟩⟩
  · obtain ⟨hlt, he⟩ := hE' id e he
    obtain ⟨h1, ob, h2, h3⟩ := hs.cx.each id e he
    have h2' : (m.H.take n)[id]? = some ob := by rw [List.getElem?_take, if_pos hlt]; exact h2
    refine ⟨h1, ob, h2', ?_⟩
    have hb := hH ob (List.mem_of_getElem? h2')
    cases ob <;> cases e <;> simp only [ERel] at h3 ⊢
    · exact ⟨h3.1, lcut hb h3.2⟩
    · exact ⟨h3.1, h3.2.1, h3.2.2.1, lcut hb h3.2.2.2⟩
  · have hob' : (m.H.take n)[id]? = some ob := hob
    rw [List.getElem?_take] at hob'
    split at hob'
    · rename_i hlt
      show (E id).isSome = true
      rw [hE id hlt]
      exact hs.tot id ob hob' hk
    · cases hob'
  · rcases matchL_at h t with ⟨h1, h2⟩ | h1
    · rw [h1] at h2 ⊢
      have hx := hs.frame t
      cases hF : F t with
      | one c => rw [hF] at hx h2; exact CRel.cut hx h2 hE
      | agg cs =>
        rw [hF] at hx h2
        obtain ⟨xs, h3, h4⟩ := hx
        exact ⟨xs, h3, lcut h2 h4⟩
      | tup l' => rw [hF] at hx; exact hx
      | any => trivial
    · rw [h1]; trivial
/-- A slot with a nil slice is an own row without elements. -/
theorem wk_nil {N : Nat} {F : Frm} {H : List Ob} (t e s : Nat) (h : F t = .one (.d (.val (.slice none 0 0)))) : Wk N F H (F.put (some t) (.one (.own H.length 0))) (H ++ [.row e s 0 []]) := fun b0 w0 S0 a m hm hs => by
  subst hm
  have hle : Le m { m with H := m.H ++ [.row e s 0 []], E := fun i => if i = m.H.length then some (.row (.slice none 0 0) e s 0 []) else m.E i } :=
    ⟨fun _ _ h => h, rfl, fun _ _ _ => rfl, fun id ob hob => ⟨ob, by rw [List.getElem?_append_left (List.getElem?_eq_some_iff.1 hob).1]; exact hob, Newer.same fun x hx => by
      have := (List.getElem?_eq_some_iff.1 hob).1
      show (if id = m.H.length then _ else m.E id) = some x
      rw [if_neg (by omega)]
      exact hx⟩⟩
  have get : ∀ i x, (if i = m.H.length then some (Et.row (.slice none 0 0) e s 0 []) else m.E i) = some x → (i = m.H.length ∧ x = .row (.slice none 0 0) e s 0 []) ∨ m.E i = some x := fun i x hx => by
    split at hx
    · exact .inl ⟨by assumption, (Option.some.inj hx).symm⟩
    · exact .inr hx
  refine ⟨{ m with H := m.H ++ [.row e s 0 []], E := fun i => if i = m.H.length then some (.row (.slice none 0 0) e s 0 []) else m.E i }, rfl, rfl, ⟨⟨fun id x hx => ?_, fun i j x y hij hi hj g h1 h2 => ?_, fun id x g t hx hg => ?_, hs.cx.lt⟩, fun id ob hob hk => ?_, fun t' => ?_, hs.size, hs.defers, hs.below, hs.base, hs.S, hs.T⟩⟩
  · rcases get id x hx with ⟨rfl, rfl⟩ | h1
    · exact ⟨World.ownsRow_nil _ _ _ _, .row e s 0 [], by simp, rfl, rfl, rfl, LRel.nil_⟩
    · obtain ⟨h2, ob, h3, h4⟩ := hs.cx.each id x h1
      exact ⟨h2, ob, by rw [List.getElem?_append_left (List.getElem?_eq_some_iff.1 h3).1]; exact h3, h4.le hle⟩
  · rcases get i x hi with ⟨rfl, rfl⟩ | h3
    · simp [Et.own, Value.ownBlock] at h1
    · rcases get j y hj with ⟨rfl, rfl⟩ | h4
      · simp [Et.own, Value.ownBlock] at h2
      · exact hs.cx.apart i j x y hij h3 h4 g h1 h2
  · rcases get id x hx with ⟨rfl, rfl⟩ | h3
    · simp [Et.own, Value.ownBlock] at hg
    · exact hs.cx.far id x g t h3 hg
  · show (if id = m.H.length then _ else m.E id).isSome = true
    split
    · rfl
    · rename_i hne
      have hob' : (m.H ++ [.row e s 0 []])[id]? = some ob := hob
      have hlt := (List.getElem?_eq_some_iff.1 hob').1
      simp only [List.length_append, List.length_cons, List.length_nil] at hlt
      rw [List.getElem?_append_left (by omega)] at hob'
      exact hs.tot id ob hob' hk
  · rw [put_at]
    split
    · rename_i ht
      cases ht
      have hv := hs.frame t
      rw [h] at hv
      have hv' := val_of (m := m) hv
      rw [hv']
      exact ⟨rfl, .row e s 0 [], by simp, (fun n n' h1 h2 => by cases h1; cases h2; exact Nat.le_refl _), fun _ => ⟨.row (.slice none 0 0) e s 0 [], by simp, rfl⟩⟩
    · exact (hs.frame t').le hle
end Go.Proofs.YtjlocofimlgaoaaDoor
namespace Go.Proofs.YtjlocofimlgaoaaDoor
set_option linter.unusedVariables false
set_option linter.unusedSimpArgs false
set_option linter.unusedSectionVars false
open Go.RowKit

def addEdges (l : List Oper) : List (Nat × Nat) → List Oper
  | [] => l
  | (k, p) :: es => addEdges (addEdge l k p) es
def edgesB (md : Region.Mode) (l : List Oper) : List (Nat × Nat) → Bool
  | [] => true
  | (k, p) :: es => edgeB md l k p && edgesB md (addEdge l k p) es
theorem addEdge_len (l : List Oper) (k p : Nat) : (addEdge l k p).length = l.length := by simp [addEdge]
theorem addEdges_len : ∀ (es : List (Nat × Nat)) (l : List Oper), (addEdges l es).length = l.length
  | [], l => rfl
  | (k, p) :: es, l => by
    unfold addEdges
    rw [addEdges_len es, addEdge_len]
theorem addEdge_take {l : List Oper} {k p n : Nat} (h : n ≤ k) : (addEdge l k p).take n = l.take n := by
  refine List.ext_getElem? fun j => ?_
  simp only [List.getElem?_take, addEdge, List.getElem?_modify]
  by_cases hj : j < n
  · rw [if_pos hj, if_pos hj]
    have hkj : ¬ k = j := by omega
    cases l[j]? <;> simp [hkj]
  · rw [if_neg hj, if_neg hj]
theorem addEdge_drop {l : List Oper} {k p n : Nat} (h : n ≤ k) : (addEdge l k p).drop n = (l.drop n).modify (k - n) fun o => { o with after := o.after.push ⟨p, .data⟩ } := by
  refine List.ext_getElem? fun j => ?_
  simp only [List.getElem?_drop, addEdge, List.getElem?_modify]
  have hkj : k = n + j ↔ k - n = j := by omega
  cases l[n + j]? <;> simp [hkj]
section
variable {P : Program} {md : Region.Mode} {Q : Exit → Act → World → Prop}
theorem edges_any (hQ : ∀ (d : Option Tmp) v c a w, Q (.panic c) (Act.put a d v) w → Q (.panic c) a w) : ∀ (es : List (Nat × Nat)) (l : List Oper), edgesB md l es = true → ∀ (f : Nat) (listed : Array Bool) (a : Act) (w : World), listed.size = l.length →
    wpAny P md (addEdges l es).toArray Q f listed a w → wpAny P md l.toArray Q f listed a w
  | [], _, _, _, _, _, _, _, h => h
  | (k, p) :: es, l, hB, f, listed, a, w, hs, h => by
    simp only [edgesB, Bool.and_eq_true] at hB
    exact wpAny_edge hB.1 hQ f listed a w hs (edges_any hQ es _ hB.2 f listed a w (by rw [addEdge_len]; exact hs) h)
theorem edges_take : ∀ (es : List (Nat × Nat)) (l : List Oper) (n : Nat), (es.all fun e => decide (n ≤ e.1)) = true → (addEdges l es).take n = l.take n
  | [], _, _, _ => rfl
  | (k, p) :: es, l, n, h => by
    simp only [List.all_cons, Bool.and_eq_true, decide_eq_true_eq] at h
    unfold addEdges
    rw [edges_take es _ n h.2, addEdge_take h.1]
theorem edges_list : ∀ (es : List (Nat × Nat)) (l : List Oper) (n : Nat), (es.all fun e => decide (n ≤ e.1)) = true → wpList P (addEdges l es).toArray Q ((addEdges l es).drop n) = wpList P l.toArray Q (l.drop n)
  | [], _, _, _ => rfl
  | (k, p) :: es, l, n, h => by
    simp only [List.all_cons, Bool.and_eq_true, decide_eq_true_eq] at h
    unfold addEdges
    rw [edges_list es _ n h.2, addEdge_drop h.1]
    exact funext fun a => funext fun w => wpList_edge _ _ a w
end
section
variable {P : Program} {G : World → Prop} {N : Nat} {F : Frm} {H : List Ob} {Q : Post}
/-- As cw_part, further waits added. -/
theorem cw_partE {id : Nat} {l : List Oper} (n : Nat) (es : List (Nat × Nat)) (hm : P.follows .mixedOrders = true) (hB : (dstB N l && headC .any (l.take n).toArray && partB .any (addEdges l es).toArray n && edgesB .any l es && es.all fun e => decide (n ≤ e.1)) = true)
    (h : Ch P G (l.take n).toArray (l.take n) F H fun F' H' => Ti P G l.toArray (l.drop n) F' H' (Q .normal)) : CW P G N (.region id l.toArray true) F H Q := fun b0 w0 S0 a m hG hH hs => by
  subst hH
  simp only [Bool.and_eq_true] at hB
  obtain ⟨⟨⟨⟨hd, hC⟩, hp⟩, he⟩, hk⟩ := hB
  have hd1 : dstB N (l.take n) = true := List.all_eq_true.2 fun o ho => List.all_eq_true.1 hd o (List.mem_of_mem_take ho)
  have hd2 : dstB N (l.drop n) = true := List.all_eq_true.2 fun o ho => List.all_eq_true.1 hd o (List.mem_of_mem_drop ho)
  have hn : n < l.length := by
    have := hp
    simp only [partB, Bool.and_eq_true, decide_eq_true_eq, List.size_toArray, addEdges_len] at this
    exact this.1.1.1.1
  have hlen : (l.take n).length = n := by simp; omega
  have hsz : (l.take n).toArray.size = n := by simp; omega
  refine wp_region_noPanic (wp_region_any hm ?_)
  obtain ⟨Fs, Hs, xs, obs, h1, h2, h3, h4⟩ := h.seq
  have hs' := hs.drew
  let R : Exit → Act → World → Prop := NoPanic fun e a w => ∃ F' m', m'.w = w ∧ St b0 N w0 S0 F' a m' ∧ Q e F' m'.H
  have key : wpAny P .any (l.take n).toArray (PartQ P l.toArray R (l.drop n)) n (Array.replicate n false) a m.w.drew := by
    refine wp_head (G := G) (w0 := w0) (S0 := S0) (b0 := b0) hG hC (N := N) (by simpa using hd1) (Fs := Fs) (Hs := Hs) (xs := xs) (obs := obs) (fun i o hi => h4 i o (by simpa using hi)) (fun a' m' hH' hst => ?_) n (Array.replicate n false) a { m with w := m.w.drew, H := Hs n } ?_ (by simp [cntF])
    · rw [hsz] at hst hH'
      rw [hlen] at h3
      rw [← hH'] at h3
      exact wp_ti hG (l.drop n) (Fs n) a' m' (Q .normal) hd2 hst h3 fun F'' a'' m'' k1 k2 => ⟨F'', m'', rfl, k1, k2⟩
    · have := chain_start (P := P) (G := G) (ops := (l.take n).toArray) (Fs := Fs) (Hs := Hs) (xs := xs) (obs := obs) (fun i o hi => h4 i o (by simpa using hi)) (by rw [h1]; exact hs') (m := { m with w := m.w.drew }) h2.symm
      rw [hsz] at this
      exact this
  have hPQ : PartQ P (addEdges l es).toArray R ((addEdges l es).drop n) = PartQ P l.toArray R (l.drop n) := by
    funext e a w
    cases e <;> first
      | (show wpList P _ R _ a w = wpList P _ R _ a w
         rw [edges_list es l n hk])
      | rfl
  rw [← edges_take es l n hk, ← hPQ] at key
  have inv0 : HeadInv .any (addEdges l es).toArray n (Array.replicate (addEdges l es).toArray.size false) :=
    ⟨by simp, fun j oj _ hl => (by rw [getD_replicate_false] at hl; cases hl), fun t _ ht => getD_in (by simpa using ht) (getD_replicate_false _ _)⟩
  have hall := wpAny_part hp n (Array.replicate (addEdges l es).toArray.size false) (Array.replicate n false) a m.w.drew inv0 (by simp) (fun i _ => by rw [getD_replicate_false, getD_replicate_false]) key
  have hsl : (addEdges l es).toArray.size = l.toArray.size := by simp [addEdges_len]
  rw [hsl, show n + (l.toArray.size - n) = l.toArray.size by simp; omega] at hall
  exact edges_any (by intro _ _ _ _ _ h; exact h) es l he _ _ _ _ (by simp) hall
end
/-- A cell with a nil slice is an own row without elements. -/
theorem wk_nilbox {N : Nat} {F : Frm} {H : List Ob} (id j e s : Nat) {t : TypeId} {cs : List C} (hid : H[id]? = some (.box t cs)) (hj : cs[j]? = some (.d (.val (.slice none 0 0)))) : Wk N F H F (H.set id (.box t (cs.set j (.own H.length 0))) ++ [.row e s 0 []]) := fun b0 w0 S0 a m hm hs => by
  subst hm
  have hlt := (List.getElem?_eq_some_iff.1 hid).1
  let E : Nat → Option Et := fun i => if i = m.H.length then some (.row (.slice none 0 0) e s 0 []) else m.E i
  let m' : Mm := { m with H := m.H.set id (.box t (cs.set j (.own m.H.length 0))) ++ [.row e s 0 []], E := E }
  have hEo : ∀ i, i < m.H.length → E i = m.E i := fun i hi => if_neg (by omega)
  have hH' : ∀ i (ob : Ob), m.H[i]? = some ob → ∃ ob', m'.H[i]? = some ob' ∧ ob'.k = ob.k ∧ (i ≠ id → ob' = ob) := fun i ob hob => by
    have hi := (List.getElem?_eq_some_iff.1 hob).1
    by_cases h : id = i
    · subst h
      rw [hid] at hob
      cases hob
      exact ⟨.box t (cs.set j (.own m.H.length 0)), by show (_ ++ _)[id]? = _; rw [List.getElem?_append_left (by simpa using hi), List.getElem?_set_self hi], rfl, fun h => absurd rfl h⟩
    · exact ⟨ob, by show (_ ++ _)[i]? = _; rw [List.getElem?_append_left (by simpa using hi), List.getElem?_set_ne h]; exact hob, rfl, fun _ => rfl⟩
  have hle : Le m m' := ⟨fun _ _ h => h, rfl, fun _ _ _ => rfl, fun i ob hob => by
    have hi := (List.getElem?_eq_some_iff.1 hob).1
    obtain ⟨ob', h1, h2, _⟩ := hH' i ob hob
    exact ⟨ob', h1, fun k hk => .inl ⟨by rw [← h2]; exact hk, fun x hx => ⟨x, (hEo i hi).trans hx, rfl⟩⟩⟩⟩
  have get : ∀ i x, E i = some x → (i = m.H.length ∧ x = .row (.slice none 0 0) e s 0 []) ∨ (i < m.H.length ∧ m.E i = some x) := fun i x hx => by
    have hx' : (if i = m.H.length then some (Et.row (.slice none 0 0) e s 0 []) else m.E i) = some x := hx
    split at hx'
    · exact .inl ⟨by assumption, (Option.some.inj hx').symm⟩
    · refine .inr ⟨?_, hx'⟩
      obtain ⟨_, ob, h2, _⟩ := hs.cx.each i x hx'
      exact (List.getElem?_eq_some_iff.1 h2).1
  have hnew : m'.H[m.H.length]? = some (.row e s 0 []) := by
    show (_ ++ _)[m.H.length]? = _
    rw [List.getElem?_append_right (by simp)]
    simp
  have hown : CRel m' (.own m.H.length 0) (.slice none 0 0) := ⟨rfl, _, hnew, (fun n n' h1 h2 => by cases h1; cases h2; exact Nat.le_refl _), fun _ => ⟨.row (.slice none 0 0) e s 0 [], if_pos rfl, rfl⟩⟩
  refine ⟨m', rfl, rfl, ⟨⟨fun i x hx => ?_, fun i k x y hik hi hk g h1 h2 => ?_, fun i x g t hx hg => ?_, hs.cx.lt⟩, fun i ob hob hk => ?_, fun t' => (hs.frame t').le hle, hs.size, hs.defers, hs.below, hs.base, hs.S, hs.T⟩⟩
  · rcases get i x hx with ⟨rfl, rfl⟩ | ⟨hi, h1⟩
    · exact ⟨World.ownsRow_nil _ _ _ _, _, hnew, rfl, rfl, rfl, LRel.nil_⟩
    · obtain ⟨h2, ob, h3, h4⟩ := hs.cx.each i x h1
      obtain ⟨ob', h5, _, h6⟩ := hH' i ob h3
      refine ⟨h2, ob', h5, ?_⟩
      by_cases h : i = id
      · subst h
        rw [hid] at h3
        cases h3
        have h5' : (m.H.set i (.box t (cs.set j (.own m.H.length 0))) ++ [.row e s 0 []])[i]? = some ob' := h5
        rw [List.getElem?_append_left (by simpa using hi), List.getElem?_set_self hi] at h5'
        cases h5'
        cases x with
        | row v t' s' n' xs => exact h4.elim
        | box g vs t' =>
          obtain ⟨rfl, hl⟩ := h4
          refine ⟨rfl, ?_⟩
          obtain ⟨v, hv, hr⟩ := hl.at_ hj
          have hv0 : v = .slice none 0 0 := by cases hr; rfl
          subst hv0
          have := (hl.imp fun _ _ => CRel.le hle).set_ j hown
          rwa [show vs.set j (.slice none 0 0) = vs from by
            refine List.ext_getElem? fun q => ?_
            rw [List.getElem?_set]
            split
            · rename_i hq; subst hq; rw [if_pos (List.getElem?_eq_some_iff.1 hv).1]; exact hv.symm
            · rfl] at this
      · rw [h6 h]
        exact h4.le hle
  · rcases get i x hi with ⟨rfl, rfl⟩ | ⟨_, h3⟩
    · simp [Et.own, Value.ownBlock] at h1
    · rcases get k y hk with ⟨rfl, rfl⟩ | ⟨_, h4⟩
      · simp [Et.own, Value.ownBlock] at h2
      · exact hs.cx.apart i k x y hik h3 h4 g h1 h2
  · rcases get i x hx with ⟨rfl, rfl⟩ | ⟨_, h3⟩
    · simp [Et.own, Value.ownBlock] at hg
    · exact hs.cx.far i x g t h3 hg
  · show (E i).isSome = true
    by_cases h : i = m.H.length
    · show (if i = m.H.length then _ else _ : Option Et).isSome = true
      rw [if_pos h]
      rfl
    · have hlt' := (List.getElem?_eq_some_iff.1 hob).1
      have hi : i < m.H.length := by
        simp only [m', List.length_append, List.length_set, List.length_cons, List.length_nil] at hlt'
        omega
      rw [hEo i hi]
      obtain ⟨ob0, hob0⟩ : ∃ ob0, m.H[i]? = some ob0 := ⟨_, List.getElem?_eq_getElem hi⟩
      obtain ⟨ob', h5, h6, _⟩ := hH' i ob0 hob0
      rw [h5] at hob
      cases hob
      exact hs.tot i ob0 hob0 (by rw [← h6]; exact hk)
end Go.Proofs.YtjlocofimlgaoaaDoor
namespace Go.Proofs.YtjlocofimlgaoaaDoor
set_option linter.unusedVariables false
set_option linter.unusedSimpArgs false
set_option linter.unusedSectionVars false
open Go.RowKit

/-- An interface type. -/
structure TyI (P : Program) (t : TypeId) : Prop where
  h : P.underlying t = some (.interface (P.methodsAt t))
def cI (xs : List Int) : List C := xs.map fun z => .d (.val (.int .i64 z))
theorem cI_len (xs : List Int) : (cI xs).length = xs.length := by simp [cI]
theorem cI_at {xs : List Int} {k : Nat} {z : Int} (h : xs[k]? = some z) : ((cI xs).drop (k * 1))[0]? = some (.d (.val (.int .i64 z))) := by
  rw [Nat.mul_one, List.getElem?_drop, Nat.add_zero]
  simp [cI, h]
theorem cI_set (xs : List Int) (k : Nat) (z : Int) : (cI xs).set (k * 1) (.d (.val (.int .i64 z))) = cI (xs.set k z) := by
  rw [Nat.mul_one]
  simp [cI, List.map_set]
theorem cI_app (xs : List Int) (z : Int) : cI xs ++ [.d (.val (.int .i64 z))] = cI (xs ++ [z]) := by simp [cI]
theorem cI_zero (n : Nat) : valsC (madeCells (Value.int .i64 0).cells (n * 1)).toList = cI (List.replicate n 0) := by
  rw [Nat.mul_one, show (Value.int .i64 0).cells = #[Value.int .i64 0] from rfl, toList_madeCells_one]
  simp [valsC, cI]
section
variable {P : Program} {G : World → Prop} {o : Oper} {F : Frm} {H : List Ob}
theorem ok_nilN {op : BinOp} {t t' : TypeId} {x : Operand} {u : Value} {b : Bool} (ho : o.op = .binOp op t x (.const .nilIface) t') (ht : TyI P t) (hx : F.ev x = .one (.d (.val u))) (hb : (op = .eql ∧ u = .nilIface ∧ b = true) ∨ (op = .neq ∧ u = .nilIface ∧ b = false) ∨ (op = .eql ∧ (∃ t v, u = .iface t v) ∧ b = false) ∨ (op = .neq ∧ (∃ t v, u = .iface t v) ∧ b = true)) : OpOk P G o F H (.one (.d (.val (.bool b)))) [] := by
  have hu := ht.h
  rcases hb with ⟨rfl, rfl, rfl⟩ | ⟨rfl, rfl, rfl⟩ | ⟨rfl, ⟨t2, v, rfl⟩, rfl⟩ | ⟨rfl, ⟨t2, v, rfl⟩, rfl⟩
  · refine ok_bin (y := .const .nilIface) ho hx rfl (fun w => ?_) rfl
    have := run_eql_nil_nil (P := P) w t hu
    simp [eqGuard, this]
  · refine ok_bin (y := .const .nilIface) ho hx rfl (fun w => ?_) rfl
    have := run_neq_nil_nil (P := P) w t hu
    simp [eqGuard, this]
  · refine ok_bin (y := .const .nilIface) ho hx rfl (fun w => ?_) rfl
    have := run_eql_held_nil (P := P) w t t2 v hu
    simp [eqGuard, this]
  · refine ok_bin (y := .const .nilIface) ho hx rfl (fun w => ?_) rfl
    have := run_neq_held_nil (P := P) w t t2 v hu
    simp [eqGuard, this]
theorem ok_more {x : X} (h : ∀ (b0 : Nat) (m : Mm) (a : Act), H <+: m.H → Cx b0 m → ORel m F a o → ∃ v w', (execOp a.eval o).run P m.w = .ok (.value v) w' ∧ Below m.w.heap.size m.w w' ∧ ∀ m2, Le m m2 → m2.w = w' → (∀ b, m.w.heap.size ≤ b → b < w'.heap.size → m2.S false b) → XRel m2 x v) : OpOk P G o F H x [] := by
  intro b0 m a hp hx hg hb0 hE hor K Q hK
  rw [List.append_nil] at hp
  obtain ⟨v, w', h1, h2, h3⟩ := h b0 m a hp hx hor
  unfold Oper.wp
  rw [h1]
  exact hK v w' [] ⟨rfl, h2, fun k e hk => by simp at hk, List.Pairwise.nil⟩ (h3 _ (plus_le h2 hx.lt (fun k hk => by simp at hk)) rfl fun b hb hb' => .inr ⟨rfl, hb, hb', fun e he => by simp at he⟩)
theorem ok_build0 {t e s : Nat} (ho : o.op = .buildSlice t 0 #[]) (ht : TyS P t e s) : OpOk P G o F H (.one .emp) [] := ok_more fun b0 m a hp hx hor => by
  obtain ⟨i, hi, hi2⟩ := Option.map_eq_some_iff.1 ht.s
  refine ⟨.slice (some ⟨m.w.heap.size, 0, none⟩) 0 0, m.w.alloc (.cells #[] e), ?_, (Below.refl _ _).alloc (Nat.le_refl _) _, fun m2 _ _ _ => ⟨_, rfl⟩⟩
  unfold execOp
  simp [ho, Instr.buildSlice, run_underlying ht.h, sizeOf, typeInfo, hi, Instr.fill, newRow, Array.range_zero']
/-- Data appended to nothing. -/
theorem ok_append0 {t e : TypeId} {x y : Operand} {c : C} {s n by_ : Nat} {z : Value} {tg : Bool} {ds : List D} (ho : o.op = .call { callee := .builtin .append, args := #[x, y], argTypes := #[t, t] }) (hx : F.ev x = .one c) (hc : c = .emp ∨ c = .d (.val (.slice none 0 0))) (hy : F.ev y = .one (.d (.row tg s n ds))) (hf : ∀ d ∈ ds, DFree d) (ht : TyS P t e s) (hz : TyZ P e z s by_) (hn : n ≤ 1000000) (hby : by_ ≤ 1000) (hs0 : 0 < s) :
    OpOk P G o F H (.one (.d (.row false s n ds))) [] := ok_more fun b0 m a hp hcx hor => by
  have hv := ev_rel hor (x := x) (by rw [ho]; simp [Op.operands, Call.operands])
  have hu := ev_rel hor (x := y) (by rw [ho]; simp [Op.operands, Call.operands])
  rw [hx] at hv
  rw [hy] at hu
  have hv' : ∃ A : Option Addr, a.eval x = .slice A 0 0 := by
    rcases hc with rfl | rfl
    · exact hv
    · exact ⟨none, val_of (m := m) hv⟩
  obtain ⟨A, hxe⟩ := hv'
  obtain ⟨i, hi, hi2⟩ := Option.map_eq_some_iff.1 hz.h
  simp only [Prod.mk.injEq] at hi2
  have hu' : DRel m.w m.S (.row tg s n ds) (a.eval y) := hu
  generalize hye : a.eval y = u at hu'
  cases hu' with
  | @row _ _ _ cap _ B xs hc' hA hl hxl hm hr =>
    have hstart : ∀ v w', (Builtin.append_ #[t, t] o.type #[.slice A 0 0, .slice B n cap]).run P m.w = .ok v w' → (execOp a.eval o).run P m.w = .ok (.value v) w' := fun v w' h => by
      unfold execOp
      simp only [ho, resolve, invoke, builtin, Sem.run_bind, Sem.run_pure, Result.andThen_ok, List.map_toArray, List.map_cons, List.map_nil, hxe, hye, h]
    rcases Nat.eq_zero_or_pos n with h0 | h0
    · subst h0
      have hd0 : ds = [] := List.eq_nil_of_length_eq_zero (by simpa using hl)
      subst hd0
      refine ⟨.slice A 0 0, m.w, hstart _ _ (run_append_zero ht.h hi (Nat.le_refl _)), Below.refl _ _, fun m2 _ _ _ => ?_⟩
      exact DRel.row [] (Nat.le_refl _) (fun _ => rfl) (by simp) rfl (fun h => absurd rfl h) (fun j u x h => by simp at h)
    · have hne : ds ≠ [] := fun h => by rw [h] at hl; have := Nat.mul_pos h0 hs0; simp at hl; omega
      obtain ⟨b, off, rfl, hb, hcells⟩ := hm hne
      have hcells' : ∀ (j : Nat) (v : Value), xs[j]? = some v → m.w.cell? ((⟨b, off, none⟩ : Addr).add j) = some v := fun j v hj => by rw [Addr.add_mid]; exact hcells j v hj
      have hbytes : n * i.bytes ≤ 1000000 * 1000 := Nat.mul_le_mul hn (by omega)
      have hrun : ∃ cap' cur, (Builtin.append_ #[t, t] o.type #[.slice A 0 0, .slice (some ⟨b, off, none⟩) n cap]).run P m.w = .ok (.slice (some ⟨m.w.heap.size, 0, none⟩) n cap') (m.w.drew.alloc (.cells (xs.toArray ++ cur) e)) ∧ n ≤ cap' := by
        cases A with
        | none => exact ⟨_, _, run_append_nil (P := P) m.w t o.type e i z ht.h hi hi2.1 ⟨b, off, none⟩ n cap xs (by rw [← hxl, hl, hi2.2.1]) hcells' h0 (by omega) (by omega), grownCap_ge _ _ _ _⟩
        | some p =>
          have := run_append_grow (P := P) m.w t o.type e i z ht.h hi hi2.1 p 0 0 [] (by simp) (fun j v h => by simp at h) ⟨b, off, none⟩ n cap xs (by rw [← hxl, hl, hi2.2.1]) hcells' (by omega) (by omega) (by
            rw [Nat.zero_add, nextslicecap_zero h0]; omega)
          simp only [Nat.zero_add, List.nil_append] at this
          refine ⟨_, _, by simpa using this, grownCap_ge _ _ _ _⟩
      obtain ⟨cap', cur, hrun, hcap⟩ := hrun
      refine ⟨_, _, hstart _ _ hrun, ((Below.refl _ _).drew).alloc (Nat.le_refl _) _, fun m2 hle hw hS => ?_⟩
      refine DRel.row xs hcap (by simp) hl hxl (fun _ => ⟨m.w.heap.size, 0, rfl, hS _ (Nat.le_refl _) (by simp), fun j v hj => ?_⟩) (fun j u v hu' hv' => ?_)
      · rw [hw, Nat.zero_add]
        have : (m.w.drew.alloc (.cells (xs.toArray ++ cur) e)).heap[m.w.heap.size]? = some (.cells (xs.toArray ++ cur) e) := heap_alloc_new m.w.drew _
        rw [cell_of_row _ _ j _ e (0, 0) this]
        have hjl := (List.getElem?_eq_some_iff.1 hj).1
        rw [Array.getElem?_append_left (by simpa using hjl)]
        simpa using hj
      · exact DRel.le hle (hr j u v hu' hv')
end
end Go.Proofs.YtjlocofimlgaoaaDoor
