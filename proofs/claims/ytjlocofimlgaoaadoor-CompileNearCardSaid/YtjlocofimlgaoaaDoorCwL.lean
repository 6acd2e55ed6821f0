/- Dyadic numbers as data: the document's functions on them, told on values. No conditions. The product of two dyadic numbers, told on values. No conditions. The law CompileFine on values. No conditions. -/
import Derived.Test.YtjlocofimlgaoaaDoorVsP
import Derived.Test.YtjlocofimlgaoaaDoorRd
import Derived.Test.YtjlocofimlgaoaaDoorRaD
import Derived.Test.YtjlocofimlgaoaaDoorDgT
import Derived.Test.YtjlocofimlgaoaaDoorCwF
namespace Go.Proofs.YtjlocofimlgaoaaDoor
set_option linter.unusedVariables false
set_option linter.unusedSimpArgs false
set_option linter.unusedSectionVars false
open Go.RowKit

def wds (x : Int) : List D := (w32 (canon x.natAbs)).map D.val
def dDy (t : Bool) (x : Int) (d : Nat) : List D := [.val (.bool (decide (x < 0))), .row t 1 (canon x.natAbs).length (wds x), .val (.int .i64 (d : Int))]
def aDy (t : Bool) (x : Int) (d : Nat) : A := .agg (dDy t x d)
/-- A pair in its normal form. -/
def Nf (x : Int) (d : Nat) : Prop := d ≤ 65536 ∧ (d ≠ 0 → x % 2 = 1)
theorem dy_in {w : World} {S : Sets} {t : Bool} {x : Int} {d : Nat} {v : Value} (h : ARel w S (aDy t x d) v) (hS : ∀ t b, S t b → b < w.heap.size) (hn : Nf x d) : DyR w 0 w.heap.size v x d := by
  obtain ⟨xs, rfl, h1⟩ := h
  obtain ⟨a, l1, rfl, ha, h2⟩ := h1.uncons
  obtain ⟨b, l2, rfl, hb, h3⟩ := h2.uncons
  obtain ⟨c, l3, rfl, hc, h4⟩ := h3.uncons
  rw [h4.unnil]
  cases ha
  cases hc
  cases hb with
  | @row _ _ _ c cs A xs hc hA hl hx hm hr =>
    have hw : xs = w32 (canon x.natAbs) := vals_rel (vs := w32 (canon x.natAbs)) ⟨hx, hr⟩
    subst hw
    refine ⟨A, c, rfl, hA, hc, fun hne => ?_, fun a _ => Nat.zero_le _, hn.1, hn.2⟩
    obtain ⟨b, off, rfl, hb, hcell⟩ := hm (fun h => hne (List.map_eq_nil_iff.1 h))
    exact ⟨b, off, rfl, hS _ _ hb, hS _ _ hb, hcell⟩
theorem w32_one {l : List Nat} {v : Value} (h : v ∈ w32 l) : v.oneCell' = true := by
  simp only [w32, List.mem_map] at h
  obtain ⟨n, _, rfl⟩ := h
  rfl
theorem dy_out {w w' : World} {v : Value} {x : Int} {d : Nat} (h : DyR w' w.heap.size w'.heap.size v x d) : ARel w' (Fresh w w') (aDy false x d) v := by
  obtain ⟨A, c, rfl, h1, h2, h3, h4, h5, h6⟩ := h
  refine ⟨[.bool (decide (x < 0)), .slice A (canon x.natAbs).length c, .int .i64 (d : Int)], rfl, .cons_ (.val rfl) (.cons_ (.row (w32 (canon x.natAbs)) h2 h1 ?_ ?_ ?_ ?_) (.cons_ (.val rfl) .nil_))⟩
  · rw [wds, List.length_map, w32_len, Nat.mul_one]
  · rw [wds, List.length_map]
  · intro hne
    obtain ⟨b, off, rfl, h7, h8, h9⟩ := h3 (fun h => hne (by rw [wds, h]; rfl))
    exact ⟨b, off, rfl, ⟨rfl, h4 _ rfl, h8⟩, h9⟩
  · intro j u y hu hy
    rw [wds, List.getElem?_map, hy] at hu
    cases hu
    exact .val (w32_one (List.mem_of_getElem? hy))
theorem Nf.nf {m : Int} {p : Nat} (h : p ≤ 65536) : Nf (nf m p).1 (nf m p).2 := ⟨Nat.le_trans (nf_le m p) h, nf_odd m p⟩
theorem Nf.shift {x : Int} {d : Nat} {n : Int} (hd : (d : Int) - max (-65536) (min n 65536) ≤ 65536) (h : d ≤ 65536) : Nf (dyShift x d n).1 (dyShift x d n).2 := by
  unfold dyShift
  split
  · exact Nf.nf (by omega)
  · exact Nf.nf h
section
variable {G : World → Prop}
theorem of_cv (n : Int) (h1 : -9223372036854775808 ≤ n) (h2 : n < 9223372036854775808) : CVF Tryd.prog G 46 [aI n] [aDy false n 0] := fun w S vs hg hlt ha => by
  obtain ⟨u, hu, h3⟩ := one_arg ha
  subst hu
  cases h3
  exact (of_any n h1 h2 w).mono fun r w' ⟨v, he, hd, hb⟩ => ⟨v, he, dy_out hd, hb⟩
theorem dshift_cv (t : Bool) (x : Int) (d : Nat) (n : Int) (hn : Nf x d) (hl : (canon x.natAbs).length ≤ 50000) (hd : (d : Int) - max (-65536) (min n 65536) ≤ 65536) : CVF Tryd.prog G 44 [aDy t x d, aI n] [aDy false (dyShift x d n).1 (dyShift x d n).2] := fun w S vs hg hlt ha => by
  obtain ⟨v, vs', rfl, h1, ha⟩ := ha.uncons
  obtain ⟨u, hu, h2⟩ := one_arg ha
  subst hu
  cases h2
  exact (dshift_any (dy_in h1 hlt hn) (Nat.le_refl _) hl hd).mono fun r w' ⟨v, he, hd, hb⟩ => ⟨v, he, dy_out hd, hb⟩
theorem dcmp_cv (t t' : Bool) (x : Int) (dx : Nat) (y : Int) (dy : Nat) (hn : Nf x dx) (hm : Nf y dy) (l1 : (canon x.natAbs).length ≤ 50000) (l2 : (canon y.natAbs).length ≤ 50000) : CVF Tryd.prog G 16 [aDy t x dx, aDy t' y dy] [aI (dyCmp x dx y dy)] := fun w S vs hg hlt ha => by
  obtain ⟨v, vs', rfl, h1, ha⟩ := ha.uncons
  obtain ⟨u, hu, h2⟩ := one_arg ha
  subst hu
  exact (cmp_any (dy_in h1 hlt hn) (dy_in h2 hlt hm) (Nat.le_refl _) l1 l2).mono fun r w' ⟨he, hb⟩ => ⟨_, he, DRel.val rfl, hb⟩
theorem rvalue_cv (n e : Int) (h1 : -9223372036854775808 ≤ n) (h2 : n < 9223372036854775808) : CVF Tryd.prog G 14 [.agg [dI n, dI e]] [aDy false (dyShift n 0 e).1 (dyShift n 0 e).2] := fun w S vs hg hlt ha => by
  obtain ⟨u, hu, h3⟩ := one_arg ha
  subst hu
  obtain ⟨xs, rfl, h4⟩ := h3
  have h5 := vals_rel (vs := [.int .i64 n, .int .i64 e]) h4
  subst h5
  exact (rvalue_any n e h1 h2 w).mono fun r w' ⟨v, he, hd, hb⟩ => ⟨v, he, dy_out hd, hb⟩
end
/-! plain laws -/
theorem sgI_eq {a b : Int} {p q : Nat} (h : a * 2 ^ p = b * 2 ^ q) : sgI a = sgI b := by rw [← sgI_mul a p, h, sgI_mul b q]
/-- The comparison of two numbers, from what they are times 2^q. -/
theorem cmp_sgn {a b A B : Int} {da db q : Nat} (ha : a * 2 ^ q = A * 2 ^ da) (hb : b * 2 ^ q = B * 2 ^ db) : dyCmp a da b db = sgI (A - B) := by
  unfold dyCmp dySum
  rw [sgI_eq (nf_eq _ _)]
  refine sgI_eq (p := q) (q := max da db) ?_
  have e1 : a * 2 ^ (max da db - da) * 2 ^ q = A * 2 ^ max da db := by
    rw [Int.mul_right_comm, ha, Int.mul_assoc, ← Int.pow_add]; congr 2; omega
  have e2 : b * 2 ^ (max da db - db) * 2 ^ q = B * 2 ^ max da db := by
    rw [Int.mul_right_comm, hb, Int.mul_assoc, ← Int.pow_add]; congr 2; omega
  rw [Int.add_mul, Int.neg_mul, Int.neg_mul, e1, e2, Int.sub_mul]
  omega
theorem shift_val {x k : Int} {q : Nat} (h1 : -65536 ≤ k) (h2 : k ≤ 65536) (hq : 0 ≤ k + q) : (dyShift x 0 k).1 * 2 ^ q = x * 2 ^ (k + q).toNat * 2 ^ (dyShift x 0 k).2 := by
  unfold dyShift
  rw [show max (-65536) (min k 65536) = k by omega]
  split
  · rename_i h
    rw [Nat.zero_add]
    have e := nf_eq x (-k).toNat
    rw [show q = (-k).toNat + (k + q).toNat by omega, Int.pow_add, ← Int.mul_assoc, e, Int.mul_right_comm]
    congr 3
    omega
  · rename_i h
    show x * 2 ^ k.toNat * 2 ^ q = x * 2 ^ (k + q).toNat * 2 ^ 0
    rw [Int.mul_assoc, ← Int.pow_add, Int.pow_zero, Int.mul_one]
    congr 2
    omega
end Go.Proofs.YtjlocofimlgaoaaDoor
namespace Go.Proofs.YtjlocofimlgaoaaDoor
set_option linter.unusedVariables false
set_option linter.unusedSimpArgs false
set_option linter.unusedSectionVars false
open Go.RowKit
def dW (n : Nat) : D := .val (.int .u32 (n : Int))
def rowW (t : Bool) (ws : List Nat) : D := .row t 1 ws.length (ws.map dW)
def cW (ws : List Nat) : List C := ws.map fun n => .d (dW n)
theorem w32_D (ws : List Nat) : (w32 ws).map D.val = ws.map dW := by simp [w32, dW]
theorem cW_zero (n : Nat) : valsC (madeCells (Value.int .u32 0).cells (n * 1)).toList = cW (List.replicate n 0) := by
  rw [Nat.mul_one, show (Value.int .u32 0).cells = #[Value.int .u32 0] from rfl, toList_madeCells_one]
  simp [valsC, cW, dW]
theorem bel_cW {n : Nat} {l : List Nat} : ∀ c ∈ cW l, C.bel n c := fun c hc => by obtain ⟨z, _, rfl⟩ := List.mem_map.1 hc; trivial
theorem word_at {ws : List Nat} {k x : Nat} (h : ws[k]? = some x) : ((ws.map dW).drop (k * 1)).take 1 = [dW x] := map_at h
section
variable {P : Program} {G : World → Prop} {o : Oper} {F : Frm} {H : List Ob}
theorem ok_makeW {t e : TypeId} {x y : Operand} {by_ n : Nat} {k k' : IntKind} {z : Int} (ho : o.op = .makeSlice t x y) (hx : F.ev x = .one (.d (.val (.int k z)))) (hy : F.ev y = .one (.d (.val (.int k' z)))) (hz' : z = (n : Int)) (ht : TyS P t e 1) (hz : TyZ P e (.int .u32 0) 1 by_) (hn : n ≤ 1000000) (hby : by_ ≤ 1000) :
    OpOk P G o F H (.one (.own H.length n)) [.row e 1 n (cW (List.replicate n 0))] := by
  subst hz'
  have := ok_makeSlice (P := P) (G := G) (H := H) ho hx hy ht hz hn hby
  rwa [cW_zero] at this
theorem ok_ldW {t ty : TypeId} {x : Operand} {id s n i k : Nat} {xs : List Nat} {z : Nat} (ho : o.op = .load t x) (hx : F.ev x = .one (.ref id (i * 1) (some n))) (hH : H[id]? = some (.row ty s n (cW xs))) (hz : xs[i]? = some z) (hk : TyK P t false k) : OpOk P G o F H (.one (.d (.val (.int .u32 (z : Int))))) [] :=
  ok_load1 ho hx (.row hH) (by simp [cW, hz, dW]) hk
theorem to_stW {t ty : TypeId} {x y : Operand} {id s n i : Nat} {xs : List Nat} {z : Int} {u : Nat} {b : Bool} (ho : o.op = .store t x y) (hx : F.ev x = .one (.ref id (i * 1) (some n))) (hH : H[id]? = some (.row ty s n (cW xs))) (hy : F.ev y = .one (.d (.val (.int .u32 z)))) (hz : z = (u : Int)) (hty : TyK P t b 1) (hi : i < xs.length) {ys : List Nat} (hys : xs.set i u = ys) : TOk P G o F H .any (H.set id (.row ty s n (cW ys))) := by
  subst hz
  have := to_store1 (P := P) (G := G) ho hx hH rfl hy hty (by simp [Ob.cs, cW, hi])
  have e : (cW xs).set (i * 1) (.d (.val (.int .u32 (u : Int)))) = cW ys := by rw [← hys, Nat.mul_one]; simp [cW, List.map_set, dW]
  simp only [Ob.cs, Ob.setC, e] at this
  exact this
theorem ok_convR {s t : TypeId} {x : Operand} {k k' : IntKind} {p r : Int} (ho : o.op = .convert s t x) (hs : P.underlying s = some (.int k)) (ht : P.underlying t = some (.int k')) (hx : F.ev x = .one (.d (.val (.int k p)))) (hr : k'.wrap p = r) : OpOk P G o F H (.one (.d (.val (.int k' r)))) [] := hr ▸ ok_conv ho hs ht hx
theorem ok_mulR {t t' : TypeId} {x y : Operand} {k : IntKind} {p q r : Int} (ho : o.op = .binOp .mul t x y t') (hx : F.ev x = .one (.d (.val (.int k p)))) (hy : F.ev y = .one (.d (.val (.int k q)))) (hr : k.wrap (p * q) = r) : OpOk P G o F H (.one (.d (.val (.int k r)))) [] := hr ▸ ok_mul ho hx hy
theorem ok_addR {t t' : TypeId} {x y : Operand} {k : IntKind} {p q r : Int} (ho : o.op = .binOp .add t x y t') (hx : F.ev x = .one (.d (.val (.int k p)))) (hy : F.ev y = .one (.d (.val (.int k q)))) (hr : k.wrap (p + q) = r) : OpOk P G o F H (.one (.d (.val (.int k r)))) [] := hr ▸ ok_add ho hx hy
theorem ok_shr32 {t t' : TypeId} {x : Operand} {k' : IntKind} {p : Nat} {r : Int} (ho : o.op = .binOp .shr t x (.const (.int k' 32)) t') (hx : F.ev x = .one (.d (.val (.int .u64 (p : Int))))) (hr : ((p / 4294967296 : Nat) : Int) = r) : OpOk P G o F H (.one (.d (.val (.int .u64 r)))) [] := by
  subst hr
  refine ok_bin (y := .const (.int k' 32)) (u' := .int k' 32) ho hx rfl (fun w => ?_) rfl
  have e : (p : Int).fdiv 4294967296 = ((p / 4294967296 : Nat) : Int) := by rw [Int.fdiv_eq_ediv_of_nonneg _ (by decide)]; rfl
  simp [eqGuard, binOp, Op.shift, IntKind.bits, e]
theorem ok_neqB {t t' : TypeId} {x y : Operand} {p q : Bool} (ho : o.op = .binOp .neq t x y t') (ht : P.underlying t = some .bool) (hx : F.ev x = .one (.d (.val (.bool p)))) (hy : F.ev y = .one (.d (.val (.bool q)))) : OpOk P G o F H (.one (.d (.val (.bool (p != q))))) [] := by
  refine ok_bin ho hx hy (fun w => ?_) rfl
  have h1 : (Op.equal t (.bool p) (.bool q)).run P w = .ok (p == q) w := by
    have key : ∀ d : Nat, (Op.equalIn (d + 1) t (.bool p) (.bool q)).run P w = .ok (p == q) w := fun d => by simp [Op.equalIn, run_underlying ht]
    exact key 9999
  simp [eqGuard, binOp, h1, bne]
end
theorem cexp_oW {t : Bool} {H : List Ob} {id ty n : Nat} {c : C} {y : D} {ws : List Nat} (hc : c = .own id n) (hH : H[id]? = some (.row ty 1 n (cW ws))) (hy : y = .row t 1 n (ws.map dW)) : CExp t H c y :=
  cexp_o hc hH hy ⟨by simp [cW], fun j a b ha hb => by
    simp only [cW, List.getElem?_map, Option.map_eq_some_iff] at ha hb
    obtain ⟨z, hz, rfl⟩ := ha
    obtain ⟨z', hz', rfl⟩ := hb
    rw [hz] at hz'
    cases hz'
    exact .d fun _ => .val _⟩
theorem u64_in {z : Int} (h0 : 0 ≤ z) (h1 : z < 18446744073709551616) : IntKind.wrap .u64 z = z := by rw [IntKind.wrap_u64]; omega
theorem u32_cut (n : Nat) : IntKind.wrap .u32 (n : Int) = ((n % 4294967296 : Nat) : Int) := by rw [IntKind.wrap_u32]; omega
theorem number_cv (G : World → Prop) (t neg : Bool) (ws : List Nat) (n den : Nat) (hn : n = ws.length) (ha : wordsOk ws) (l1 : ws.length ≤ 100000) (hd : den ≤ 65536) : CVF Tryd.prog G 85 [aB neg, .one (.row t 1 n (ws.map dW)), aI (den : Int)] [aDy false (nf (sg neg (wval ws)) den).1 (nf (sg neg (wval ws)) den).2] := fun w S vs hg hlt hv => by
  subst hn
  obtain ⟨v, vs', rfl, q1, hv⟩ := hv.uncons
  obtain ⟨v2, vs', rfl, q2, hv⟩ := hv.uncons
  obtain ⟨u, hu, q3⟩ := one_arg hv
  subst hu
  cases q1
  cases q3
  have q2' : DRel w S (.row t 1 ws.length (ws.map dW)) v2 := q2
  cases q2' with
  | @row _ _ _ c cs A xs hc hA hl hx hm hr =>
    have hw : xs = w32 ws := vals_rel (vs := w32 ws) (by rw [w32_D]; exact ⟨hx, hr⟩)
    subst hw
    refine (number_any neg A ws c den w.heap.size w (Nat.le_refl _) (fun hne => ?_) hc ha l1 hd).mono fun r w' ⟨v, he, hd, hb⟩ => ⟨v, he, dy_out hd, hb⟩
    obtain ⟨b, off, rfl, hb, hcell⟩ := hm (fun h => hne (by rw [List.map_eq_nil_iff.1 h]; rfl))
    exact ⟨b, off, rfl, hlt _ _ hb, hlt _ _ hb, hcell⟩
theorem norm_cv (G : World → Prop) (x : Int) (d : Nat) (hn : Nf x d) (hl : (canon x.natAbs).length ≤ 100000) : CV Tryd.prog G 84 [aDy false x d] [aDy false x d] := fun w S vs hg hlt ha => by
  obtain ⟨u, hu, h3⟩ := one_arg ha
  subst hu
  refine (norm_w (dy_in h3 hlt hn) (Nat.le_refl _) hl).mono fun r w' ⟨he, hb⟩ => ⟨_, he, ?_, hb⟩
  obtain ⟨xs, hv, hl2⟩ := h3
  refine ⟨xs, hv, hl2.1, fun j a b ha hb' => ?_⟩
  have hf : DFree a := by
    have hm := List.mem_of_getElem? ha
    simp only [dDy, List.mem_cons, List.not_mem_nil, or_false] at hm
    rcases hm with rfl | rfl | rfl
    · exact .val _
    · exact .row fun d hd => by obtain ⟨v, _, rfl⟩ := List.mem_map.1 hd; exact .val _
    · exact .val _
  have h5 : DRel w (fun t b => t = false ∧ S false b) a b := DRel.free (fun b h => ⟨rfl, h⟩) (hl2.2 j a b ha hb') hf
  exact h5.mono (fun t b h => ⟨h.1, .inl h.2⟩) (fun t b h => hb.block b (hlt _ _ h.2))
/-! plain: a product of words -/
theorem wval_set {o : List Nat} : ∀ {j u v : Nat}, o[j]? = some v → wval (o.set j u) + v * 4294967296 ^ j = wval o + u * 4294967296 ^ j := by
  induction o with
  | nil => intro j u v h; simp at h
  | cons y o ih =>
    intro j u v h
    cases j with
    | zero =>
      simp only [List.getElem?_cons_zero, Option.some.injEq] at h
      subst h
      simp only [List.set_cons_zero, wval]
      omega
    | succ j =>
      simp only [List.getElem?_cons_succ] at h
      have := ih (u := u) h
      simp only [List.set_cons_succ, wval, Nat.pow_succ]
      rw [← Nat.mul_assoc, ← Nat.mul_assoc]
      omega
theorem words_set {o : List Nat} {j u : Nat} (h : wordsOk o) (hu : u < 4294967296) : wordsOk (o.set j u) := fun x hx => by
  rcases List.mem_or_eq_of_mem_set hx with hx | rfl
  · exact h x hx
  · exact hu
/-- Where the inner loop stands: o the words so far, c the carry. -/
structure MulIn (b o0 : List Nat) (i x k : Nat) (o : List Nat) (c : Nat) : Prop where
  len : o.length = o0.length
  ok : wordsOk o
  car : c < 4294967296
  val : wval o + c * 4294967296 ^ (i + k) = wval o0 + x * wval (b.take k) * 4294967296 ^ i
  zero : ∀ j, i + b.length ≤ j → j < o0.length → o[j]? = some 0
theorem MulIn.fit {b o0 : List Nat} {i x k : Nat} {o : List Nat} {c y u : Nat} (h : MulIn b o0 i x k o c) (hx : x < 4294967296) (hy : y < 4294967296) (hu : o[i + k]? = some u) : x * y + u < 18446744073709551616 ∧ c + (x * y + u) < 18446744073709551616 := by
  have h1 : x * y ≤ 4294967295 * 4294967295 := Nat.mul_le_mul (by omega) (by omega)
  have h2 := h.ok u (List.mem_of_getElem? hu)
  have h3 := h.car
  omega
theorem MulIn.step {b o0 : List Nat} {i x k : Nat} {o : List Nat} {c y u : Nat} (h : MulIn b o0 i x k o c) (hx : x < 4294967296) (hb : wordsOk b) (hy : b[k]? = some y) (hu : o[i + k]? = some u) : MulIn b o0 i x (k + 1) (o.set (i + k) ((c + (x * y + u)) % 4294967296)) ((c + (x * y + u)) / 4294967296) := by
  obtain ⟨f1, f2⟩ := h.fit hx (hb y (List.mem_of_getElem? hy)) hu
  have hkb := (List.getElem?_eq_some_iff.1 hy).1
  refine ⟨by rw [List.length_set]; exact h.len, words_set h.ok (by omega), by omega, ?_, fun j h1 h2 => by rw [List.getElem?_set, if_neg (by omega)]; exact h.zero j h1 h2⟩
  have hs := wval_set (u := (c + (x * y + u)) % 4294967296) hu
  have hv := h.val
  have ht := wval_take_succ b k
  rw [hy, Option.getD_some] at ht
  have hdm := Nat.div_add_mod (c + (x * y + u)) 4294967296
  rw [ht, Nat.mul_add, Nat.add_mul, show i + (k + 1) = (i + k) + 1 by omega, Nat.pow_succ]
  generalize hP : 4294967296 ^ (i + k) = p at hs hv ⊢
  have e1 : x * (4294967296 ^ k * y) * 4294967296 ^ i = x * y * p := by
    rw [← hP, Nat.pow_add]
    simp only [Nat.mul_assoc, Nat.mul_comm, Nat.mul_left_comm]
  rw [e1]
  generalize (c + (x * y + u)) / 4294967296 = q at hdm ⊢
  generalize (c + (x * y + u)) % 4294967296 = r at hs hdm ⊢
  have e2 : q * (p * 4294967296) + r * p = (c + (x * y + u)) * p := by
    rw [← hdm, Nat.add_mul, Nat.mul_comm p 4294967296, ← Nat.mul_assoc, Nat.mul_comm q 4294967296]
  rw [Nat.add_mul, Nat.add_mul] at e2
  omega
structure MulOut (a b : List Nat) (i : Nat) (o : List Nat) : Prop where
  len : o.length = a.length + b.length
  ok : wordsOk o
  val : wval o = wval (a.take i) * wval b
  zero : ∀ j, i + b.length ≤ j → j < a.length + b.length → o[j]? = some 0
theorem MulOut.start (a b : List Nat) : MulOut a b 0 (List.replicate (a.length + b.length) 0) := by
  refine ⟨by simp, fun x hx => by rw [(List.mem_replicate.1 hx).2]; decide, by rw [wval_zeros]; simp [wval], fun j _ h2 => by simp [h2]⟩
theorem MulOut.enter {a b : List Nat} {i x : Nat} {o : List Nat} (h : MulOut a b i o) : MulIn b o i x 0 o 0 :=
  ⟨rfl, h.ok, by decide, by simp [wval], fun j h1 h2 => h.zero j h1 (by rw [← h.len]; exact h2)⟩
theorem MulOut.leave {a b : List Nat} {i x : Nat} {o0 o : List Nat} {c : Nat} (h : MulOut a b i o0) (hx : a[i]? = some x) (h2 : MulIn b o0 i x b.length o c) : MulOut a b (i + 1) (o.set (i + b.length) c) := by
  have hi := (List.getElem?_eq_some_iff.1 hx).1
  have hz := h2.zero (i + b.length) (Nat.le_refl _) (by rw [h.len]; omega)
  have hs := wval_set (u := c) hz
  refine ⟨by rw [List.length_set, h2.len]; exact h.len, words_set h2.ok h2.car, ?_, fun j h3 h4 => by rw [List.getElem?_set, if_neg (by omega)]; exact h2.zero j (by omega) (by rw [h.len]; exact h4)⟩
  have hv := h2.val
  rw [List.take_length] at hv
  have ht := wval_take_succ a i
  rw [hx, Option.getD_some] at ht
  rw [ht, Nat.add_mul, ← h.val]
  have e : x * wval b * 4294967296 ^ i = 4294967296 ^ i * x * wval b := by simp only [Nat.mul_assoc, Nat.mul_comm, Nat.mul_left_comm]
  omega
theorem sg_prod (x y : Int) : sg (decide (x < 0) != decide (y < 0)) (x.natAbs * y.natAbs) = x * y := by
  unfold sg
  have hx : x = if x < 0 then -(x.natAbs : Int) else x.natAbs := by split <;> omega
  have hy : y = if y < 0 then -(y.natAbs : Int) else y.natAbs := by split <;> omega
  by_cases h1 : x < 0 <;> by_cases h2 : y < 0
  all_goals
    simp only [h1, h2, decide_true, decide_false, bne_self_eq_false, Bool.false_eq_true, if_true, if_false, Bool.true_bne, Bool.false_bne, Bool.not_false] at hx hy ⊢
    conv => rhs; rw [hx, hy]
    simp [Int.neg_mul, Int.mul_neg]
def dyMul (x : Int) (dx : Nat) (y : Int) (dy : Nat) : Int × Nat := nf (x * y) (dx + dy)
theorem wds_at {x : Int} {k p : Nat} (h : (canon x.natAbs)[k]? = some p) : ((wds x).drop (k * 1)).take 1 = [dW p] := by
  unfold wds
  rw [w32_D]
  exact word_at h
theorem free_w (x : Int) : DFree (.row false 1 (canon x.natAbs).length (wds x)) := .row fun d hd => by obtain ⟨v, _, rfl⟩ := List.mem_map.1 hd; exact .val _
theorem rvW {P : Program} {F : Frm} {H : List Ob} {t : Tmp} {ty ty' id k : Nat} {x : Int} {d : Nat} (hk : TyK P ty true k) (hi : 3 = k) (hF : F t = .one (.ref id 0 none) := by with_unfolding_all exact rfl) (hH : H[id]? = some (.box ty' ((dDy false x d).map C.d)) := by with_unfolding_all exact rfl) : RV P F H (.cell t ty) (aDy false x d) :=
  rv_box hF hH hk hi rfl (.cons_ (cexp_d rfl fun _ => .val _) (.cons_ (cexp_d rfl fun _ => free_w x) (.cons_ (cexp_d rfl fun _ => .val _) .nil_)))
set_option maxRecDepth 100000 in
set_option maxHeartbeats 4000000 in
theorem dmul_cv (x : Int) (dx : Nat) (y : Int) (dy : Nat) (hnx : Nf x dx) (hny : Nf y dy) (lx : (canon x.natAbs).length ≤ 40000) (ly : (canon y.natAbs).length ≤ 40000) (hd : dx + dy ≤ 65536) : CV Tryd.prog TabAt 63 [aDy false x dx, aDy false y dy] [aDy false (dyMul x dx y dy).1 (dyMul x dx y dy).2] := by
  refine cv_of tab_G Tryd.func63 rfl Tryd.ntmps63 (Nat.le_of_ble_eq_true rfl) ?_
  have NX := norm_cv TabAt x dx hnx (Nat.le_trans lx (by decide))
  have NY := norm_cv TabAt y dy hny (Nat.le_trans ly (by decide))
  have hax := canon_ok x.natAbs
  have hay := canon_ok y.natAbs
  repeat' (with_reducible first | apply qa | apply qb | apply qc | apply qd | apply qe | apply qf | apply qg | apply qh | apply qi | apply qj | apply qk | apply ql rfl | apply qm rfl | apply qn rfl | (refine Tx 0 ?_; refine Jn xBo ?_; refine Jn xBo ?_; refine Jn (by exact ok_alloc rfl tz_Dyadic) ?_; refine Je ?_) | (refine cw_part (id := 1) 4 mixed (by kernel_rfl) ?_; dsimp only [List.take, List.drop]; refine Ko (xLa tk_Dyadic) ?_; refine Ko (by first | exact xCl Tryd.func84 (NX) | exact xCl Tryd.func84 (NY)) ?_; refine Ko (xLa tk_Dyadic) ?_; refine Ko (by first | exact xCl Tryd.func84 (NX) | exact xCl Tryd.func84 (NY)) ?_; refine Ke ?_; refine Js (xSk tk_Dyadic) ?_; refine Js (xSk tk_Dyadic) ?_; refine Je ?_) | (refine Tx 2 ?_; refine Jo (xFa tf_Dyadic1 tk_s_uint32) ?_; refine Jo (xLd tk_s_uint32) ?_; refine Jo (xLn ts_s_uint32) ?_; refine Jo (xFa tf_Dyadic1 tk_s_uint32) ?_; refine Jo (xLd tk_s_uint32) ?_; refine Jo (xLn ts_s_uint32) ?_; refine Jo xAd ?_; refine Jn (by first | exact ok_makeW (n := (canon x.natAbs).length + (canon y.natAbs).length) rfl rfl rfl (by omega) ts_s_uint32 tz_uint32 (by omega) (by decide) | exact ok_makeSlice rfl rfl rfl ts_s_uint32 tz_uint32 (by omega) (by decide)) ?_; refine Ja ?_; refine Je ?_) | (refine Tx 3 ?_; refine Jo (xFa tf_Dyadic1 tk_s_uint32) ?_; refine Jo (xLd tk_s_uint32) ?_; refine Jo (xLn ts_s_uint32) ?_; refine Jm ?_; refine Je ?_))
  refine cw_wk (F' := ofL [(2, vr 0), (3, vr 1), (4, vr 2), (5, vo 3 (((canon x.natAbs).length + (canon y.natAbs).length))), (24, vd (.row false 1 (canon x.natAbs).length (wds x))), (25, vi ((canon x.natAbs).length)), (26, vi ((0 : Nat)))]) (H' := [.box 37 ((dDy false x dx).map C.d), .box 37 ((dDy false y dy).map C.d), .box 37 [.d (.val (.bool false)), .d (.val (.slice none 0 0)), .d (.val (.int .i64 0))], .row 130 1 ((canon x.natAbs).length + (canon y.natAbs).length) (cW (List.replicate ((canon x.natAbs).length + (canon y.natAbs).length) 0))]) (wk_go [(2, vr 0), (3, vr 1), (4, vr 2), (5, vo 3 (((canon x.natAbs).length + (canon y.natAbs).length))), (24, vd (.row false 1 (canon x.natAbs).length (wds x))), (25, vi ((canon x.natAbs).length)), (26, vi ((0 : Nat)))] 4 ?_ ?_ ?_) ?_
  · rfl
  · exact mB rfl rfl
  · exact ⟨bel_d, bel_d, bel_lit rfl, bel_cW, trivial⟩
  refine cw_loopW (fun n Fr H => ∃ (i : Nat) (o : List Nat), i ≤ (canon x.natAbs).length ∧ n = (canon x.natAbs).length - i ∧ MulOut (canon x.natAbs) (canon y.natAbs) i o ∧ Fr = ofL [(2, vr 0), (3, vr 1), (4, vr 2), (5, vo 3 (((canon x.natAbs).length + (canon y.natAbs).length))), (24, vd (.row false 1 (canon x.natAbs).length (wds x))), (25, vi ((canon x.natAbs).length)), (26, vi ((i : Nat)))] ∧ H = [.box 37 ((dDy false x dx).map C.d), .box 37 ((dDy false y dy).map C.d), .box 37 [.d (.val (.bool false)), .d (.val (.slice none 0 0)), .d (.val (.int .i64 0))], .row 130 1 ((canon x.natAbs).length + (canon y.natAbs).length) (cW o)]) (n0 := (canon x.natAbs).length) ⟨0, (List.replicate ((canon x.natAbs).length + (canon y.natAbs).length) 0), Nat.zero_le _, rfl, MulOut.start _ _, rfl, rfl⟩ ?_
  rintro n Fr H ⟨i, o, hi, rfl, ho, rfl, rfl⟩
  by_cases hlt : i < (canon x.natAbs).length
  case pos =>
    obtain ⟨p, hp⟩ : ∃ p, (canon x.natAbs)[i]? = some p := ⟨_, List.getElem?_eq_getElem hlt⟩
    have hpk := hax p (List.mem_of_getElem? hp)
    have hp2 := wds_at hp
    repeat' (with_reducible first | apply qa | apply qb | apply qc | apply qd | apply qe | apply qf | apply qg | apply qh | apply qi | apply qj | apply qk | apply ql rfl | apply qm rfl | apply qn rfl | (refine Tx 4 ?_; refine Jo xLt ?_; refine Je ?_) | (refine Tx 5 ?_; refine Jm ?_; refine Jo (xIr ts_s_uint32 (hp2)) ?_; refine Jo (xLd tk_uint32) ?_; refine Ja ?_; refine Ja ?_; refine Je ?_) | (refine Tx 6 ?_; refine Ja ?_; refine Je ?_) | (refine Tx 7 ?_; refine Jo (xFa tf_Dyadic1 tk_s_uint32) ?_; refine Jo (xLd tk_s_uint32) ?_; refine Jo (xLn ts_s_uint32) ?_; refine Jm ?_; refine Je ?_))
    refine cw_wk (F' := ofL [(2, vr 0), (3, vr 1), (4, vr 2), (5, vo 3 (((canon x.natAbs).length + (canon y.natAbs).length))), (6, vi i), (7, vd (dW p)), (24, vd (.row false 1 (canon x.natAbs).length (wds x))), (25, vi ((canon x.natAbs).length)), (26, vi ((i : Nat))), (8, vd (.val (.int .u64 ((0 : Nat) : Int)))), (32, vd (.row false 1 (canon y.natAbs).length (wds y))), (33, vi ((canon y.natAbs).length)), (34, vi ((0 : Nat)))]) (H' := [.box 37 ((dDy false x dx).map C.d), .box 37 ((dDy false y dy).map C.d), .box 37 [.d (.val (.bool false)), .d (.val (.slice none 0 0)), .d (.val (.int .i64 0))], .row 130 1 ((canon x.natAbs).length + (canon y.natAbs).length) (cW o)]) (wk_go [(2, vr 0), (3, vr 1), (4, vr 2), (5, vo 3 (((canon x.natAbs).length + (canon y.natAbs).length))), (6, vi i), (7, vd (dW p)), (24, vd (.row false 1 (canon x.natAbs).length (wds x))), (25, vi ((canon x.natAbs).length)), (26, vi ((i : Nat))), (8, vd (.val (.int .u64 ((0 : Nat) : Int)))), (32, vd (.row false 1 (canon y.natAbs).length (wds y))), (33, vi ((canon y.natAbs).length)), (34, vi ((0 : Nat)))] 4 ?_ ?_ ?_) ?_
    · rfl
    · exact mB rfl rfl
    · exact ⟨bel_d, bel_d, bel_lit rfl, bel_cW, trivial⟩
    refine cw_loopW (fun n Fr H => ∃ (k : Nat) (q : List Nat) (c : Nat), k ≤ (canon y.natAbs).length ∧ n = (canon y.natAbs).length - k ∧ MulIn (canon y.natAbs) o i p k q c ∧ Fr = ofL [(2, vr 0), (3, vr 1), (4, vr 2), (5, vo 3 (((canon x.natAbs).length + (canon y.natAbs).length))), (6, vi i), (7, vd (dW p)), (24, vd (.row false 1 (canon x.natAbs).length (wds x))), (25, vi ((canon x.natAbs).length)), (26, vi ((i : Nat))), (8, vd (.val (.int .u64 ((c : Nat) : Int)))), (32, vd (.row false 1 (canon y.natAbs).length (wds y))), (33, vi ((canon y.natAbs).length)), (34, vi ((k : Nat)))] ∧ H = [.box 37 ((dDy false x dx).map C.d), .box 37 ((dDy false y dy).map C.d), .box 37 [.d (.val (.bool false)), .d (.val (.slice none 0 0)), .d (.val (.int .i64 0))], .row 130 1 ((canon x.natAbs).length + (canon y.natAbs).length) (cW q)]) (n0 := (canon y.natAbs).length) ⟨0, o, 0, Nat.zero_le _, rfl, ho.enter, rfl, rfl⟩ ?_
    rintro n Fr H ⟨k, q, c, hk, rfl, hq, rfl, rfl⟩
    by_cases hlt2 : k < (canon y.natAbs).length
    case pos =>
      obtain ⟨r, hr⟩ : ∃ r, (canon y.natAbs)[k]? = some r := ⟨_, List.getElem?_eq_getElem hlt2⟩
      have hrk := hay r (List.mem_of_getElem? hr)
      have hr2 := wds_at hr
      have hql := hq.len
      have hol := ho.len
      obtain ⟨u, hu⟩ : ∃ u, q[i + k]? = some u := ⟨_, List.getElem?_eq_getElem (by omega)⟩
      have hu2 := hq.ok u (List.mem_of_getElem? hu)
      obtain ⟨f1, f2⟩ := hq.fit hpk hrk hu
      have hst := hq.step hpk hay hr hu
      have m1 : IntKind.wrap .u64 (p : Int) = (p : Int) := u64_in (by omega) (by omega)
      have m2 : IntKind.wrap .u64 (r : Int) = (r : Int) := u64_in (by omega) (by omega)
      have m3 : IntKind.wrap .u64 ((p : Int) * (r : Int)) = ((p * r : Nat) : Int) := by rw [← Int.natCast_mul]; exact u64_in (by omega) (by omega)
      have m4 : IntKind.wrap .u64 (u : Int) = (u : Int) := u64_in (by omega) (by omega)
      have m5 : IntKind.wrap .u64 (((p * r : Nat) : Int) + (u : Int)) = ((p * r + u : Nat) : Int) := u64_in (by omega) (by omega)
      have m6 : IntKind.wrap .u64 ((c : Int) + ((p * r + u : Nat) : Int)) = ((c + (p * r + u) : Nat) : Int) := u64_in (by omega) (by omega)
      have m7 := u32_cut (c + (p * r + u))
      have tl : i + k < q.length := by omega
      generalize hm : p * r + u = m at *
      repeat' (with_reducible first | apply qa | apply qb | apply qc | apply qd | apply qe | apply qf | apply qg | apply qh | apply qi | apply qj | apply qk | apply ql rfl | apply qm rfl | apply qn rfl | (refine Tx 8 ?_; refine Jo xLt ?_; refine Je ?_) | (refine Tx 9 ?_; refine Jm ?_; refine Jo (by first | exact xIr ts_s_uint32 (hr2) | exact ok_ixO (i := i + k) rfl rfl rfl rfl (by omega) ts_s_uint32 (by omega) (by decide)) ?_; refine Jo (by first | exact ok_ldW rfl rfl rfl hu tk_uint32 | exact xLd tk_uint32) ?_; refine Ja ?_; refine Ja ?_; refine Je ?_) | (refine Tx 10 ?_; refine Jm ?_; refine Jm ?_; refine Jo (by first | exact ok_convR rfl Tryd.underlying130 Tryd.underlying123 rfl m1 | exact ok_conv rfl Tryd.underlying130 Tryd.underlying123 rfl) ?_; refine Jm ?_; refine Jo (by first | exact ok_convR rfl Tryd.underlying130 Tryd.underlying123 rfl m2 | exact ok_conv rfl Tryd.underlying130 Tryd.underlying123 rfl) ?_; refine Jo (by first | exact ok_mulR rfl rfl rfl m3 | exact ok_mul64 rfl rfl rfl (by omega)) ?_; refine Jm ?_; refine Jm ?_; refine Jm ?_; refine Jo xAd ?_; refine Jo (by first | exact xIr ts_s_uint32 (hr2) | exact ok_ixO (i := i + k) rfl rfl rfl rfl (by omega) ts_s_uint32 (by omega) (by decide)) ?_; refine Jo (by first | exact ok_ldW rfl rfl rfl hu tk_uint32 | exact xLd tk_uint32) ?_; refine Jo (by first | exact ok_convR rfl Tryd.underlying130 Tryd.underlying123 rfl m4 | exact ok_conv rfl Tryd.underlying130 Tryd.underlying123 rfl) ?_; refine Jo (by first | exact ok_addR rfl rfl rfl m5 | exact xAd) ?_; refine Jo (by first | exact ok_addR rfl rfl rfl m6 | exact xAd) ?_; refine Ja ?_; refine Je ?_) | (refine Tx 11 ?_; refine Jm ?_; refine Jm ?_; refine Jm ?_; refine Jo xAd ?_; refine Jm ?_; refine Jo (by first | exact ok_convR rfl Tryd.underlying123 Tryd.underlying130 rfl m7 | exact ok_conv rfl Tryd.underlying123 Tryd.underlying130 rfl) ?_; refine Jo (by first | exact xIr ts_s_uint32 (hr2) | exact ok_ixO (i := i + k) rfl rfl rfl rfl (by omega) ts_s_uint32 (by omega) (by decide)) ?_; refine Js (by first | exact to_stW rfl rfl rfl rfl rfl tk_uint32 tl rfl | exact xS1 tk_uint32 | exact xSk tk_uint32) ?_; refine Je ?_) | (refine Tx 12 ?_; refine Jm ?_; refine Jo (by exact ok_shr32 rfl rfl rfl) ?_; refine Ja ?_; refine Je ?_) | (refine Tx 13 ?_; refine Jo xAd ?_; refine Jm ?_; refine Je ?_))
      exact ⟨_, _, wk_go [(2, vr 0), (3, vr 1), (4, vr 2), (5, vo 3 (((canon x.natAbs).length + (canon y.natAbs).length))), (6, vi i), (7, vd (dW p)), (24, vd (.row false 1 (canon x.natAbs).length (wds x))), (25, vi ((canon x.natAbs).length)), (26, vi ((i : Nat))), (8, vd (.val (.int .u64 ((((c + m) / 4294967296) : Nat) : Int)))), (32, vd (.row false 1 (canon y.natAbs).length (wds y))), (33, vi ((canon y.natAbs).length)), (34, vi (((k + 1) : Nat)))] 4 rfl (mB rfl rfl) ⟨bel_d, bel_d, bel_lit rfl, bel_cW, trivial⟩, _, by omega, k + 1, _, _, by omega, rfl, hst, rfl, rfl⟩
    obtain rfl : k = (canon y.natAbs).length := by omega
    have hql := hq.len
    have hol := ho.len
    have hlv := ho.leave hp hq
    have tl : i + (canon y.natAbs).length < q.length := by omega
    have hck := hq.car
    have m8 : IntKind.wrap .u32 (c : Int) = (c : Int) := by rw [u32_cut, Nat.mod_eq_of_lt hck]
    repeat' (with_reducible first | apply qa | apply qb | apply qc | apply qd | apply qe | apply qf | apply qg | apply qh | apply qi | apply qj | apply qk | apply ql rfl | apply qm rfl | apply qn rfl | (refine Tx 8 ?_; refine Jo xLt ?_; refine Je ?_) | (refine Tx 14 ?_; refine Jm ?_; refine Jm ?_; refine Jo (xFa tf_Dyadic1 tk_s_uint32) ?_; refine Jo (xLd tk_s_uint32) ?_; refine Jo (xLn ts_s_uint32) ?_; refine Jo xAd ?_; refine Jm ?_; refine Jo (by first | exact ok_convR rfl Tryd.underlying123 Tryd.underlying130 rfl m8 | exact ok_conv rfl Tryd.underlying123 Tryd.underlying130 rfl) ?_; refine Jo (by exact ok_ixO (i := i + (canon y.natAbs).length) rfl rfl rfl rfl (by omega) ts_s_uint32 (by omega) (by decide)) ?_; refine Js (by first | exact to_stW rfl rfl rfl rfl rfl tk_uint32 tl rfl | exact xS1 tk_uint32 | exact xSk tk_uint32) ?_; refine Je ?_) | (refine Tx 15 ?_; refine Jo xAd ?_; refine Jm ?_; refine Je ?_))
    exact ⟨_, _, wk_go [(2, vr 0), (3, vr 1), (4, vr 2), (5, vo 3 (((canon x.natAbs).length + (canon y.natAbs).length))), (24, vd (.row false 1 (canon x.natAbs).length (wds x))), (25, vi ((canon x.natAbs).length)), (26, vi (((i + 1) : Nat)))] 4 rfl (mB rfl rfl) ⟨bel_d, bel_d, bel_lit rfl, bel_cW, trivial⟩, _, by omega, i + 1, _, by omega, rfl, hlv, rfl, rfl⟩
  obtain rfl : i = (canon x.natAbs).length := by omega
  have hv := ho.val
  rw [List.take_length, wval_canon, wval_canon] at hv
  have hol := ho.len
  have NB := number_cv TabAt true (decide (x < 0) != decide (y < 0)) o ((canon x.natAbs).length + (canon y.natAbs).length) (dx + dy) hol.symm ho.ok (by omega) hd
  rw [hv, sg_prod] at NB
  repeat' (with_reducible first | apply qa | apply qb | apply qc | apply qd | apply qe | apply qf | apply qg | apply qh | apply qi | apply qj | apply qk | apply ql rfl | apply qm rfl | apply qn rfl | (refine Tx 4 ?_; refine Jo xLt ?_; refine Je ?_) | (refine Tx 16 ?_; refine Jo (xFa tf_Dyadic0 tk_bool) ?_; refine Jo (xLd tk_bool) ?_; refine Jo (xFa tf_Dyadic0 tk_bool) ?_; refine Jo (xLd tk_bool) ?_; refine Jo (by first | exact ok_neqB rfl Tryd.underlying4 rfl rfl | exact xNe) ?_; refine Jm ?_; refine Jo (xFa tf_Dyadic2 tk_int) ?_; refine Jo (xLd tk_int) ?_; refine Jo (xFa tf_Dyadic2 tk_int) ?_; refine Jo (xLd tk_int) ?_; refine Jo xAd ?_; refine Jo (xCl Tryd.func85 (NB.cv) (ha := .cons_ (xexp_1 rfl rfl (cexp_d rfl fun h => by cases h)) (.cons_ (xexp_1 rfl rfl (cexp_oW rfl rfl rfl)) (.cons_ (xexp_1 rfl rfl (cexp_d rfl fun h => by cases h)) .nil_)))) ?_; refine Js (xSk tk_Dyadic) ?_; refine Je ?_))
  exact ret_q rfl (.cons_ (rvW tk_Dyadic rfl) .nil_)
end Go.Proofs.YtjlocofimlgaoaaDoor
namespace Go.Proofs.YtjlocofimlgaoaaDoor
set_option linter.unusedVariables false
set_option linter.unusedSimpArgs false
set_option linter.unusedSectionVars false
open Go.RowKit
theorem fine_ok {n e k : Int} (h : rawErr n e k = 0) : rawOk n e k ∧ rawV n e k = shE n (e + k) ∧ -2147483648 ≤ rawV n e k ∧ rawV n e k < 2147483648 ∧ dyCmp (dyShift (rawV n e k) 0 (-k)).1 (dyShift (rawV n e k) 0 (-k)).2 (dyShift n 0 e).1 (dyShift n 0 e).2 ≤ 0 ∧ 0 < dyCmp (dyShift (rawV n e k + 1) 0 (-k)).1 (dyShift (rawV n e k + 1) 0 (-k)).2 (dyShift n 0 e).1 (dyShift n 0 e).2 := by
  have hok : rawOk n e k := Classical.byContradiction fun hn => by rw [(raw_no hn).1] at h; cases h
  have hb : -2147483648 ≤ shE n (e + k) ∧ shE n (e + k) < 2147483648 := Classical.byContradiction fun hn => by rw [(raw_far hok hn).1] at h; cases h
  have hv := (raw_yes hok hb).2
  refine ⟨hok, hv, by omega, by omega, ?_⟩
  obtain ⟨_, _, he0, he1, hk0, hk1⟩ := hok
  have pw : ∀ n : Nat, (0 : Int) < 2 ^ n := fun n => Int.pow_pos (by decide)
  rw [cmp_sgn (shift_val (q := 100) (by omega) (by omega) (by omega)) (shift_val (q := 100) (by omega) (by omega) (by omega)), cmp_sgn (shift_val (q := 100) (by omega) (by omega) (by omega)) (shift_val (q := 100) (by omega) (by omega) (by omega)), sgI_three, sgI_three, hv]
  have key : shE n (e + k) * 2 ^ (-k + (100 : Nat)).toNat ≤ n * 2 ^ (e + (100 : Nat)).toNat ∧ n * 2 ^ (e + (100 : Nat)).toNat < (shE n (e + k) + 1) * 2 ^ (-k + (100 : Nat)).toNat := by
    unfold shE
    by_cases hneg : e + k < 0
    · rw [if_pos hneg, show (-k + (100 : Nat)).toNat = (-(e + k)).toNat + (e + (100 : Nat)).toNat by omega, Int.pow_add, ← Int.mul_assoc, ← Int.mul_assoc]
      have h1 := Int.mul_ediv_add_emod n (2 ^ (-(e + k)).toNat)
      have h2 := Int.emod_nonneg n (Int.ne_of_gt (pw (-(e + k)).toNat))
      have h3 := Int.emod_lt_of_pos n (pw (-(e + k)).toNat)
      rw [Int.mul_comm] at h1
      refine ⟨Int.mul_le_mul_of_nonneg_right (by omega) (Int.le_of_lt (pw _)), Int.mul_lt_mul_of_pos_right ?_ (pw _)⟩
      rw [Int.add_mul, Int.one_mul]
      omega
    · rw [if_neg hneg, show (e + (100 : Nat)).toNat = (e + k).toNat + (-k + (100 : Nat)).toNat by omega, Int.pow_add, ← Int.mul_assoc]
      have h4 := pw (-k + (100 : Nat)).toNat
      refine ⟨Int.le_refl _, ?_⟩
      rw [Int.add_mul, Int.one_mul]
      omega
  obtain ⟨k1, k2⟩ := key
  rw [if_neg (Int.not_lt.2 (Int.le_of_lt k2)), if_pos k2]
  refine ⟨?_, by decide⟩
  by_cases h : shE n (e + k) * 2 ^ (-k + (100 : Nat)).toNat < n * 2 ^ (e + (100 : Nat)).toNat
  · rw [if_pos h]; decide
  · rw [if_neg h, if_neg (by omega)]; decide
set_option maxRecDepth 100000 in
set_option maxHeartbeats 4000000 in
theorem scaled_cv (n f : Int) (h1 : -9223372036854775808 ≤ n) (h2 : n < 9223372036854775808) (f1 : -100 ≤ f) (f2 : f ≤ 100) : CV Tryd.prog TabAt 15 [aI n, aI f] [aDy false (dyShift n 0 (-f)).1 (dyShift n 0 (-f)).2] := by
  refine cv_of tab_G Tryd.func15 rfl Tryd.ntmps15 (Nat.le_of_ble_eq_true rfl) ?_
  have OF := of_cv (G := TabAt) n h1 h2
  have SH := dshift_cv (G := TabAt) false n 0 (-f) ⟨by decide, fun h => absurd rfl h⟩ (Nat.le_trans (canon_len_le (k := 2) (by omega)) (by decide)) (by omega)
  repeat' (with_reducible first | apply qa | apply qb | apply qc | apply qd | apply qe | apply qf | apply qg | apply qh | apply qi | apply qj | apply qk | apply ql rfl | apply qm rfl | apply qn rfl | (refine Tx 0 ?_; refine Jn (by exact ok_alloc rfl tz_Dyadic) ?_; refine Je ?_) | (refine Tx 1 ?_; refine Jm ?_; refine Jo (xCl Tryd.func46 (OF.cv)) ?_; refine Jm ?_; refine Jo (by first | exact ok_not rfl rfl | exact ok_neg64 rfl rfl (by omega)) ?_; refine Jo (xCl Tryd.func44 (SH.cv)) ?_; refine Js (xSk tk_Dyadic) ?_; refine Je ?_))
  exact ret_q rfl (.cons_ (rvW tk_Dyadic rfl) .nil_)
end Go.Proofs.YtjlocofimlgaoaaDoor
