/- What the proofs of this claim share, part 12. No conditions. -/
import Derived.Test.YtmdfjbpggbhgnaaDoorKw11
import Derived.Test.YtmdfjbpggbhgnaaDoorKw9
import Derived.Test.YtmdfjbpggbhgnaaDoorKw10
import Derived.Test.YtmdfjbpggbhgnaaDoorKw5
import Derived.Laws.StructEq
import Derived.Deep.RegionHeld3
set_option maxRecDepth 100000
set_option maxHeartbeats 4000000
set_option linter.unusedVariables false
set_option linter.unusedSimpArgs false
set_option linter.unusedSectionVars false
namespace Go.Proofs.YtmdfjbpggbhgnaaDoor
open Go.RowKit
theorem compile_cvf (ps : List Prt) (bs : List Bk) (os : List Int) (F : List Int) (hl : DgLen ps bs os) (hF : F.length ≤ 1000000) : CVF Tryd.prog TabAt 8 [aDg true ps bs os, .one (rowI true F)] [aProg false (okL' (cpE' ps bs os F) ps) (okL' (cpE' ps bs os F) (initM bs F)) (okL' (cpE' ps bs os F) (codeM ps bs F)) (okL' (cpE' ps bs os F) os), aE (cpE' ps bs os F)] :=
  (compile_cv ps bs os F hl hF).fresh fun x hx => by
    simp only [List.mem_cons, List.not_mem_nil, or_false] at hx
    rcases hx with rfl | rfl
    · exact tag_Dg true ps bs os
    · exact tag_I true F
end Go.Proofs.YtmdfjbpggbhgnaaDoor
namespace Go.Proofs.YtmdfjbpggbhgnaaDoor
open Go.RowKit
def insEq (x y : Ins) : Bool := x.op == y.op && (x.dst == y.dst && (x.a == y.a && (x.b == y.b && (x.sa == y.sa && (x.sb == y.sb && x.imm == y.imm)))))
def prtEq (x y : Prt) : Bool := x.lo == y.lo && (x.hi == y.hi && x.fr == y.fr)
theorem eqIns_run (x y : Ins) (w : World) : (Op.equalIn 10000 67 (.agg #[.int .i64 x.op, .int .i64 x.dst, .int .i64 x.a, .int .i64 x.b, .int .i64 x.sa, .int .i64 x.sb, .int .i64 x.imm]) (.agg #[.int .i64 y.op, .int .i64 y.dst, .int .i64 y.a, .int .i64 y.b, .int .i64 y.sa, .int .i64 y.sb, .int .i64 y.imm])).run Tryd.prog w = .ok (insEq x y) w := by
  have hS : Tryd.prog.underlying 67 = some (.struct (Tryd.prog.fieldsOf 67)) := by kernel_rfl
  have hp : Tryd.prog.stoodInHeld 67 = false := by kernel_rfl
  have hi : Tryd.prog.underlying 3 = some (.int .i64) := by kernel_rfl
  rw [show (10000 : Nat) = 9999 + 1 from rfl, run_equalIn_agg w 9999 67 _ _ hS hp]
  simp only [Program.fieldsOf, Tryd.underlying67]
  unfold insEq
  go_simp
  cases h1 : (x.op == y.op) <;> cases h2 : (x.dst == y.dst) <;> cases h3 : (x.a == y.a) <;> cases h4 : (x.b == y.b) <;> cases h5 : (x.sa == y.sa) <;> cases h6 : (x.sb == y.sb) <;> cases h7 : (x.imm == y.imm) <;> simp_all
section
variable {P : Program} {G : World → Prop} {o : Oper} {F : Frm} {H : List Ob}
theorem agg_of {m : Mm} : ∀ {vs : List Value} {v : Value}, XRel m (.agg (vs.map fun u => .d (.val u))) v → v = .agg vs.toArray := fun {vs v} h => by
  obtain ⟨xs, rfl, hl⟩ := h
  have : xs = vs := by
    refine List.ext_getElem? fun j => ?_
    have hlen := hl.1
    rw [List.length_map] at hlen
    cases hj : vs[j]? with
    | none =>
      rw [List.getElem?_eq_none_iff] at hj ⊢
      omega
    | some u =>
      have hlt := (List.getElem?_eq_some_iff.1 hj).1
      obtain ⟨x, hx⟩ : ∃ x, xs[j]? = some x := ⟨_, List.getElem?_eq_getElem (by omega)⟩
      have h1 := hl.2 j (.d (.val u)) x (by simp [hj]) hx
      have h2 : DRel m.w m.S (.val u) x := h1
      cases h2
      exact hx
  rw [this]
theorem ok_eqlS {t t' : TypeId} {x y : Operand} {b r : Bool} {op : BinOp} {xs ys : List Value} (ho : o.op = .binOp op t x y t') (hg : P.eqGuardType P.depth t = false) (hop : (op = .eql ∧ b = r) ∨ (op = .neq ∧ b = !r)) (hx : F.ev x = .agg (xs.map fun u => .d (.val u))) (hy : F.ev y = .agg (ys.map fun u => .d (.val u)))
    (he : ∀ w, (Op.equalIn 10000 t (.agg xs.toArray) (.agg ys.toArray)).run P w = .ok r w) : OpOk P G o F H (.one (.d (.val (.bool b)))) [] := ok_same fun b0 m a _ _ hor => by
  have ex := agg_of (m := m) (v := a.eval x) (by rw [← hx]; exact ev_rel hor (by rw [ho]; simp [Op.operands]))
  have ey := agg_of (m := m) (v := a.eval y) (by rw [← hy]; exact ev_rel hor (by rw [ho]; simp [Op.operands]))
  refine ⟨.bool b, ?_, DRel.val rfl⟩
  unfold execOp
  simp only [ho, ex, ey]
  rw [Sem.run_bind]
  have h : ((do eqGuard op t x y (.agg xs.toArray) (.agg ys.toArray); binOp op t (.agg xs.toArray) (.agg ys.toArray)) : Sem Value).run P m.w = .ok (.bool b) m.w := by
    rw [Sem.run_bind, run_eqGuard_agg m.w op t x y _ _ hg, Result.andThen_ok]
    rcases hop with ⟨rfl, rfl⟩ | ⟨rfl, rfl⟩
    · rw [run_eql_struct, he, Result.andThen_ok]
    · rw [run_neq_struct, he, Result.andThen_ok]
  rw [h]
  rfl
end
section
variable {G : World → Prop} {o : Oper} {F : Frm} {H : List Ob} {t' : TypeId} {x y : Operand} {b : Bool}
theorem ok_eqlI {i j : Ins} (ho : o.op = .binOp .eql 67 x y t') (hx : F.ev x = .agg (cD (dIns i))) (hy : F.ev y = .agg (cD (dIns j))) (hb : insEq i j = b) : OpOk Tryd.prog G o F H (.one (.d (.val (.bool b)))) [] :=
  ok_eqlS (xs := [.int .i64 i.op, .int .i64 i.dst, .int .i64 i.a, .int .i64 i.b, .int .i64 i.sa, .int .i64 i.sb, .int .i64 i.imm]) (ys := [.int .i64 j.op, .int .i64 j.dst, .int .i64 j.a, .int .i64 j.b, .int .i64 j.sa, .int .i64 j.sb, .int .i64 j.imm]) ho (by kernel_rfl) (.inl ⟨rfl, hb.symm⟩) hx hy (eqIns_run i j)
end
theorem teq_row {t t' : Bool} {s n : Nat} {cs ds : List D} (h : LRel TEq cs ds) : TEq (.row t s n cs) (.row t' s n ds) := .row h.1 h.2
theorem teq_all (l : List D) : LRel TEq l l := ⟨rfl, fun j a b h1 h2 => by rw [h1] at h2; cases h2; exact TEq.refl a⟩
theorem teq_I (t t' : Bool) (xs : List Int) : TEq (rowI t xs) (rowI t' xs) := teq_row (teq_all _)
theorem teq_P (t t' : Bool) (ps : List Prt) : TEq (rowP t ps) (rowP t' ps) := teq_row (teq_all _)
theorem lrel_app {α β : Type} {R : α → β → Prop} : ∀ {a : List α} {b : List β} {c : List α} {d : List β}, LRel R a b → LRel R c d → LRel R (a ++ c) (b ++ d)
  | [], b, c, d, h, k => by rw [h.unnil]; exact k
  | x :: a, b, c, d, h, k => by
    obtain ⟨y, b', rfl, h1, h2⟩ := h.uncons
    exact .cons_ h1 (lrel_app h2 k)
theorem teq_flat {α : Type} {f g : α → List D} (h : ∀ x, LRel TEq (f x) (g x)) : ∀ l : List α, LRel TEq (flatD f l) (flatD g l)
  | [] => .nil_
  | x :: l => by
    show LRel TEq (flatD f ([x] ++ l)) (flatD g ([x] ++ l))
    rw [flatD_app, flatD_app]
    refine lrel_app ?_ (teq_flat h l)
    show LRel TEq (([x].map f).flatten) (([x].map g).flatten)
    simpa using h x
theorem teq_B (t t' : Bool) (bs : List Bk) : TEq (rowB t bs) (rowB t' bs) := teq_row (teq_flat (fun b => .cons_ (.val _) (.cons_ (teq_I t t' _) (.cons_ (.val _) (.cons_ (.val _) (.cons_ (.val _) (.cons_ (.val _) .nil_)))))) bs)
theorem aeq_Dg (t t' : Bool) (ps : List Prt) (bs : List Bk) (os : List Int) : AEq (aDg t ps bs os) (aDg t' ps bs os) := .agg (.cons_ (teq_P t t' ps) (.cons_ (teq_B t t' bs) (.cons_ (teq_I t t' os) .nil_)))
theorem compile_t (t u : Bool) {ps : List Prt} {bs : List Bk} {os F : List Int} (hl : DgLen ps bs os) (hF : F.length ≤ 1000000) : CV Tryd.prog TabAt 8 [aDg t ps bs os, .one (rowI u F)] [aProg false (okL' (cpE' ps bs os F) ps) (okL' (cpE' ps bs os F) (initM bs F)) (okL' (cpE' ps bs os F) (codeM ps bs F)) (okL' (cpE' ps bs os F) os), aE (cpE' ps bs os F)] :=
  (compile_cvf ps bs os F hl hF).tags (.cons_ (aeq_Dg t true ps bs os) (.cons_ (.one (teq_I u true F)) .nil_))
theorem flE : cpE' flP flB flO [4, 4, 4, 4] = 0 := by decide +kernel
theorem flI : initM flB [4, 4, 4, 4] = [0, 0, 0, 0, 0] := by decide +kernel
theorem flC : (codeM flP flB [4, 4, 4, 4]).length = 5 ∧ (codeM flP flB [4, 4, 4, 4])[4]? = some ⟨2, 3, 4, 0, 0, 0, 0⟩ := ⟨by decide +kernel, by kernel_rfl⟩
end Go.Proofs.YtmdfjbpggbhgnaaDoor
namespace Go.Proofs.YtmdfjbpggbhgnaaDoor
open Go.RowKit
theorem awake15_cv : CV Tryd.prog TabAt 4 [] [aB true] := by
  refine cvz Tryd.func4 Tryd.ntmps4 ?_
  have CC := compile_t false true (ps := flP) (bs := flB) (os := flO) (F := [4, 4, 4, 4]) ⟨by decide, by decide, by decide, by decide⟩ (by decide)
  rw [flE] at CC
  have RC := raw_cv (-3) (-1) 0
  obtain ⟨hc5, hc4⟩ := flC
  rw [show okL' 0 flP = flP from rfl, show okL' 0 (initM flB [4, 4, 4, 4]) = [0, 0, 0, 0, 0] from flI, show okL' 0 (codeM flP flB [4, 4, 4, 4]) = codeM flP flB [4, 4, 4, 4] from rfl, show okL' 0 flO = flO from rfl] at CC
  repeat' (with_reducible first | apply qa | apply qb | apply qc | apply qd | apply qe | apply qf | apply qg | apply qh | apply qi | apply qj | apply qk | apply ql rfl | apply qm rfl | apply qn rfl | apply Je | (refine Tx 0 ?_; refine Ja ?_) | (refine Tx 1 ?_; refine Jo (xCl Tryd.func16 (filter_cv)) ?_; refine Jn (by exact ok_buildN rfl rfl ts_s_int tz_int (by decide) (by decide) (by decide) rfl rfl rfl) ?_; refine Jo (xCl Tryd.func8 (CC)) ?_; refine Jo xMt ?_; refine Jo (by exact ok_exA rfl rfl rfl) ?_; refine Jo xEx ?_; refine Jn (xAl tz_Program) ?_; refine Js (xSk tk_Program) ?_; refine Ja ?_) | (refine Tx 2 ?_; refine Jo (by exact ok_build rfl tb_Scalar rfl rfl) ?_; refine Jo (xCl Tryd.func17 (RC.cv)) ?_; refine Jo xMt ?_; refine Jo xEx ?_; refine Jo xEx ?_; refine Ja ?_; refine Ja ?_) | (refine Tx 3 ?_; refine Jm ?_; refine Jo (by first | exact ok_eqlE rfl ti_error rfl (beq_t (by first | rfl | omega)) | exact ok_eqlE rfl ti_error rfl (beq_f (by first | assumption | omega)) | exact ok_eqlE rfl ti_error rfl rfl) ?_; refine Jm ?_; (first | iterate 2 refine Jd ?_ | (refine Jy xM1 ?_; refine Jy (by first | exact ok_eqlE rfl ti_error rfl (beq_t (by first | rfl | omega)) | exact ok_eqlE rfl ti_error rfl (beq_f (by first | assumption | omega)) | exact ok_eqlE rfl ti_error rfl rfl) ?_)); refine Jo xPk ?_; refine Jm ?_; (first | iterate 2 refine Jd ?_ | (refine Jy xM1 ?_; refine Jy (by first | exact xEq | exact ok_eql rfl rfl rfl) ?_)); refine Jo xPk ?_; refine Jm ?_; (first | iterate 4 refine Jd ?_ | (refine Jy (xFa tf_Program1 tk_s_int) ?_; refine Jy (xLd tk_s_int) ?_; refine Jy (xLn ts_s_int) ?_; refine Jy (by first | exact xEq | exact ok_eql rfl rfl rfl) ?_)); refine Jo xPk ?_; refine Jm ?_; (first | iterate 4 refine Jd ?_ | (refine Jy (xFa tf_Program2 tk_s_Instr) ?_; refine Jy (xLd tk_s_Instr) ?_; refine Jy (xLn ts_s_Instr) ?_; refine Jy (by first | exact xEq | exact ok_eql rfl rfl rfl) ?_)); refine Jo xPk ?_; refine Jm ?_; (first | iterate 6 refine Jd ?_ | (refine Jy (xFa tf_Program2 tk_s_Instr) ?_; refine Jy (xLd tk_s_Instr) ?_; refine Jy (xIr ts_s_Instr (ins_at hc4)) ?_; refine Jy (xLa tk_Instr) ?_; refine Jy (by exact ok_build rfl tb_Instr rfl rfl) ?_; refine Jy (by first | exact ok_eqlI (i := ⟨2, 3, 4, 0, 0, 0, 0⟩) (j := ⟨2, 3, 4, 0, 0, 0, 0⟩) rfl rfl rfl rfl | exact xEq | exact ok_eql rfl rfl rfl) ?_)); refine Jo xPk ?_; refine Ja ?_))
  exact ret_q rfl (.cons_ (rv_b rfl rfl) .nil_)
end Go.Proofs.YtmdfjbpggbhgnaaDoor
namespace Go.Proofs.YtmdfjbpggbhgnaaDoor
open Go.RowKit
theorem size_of_ok {ps : List Prt} {bs : List Bk} {os : List Int} (h : dgErr ps bs os = 0) : sizeOk ps bs os := by
  unfold dgErr at h
  by_cases hs : sizeOk ps bs os
  · exact hs
  · rw [if_pos hs] at h
    cases h
def lightB (ps : List Prt) (bs : List Bk) (os : List Int) : Bool := decide (ps.length ≤ 40 ∧ bs.length ≤ 80 ∧ os.length ≤ 40) && bs.all fun b => decide (b.args.length ≤ 10)
theorem light_cvT (t : Bool) (ps : List Prt) (bs : List Bk) (os : List Int) : CV Tryd.prog TabAt 5 [aDg t ps bs os] [aB (lightB ps bs os)] := by
  refine cvz Tryd.func5 Tryd.ntmps5 ?_
  by_cases cp : 40 < ps.length
  case pos =>
    repeat' (with_reducible first | apply qa | apply qb | apply qc | apply qd | apply qe | apply qf | apply qg | apply qh | apply qi | apply qj | apply qk | apply ql rfl | apply qm rfl | apply qn rfl | apply Je | (refine Tx 0 ?_; refine Jn xBo ?_; refine Ja ?_) | (refine Tx 1 ?_; refine Jo (xFa tf_Diagram0 tk_s_Port) ?_; refine Jo (xLd tk_s_Port) ?_; refine Jo (xLn ts_s_Port) ?_; refine Jo xGt ?_; refine Jm ?_; (first | iterate 4 refine Jd ?_ | (refine Jy (xFa tf_Diagram1 tk_s_Block) ?_; refine Jy (xLd tk_s_Block) ?_; refine Jy (xLn ts_s_Block) ?_; refine Jy xGt ?_)); refine Jo xPk ?_; refine Jm ?_; (first | iterate 4 refine Jd ?_ | (refine Jy (xFa tf_Diagram2 tk_s_int) ?_; refine Jy (xLd tk_s_int) ?_; refine Jy (xLn ts_s_int) ?_; refine Jy xGt ?_)); refine Jo xPk ?_) | (refine Tx 2 ?_; refine Ja ?_))
    exact ret_q rfl (.cons_ (rv_b rfl (by unfold lightB; rw [decide_eq_false (by omega)]; rfl)) .nil_)
  by_cases cb : 80 < bs.length
  case pos =>
    repeat' (with_reducible first | apply qa | apply qb | apply qc | apply qd | apply qe | apply qf | apply qg | apply qh | apply qi | apply qj | apply qk | apply ql rfl | apply qm rfl | apply qn rfl | apply Je | (refine Tx 0 ?_; refine Jn xBo ?_; refine Ja ?_) | (refine Tx 1 ?_; refine Jo (xFa tf_Diagram0 tk_s_Port) ?_; refine Jo (xLd tk_s_Port) ?_; refine Jo (xLn ts_s_Port) ?_; refine Jo xGt ?_; refine Jm ?_; (first | iterate 4 refine Jd ?_ | (refine Jy (xFa tf_Diagram1 tk_s_Block) ?_; refine Jy (xLd tk_s_Block) ?_; refine Jy (xLn ts_s_Block) ?_; refine Jy xGt ?_)); refine Jo xPk ?_; refine Jm ?_; (first | iterate 4 refine Jd ?_ | (refine Jy (xFa tf_Diagram2 tk_s_int) ?_; refine Jy (xLd tk_s_int) ?_; refine Jy (xLn ts_s_int) ?_; refine Jy xGt ?_)); refine Jo xPk ?_) | (refine Tx 2 ?_; refine Ja ?_))
    exact ret_q rfl (.cons_ (rv_b rfl (by unfold lightB; rw [decide_eq_false (by omega)]; rfl)) .nil_)
  by_cases co : 40 < os.length
  case pos =>
    repeat' (with_reducible first | apply qa | apply qb | apply qc | apply qd | apply qe | apply qf | apply qg | apply qh | apply qi | apply qj | apply qk | apply ql rfl | apply qm rfl | apply qn rfl | apply Je | (refine Tx 0 ?_; refine Jn xBo ?_; refine Ja ?_) | (refine Tx 1 ?_; refine Jo (xFa tf_Diagram0 tk_s_Port) ?_; refine Jo (xLd tk_s_Port) ?_; refine Jo (xLn ts_s_Port) ?_; refine Jo xGt ?_; refine Jm ?_; (first | iterate 4 refine Jd ?_ | (refine Jy (xFa tf_Diagram1 tk_s_Block) ?_; refine Jy (xLd tk_s_Block) ?_; refine Jy (xLn ts_s_Block) ?_; refine Jy xGt ?_)); refine Jo xPk ?_; refine Jm ?_; (first | iterate 4 refine Jd ?_ | (refine Jy (xFa tf_Diagram2 tk_s_int) ?_; refine Jy (xLd tk_s_int) ?_; refine Jy (xLn ts_s_int) ?_; refine Jy xGt ?_)); refine Jo xPk ?_) | (refine Tx 2 ?_; refine Ja ?_))
    exact ret_q rfl (.cons_ (rv_b rfl (by unfold lightB; rw [decide_eq_false (by omega)]; rfl)) .nil_)
  repeat' (with_reducible first | apply qa | apply qb | apply qc | apply qd | apply qe | apply qf | apply qg | apply qh | apply qi | apply qj | apply qk | apply ql rfl | apply qm rfl | apply qn rfl | apply Je | (refine Tx 0 ?_; refine Jn xBo ?_; refine Ja ?_) | (refine Tx 1 ?_; refine Jo (xFa tf_Diagram0 tk_s_Port) ?_; refine Jo (xLd tk_s_Port) ?_; refine Jo (xLn ts_s_Port) ?_; refine Jo xGt ?_; refine Jm ?_; (first | iterate 4 refine Jd ?_ | (refine Jy (xFa tf_Diagram1 tk_s_Block) ?_; refine Jy (xLd tk_s_Block) ?_; refine Jy (xLn ts_s_Block) ?_; refine Jy xGt ?_)); refine Jo xPk ?_; refine Jm ?_; (first | iterate 4 refine Jd ?_ | (refine Jy (xFa tf_Diagram2 tk_s_int) ?_; refine Jy (xLd tk_s_int) ?_; refine Jy (xLn ts_s_int) ?_; refine Jy xGt ?_)); refine Jo xPk ?_) | (refine Tx 3 ?_; refine Jo (xFa tf_Diagram1 tk_s_Block) ?_; refine Jo (xLd tk_s_Block) ?_; refine Jo (xLn ts_s_Block) ?_; refine Jm ?_))
  refine cw_wk (F' := ofL [(1, vr 0), (22, vd (rowB t bs)), (23, vi bs.length), (24, vi ((0 : Nat)))]) (H' := [.box 26 [.d (rowP t ps), .d (rowB t bs), .d (rowI t os)]]) (wk_go _ 1 ?_ ?_ ?_) ?_
  · rfl
  · exact mB rfl rfl
  · exact ⟨bel_lit rfl, trivial⟩
  refine cw_loopW (fun n Fr H => ∃ k : Nat, k ≤ bs.length ∧ n = bs.length - k ∧ (bs.take k).all (fun b : Bk => decide (b.args.length ≤ 10)) = true ∧ Fr = ofL [(1, vr 0), (22, vd (rowB t bs)), (23, vi bs.length), (24, vi ((k : Nat)))] ∧ H = [.box 26 [.d (rowP t ps), .d (rowB t bs), .d (rowI t os)]]) (n0 := bs.length) ⟨0, Nat.zero_le _, rfl, rfl, rfl, rfl⟩ ?_
  rintro n Fr H ⟨k, hk, rfl, hall, rfl, rfl⟩
  by_cases hlt : k < bs.length
  case pos =>
    obtain ⟨y, hy⟩ : ∃ y, bs[k]? = some y := ⟨_, List.getElem?_eq_getElem hlt⟩
    by_cases hy10 : y.args.length ≤ 10
    case pos =>
      repeat' (with_reducible first | apply qa | apply qb | apply qc | apply qd | apply qe | apply qf | apply qg | apply qh | apply qi | apply qj | apply qk | apply ql rfl | apply qm rfl | apply qn rfl | apply Je | (refine Tx 4 ?_; refine Jo xLt ?_) | (refine Tx 5 ?_; refine Jo (xIr ts_s_Block (bk_at hy)) ?_; refine Jo (xLa tk_Block) ?_; refine Jn (xAl tz_Block) ?_; refine Js (xSk tk_Block) ?_) | (refine Tx 6 ?_; refine Jo (xFa tf_Block1 tk_s_int) ?_; refine Jo (xLd tk_s_int) ?_; refine Jo (xLn ts_s_int) ?_; refine Jo xGt ?_) | (refine Tx 8 ?_; refine Jo xAd ?_; refine Jm ?_))
      refine ⟨_, _, wk_go _ 1 ?_ ?_ ?_, _, ?_, k + 1, by omega, rfl, all_take hy hall (decide_eq_true hy10), rfl, rfl⟩
      · rfl
      · exact mB rfl rfl
      · exact ⟨bel_lit rfl, trivial⟩
      · omega
    case neg =>
      repeat' (with_reducible first | apply qa | apply qb | apply qc | apply qd | apply qe | apply qf | apply qg | apply qh | apply qi | apply qj | apply qk | apply ql rfl | apply qm rfl | apply qn rfl | apply Je | (refine Tx 4 ?_; refine Jo xLt ?_) | (refine Tx 5 ?_; refine Jo (xIr ts_s_Block (bk_at hy)) ?_; refine Jo (xLa tk_Block) ?_; refine Jn (xAl tz_Block) ?_; refine Js (xSk tk_Block) ?_) | (refine Tx 6 ?_; refine Jo (xFa tf_Block1 tk_s_int) ?_; refine Jo (xLd tk_s_int) ?_; refine Jo (xLn ts_s_int) ?_; refine Jo xGt ?_) | (refine Tx 7 ?_; refine Ja ?_))
      exact ret_q rfl (.cons_ (rv_b rfl (by unfold lightB; rw [show bs.all (fun b : Bk => decide (b.args.length ≤ 10)) = false from List.all_eq_false.2 ⟨y, List.mem_of_getElem? hy, by rw [decide_eq_false hy10]; exact Bool.false_ne_true⟩, Bool.and_false])) .nil_)
  obtain rfl : k = bs.length := by omega
  rw [List.take_length] at hall
  repeat' (with_reducible first | apply qa | apply qb | apply qc | apply qd | apply qe | apply qf | apply qg | apply qh | apply qi | apply qj | apply qk | apply ql rfl | apply qm rfl | apply qn rfl | apply Je | (refine Tx 4 ?_; refine Jo xLt ?_) | (refine Tx 9 ?_; refine Ja ?_))
  exact ret_q rfl (.cons_ (rv_b rfl (by unfold lightB; rw [hall, decide_eq_true (by omega)]; rfl)) .nil_)
theorem light_len {ps : List Prt} {bs : List Bk} {os : List Int} (h : lightB ps bs os = true) : DgLen ps bs os ∧ bs.length ≤ 80 := by
  unfold lightB at h
  rw [Bool.and_eq_true] at h
  have h1 := of_decide_eq_true h.1
  exact ⟨⟨by omega, by omega, by omega, fun b hb => by have := of_decide_eq_true (List.all_eq_true.1 h.2 b hb); omega⟩, h1.2.1⟩
theorem bclip_cv (x lo hi : Int) : CVF Tryd.prog TabAt 25 [aI x, aI lo, aI hi] [aI (clipI x lo hi)] := fun w S vs hg hlt ha => by
  obtain ⟨v, vs', rfl, q1, ha⟩ := ha.uncons
  obtain ⟨v2, vs', rfl, q2, ha⟩ := ha.uncons
  obtain ⟨u, hu, q3⟩ := one_arg ha
  subst hu
  cases q1
  cases q2
  cases q3
  refine (bclip_any x lo hi w).mono fun r w' ⟨he, hw⟩ => ?_
  subst hw
  exact ⟨_, he, DRel.val rfl, Below.refl _ _⟩
def prtD : Prt := ⟨0, 0, 0⟩
def inpV (ps : List Prt) (inn : List Int) (n : Nat) : List Int := (List.range n).map fun i => clipI (inn[i]?.getD 0) (ps[i]?.getD prtD).lo (ps[i]?.getD prtD).hi
theorem inpV_len (ps : List Prt) (inn : List Int) (k : Nat) : (inpV ps inn k).length ≤ k := by simp [inpV]
theorem inpV_step {ps : List Prt} {inn : List Int} {k : Nat} {p : Prt} {z : Int} (hp : ps[k]? = some p) (hz : inn[k]?.getD 0 = z) : inpV ps inn (k + 1) = inpV ps inn k ++ [clipI z p.lo p.hi] := by
  unfold inpV
  rw [List.range_succ, List.map_append]
  simp [hp, hz]
theorem inp_len (ps : List Prt) (inn : List Int) : (inpV ps inn ps.length).length = ps.length := by simp [inpV]
end Go.Proofs.YtmdfjbpggbhgnaaDoor
