/- What the proofs of this claim share, part 15. No conditions. -/
import Derived.Test.YtmdfjbpggbhgnaaGreatDoorXt9
import Derived.Test.YtmdfjbpggbhgnaaGreatDoorXt12
import Derived.Test.YtmdfjbpggbhgnaaGreatDoorXt10
import Derived.Test.YtmdfjbpggbhgnaaGreatDoorXt14
import Derived.Laws.StructEq
set_option maxRecDepth 100000
set_option maxHeartbeats 4000000
set_option linter.all false
open Go.Proofs.Tryz
namespace Go.Proofs.YtmdfjbpggbhgnaaGreatDoor
open Go.RowKit
variable {i id j n s t:Nat} {z:Bool} {y:Operand} {P:Program} {H:List Ob} {f:FuncId} {e:Int} {p p':Prop} {ps:List Prt} {ins os:List Int} {bs:List Bk} {st:List (Int × Nat)}
def cBl (l:List Bool):List C:=l.map fun b=>.d (.val (.bool b))
theorem AgL (n:Nat):Ex (madeCells (Value.bool false).cells (n*1)).toList=cBl (List.replicate n false):=by
 rw [cq,show (Value.bool false).cells=#[Value.bool false] from rfl,toList_madeCells_one]
 simp [Ex,cBl]
theorem AcW {l:List Bool}:∀ c∈cBl l,C.bel n c:=fun c hc=>by obtain ⟨z,_,rfl⟩:=List.mem_map.1 hc;trivial
theorem Aph {l:List Bool} {k:Nat} (h:l[k]?=some z):((cBl l).drop (k*1))[0]?=some (.d (.val (.bool z))):=by
 simp [cBl,h]
section
variable {P:Program} {G:World→Prop} {o:Oper} {F:Frm} {H:List Ob}
theorem AcX {t e:TypeId} {x:Operand} {by_:Nat} {k k':IntKind} (ho:o.op=.makeSlice t x y) (hx:F.ev x=.one (.d (.val (.int k (n:Int))))) (hy:F.ev y=.one (.d (.val (.int k' (n:Int))))) (ht:TyS P t e 1) (hz:TyZ P e (.bool false) 1 by_) (hn:n≤1000000) (hby:by_≤1000) :
  Bb P G o F H (.one (.own H.length n)) [.row e 1 n (cBl (List.replicate n false))]:=by
 have:=BP (P:=P) (G:=G) (H:=H) ho hx hy ht hz hn hby
 rwa [AgL] at this
theorem AcY {t ty:TypeId} {x:Operand} {k:Nat} {xs:List Bool} (ho:o.op=.load t x) (hx:F.ev x=.one (.ref id (i*1) (some n))) (hH:H[id]?=some (.row ty s n (cBl xs))) (hz:xs[i]?=some z) (hk:TyK P t false k):Bb P G o F H (.one (.d (.val (.bool z)))) [] :=
 Oc ho hx (.row hH) (Aph hz) hk
theorem AlD {t ty:TypeId} {x:Operand} {xs:List Bool} {b:Bool} (ho:o.op=.store t x y) (hx:F.ev x=.one (.ref id (i*1) (some n))) (hH:H[id]?=some (.row ty s n (cBl xs))) (hy:F.ev y=.one (.d (.val (.bool z)))) (hty:TyK P t b 1) (hi:i<xs.length) {ys:List Bool} (hys:xs.set i z=ys):TOk P G o F H .any (H.set id (.row ty s n (cBl ys))):=by
 have:=GJ (P:=P) (G:=G) ho hx hH rfl hy hty (by simp [Ob.cs,cBl,hi])
 have e:(cBl xs).set (i*1) (.d (.val (.bool z)))=cBl ys:=by rw [←hys,cq];simp [cBl,List.map_set]
 simp only [Ob.cs,Ob.setC,e] at this
 exact this
end
theorem Ya {F:Frm} {ty:Nat} {xs:List Int} (hF:F t=.one (.own id n)) (hH:H[id]?=some (.row ty 1 n (cI xs))) (hn:n=xs.length):RV P F H (.tmp t) (.one (Ba false xs)):=.tmp (by
 rw [hF]
 refine .one (Ej rfl hH (by rw [hn];rfl) (AV.map_l.2 ⟨by rw [af],fun j a b ha hb=>?_⟩))
 rw [ag,ha] at hb
 cases hb
 exact .d fun _=>.val _)
theorem CV.cv {G:World→Prop} {args res:List A} (h:CV P G f args res):CV P G f args res:=h
def Api (S:Du) (w w':World):Du:=fun t b=>S t b∨(t=false∧w.heap.size≤b∧b<w'.heap.size)
def CVB (P:Program) (G:World→Prop) (f:FuncId) (args:List A) (d:D):Prop :=
 ∀ (w:World) (S:Du) (vs:List Value),G w→(∀ t b,S t b→b<w.heap.size)→AV (Em w S) args vs →
  Calls P f vs.toArray w fun e w'=>∃ v,e=.returned v∧Bh w' (Api S w w') d v∧Below w.heap.size w w'
theorem Aiu {G:World→Prop} (hG:∀ w w',Below w.heap.size w w'→G w→G w') {f:FuncId} {fn:Func} {c:Code} {N:Nat} {args:List A} {d:D} (hf:P.funcs[f]?=some fn) (hN:fn.ntmps=N) (ha:args.length≤N) (hb:fn.body=some c)
  (h:CW P G N c (F0 args) [] (fun e F _=>(e=.ret∨e=.normal)∧∃ t d',fn.results=#[.tmp t]∧F t=.one (.d d')∧∀ (w:World) (S:Du) (v:Value),Bh w S d' v→Bh w S d v)):CVB P G f args d:=by
 intro w S vs hg hlt hargs
 refine calls_of_wp hf hb ?_
 refine wp_mono (h w.heap.size w ⟨S,[]⟩ _ ⟨w,S,[],fun _=>none⟩ (fun w' hb'=>hG w w' hb' hg) rfl (LI hN ha hlt hargs)) fun e a' w' ⟨F',m',hw,hs,hret⟩=>?_
 subst hw
 obtain ⟨he,t,d',hr,hF,hdd⟩:=hret
 have hx:=hs.frame t
 rw [hF] at hx
 have hx:=hdd _ _ _ hx
 have hd:Bh m'.w (Api S w m'.w) d (a'.tmps.getD t undef):=Bh.mono (fun t b hb'=>by
  cases t with
  | true=>exact .inl (by rw [hs.T] at hb';exact hb')
  | false=>exact (hs.S b hb').elim .inl fun h=>.inr ⟨rfl,h,hs.cx.lt _ _ hb'⟩) (fun _ _ _=>rfl) hx
 have hrun:(results fn a'.tmps).run P m'.w=.ok (a'.tmps.getD t undef) m'.w:=by
  have h1:(fn.results.mapM (TA a'.tmps)).run P m'.w=.ok #[a'.tmps.getD t undef] m'.w:=by
   rw [hr,←jt (xs:=#[ResultVar.tmp t]),ju,map_eq_pure_bind,aj]
   simp [js,TA,aj]
  have hb':∀ (s:Sem (Array Value)) (k:Array Value→Sem Value),(s.bind k).run P m'.w=(s.run P m'.w).andThen fun a w=>(k a).run P w:=fun s k=>aj (x:=s) (f:=k) ..
  rw [Hr,hb',h1]
  rfl
 rcases he with rfl|rfl
 ·exact ⟨hs.defers,_,hrun,_,rfl,hd,hs.below⟩
 ·exact ⟨hs.defers,_,hrun,_,rfl,hd,hs.below⟩
theorem SE {t:Bool} (w:World) (S:Du) (v:Value) (h:Bh w S (.val (.slice none 0 0)) v):Bh w S (.row t s 0 []) v:=by
 cases h
 exact .row [] (aa _) (fun _=>rfl) (by simp) rfl (fun h=>absurd rfl h) (fun j u x h=>by simp at h)
theorem Yb {t:Bool} {ty:Nat} {c:C} {y:D} {xs:List Int} (hc:c=.own id n) (hH:H[id]?=some (.row ty 1 n (cI xs))) (hn:n=xs.length) (hy:y=Ba t xs):Gj t H c y :=
 Ej hc hH (by rw [hy,hn];rfl) (AV.map_l.2 ⟨by rw [af],fun j a b ha hb=>by
  rw [ag,ha] at hb
  cases hb
  exact .d fun _=>.val _⟩)
theorem A.rel_x {m:Mm} {y:A} {v:Value} (h:EH m y.x v):Em m.w m.S y v:=by
 cases y with
 | one d=>exact h
 | agg ds =>
  obtain ⟨xs,h1,h2⟩:=h
  exact ⟨xs,h1,(AV.map_l (f:=C.d)).1 h2⟩
section
variable {P:Program} {G:World→Prop} {o:Oper} {F:Frm} {H:List Ob}
theorem AgM {fn:Func} {c:Code} {xs:Array Operand} {ts:Array TypeId} (ho:o.op=.call { callee:=.value (.func f),args:=xs,argTypes:=ts })
  (hf : P.funcs[f]? = some fn) (hn : (fn.name == "runtime.NumGoroutine") = false) (hb : fn.body = some c) {args : List A} {d : D} (h : CVB P G f args d) (ha : AV (fun x (y : A) => F.ev x = y.x) xs.toList args) :
  Bb P G o F H (.one (.d d)) []:=by
 intro b0 m a hp hx hg hb0 _ hor K Q hK
 have hxs:∀ x∈xs.toList,EH m (F.ev x) (a.eval x):=fun x hm=>Bg hor (by
  rw [ho]
  simp only [Op.operands,Call.operands,gr,eh]
  exact .inr hm)
 have hcalls:=h m.w m.S (xs.toList.map a.eval) hg hx.lt ⟨by rw [af];exact ha.1.symm,fun j y v hy hv=>by
   simp only [ag,dq] at hv
   obtain ⟨x,hxj,rfl⟩:=hv
   have h1:=hxs x (gM hxj)
   rw [ha.2 j x y hxj hy] at h1
   exact A.rel_x h1⟩
 unfold Oper.wp execOp
 simp only [ho,resolve,Act.eval,Deferred.ofValue,aj,bg,av,invoke]
 rw [Dz hf hn hb]
 rw [gd]
 have he:((#[]:Array Value)++xs.map a.eval++#[])=(xs.toList.map a.eval).toArray:=fh (by simp)
 simp only [he]
 refine hcalls.mono fun e w' ⟨v,hev,hres,hbel⟩=>?_
 subst hev
 refine hK v w' [] ⟨rfl,hbel,fun k e hk=>by simp at hk,List.Pairwise.nil⟩ ?_
 exact Bh.mono (fun t b hb=>by
  rcases hb with hb|⟨rfl,h1,h2⟩
  ·exact .inl hb
  ·exact .inr ⟨rfl,h1,h2,fun e he=>by simp at he⟩) (fun _ _ _=>rfl) hres
end
theorem xCb {G : World → Prop} {o : Oper} {F : Frm} {fn : Func} {cd : Code} {xs : Array Operand} {ts : Array TypeId} {args : List A} {d : D} (h1 : P.funcs[f]? = some fn) (h : CVB P G f args d) (h2 : (fn.name == "runtime.NumGoroutine") = false := by kernel_rfl) (h3 : fn.body = some cd := by with_unfolding_all exact rfl) (ho : o.op = .call { callee := .value (.func f), args := xs, argTypes := ts } := by with_unfolding_all exact rfl) (ha : AV (fun x (y : A) => F.ev x = y.x) xs.toList args := by with_unfolding_all first | ((repeat' first | exact CF rfl rfl | refine BG rfl rfl rfl ?_) <;> fail) | fail) : Bb P G o F H (.one (.d d)) [] := AgM ho h1 h2 h3 h ha
theorem ZK (a b c d:Int) (w:World):(Op.equalIn 10000 61 (.agg #[.int .i64 a,.int .i64 b]) (.agg #[.int .i64 c,.int .i64 d])).run prog w=.ok (a == c && b == d) w:=by
 have hS:prog.underlying 61=some (.struct (prog.fieldsOf 61)):=by kernel_rfl
 have hp:prog.stoodInHeld 61=false:=by kernel_rfl
 have hi:prog.underlying 3=some (.int .i64):=by kernel_rfl
 rw [show (10000:Nat)=9999+1 from rfl,run_equalIn_agg w 9999 61 _ _ hS hp]
 simp only [Program.fieldsOf,underlying61]
 go_simp
 cases h1:(a == c) <;> cases h2:(b == d) <;> simp_all
section
variable {P:Program} {G:World→Prop} {o:Oper} {F:Frm} {H:List Ob}
theorem AcZ {m:Mm}:∀ {vs:List Value} {v:Value},EH m (.agg (vs.map fun u=>.d (.val u))) v→v=.agg vs.toArray:=fun {vs v} h=>by
 obtain ⟨xs,rfl,hl⟩:=h
 have:xs=vs:=by
  have e:AV (fun (u:Value) x=>x=u) vs xs:=AV.map_l.1 (hl.imp fun c x h=>h) |>.imp fun u x h=>by
   have h2:Bh m.w m.S (.val u) x:=h
   cases h2
   rfl
  refine fj fun j=>?_
  rcases hv:vs[j]? with _|u
  ·rw [ji] at hv ⊢
   have:=e.1
   omega
  ·obtain ⟨x,hx,rfl⟩:=e.at_ hv
   exact hx
 rw [this]
theorem Wm {t':TypeId} {x:Operand} {a b c d:Int} {r:Bool} (ho:o.op=.binOp .neq 61 x y t') (hx:F.ev x=.agg [.d (.val (.int .i64 a)),.d (.val (.int .i64 b))]) (hy:F.ev y=.agg [.d (.val (.int .i64 c)),.d (.val (.int .i64 d))]) (hr:(!(a == c && b == d))=r):Bb prog G o F H (.one (.d (.val (.bool r)))) []:=Cc fun b0 m ac _ _ hor=>by
 have ex:=AcZ (m:=m) (vs:=[.int .i64 a,.int .i64 b]) (v:=ac.eval x) (by rw [show ([.int .i64 a,.int .i64 b]:List Value).map (fun u=>C.d (.val u))=[.d (.val (.int .i64 a)),.d (.val (.int .i64 b))] from rfl,←hx];exact Bg hor (by rw [ho];simp [Op.operands]))
 have ey:=AcZ (m:=m) (vs:=[.int .i64 c,.int .i64 d]) (v:=ac.eval y) (by rw [show ([.int .i64 c,.int .i64 d]:List Value).map (fun u=>C.d (.val u))=[.d (.val (.int .i64 c)),.d (.val (.int .i64 d))] from rfl,←hy];exact Bg hor (by rw [ho];simp [Op.operands]))
 refine ⟨.bool r,?_,Bh.val rfl⟩
 unfold execOp
 simp only [ho,ex,ey]
 rw [aj]
 have h:((do eqGuard .neq 61 x y (.agg #[.int .i64 a,.int .i64 b]) (.agg #[.int .i64 c,.int .i64 d]);binOp .neq 61 (.agg #[.int .i64 a,.int .i64 b]) (.agg #[.int .i64 c,.int .i64 d])):Sem Value).run prog m.w=.ok (.bool r) m.w:=by
  rw [aj,run_eqGuard_agg m.w .neq 61 x y _ _ (by kernel_rfl),av,run_neq_struct,ZK,av,hr]
 rw [h]
 rfl
end
theorem DQ {a b:Int} (h:¬ a=b):(a == b)=false:=beq_eq_false_iff_ne.2 h
theorem Asb {n:Int} (h:¬ (n=0∧e=0)):(!(n == 0 && e == 0))=true:=by
 by_cases h1:n=0
 ·rw [DQ (fun h2=>h ⟨h1,h2⟩),Bool.and_false];rfl
 ·rw [DQ h1];rfl
theorem Aiv {n:Int} (h:Df n e):Nf (Ac n 0 e).1 (Ac n 0 e).2∧(Ad (Ac n 0 e).1.natAbs).length≤40000:=by
 unfold Df at h
 have sm:=Sm.shift (n:=32) (x:=n) (k:=e) (by omega) (by omega) (by omega)
 exact ⟨sm.ok,lT (sm.lenN 10 (by decide)) (by decide)⟩
theorem Apj (k:p') (h:Hd9 p'→p:=by with_reducible first|(intro Z9;refine qq ?_;exact Z9.o)|(intro Z9;refine Tx 0 ?_;refine gO xA ?_;exact Z9.o)|(intro Z9;refine Tx 1 ?_;refine gO xM ?_;exact Z9.o)|(intro Z9;refine Tx 2 ?_;refine gO xEq <| gO xA ?_;exact Z9.o)|(intro Z9;refine Tx 3 ?_;refine gO xA ?_;exact Z9.o)|(intro Z9;refine Tx 4 ?_;refine gO xEq <| gO xA ?_;exact Z9.o)|(intro Z9;refine Tx 5 ?_;refine gO xEq <| gO xA ?_;exact Z9.o)|(intro Z9;refine Tx 6 ?_;refine gO xEq <| gO xA ?_;exact Z9.o)|(intro Z9;refine Tx 7 ?_;refine gO xEq <| gO xA ?_;exact Z9.o)|(intro Z9;refine Tx 8 ?_;refine gO xEq <| gO xA ?_;exact Z9.o)|(intro Z9;refine Tx 9 ?_;refine gO xEq <| gO xA ?_;exact Z9.o)|(intro Z9;refine Tx 10 ?_;refine gO xA ?_;exact Z9.o)|(intro Z9;refine Tx 11 ?_;refine gO xEq <| gO xA ?_;exact Z9.o)|(intro Z9;refine Tx 12 ?_;refine gO xEq <| gO xA ?_;exact Z9.o)|(intro Z9;refine Tx 13 ?_;refine gO xEq <| gO xA ?_;exact Z9.o)|(intro Z9;refine Tx 14 ?_;refine gO xEq <| gO xA ?_;exact Z9.o)|(intro Z9;refine Tx 15 ?_;refine gO xEq <| gO xA ?_;exact Z9.o)|(intro Z9;refine Tx 16 ?_;refine gO xA ?_;exact Z9.o)|(intro Z9;refine Tx 17 ?_;refine gO xA ?_;exact Z9.o)|fail):p:=h ⟨k⟩
theorem Ada (k:Int):CV prog An 201 [aI k] [aI (AO k)]:=by
 refine cvz func201 ntmps201 ?_
 have h:k=1∨k=0∨k=2∨k=5∨k=10∨k=6∨k=11∨k=3∨k=4∨k=7∨k=8∨k=9∨(k≠1∧k≠0∧k≠2∧k≠5∧k≠10∧k≠6∧k≠11∧k≠3∧k≠4∧k≠7∧k≠8∧k≠9):=by omega
 rcases h with rfl|rfl|rfl|rfl|rfl|rfl|rfl|rfl|rfl|rfl|rfl|rfl|h
 rotate_left 12
 ·have e:AO k = -1:=by unfold AO;rw [if_neg (by omega),if_neg (by omega),if_neg (by omega)]
  rw [e]
  repeat' (with_reducible first|refine Apj ?_)
  exact Ax rfl (.cons_ (QX rfl rfl) .nil_)
 all_goals repeat' (with_reducible first|refine Apj ?_)
 all_goals exact Ax rfl (.cons_ (QX rfl (by decide)) .nil_)
theorem Uw (h:p:=by first|exact xNt|exact xNg):p:=h
theorem Wn (k:p') (h:Hd9 p'→p:=by with_reducible first|(intro Z9;refine qq ?_;exact Z9.o)|(intro Z9;refine Tx 0 ?_;refine gN xBo <| gO xA ?_;exact Z9.o)|(intro Z9;refine Tx 1 ?_;refine gO xM <| gO Uw ?_;exact Z9.o)|fail):p:=h ⟨k⟩
theorem Adb (k:p') (h:Hd9 p'→p:=by with_reducible first|(intro Z9;refine Tx 5 ?_;refine gO xF <| gO xD <| gO xLe <| gO xM ?_;(first|iterate 3 refine Jd ?_|(refine Jy (xFa DU Ak) ?_;refine Jy (xLd Ak) ?_;refine Jy xGe ?_));refine gO xPk <| gO xM ?_;(first|iterate 3 refine Jd ?_|(refine Jy (xFa EJ Ak) ?_;refine Jy (xLd Ak) ?_;refine Jy xLt ?_));refine gO xPk <| gO xM ?_;(first|iterate 3 refine Jd ?_|(refine Jy (xFa EJ Ak) ?_;refine Jy (xLd Ak) ?_;refine Jy xGt ?_));refine gO xPk ?_;exact Z9.o)|fail):p:=h ⟨k⟩
theorem Fl (h:p:=by
 exact Ax rfl (.cons_ (Agc rfl (by decide) (rfl)) .nil_)):p:=h
theorem Apk (h:p:=by first|exact Wm rfl rfl rfl (Asb h1)|exact xNe):p:=h
theorem Rk (n e:Int) (used:Bool):CV prog An 202 [.agg [dI n,dI e],aB used] [aE (CG n e used)]:=by
 refine cvz func202 ntmps202 ?_
 cases used
 case false =>
  unfold CG
  rw [if_neg (by decide)]
  by_cases h1:n=0∧e=0
  case pos =>
   rw [if_pos h1]
   obtain ⟨rfl,rfl⟩:=h1
   repeat' (with_reducible first|refine Wn ?_|(refine Tx 2 ?_;refine gO xL <| gO (by exact AC rfl GN rfl rfl) <| gO (by first|exact Wm rfl rfl rfl (rfl)|exact xNe) ?_)|(refine Tx 4 ?_;refine gO xA ?_))
   exact Ax rfl (.cons_ (Il rfl (rfl)) .nil_)
  case neg =>
   rw [if_neg h1]
   repeat' (with_reducible first|refine Wn ?_|(refine Tx 2 ?_;refine gO xL <| gO (by exact AC rfl GN rfl rfl) <| gO Apk ?_)|(refine Tx 3 ?_;refine gO (xMi underlying109) <| gO xA ?_))
   exact Fl
 case true =>
  unfold CG
  rw [if_pos rfl]
  by_cases c1 : -2147483648<n
  case neg =>
   rw [if_neg (fun h:Df n e=>c1 h.1)]
   repeat' (with_reducible first|refine Wn ?_|refine Adb ?_|(refine Tx 6 ?_;refine gO (xMi underlying109) <| gO xA ?_))
   exact Fl
  by_cases c2:n<2147483648
  case neg =>
   rw [if_neg (fun h:Df n e=>c2 h.2.1)]
   repeat' (with_reducible first|refine Wn ?_|refine Adb ?_|(refine Tx 6 ?_;refine gO (xMi underlying109) <| gO xA ?_))
   exact Fl
  by_cases c3 : -62≤e
  case neg =>
   rw [if_neg (fun h:Df n e=>c3 h.2.2.1)]
   repeat' (with_reducible first|refine Wn ?_|refine Adb ?_|(refine Tx 6 ?_;refine gO (xMi underlying109) <| gO xA ?_))
   exact Fl
  by_cases c4:e≤30
  case neg =>
   rw [if_neg (fun h:Df n e=>c4 h.2.2.2)]
   repeat' (with_reducible first|refine Wn ?_|refine Adb ?_|(refine Tx 6 ?_;refine gO (xMi underlying109) <| gO xA ?_))
   exact Fl
  rw [if_pos (show Df n e from ⟨c1,c2,c3,c4⟩)]
  repeat' (with_reducible first|refine Wn ?_|refine Adb ?_|(refine Tx 7 ?_;refine gO xA ?_))
  exact Ax rfl (.cons_ (Il rfl (rfl)) .nil_)
theorem Rl (n e:Int) (h:Df n e):CV prog An 203 [.agg [dI n,dI e]] [aDy false (Ac n 0 e).1 (Ac n 0 e).2]:=by
 refine cvz func203 ntmps203 ?_
 have OF:=Lm n (by unfold Df at h;omega) (by unfold Df at h;omega)
 have SH:=BR n 0 e ⟨by decide,fun h=>absurd rfl h⟩ (lT (AY (k:=2) (by unfold Df at h;omega)) (by decide)) (by unfold Df at h;omega)
 repeat' (with_reducible first|refine qq ?_|(refine Tx 0 ?_;refine gN xBo <| gN (xAl Av) ?_)|(refine AJ (id:=1) 6 AX (by kernel_rfl) ?_;dsimp only [List.take,List.drop];refine gP xF <| gP xD <| gP (xCl func68 (OF)) <| gP xF <| gP xD <| gP (xCl func21 (SH)) ?_;refine Ke ?_;refine gZ (xSk Ae) ?_))
 exact Ax rfl (.cons_ (rvW Ae rfl) .nil_)
theorem AgN (k:p') (h:Hd9 p'→p:=by with_reducible first|(intro Z9;refine Tx 0 ?_;refine gN xBo <| gN xBo <| gO xA ?_;exact Z9.o)|(intro Z9;refine Tx 1 ?_;refine gO xF <| gO xD <| gO (xCl func201 (AR)) <| gO xA ?_;exact Z9.o)|(intro Z9;refine Tx 2 ?_;refine gO xM <| gO xLt ?_;exact Z9.o)|fail):p:=h ⟨k⟩
theorem Apl (k:p') (h:Hd9 p'→p:=by with_reducible first|(intro Z9;refine Tx 6 ?_;refine gO xF <| gO xD <| gO xN <| gO xA ?_;exact Z9.o)|(intro Z9;refine Tx 7 ?_;refine gO xF <| gO xD <| gO xEq ?_;exact Z9.o)|(intro Z9;refine Tx 9 ?_;refine gO xF <| gO xD <| gO xN <| gO xM ?_;exact Z9.o)|fail):p:=h ⟨k⟩
theorem NT (k:p') (h:Hd9 p'→p:=by with_reducible first|(intro Z9;refine Tx 10 ?_;refine gO xLt ?_;exact Z9.o)|fail):p:=h ⟨k⟩
theorem ZL (k:p') (h:Hd9 p'→p:=by with_reducible first|(intro Z9;refine Tx 11 ?_;refine gO (xIr Af (AF hz)) <| gO xD <| gO xA ?_;exact Z9.o)|(intro Z9;refine Tx 12 ?_;refine gO xM <| gO xLt <| gO xM ?_;(first|iterate 3 refine Jd ?_|(refine Jy xM1 ?_;refine Jy xM1 ?_;refine Jy xGe ?_));refine gO xPk ?_;exact Z9.o)|fail):p:=h ⟨k⟩
theorem Apm (h:p:=by first|exact xCl func202 (SV)|exact xCl func202 (SU)):p:=h
theorem ZM (k:p') (h:Hd9 p'→p:=by with_reducible first|(intro Z9;refine Tx 15 ?_;refine gO xF <| gO xD <| gO xEq <| gO xA ?_;exact Z9.o)|(intro Z9;refine Tx 16 ?_;refine gO xF <| gO xL <| gO xM <| gO xM ?_;(first|iterate 3 refine Jd ?_|(refine Jy (xFa Dj Ak) ?_;refine Jy (xLd Ak) ?_;refine Jy xEq ?_));refine gO xPk <| gO xM ?_;(first|iterate 3 refine Jd ?_|(refine Jy (xFa Dj Ak) ?_;refine Jy (xLd Ak) ?_;refine Jy xEq ?_));refine gO xPk <| gO xM ?_;(first|iterate 3 refine Jd ?_|(refine Jy (xFa Dj Ak) ?_;refine Jy (xLd Ak) ?_;refine Jy xEq ?_));refine gO xPk <| gO Apm <| gO xA ?_;exact Z9.o)|fail):p:=h ⟨k⟩
theorem Apn (h:p:=by first|assumption|omega):p:=h
theorem Apo (h:p:=by first|rfl|omega):p:=h
theorem Asc (k:p') (h:Hd9 p'→p:=by with_reducible first|(intro Z9;refine Tx 17 ?_;refine gO xM <| gO (by first|exact BV rfl Ap rfl (Li h4)|exact BV rfl Ap rfl (Qt Apo)|exact BV rfl Ap rfl (Li Apn)|exact BV rfl Ap rfl rfl) ?_;exact Z9.o)|(intro Z9;refine Tx 18 ?_;refine gO xM <| gO xA ?_;exact Z9.o)|fail):p:=h ⟨k⟩
theorem Adc (k:p') (h:Hd9 p'→p:=by with_reducible first|(intro Z9;refine Tx 17 ?_;refine gO xM <| gO (xNE Ap) ?_;exact Z9.o)|(intro Z9;refine Tx 19 ?_;refine gO xF <| gO xL <| gO xM <| gO Apm <| gO xA ?_;exact Z9.o)|fail):p:=h ⟨k⟩
theorem App (k:p') (h:Hd9 p'→p:=by with_reducible first|(intro Z9;refine Tx 20 ?_;refine gO xM <| gO (by first|exact BV rfl Ap rfl (Li h5)|exact BV rfl Ap rfl (Qt Apo)|exact BV rfl Ap rfl (Li Apn)|exact BV rfl Ap rfl rfl) ?_;exact Z9.o)|(intro Z9;refine Tx 21 ?_;refine gO xM <| gO xA ?_;exact Z9.o)|fail):p:=h ⟨k⟩
theorem Asd (k:p') (h:Hd9 p'→p:=by with_reducible first|(intro Z9;refine BX (id:=22) AX (by kernel_rfl) ?_;refine gP xM <| gP xM ?_;(first|iterate 2 refine Kd ?_|(refine Ky (xFa ER Be) ?_;refine Ky (xLa Be) ?_));refine Kd ?_;(first|iterate 2 refine Kd ?_|(refine Ky (xFa ES Be) ?_;refine Ky (xLa Be) ?_));refine Kd ?_;refine Kd ?_;(first|refine Kd ?_|refine Ky xGt ?_);refine gP xPk ?_;refine Ke ?_;exact Z9.o)|fail):p:=h ⟨k⟩
theorem Apq (h:p:=by first|exact xCl func203 (V1)|exact xCl func203 (V2)):p:=h
theorem Apr (k:p') (h:Hd9 p'→p:=by with_reducible first|(intro Z9;refine BX (id:=22) AX (by kernel_rfl) ?_;refine gP xM <| gP xM ?_;(first|iterate 8 refine Kd ?_|(refine Ky (xFa ER Be) ?_;refine Ky (xLa Be) ?_;refine Ky Apq ?_;refine Ky (xFa ES Be) ?_;refine Ky (xLa Be) ?_;refine Ky Apq ?_;refine Ky (xCl func15 (CM)) ?_;refine Ky xGt ?_));refine gP xPk ?_;refine Ke ?_;exact Z9.o)|fail):p:=h ⟨k⟩
theorem Add (h:p:=by
 rw [h4] at SV
 by_cases h5:CG y.un y.ue false=0
 case neg =>
  rw [be5 h1 h2 hM hf hv h4 hc h5]
  repeat' (with_reducible first|refine qq ?_|refine NT ?_|refine ZM ?_|refine Adc ?_|refine App ?_)
  exact Ax rfl (.cons_ (Acf rfl rfl) .nil_)
 rw [h5] at SU
 rw [be7 h1 h2 hM hf hv h4 hc h5 (fun h=>by cases h.1)]
 repeat' (with_reducible first|refine qq ?_|refine NT ?_|refine ZM ?_|refine Adc ?_|(refine Tx 20 ?_;refine gO xM <| gO (xNE Ap) ?_)|refine Asd ?_|(refine Tx 24 ?_;refine gO xA ?_))
 exact Ax rfl (.cons_ (Il rfl (rfl)) .nil_)):p:=h
theorem ZN (h:p:=by
 rw [be4 h1 h2 hM hf hv h4]
 repeat' (with_reducible first|refine qq ?_|refine NT ?_|refine ZM ?_|refine Asc ?_)
 exact Ax rfl (.cons_ (Acf rfl rfl) .nil_)):p:=h
theorem AgO (h:p:=by
 refine ⟨_,_,Qu _ 2 ?_ ?_ ?_,_,by omega,k+1,by omega,rfl,AfY hz ⟨z0,z1⟩ hf,rfl,rfl⟩
 ·rfl
 ·exact mB rfl rfl
 ·exact ⟨Dl rfl,Dl rfl,trivial⟩):p:=h
theorem ZO (t:Bool) {ps:List Prt} {bs:List Bk} {os:List Int} (hl:FK ps bs os) (y:Bk) (hyl:y.args.length≤1000000):CV prog An 95 [aDg t ps bs os,.agg (dBk t y)] [aE (BQ ps.length bs.length y)]:=by
 refine cvz func95 ntmps95 ?_
 have AR:=Ada y.kind
 have SV:=Rk y.vn y.ve (Pt y.kind)
 have SU:=Rk y.un y.ue (Lk y.kind)
 have hl1:=hl.l1
 have hl2:=hl.l2
 by_cases h1:AO y.kind<0
 case pos =>
  rw [be1 h1]
  repeat' (with_reducible first|refine qq ?_|refine AgN ?_|(refine Tx 3 ?_;refine gO (xMi underlying109) <| gO xA ?_))
  exact Fl
 by_cases h2:((y.args.length:Nat):Int)=AO y.kind
 case neg =>
  rw [be2 h1 h2]
  repeat' (with_reducible first|refine qq ?_|refine AgN ?_|(refine Tx 4 ?_;refine gO xF <| gO xD <| gO xN <| gO xM <| gO xNe ?_)|(refine Tx 5 ?_;refine gO (xMi underlying109) <| gO xA ?_))
  exact Fl
 have hA2:y.args.length≤2:=by unfold AO at h2;(repeat' split at h2) <;> omega
 by_cases k0:y.kind=0
 case pos =>
  have hM:Cn ps.length bs.length y.kind=ps.length:=if_pos k0
  repeat' (with_reducible first|refine qq ?_|refine AgN ?_|(refine Tx 4 ?_;refine gO xF <| gO xD <| gO xN <| gO xM <| gO xNe ?_)|refine Apl ?_|(refine Tx 8 ?_;refine gO xF <| gO xD <| gO xN <| gO xA ?_))
  refine Bi (BE 2) (Aq (fun n Fr H=>∃ k:Nat,k≤y.args.length∧n=y.args.length - k∧Ah ((y.args.map (NC ps.length)).take k)=0∧Fr=ofL [(2,vr 0),(3,vr 1),(6,vi ps.length),(34,vd (Ba t y.args)),(35,vi y.args.length),(36,vi ((k:Nat)))]∧H=[.box 26 [.d (Dh t ps),.d (DC t bs),.d (Ba t os)],.box 63 [.d (.val (.int .i64 y.kind)),.d (Ba t y.args),.d (.val (.int .i64 y.vn)),.d (.val (.int .i64 y.ve)),.d (.val (.int .i64 y.un)),.d (.val (.int .i64 y.ue))]]) (n0:=y.args.length) ⟨0,ad _,rfl,rfl,rfl,rfl⟩ ?_)
  rintro n Fr H ⟨k,hk,rfl,hf,rfl,rfl⟩
  by_cases hlt:k<y.args.length
  case pos =>
   obtain ⟨z,hz⟩:∃ z,y.args[k]?=some z:=⟨_,gE hlt⟩
   by_cases hb:0≤z∧z<((ps.length:Nat):Int)
   case neg =>
    rw [be3 h1 h2 hM (Sh hz hb hf)]
    by_cases hz0:z<0
    case pos =>
     repeat' (with_reducible first|refine qq ?_|refine NT ?_|refine ZL ?_|(refine Tx 13 ?_;refine gO (xMi underlying109) <| gO xA ?_))
     exact Fl
    repeat' (with_reducible first|refine qq ?_|refine NT ?_|refine ZL ?_|(refine Tx 13 ?_;refine gO (xMi underlying109) <| gO xA ?_))
    exact Fl
   obtain ⟨z0,z1⟩:=hb
   repeat' (with_reducible first|refine qq ?_|refine NT ?_|refine ZL ?_|(refine Tx 14 ?_;refine gO xAd <| gO xM ?_))
   exact AgO
  obtain rfl:k=y.args.length:=by omega
  rw [aq (by rw [af];exact aa _)] at hf
  clear hlt hk
  generalize hv:Pt y.kind=vu at SV
  generalize hc:Lk y.kind=cu at SU
  have hv1:vu=false:=by rw [←hv,k0];rfl
  have hc1:cu=false:=by rw [←hc,k0];rfl
  subst hv1 hc1
  by_cases h4:CG y.vn y.ve false=0
  case neg =>
   exact ZN
  exact Add
 case neg =>
  have hM:Cn ps.length bs.length y.kind=bs.length:=if_neg k0
  repeat' (with_reducible first|refine qq ?_|refine AgN ?_|(refine Tx 4 ?_;refine gO xF <| gO xD <| gO xN <| gO xM <| gO xNe ?_)|refine Apl ?_)
  refine Bi (BE 2) (Aq (fun n Fr H=>∃ k:Nat,k≤y.args.length∧n=y.args.length - k∧Ah ((y.args.map (NC bs.length)).take k)=0∧Fr=ofL [(2,vr 0),(3,vr 1),(6,vi bs.length),(34,vd (Ba t y.args)),(35,vi y.args.length),(36,vi ((k:Nat)))]∧H=[.box 26 [.d (Dh t ps),.d (DC t bs),.d (Ba t os)],.box 63 [.d (.val (.int .i64 y.kind)),.d (Ba t y.args),.d (.val (.int .i64 y.vn)),.d (.val (.int .i64 y.ve)),.d (.val (.int .i64 y.un)),.d (.val (.int .i64 y.ue))]]) (n0:=y.args.length) ⟨0,ad _,rfl,rfl,rfl,rfl⟩ ?_)
  rintro n Fr H ⟨k,hk,rfl,hf,rfl,rfl⟩
  by_cases hlt:k<y.args.length
  case pos =>
   obtain ⟨z,hz⟩:∃ z,y.args[k]?=some z:=⟨_,gE hlt⟩
   by_cases hb:0≤z∧z<((bs.length:Nat):Int)
   case neg =>
    rw [be3 h1 h2 hM (Sh hz hb hf)]
    by_cases hz0:z<0
    case pos =>
     repeat' (with_reducible first|refine qq ?_|refine NT ?_|refine ZL ?_|(refine Tx 13 ?_;refine gO (xMi underlying109) <| gO xA ?_))
     exact Fl
    repeat' (with_reducible first|refine qq ?_|refine NT ?_|refine ZL ?_|(refine Tx 13 ?_;refine gO (xMi underlying109) <| gO xA ?_))
    exact Fl
   obtain ⟨z0,z1⟩:=hb
   repeat' (with_reducible first|refine qq ?_|refine NT ?_|refine ZL ?_|(refine Tx 14 ?_;refine gO xAd <| gO xM ?_))
   exact AgO
  obtain rfl:k=y.args.length:=by omega
  rw [aq (by rw [af];exact aa _)] at hf
  clear hlt hk
  generalize hv:Pt y.kind=vu at SV
  generalize hc:Lk y.kind=cu at SU
  by_cases k11:y.kind=11
  case pos =>
   have hv1:vu=true:=by rw [←hv,k11];rfl
   have hc1:cu=true:=by rw [←hc,k11];rfl
   subst hv1 hc1
   by_cases h4:CG y.vn y.ve true=0
   case neg =>
    exact ZN
   rw [h4] at SV
   by_cases h5:CG y.un y.ue true=0
   case neg =>
    rw [be5 h1 h2 hM hf hv h4 hc h5]
    repeat' (with_reducible first|refine qq ?_|refine NT ?_|refine ZM ?_|refine Adc ?_|refine App ?_)
    exact Ax rfl (.cons_ (Acf rfl rfl) .nil_)
   rw [h5] at SU
   have o1:=Pu h4
   have o2:=Pu h5
   have V1:=Rl y.vn y.ve o1
   have V2:=Rl y.un y.ue o2
   have s1:=Aiv o1
   have s2:=Aiv o2
   have CM:=Ec (Ac y.vn 0 y.ve).1 (Ac y.vn 0 y.ve).2 (Ac y.un 0 y.ue).1 (Ac y.un 0 y.ue).2 s1.1 s2.1 s1.2 s2.2
   have hpc:=Aks o1 o2
   have hpc:Cm (Ac y.vn 0 y.ve).1 (Ac y.vn 0 y.ve).2 (Ac y.un 0 y.ue).1 (Ac y.un 0 y.ue).2=NR y.vn y.ve y.un y.ue:=(AcE _ _ _ _).trans hpc
   rw [hpc] at CM
   generalize hq:NR y.vn y.ve y.un y.ue=q at CM
   by_cases h6:0<q
   case pos =>
    rw [be6 h1 h2 hM hf hv h4 hc h5 ⟨rfl,by rw [hq];exact h6⟩]
    repeat' (with_reducible first|refine qq ?_|refine NT ?_|refine ZM ?_|refine Adc ?_|(refine Tx 20 ?_;refine gO xM <| gO (xNE Ap) ?_)|refine Apr ?_|(refine Tx 23 ?_;refine gO (xMi underlying109) <| gO xA ?_))
    exact Fl
   rw [be7 h1 h2 hM hf hv h4 hc h5 (fun h=>h6 (by rw [←hq];exact h.2))]
   repeat' (with_reducible first|refine qq ?_|refine NT ?_|refine ZM ?_|refine Adc ?_|(refine Tx 20 ?_;refine gO xM <| gO (xNE Ap) ?_)|refine Apr ?_|(refine Tx 24 ?_;refine gO xA ?_))
   exact Ax rfl (.cons_ (Il rfl (rfl)) .nil_)
  have hc1:cu=false:=by rw [←hc];exact DQ k11
  subst hc1
  by_cases kv:y.kind=1∨y.kind=2∨y.kind=6
  case pos =>
   have hv1:vu=true:=by rw [←hv];rcases kv with h|h|h <;> (rw [h];rfl)
   subst hv1
   rcases kv with kv|kv|kv
   ·
    by_cases h4:CG y.vn y.ve true=0
    case neg =>
     exact ZN
    exact Add
   ·
    by_cases h4:CG y.vn y.ve true=0
    case neg =>
     exact ZN
    exact Add
   ·
    by_cases h4:CG y.vn y.ve true=0
    case neg =>
     exact ZN
    exact Add
  have hv1:vu=false:=by rw [←hv];unfold Pt;rw [DQ k11,DQ (by omega),DQ (by omega),DQ (by omega)];rfl
  subst hv1
  by_cases h4:CG y.vn y.ve false=0
  case neg =>
   exact ZN
  exact Add
theorem AlE (k:p') (h:Hd9 p'→p:=by with_reducible first|(intro Z9;refine qq ?_;exact Z9.o)|(intro Z9;refine Tx 0 ?_;refine gN xBo <| gO xA ?_;exact Z9.o)|(intro Z9;refine Tx 1 ?_;refine gO xF <| gO xD <| gO xM <| gO (xIr Aj (DK hy)) <| gO xF <| gO xD ?_;exact Z9.o)|(intro Z9;refine Tx 2 ?_;refine gO xEq <| gO xA ?_;exact Z9.o)|(intro Z9;refine Tx 3 ?_;refine gO xEq <| gO xA ?_;exact Z9.o)|(intro Z9;refine Tx 4 ?_;refine gO xA ?_;exact Z9.o)|(intro Z9;refine Tx 5 ?_;refine gO xF <| gO xD <| gO xM <| gO (xIr Aj (DK hy)) <| gO xF <| gO xD <| gO xA ?_;exact Z9.o)|fail):p:=h ⟨k⟩
theorem Wo (t:Bool) {ps:List Prt} {bs:List Bk} {os:List Int} (hl:FK ps bs os) {i:Nat} {y:Bk} (hy:bs[i]?=some y):CVB prog An 129 [aDg t ps bs os,aI (i:Int)] (Ba t (TY bs false i)):=by
 refine Aiu Uf func129 ntmps129 (bf rfl) rfl ?_
 have hl2:=hl.l2
 have hil:=(gS.1 hy).1
 rw [XF hy]
 by_cases k2:y.kind=2
 case pos =>
  rw [if_pos ⟨k2,rfl⟩]
  repeat' (with_reducible first|refine AlE ?_)
  exact ⟨.inl rfl,_,_,results129,rfl,SE⟩
 rw [if_neg (fun h=>k2 h.1)]
 by_cases k0:y.kind=0
 case pos =>
  rw [if_pos k0]
  repeat' (with_reducible first|refine AlE ?_)
  exact ⟨.inl rfl,_,_,results129,rfl,SE⟩
 rw [if_neg k0]
 repeat' (with_reducible first|refine AlE ?_)
 exact ⟨.inl rfl,_,_,results129,rfl,fun _ _ _ h=>h⟩
theorem AlF (k:p') (h:Hd9 p'→p:=by with_reducible first|(intro Z9;refine Tx 16 ?_;refine gO xM <| gO xA ?_;exact Z9.o)|(intro Z9;refine Tx 17 ?_;refine gO xM <| gO xM <| gO (xIo (i:=k) ET) <| gO (by first|exact AcY rfl rfl rfl hg DA|exact xLd DA) <| gO Uw <| gO xM ?_;(first|iterate 2 refine Jd ?_|(refine Jy xM1 ?_;refine Jy xLt ?_));refine gO xPk <| gO xA ?_;exact Z9.o)|(intro Z9;refine Tx 18 ?_;refine gO xL <| gO xM <| gO (xCb func129 BF) <| gO xN <| gO xM ?_;exact Z9.o)|fail):p:=h ⟨k⟩
theorem Aps (k:p') (h:Hd9 p'→p:=by with_reducible first|(intro Z9;refine Tx 20 ?_;refine gO (xIr Af (AF hz)) <| gO xD <| gO xA ?_;exact Z9.o)|(intro Z9;refine Tx 21 ?_;refine gO xM <| gO xM ?_;(first|iterate 4 refine Jd ?_|(refine Jy xM1 ?_;refine Jy xM1 ?_;refine Jy (by exact Fw (i:=z.toNat) rfl rfl rfl rfl (by omega) ET (by omega) (by decide)) ?_;refine Jy (by first|exact AcY rfl rfl rfl hgz DA|exact xLd DA) ?_));refine gO xPk <| gO xA ?_;exact Z9.o)|(intro Z9;refine Tx 22 ?_;refine gO xAd <| gO xM ?_;exact Z9.o)|fail):p:=h ⟨k⟩
theorem Apt (k:p') (h:Hd9 p'→p:=by with_reducible first|(intro Z9;refine Tx 23 ?_;refine gO xM ?_;exact Z9.o)|(intro Z9;refine Tx 25 ?_;refine gO xAd <| gO xM ?_;exact Z9.o)|fail):p:=h ⟨k⟩
theorem AlG (h:p:=by
 clear hd
 refine Bi (F':=ofL [(1,vr 0),(4,vo 1 ((BK out).length)),(5,vo 2 bs.length),(6,vi lf),(9,vi pk),(10,vi ((k:Nat))),(11,vd (.val (.bool b0))),(40,vd (DC t bs)),(41,vi bs.length),(42,vi ((k:Nat))),(56,vd (Ba t xs)),(57,vi xs.length),(58,vi ((0:Nat)))]) (H':=[.box 26 [.d (Dh t ps),.d (DC t bs),.d (Ba t os)],.row 3 1 (BK out).length (cI (BK out)),.row 4 1 bs.length (cBl (FW bs out))]) (BE 3 (h:=by rw [←hb0];exact mB rfl rfl)) ?_
 clear hb0
 refine Aq (fun n Fr H=>∃ (u:Nat) (b:Bool),u≤xs.length∧n=xs.length - u∧b=(b0 && Akx bs out xs u)∧Fr=ofL [(1,vr 0),(4,vo 1 ((BK out).length)),(5,vo 2 bs.length),(6,vi lf),(9,vi pk),(10,vi ((k:Nat))),(11,vd (.val (.bool b))),(40,vd (DC t bs)),(41,vi bs.length),(42,vi ((k:Nat))),(56,vd (Ba t xs)),(57,vi xs.length),(58,vi ((u:Nat)))]∧H=[.box 26 [.d (Dh t ps),.d (DC t bs),.d (Ba t os)],.row 3 1 (BK out).length (cI (BK out)),.row 4 1 bs.length (cBl (FW bs out))]) (n0:=xs.length) ⟨0,b0,ad _,rfl,(Bool.and_true _).symm,rfl,rfl⟩ ?_
 rintro n Fr H ⟨u,b,hu,rfl,hb,rfl,rfl⟩
 by_cases hlu:u<xs.length
 case pos =>
  obtain ⟨z,hz⟩:∃ z,xs[u]?=some z:=⟨_,gE hlu⟩
  obtain ⟨z0,z1⟩:=hbd z (gM hz)
  have hgz:(FW bs out)[z.toNat]?=some (EA bs out z.toNat):=(by unfold FW;rw [ag,ko (by omega)];rfl)
  have hst:=Ua (bs:=bs) (out:=out) hz
  cases b
  case false =>
   repeat' (with_reducible first|refine qq ?_|(refine Tx 19 ?_;refine gO xLt ?_)|refine Aps ?_)
   refine ⟨_,_,BE 3,_,by omega,u+1,_,by omega,rfl,by rw [hst,←Bool.and_assoc,←hb];try rfl,rfl,rfl⟩
  repeat' (with_reducible first|refine qq ?_|(refine Tx 19 ?_;refine gO xLt ?_)|refine Aps ?_)
  refine ⟨_,_,BE 3,_,by omega,u+1,_,by omega,rfl,by rw [hst,←Bool.and_assoc,←hb];try rfl,rfl,rfl⟩
 obtain rfl:u=xs.length:=by omega
 rw [XI (aa _)] at hb
 have hf2:=hfin b hb
 cases b
 case false =>
  repeat' (with_reducible first|refine qq ?_|(refine Tx 19 ?_;refine gO xLt ?_)|refine Apt ?_)
  refine ⟨_,_,BE 3,_,by omega,k+1,pk,by omega,rfl,hf2.symm,rfl,rfl⟩
 repeat' (with_reducible first|refine qq ?_|(refine Tx 19 ?_;refine gO xLt ?_)|refine Apt ?_|(refine Tx 24 ?_;refine gO xM <| gO xA ?_))
 refine ⟨_,_,Qu _ 3 ?_ ?_ ?_,_,by omega,k+1,(k:Int),by omega,rfl,hf2.symm,rfl,rfl⟩
 ·rfl
 ·exact mB rfl rfl
 ·exact ⟨Dl rfl,TU,AcW,trivial⟩):p:=h
theorem Apu (h:p:=by first|exact AlD rfl rfl rfl rfl DA tl stV|exact xS1 DA|exact xSk DA):p:=h
theorem Rm (t:Bool) {ps:List Prt} {bs:List Bk} {os:List Int} (hl:FK ps bs os) (hS:XA bs):CV prog An 96 [aDg t ps bs os] [.one (Ba false (AmW bs)),aE (EZ bs)]:=by
 refine cvz func96 ntmps96 ?_
 have hl2:=hl.l2
 repeat' (with_reducible first|refine qq ?_|(refine Tx 0 ?_;refine gN xBo <| gO xA <| gO xA ?_)|(refine Tx 1 ?_;refine gO xA ?_))
 refine Bi (LM 4 3 1 rfl) ?_
 repeat' (with_reducible first|refine qq ?_|(refine Tx 2 ?_;refine gO xF <| gO xD <| gO xN <| gN (by first|exact AcX (n:=bs.length) rfl rfl rfl ET AbG (by omega) (by decide)|exact BP rfl rfl rfl ET AbG (by omega) (by decide)) <| gO xA ?_)|(refine Tx 3 ?_;refine gO xA ?_)|(refine Tx 4 ?_;refine gO xF <| gO xD <| gO xN <| gO xM ?_))
 rw [←Zv]
 refine Bi (BE 3) (Aq (fun n Fr H=>∃ (k:Nat) (lf:Int),k≤bs.length∧n=bs.length - k∧lf=((fl (Ps bs) k).length:Nat)∧Fr=ofL [(1,vr 0),(4,vo 1 ((BK []).length)),(5,vo 2 bs.length),(6,vi lf),(19,vd (DC t bs)),(20,vi bs.length),(21,vi ((k:Nat)))]∧H=[.box 26 [.d (Dh t ps),.d (DC t bs),.d (Ba t os)],.row 3 1 (BK []).length (cI (BK [])),.row 4 1 bs.length (cBl (GE bs k))]) (n0:=bs.length) ⟨0,0,ad _,rfl,rfl,rfl,rfl⟩ ?_)
 rintro n Fr H ⟨k,lf,hk,rfl,hlf,rfl,rfl⟩
 by_cases hlt:k<bs.length
 case pos =>
  obtain ⟨y,hy⟩:∃ y,bs[k]?=some y:=⟨_,gE hlt⟩
  have tl:k<(GE bs k).length:=by rw [Ub];exact hlt
  have hfl:=Akw (Ps bs) k
  by_cases k2:y.kind=2
  case pos =>
   have hd:CH bs k=true:=by unfold CH;rw [EY hy,k2];rfl
   have hn:Ps bs k=false:=by unfold Ps;rw [EY hy,k2];rfl
   have stV:=AbY hd
   repeat' (with_reducible first|refine qq ?_|(refine Tx 5 ?_;refine gO xLt ?_)|(refine Tx 6 ?_;refine gO xM <| gO (by first|exact xIr Aj (DK hy)|exact xIo (i:=k) Aj) <| gO xL <| gN (xAl Bw) <| gO xA <| gZ (xSk Bm) ?_)|(refine Tx 7 ?_;refine gO xF <| gO xD <| gO xEq ?_)|(refine Tx 8 ?_;refine gO xM <| gO xM <| gO (xIo (i:=k) ET) <| gZ Apu ?_)|(refine Tx 10 ?_;refine gO xAd <| gO xM ?_))
   refine ⟨_,_,BE 3,_,by omega,k+1,lf,by omega,rfl,by rw [Akv hn];exact hlf,rfl,rfl⟩
  have hd:CH bs k=false:=by unfold CH;rw [EY hy];exact DQ k2
  have hn:Ps bs k=true:=by unfold Ps;rw [EY hy,bne,DQ k2];rfl
  have hdn:=AfX hd
  repeat' (with_reducible first|refine qq ?_|(refine Tx 5 ?_;refine gO xLt ?_)|(refine Tx 6 ?_;refine gO xM <| gO (xIr Aj (DK hy)) <| gO xL <| gN (xAl Bw) <| gO xA <| gZ (xSk Bm) ?_)|(refine Tx 7 ?_;refine gO xF <| gO xD <| gO xEq ?_)|(refine Tx 9 ?_;refine gO xM <| gO xAd <| gO xA ?_)|(refine Tx 10 ?_;refine gO xAd <| gO xM ?_))
  rw [←hdn]
  refine ⟨_,_,BE 3,_,by omega,k+1,lf+1,by omega,rfl,by rw [AbU hn,ak,hlf];try rfl,rfl,rfl⟩
 obtain rfl:k=bs.length:=by omega
 rw [Zx] at hlf
 rw [AbX]
 clear hlt hk
 repeat' (with_reducible first|refine qq ?_|(refine Tx 5 ?_;refine gO xLt ?_))
 have hnd:=GP bs
 refine Bi (BE 3) (Aq (fun n Fr H=>∃ (out:List Nat) (lf:Int),Lj bs out∧n=CQ bs - out.length∧lf=(CQ bs:Int) - (out.length:Int)∧Fr=ofL [(1,vr 0),(4,vo 1 ((BK out).length)),(5,vo 2 bs.length),(6,vi lf)]∧H=[.box 26 [.d (Dh t ps),.d (DC t bs),.d (Ba t os)],.row 3 1 (BK out).length (cI (BK out)),.row 4 1 bs.length (cBl (FW bs out))]) (n0:=CQ bs) ⟨[],lf,Lj.nil bs,rfl,by rw [hlf];simp,rfl,rfl⟩ ?_)
 clear hlf lf
 rintro n Fr H ⟨out,lf,hO,rfl,hlf,rfl,rfl⟩
 have hle:=hO.ok.le
 have hnl:=CR out
 by_cases hpos:0<lf
 case neg =>
  have hfull:=hO.full (by omega)
  have he:EZ bs=0:=by unfold EZ;rw [hfull,if_pos (by omega)]
  have hL:AmW bs=BK out:=by unfold AmW;rw [if_pos he,hfull]
  rw [he,hL]
  repeat' (with_reducible first|refine qq ?_|(refine Tx 11 ?_;refine gO xM <| gO xGt ?_)|(refine Tx 30 ?_;refine gO xM <| gO xA <| gO xA ?_))
  exact Ax rfl (.cons_ (Ya rfl rfl rfl) (.cons_ (Il rfl rfl) .nil_))
 repeat' (with_reducible first|refine qq ?_|(refine Tx 11 ?_;refine gO xM <| gO xGt ?_)|(refine Tx 13 ?_;refine gO xA ?_)|(refine Tx 14 ?_;refine gO xF <| gO xD <| gO xN <| gO xM ?_))
 refine Bi (BE 3) (Aq (fun n Fr H=>∃ (k:Nat) (pk:Int),k≤bs.length∧n=bs.length - k∧pk=LQ bs out k∧Fr=ofL [(1,vr 0),(4,vo 1 ((BK out).length)),(5,vo 2 bs.length),(6,vi lf),(9,vi pk),(40,vd (DC t bs)),(41,vi bs.length),(42,vi ((k:Nat)))]∧H=[.box 26 [.d (Dh t ps),.d (DC t bs),.d (Ba t os)],.row 3 1 (BK out).length (cI (BK out)),.row 4 1 bs.length (cBl (FW bs out))]) (n0:=bs.length) ⟨0,-1,ad _,rfl,(Zy bs out).symm,rfl,rfl⟩ ?_)
 rintro n Fr H ⟨k,pk,hk,rfl,hpk,rfl,rfl⟩
 by_cases hlt:k<bs.length
 case pos =>
  obtain ⟨y,hy⟩:∃ y,bs[k]?=some y:=⟨_,gE hlt⟩
  have BF:=Wo t hl hy
  have hg:(FW bs out)[k]?=some (EA bs out k):=(by unfold FW;rw [ag,ko (by omega)];rfl)
  obtain ⟨xs,hxs⟩:∃ xs,TY bs false k=xs:=⟨_,rfl⟩
  rw [hxs] at BF
  have hxl:xs.length≤1000000:=by rw [←hxs,XF hy];have:=hl.la y (gM hy);split <;> (try split) <;> first|exact this|exact ad _
  have hbd:∀ z∈xs,0≤z∧z<(bs.length:Int):=fun z hz=>hS k hlt z (VK (over:=false) (by rw [hxs];exact hz))
  obtain ⟨b0,hb0⟩:∃ b0:Bool,(!EA bs out k && decide (pk<0))=b0:=⟨_,rfl⟩
  have hfin:∀ b:Bool,b=(b0 && xs.all fun z=>EA bs out z.toNat)→LQ bs out (k+1)=if b=true then (k:Int) else pk:=fun b hb=>by
   cases hd:EA bs out k with
   | true =>
    have hr:rdy bs out k=false:=by rw [Pr,hd];rfl
    rw [hd] at hb0
    rw [hb,←hb0,Sg (.inr hr),if_neg (by simp),hpk]
   | false =>
    have hr:=Acc (out:=out) hd
    rw [hxs] at hr
    by_cases hp:pk<0
    ·rw [hd,decide_eq_true hp] at hb0
     rw [←hb0,←hr] at hb
     cases hq:rdy bs out k with
     | true=>rw [hq] at hb;rw [AbZ (by rw [←hpk];exact hp) hq,hb];rfl
     | false=>rw [hq] at hb;rw [Sg (.inr hq),hb,←hpk];rfl
    ·rw [hd,decide_eq_false hp] at hb0
     rw [hb,←hb0,Sg (.inl (by omega)),if_neg (by simp),hpk]
  skip
  cases hd:EA bs out k
  case true =>
   rw [hd] at hg hb0
   rw [fb,gh] at hb0
   repeat' (with_reducible first|refine qq ?_|(refine Tx 15 ?_;refine gO xLt ?_)|refine AlF ?_)
   exact AlG
  rw [hd] at hg hb0
  by_cases hp:pk<0
  case pos =>
   rw [decide_eq_true hp] at hb0
   rw [fd,Bool.and_true] at hb0
   repeat' (with_reducible first|refine qq ?_|(refine Tx 15 ?_;refine gO xLt ?_)|refine AlF ?_)
   exact AlG
  rw [decide_eq_false hp] at hb0
  rw [Bool.and_false] at hb0
  repeat' (with_reducible first|refine qq ?_|(refine Tx 15 ?_;refine gO xLt ?_)|refine AlF ?_)
  exact AlG
 obtain rfl:k=bs.length:=by omega
 clear hlt hk
 cases hnx:nxt bs out
 case none =>
  rw [Aca hnx] at hpk
  subst hpk
  have hod:=hO.done hnx
  have he:EZ bs=24:=by unfold EZ;rw [hod,if_neg (by omega)]
  have hL:AmW bs=[]:=by unfold AmW;rw [if_neg (by rw [he];decide)]
  rw [he,hL]
  repeat' (with_reducible first|refine qq ?_|(refine Tx 15 ?_;refine gO xLt ?_)|(refine Tx 26 ?_;refine gO xM <| gO xLt ?_)|(refine Tx 27 ?_;refine gO (xMi underlying109) <| gO xA <| gO xA ?_))
  exact Ax rfl (.cons_ (.tmp (.one (Fx rfl rfl))) (.cons_ (Agc rfl (by decide) rfl) .nil_))
 case some p =>
  rw [Acb hnx] at hpk
  subst hpk
  have hO2:=hO.push hnx
  have hpl:=(Sc hnx).1
  have hlt2:=hO.lt hnx
  have tl:p<(FW bs out).length:=by rw [AbW];exact hpl
  have stV:(FW bs out).set p true=FW bs (out++[p]):=(Zw bs out p).symm
  have hap:BK out++[(p:Int)]=BK (out++[p]):=(Hy out p).symm
  have hap2:(BK out).length+1=(BK (out++[p])).length:=by rw [CR,CR,ak];rfl
  repeat' (with_reducible first|refine qq ?_|(refine Tx 15 ?_;refine gO xLt ?_)|(refine Tx 26 ?_;refine gO xM <| gO xLt ?_)|(refine Tx 28 ?_;refine gO xM <| gO xM <| gO (xIo (i:=p) ET) <| gZ Apu ?_)|(refine Tx 29 ?_;refine gO xM <| gO xM <| gN (by exact Bj rfl Af Bz rfl rfl (by decide) (by decide)) <| gT (by exact LP rfl rfl rfl rfl rfl rfl Af Bz (by omega) (by decide) hap hap2) <| gO xA ?_)|(refine Tx 12 ?_;refine gO xM <| gO xSb <| gO xA ?_))
  refine ⟨_,_,BE 3,_,(by rw [ak];show CQ bs - (out.length+1)<_;omega),out++[p],lf - 1,hO2,rfl,by rw [ak,hlf];show _=(CQ bs:Int) - ((out.length+1:Nat):Int);omega,rfl,rfl⟩
theorem AgP (k:p') (h:Hd9 p'→p:=by with_reducible first|(intro Z9;refine Tx 0 ?_;refine gN xBo <| gO xA ?_;exact Z9.o)|(intro Z9;refine Tx 1 ?_;refine gO xF <| gO xD <| gO xN <| gO xGt <| gO xM ?_;(first|iterate 4 refine Jd ?_|(refine Jy (xFa BM AQ) ?_;refine Jy (xLd AQ) ?_;refine Jy (xLn Aj) ?_;refine Jy xGt ?_));refine gO xPk <| gO xM ?_;(first|iterate 4 refine Jd ?_|(refine Jy (xFa Gn Bd) ?_;refine Jy (xLd Bd) ?_;refine Jy (xLn Af) ?_;refine Jy xGt ?_));refine gO xPk ?_;exact Z9.o)|fail):p:=h ⟨k⟩
theorem ZP (k:p') (h:Hd9 p'→p:=by with_reducible first|(intro Z9;refine Tx 5 ?_;refine gO (xIr Bv (Fy hp)) <| gO xL <| gN (xAl MY) <| gZ (xSk Lh) ?_;exact Z9.o)|(intro Z9;refine Tx 6 ?_;refine gO xF <| gO xD <| gO xLt <| gO xM ?_;(first|iterate 5 refine Jd ?_|(refine Jy (xFa Ft Ak) ?_;refine Jy (xLd Ak) ?_;refine Jy (xFa Sa Ak) ?_;refine Jy (xLd Ak) ?_;refine Jy xLt ?_));refine gO xPk <| gO xM ?_;(first|iterate 3 refine Jd ?_|(refine Jy (xFa Ft Ak) ?_;refine Jy (xLd Ak) ?_;refine Jy xGe ?_));refine gO xPk <| gO xM ?_;(first|iterate 3 refine Jd ?_|(refine Jy (xFa Og Ak) ?_;refine Jy (xLd Ak) ?_;refine Jy xLt ?_));refine gO xPk <| gO xM ?_;(first|iterate 3 refine Jd ?_|(refine Jy (xFa Og Ak) ?_;refine Jy (xLd Ak) ?_;refine Jy xGt ?_));refine gO xPk ?_;exact Z9.o)|fail):p:=h ⟨k⟩
theorem AlH (k:p') (h:Hd9 p'→p:=by with_reducible first|(intro Z9;refine Tx 18 ?_;refine gO (xIr Af (AF hz)) <| gO xD <| gO xA ?_;exact Z9.o)|(intro Z9;refine Tx 19 ?_;refine gO xM <| gO xLt <| gO xM ?_;(first|iterate 5 refine Jd ?_|(refine Jy xM1 ?_;refine Jy (xFa BM AQ) ?_;refine Jy (xLd AQ) ?_;refine Jy (xLn Aj) ?_;refine Jy xGe ?_));refine gO xPk ?_;exact Z9.o)|fail):p:=h ⟨k⟩
theorem Apv (h:p:=by first|exact BV rfl Ap rfl (Li h0)|exact BV rfl Ap rfl (Qt (by first|rfl|omega))|exact BV rfl Ap rfl (Li (by first|assumption|omega))|exact BV rfl Ap rfl rfl):p:=h
theorem PL (t:Bool) {ps:List Prt} {bs:List Bk} {os:List Int} (hl:FK ps bs os):CV prog An 35 [aDg t ps bs os] [aE (Bl ps bs os)]:=by
 refine cvz func35 ntmps35 ?_
 have hl1:=hl.l1
 have hl2:=hl.l2
 have hl3:=hl.l3
 by_cases hs:Ek ps bs os
 case neg =>
  rw [de0 hs]
  unfold Ek at hs
  by_cases c1:ps.length≤16
  case neg =>
   repeat' (with_reducible first|refine qq ?_|refine AgP ?_|(refine Tx 2 ?_;refine gO (xMi underlying109) <| gO xA ?_))
   exact Fl
  by_cases c2:bs.length≤64
  case neg =>
   repeat' (with_reducible first|refine qq ?_|refine AgP ?_|(refine Tx 2 ?_;refine gO (xMi underlying109) <| gO xA ?_))
   exact Fl
  have c3:¬ os.length≤16:=fun h=>hs ⟨c1,c2,h⟩
  repeat' (with_reducible first|refine qq ?_|refine AgP ?_|(refine Tx 2 ?_;refine gO (xMi underlying109) <| gO xA ?_))
  exact Fl
 have hs2:=hs
 unfold Ek at hs2
 obtain ⟨c1,c2,c3⟩:=hs2
 repeat' (with_reducible first|refine qq ?_|refine AgP ?_|(refine Tx 3 ?_;refine gO xF <| gO xD <| gO xN <| gO xM ?_))
 refine Bi (BE 1) (Aq (fun n Fr H=>∃ k:Nat,k≤ps.length∧n=ps.length - k∧Ah ((ps.map DW).take k)=0∧Fr=ofL [(1,vr 0),(30,vd (Dh t ps)),(31,vi ps.length),(32,vi ((k:Nat)))]∧H=[.box 26 [.d (Dh t ps),.d (DC t bs),.d (Ba t os)]]) (n0:=ps.length) ⟨0,ad _,rfl,rfl,rfl,rfl⟩ ?_)
 rintro n Fr H ⟨k,hk,rfl,hf,rfl,rfl⟩
 by_cases hlt:k<ps.length
 case pos =>
  obtain ⟨p,hp⟩:∃ p,ps[k]?=some p:=⟨_,gE hlt⟩
  by_cases he:DW p=0
  case neg =>
   have h3:DW p=3:=by unfold DW at he ⊢;split at he;exact absurd rfl he;rename_i hn;rw [if_neg hn]
   rw [de1 hs (pe1 hp h3 (by decide) hf) (by decide)]
   unfold DW at he
   by_cases q1 : -2147483648≤p.lo
   case neg =>
    repeat' (with_reducible first|refine qq ?_|(refine Tx 4 ?_;refine gO xLt ?_)|refine ZP ?_|(refine Tx 7 ?_;refine gO (xMi underlying109) <| gO xA ?_))
    exact Fl
   by_cases q2:p.lo≤p.hi
   case neg =>
    repeat' (with_reducible first|refine qq ?_|(refine Tx 4 ?_;refine gO xLt ?_)|refine ZP ?_|(refine Tx 7 ?_;refine gO (xMi underlying109) <| gO xA ?_))
    exact Fl
   by_cases q3:p.hi<2147483648
   case neg =>
    repeat' (with_reducible first|refine qq ?_|(refine Tx 4 ?_;refine gO xLt ?_)|refine ZP ?_|(refine Tx 7 ?_;refine gO (xMi underlying109) <| gO xA ?_))
    exact Fl
   by_cases q4:0≤p.fr
   case neg =>
    repeat' (with_reducible first|refine qq ?_|(refine Tx 4 ?_;refine gO xLt ?_)|refine ZP ?_|(refine Tx 7 ?_;refine gO (xMi underlying109) <| gO xA ?_))
    exact Fl
   have q5:¬ p.fr≤30:=fun h=>he (if_pos ⟨q1,q2,q3,q4,h⟩)
   repeat' (with_reducible first|refine qq ?_|(refine Tx 4 ?_;refine gO xLt ?_)|refine ZP ?_|(refine Tx 7 ?_;refine gO (xMi underlying109) <| gO xA ?_))
   exact Fl
  have hq:=he
  unfold DW at hq
  by_cases hn : -2147483648≤p.lo∧p.lo≤p.hi∧p.hi<2147483648∧0≤p.fr∧p.fr≤30
  case neg =>
   rw [if_neg hn] at hq
   cases hq
  obtain ⟨q1,q2,q3,q4,q5⟩:=hn
  repeat' (with_reducible first|refine qq ?_|(refine Tx 4 ?_;refine gO xLt ?_)|refine ZP ?_|(refine Tx 8 ?_;refine gO xAd <| gO xM ?_))
  refine ⟨_,_,BE 1,_,by omega,k+1,by omega,rfl,fs1 hp he hf,rfl,rfl⟩
 obtain rfl:k=ps.length:=by omega
 have hP:=hf
 rw [aq (by rw [af];exact aa _)] at hP
 clear hlt hk hf
 repeat' (with_reducible first|refine qq ?_|(refine Tx 4 ?_;refine gO xLt ?_)|(refine Tx 9 ?_;refine gO xF <| gO xD <| gO xN <| gO xM ?_))
 refine Bi (BE 1) (Aq (fun n Fr H=>∃ k:Nat,k≤bs.length∧n=bs.length - k∧Ah ((bs.map (BQ ps.length bs.length)).take k)=0∧Fr=ofL [(1,vr 0),(64,vd (DC t bs)),(65,vi bs.length),(66,vi ((k:Nat)))]∧H=[.box 26 [.d (Dh t ps),.d (DC t bs),.d (Ba t os)]]) (n0:=bs.length) ⟨0,ad _,rfl,rfl,rfl,rfl⟩ ?_)
 rintro n Fr H ⟨k,hk,rfl,hf,rfl,rfl⟩
 by_cases hlt:k<bs.length
 case pos =>
  obtain ⟨y,hy⟩:∃ y,bs[k]?=some y:=⟨_,gE hlt⟩
  have BC:=ZO t hl y (hl.la y (gM hy))
  generalize he:BQ ps.length bs.length y=e at BC
  by_cases h0:e=0
  case neg =>
   rw [de1 hs (pe2 hP hy he h0 hf) h0]
   repeat' (with_reducible first|refine qq ?_|(refine Tx 10 ?_;refine gO xLt ?_)|(refine Tx 11 ?_;refine gO (xIr Aj (DK hy)) <| gO xL <| gN (xAl Bw) <| gZ (xSk Bm) ?_)|(refine Tx 12 ?_;refine gO xL <| gO xL <| gO (xCl func95 (BC)) <| gO xA ?_)|(refine Tx 13 ?_;refine gO xM <| gO Apv ?_)|(refine Tx 14 ?_;refine gO xM <| gO xA ?_))
   exact Ax rfl (.cons_ (Acf rfl rfl) .nil_)
  subst h0
  repeat' (with_reducible first|refine qq ?_|(refine Tx 10 ?_;refine gO xLt ?_)|(refine Tx 11 ?_;refine gO (xIr Aj (DK hy)) <| gO xL <| gN (xAl Bw) <| gZ (xSk Bm) ?_)|(refine Tx 12 ?_;refine gO xL <| gO xL <| gO (xCl func95 (BC)) <| gO xA ?_)|(refine Tx 13 ?_;refine gO xM <| gO (xNE Ap) ?_)|(refine Tx 15 ?_;refine gO xAd <| gO xM ?_))
  refine ⟨_,_,BE 1,_,by omega,k+1,by omega,rfl,fs1 hy he hf,rfl,rfl⟩
 obtain rfl:k=bs.length:=by omega
 have hB:=hf
 rw [aq (by rw [af];exact aa _)] at hB
 clear hlt hk hf
 repeat' (with_reducible first|refine qq ?_|(refine Tx 10 ?_;refine gO xLt ?_)|(refine Tx 16 ?_;refine gO xF <| gO xD <| gO xN <| gO xM ?_))
 refine Bi (BE 1) (Aq (fun n Fr H=>∃ k:Nat,k≤os.length∧n=os.length - k∧Ah ((os.map (NC bs.length)).take k)=0∧Fr=ofL [(1,vr 0),(78,vd (Ba t os)),(79,vi os.length),(80,vi ((k:Nat)))]∧H=[.box 26 [.d (Dh t ps),.d (DC t bs),.d (Ba t os)]]) (n0:=os.length) ⟨0,ad _,rfl,rfl,rfl,rfl⟩ ?_)
 rintro n Fr H ⟨k,hk,rfl,hf,rfl,rfl⟩
 by_cases hlt:k<os.length
 case pos =>
  obtain ⟨z,hz⟩:∃ z,os[k]?=some z:=⟨_,gE hlt⟩
  by_cases hb:0≤z∧z<(bs.length:Int)
  case neg =>
   rw [de1 hs (pe3 hP hB hz (if_neg hb) (by decide) hf) (by decide)]
   by_cases hz0:z<0
   case pos =>
    repeat' (with_reducible first|refine qq ?_|(refine Tx 17 ?_;refine gO xLt ?_)|refine AlH ?_|(refine Tx 20 ?_;refine gO (xMi underlying109) <| gO xA ?_))
    exact Fl
   repeat' (with_reducible first|refine qq ?_|(refine Tx 17 ?_;refine gO xLt ?_)|refine AlH ?_|(refine Tx 20 ?_;refine gO (xMi underlying109) <| gO xA ?_))
   exact Fl
  have hb2:=hb
  obtain ⟨z0,z1⟩:=hb2
  repeat' (with_reducible first|refine qq ?_|(refine Tx 17 ?_;refine gO xLt ?_)|refine AlH ?_|(refine Tx 21 ?_;refine gO xAd <| gO xM ?_))
  refine ⟨_,_,BE 1,_,by omega,k+1,by omega,rfl,fs1 hz (if_pos hb) hf,rfl,rfl⟩
 obtain rfl:k=os.length:=by omega
 have hO:=hf
 rw [aq (by rw [af];exact aa _)] at hO
 clear hlt hk hf
 have hpe:=pe4 hP hB hO
 rw [de2 hs hpe]
 have OR:=Rm t hl (VN hB)
 repeat' (with_reducible first|refine qq ?_|(refine Tx 17 ?_;refine gO xLt ?_)|(refine Tx 22 ?_;refine gO xL <| gO (xCl func96 (OR)) <| gO xMt <| gO xEx <| gO xEx <| gO xA <| gO xA ?_)|(refine Tx 23 ?_;refine gO xM <| gO xA ?_))
 exact Ax rfl (.cons_ (Acf rfl rfl) .nil_)
theorem Apw (h:p:=by
 rw [if_neg h0]
 repeat' (with_reducible first|refine qq ?_|(refine Tx 0 ?_;refine gN xBo <| gO xA <| gO xA ?_)|(refine Tx 1 ?_;refine gO xL <| gO (xCl func35 (CK)) <| gO xA ?_)|(refine Tx 2 ?_;refine gO xM <| gO Apv ?_)|(refine Tx 3 ?_;refine gO xM <| gO xA <| gO xA ?_))
 exact Ax rfl (.cons_ (.tmp (.one (Fx rfl rfl))) (.cons_ (Acf rfl rfl) .nil_))):p:=h
theorem Yc (t:Bool) {ps:List Prt} {bs:List Bk} {os:List Int} (hl:FK ps bs os):CV prog An 60 [aDg t ps bs os] [.one (Ba false (if Bl ps bs os=0 then BK (BH bs) else [])),aE (Bl ps bs os)]:=by
 refine cvz func60 ntmps60 ?_
 have CK:=PL t hl
 by_cases h0:Bl ps bs os=0
 case neg =>
  exact Apw
 have OR:=Rm t hl (Aky h0)
 have ho:EZ bs=0:=(LS h0).2.2
 unfold AmW at OR
 rw [ho,if_pos rfl] at OR
 rw [if_pos h0]
 rw [h0] at CK
 rw [h0]
 repeat' (with_reducible first|refine qq ?_|(refine Tx 0 ?_;refine gN xBo <| gO xA <| gO xA ?_)|(refine Tx 1 ?_;refine gO xL <| gO (xCl func35 (CK)) <| gO xA ?_)|(refine Tx 2 ?_;refine gO xM <| gO (xNE Ap) ?_)|(refine Tx 4 ?_;refine gO xL <| gO (xCl func96 (OR)) <| gO xEx <| gO xEx <| gO xA <| gO xA ?_))
 exact Ax rfl (.cons_ (.tmp (.one (CA rfl fun _=>XO _))) (.cons_ (Il rfl rfl) .nil_))
theorem AgQ (h:p:=by
 refine ⟨_,_,Qu _ 2 ?_ ?_ ?_,_,by omega,k+1,by omega,rfl,rfl,rfl⟩
 ·rfl
 ·exact mB rfl rfl
 ·exact ⟨Dl rfl,TU,trivial⟩):p:=h
theorem Ux (t:Bool) {ps:List Prt} {bs:List Bk} {os:List Int} (hl:FK ps bs os):CV prog An 19 [aDg t ps bs os] [.one (Ba false (if Bl ps bs os=0 then BK (Bx bs) else [])),aE (Bl ps bs os)]:=by
 refine cvz func19 ntmps19 ?_
 have hl2:=hl.l2
 have hall:Bx bs=fl (CH bs) bs.length:=rfl
 have CK:=PL t hl
 by_cases h0:Bl ps bs os=0
 case neg =>
  exact Apw
 rw [if_pos h0]
 rw [h0] at CK
 rw [h0]
 repeat' (with_reducible first|refine qq ?_|(refine Tx 0 ?_;refine gN xBo <| gO xA <| gO xA ?_)|(refine Tx 1 ?_;refine gO xL <| gO (xCl func35 (CK)) <| gO xA ?_)|(refine Tx 2 ?_;refine gO xM <| gO (xNE Ap) ?_)|(refine Tx 4 ?_;refine gO xA ?_))
 refine Bi (LM 5 3 1 rfl) ?_
 repeat' (with_reducible first|refine qq ?_|(refine Tx 5 ?_;refine gO xF <| gO xD <| gO xN <| gO xM ?_))
 refine Bi (BE 2) (Aq (fun n Fr H=>∃ k:Nat,k≤bs.length∧n=bs.length - k∧Fr=ofL [(1,vr 0),(5,vo 1 ((BK (fl (CH bs) k)).length)),(14,vd (DC t bs)),(15,vi bs.length),(16,vi ((k:Nat)))]∧H=[.box 26 [.d (Dh t ps),.d (DC t bs),.d (Ba t os)],.row 3 1 (BK (fl (CH bs) (k))).length (cI (BK (fl (CH bs) (k))))]) (n0:=bs.length) ⟨0,ad _,rfl,rfl,rfl⟩ ?_)
 rintro n Fr H ⟨k,hk,rfl,rfl,rfl⟩
 by_cases hlt:k<bs.length
 case pos =>
  obtain ⟨y,hy⟩:∃ y,bs[k]?=some y:=⟨_,gE hlt⟩
  have hfl:=Akw (CH bs) k
  have hnl:=CR (fl (CH bs) k)
  by_cases k2:y.kind=2
  case pos =>
   have hd:CH bs k=true:=by unfold CH;rw [EY hy,k2];rfl
   have hap:(BK (fl (CH bs) (k)))++[(k:Int)]=(BK (fl (CH bs) (k+1))):=by rw [AbU hd,Hy]
   have hap2:(BK (fl (CH bs) (k))).length+1=(BK (fl (CH bs) (k+1))).length:=by rw [←hap,ak];rfl
   repeat' (with_reducible first|refine qq ?_|(refine Tx 6 ?_;refine gO xLt ?_)|(refine Tx 7 ?_;refine gO xM <| gO (xIr Aj (DK hy)) <| gO xL <| gN (xAl Bw) <| gO xA <| gZ (xSk Bm) ?_)|(refine Tx 8 ?_;refine gO xF <| gO xD <| gO xEq ?_)|(refine Tx 9 ?_;refine gO xM <| gO xM <| gN (by exact Bj rfl Af Bz rfl rfl (by decide) (by decide)) <| gT (by exact LP rfl rfl rfl rfl rfl rfl Af Bz (by omega) (by decide) hap hap2) <| gO xA ?_)|(refine Tx 10 ?_;refine gO xAd <| gO xM ?_))
   exact AgQ
  have hd:CH bs k=false:=by unfold CH;rw [EY hy];exact DQ k2
  have hno:(BK (fl (CH bs) (k+1)))=(BK (fl (CH bs) (k))):=by rw [Akv hd]
  repeat' (with_reducible first|refine qq ?_|(refine Tx 6 ?_;refine gO xLt ?_)|(refine Tx 7 ?_;refine gO xM <| gO (xIr Aj (DK hy)) <| gO xL <| gN (xAl Bw) <| gO xA <| gZ (xSk Bm) ?_)|(refine Tx 8 ?_;refine gO xF <| gO xD <| gO xEq ?_)|(refine Tx 10 ?_;refine gO xAd <| gO xM ?_))
  rw [←hno]
  exact AgQ
 obtain rfl:k=bs.length:=by omega
 rw [hall]
 repeat' (with_reducible first|refine qq ?_|(refine Tx 6 ?_;refine gO xLt ?_)|(refine Tx 11 ?_;refine gO xM <| gO xA <| gO xA ?_))
 exact Ax rfl (.cons_ (Ya rfl rfl rfl) (.cons_ (Il rfl rfl) .nil_))
theorem SF {l:List Nat} (h:l[t]?=some j):(BK l)[t]?=some (j:Int):=by simp [BK,h]
def okQ {α:Type} (e:Int) (l:List α):List α:=if e=0 then l else []
theorem Lo {α:Type} (h:e≠0) (l:List α):okQ e l=[]:=if_neg h
theorem ZQ {α:Type} (h:e=0) (l:List α):okQ e l=l:=if_pos h
def AlI (l:List (Int × Nat)):A:=.one (.row false 3 l.length (AN dyP l))
def rvP (r:Rv):Int × Nat:=(r.rw.x,r.rw.d)
def Yd (rs:List Rv):D:=.row false 3 rs.length (AN (dRv false) rs)
theorem Uy {rs:List Rv} {k:Nat} {r:Rv} (h:rs[k]?=some r):((AN (dRv false) rs).drop (k*3)).take 3=dRv false r:=Fv (f:=dRv false) (s:=3) (fun _=>rfl) h
def stE (ps:List Prt) (bs:List Bk) (os:List Int) (rs:List Rv) (ins:List Int):Int :=
 if Bl ps bs os≠0 then Bl ps bs os else if rs.length≠(Bx bs).length then 11 else if rs.all (fun r=>vdB r.rw)=false then 2
 else if ins.length≠ps.length then 11 else if Ut ps ins=false then 3 else if DD ps bs (rs.map rvP) ins=true then 4 else 0
section
variable {ps:List Prt} {bs:List Bk} {os:List Int} {rs:List Rv} {ins:List Int}
theorem stE1 (h:Bl ps bs os≠0):stE ps bs os rs ins=Bl ps bs os:=by unfold stE;rw [if_pos h]
theorem stE2 (h:Bl ps bs os=0) (h2:rs.length≠(Bx bs).length):stE ps bs os rs ins=11:=by unfold stE;rw [if_neg (not_not_intro h),if_pos h2]
theorem stE3 (h:Bl ps bs os=0) (h2:rs.length=(Bx bs).length) (h3:rs.all (fun r=>vdB r.rw)=false):stE ps bs os rs ins=2:=by unfold stE;rw [if_neg (not_not_intro h),if_neg (not_not_intro h2),if_pos h3]
theorem stE4 (h:Bl ps bs os=0) (h2:rs.length=(Bx bs).length) (h3:¬ rs.all (fun r=>vdB r.rw)=false) (h4:ins.length≠ps.length):stE ps bs os rs ins=11:=by unfold stE;rw [if_neg (not_not_intro h),if_neg (not_not_intro h2),if_neg h3,if_pos h4]
theorem stE5 (h:Bl ps bs os=0) (h2:rs.length=(Bx bs).length) (h3:¬ rs.all (fun r=>vdB r.rw)=false) (h4:ins.length=ps.length) (h5:Ut ps ins=false):stE ps bs os rs ins=3:=by unfold stE;rw [if_neg (not_not_intro h),if_neg (not_not_intro h2),if_neg h3,if_neg (not_not_intro h4),if_pos h5]
theorem stE6 (h:Bl ps bs os=0) (h2:rs.length=(Bx bs).length) (h3:¬ rs.all (fun r=>vdB r.rw)=false) (h4:ins.length=ps.length) (h5:¬ Ut ps ins=false):stE ps bs os rs ins=if DD ps bs (rs.map rvP) ins=true then 4 else 0:=by unfold stE;rw [if_neg (not_not_intro h),if_neg (not_not_intro h2),if_neg h3,if_neg (not_not_intro h4),if_neg h5]
end
theorem PM {α:Type} {p:α→Prop} {l:List α} {k:Nat} {x:α} (h:∀ q∈l.take k,p q) (hx:l[k]?=some x) (hp:p x):∀ q∈l.take (k+1),p q:=fun q hq=>by
 rw [aw,hx] at hq
 rcases List.mem_append.1 hq with hq|hq
 ·exact h q hq
 ·simp only [fe,bo,bp,or_false] at hq
  rw [hq];exact hp
theorem Wp {p:Nat→Prop} {k:Nat} (h:∀ i,i<k→p i) (hk:p k):∀ i,i<k+1→p i:=fun i hi=>by
 by_cases hik:i=k
 ·rw [hik];exact hk
 ·exact h i (by omega)
theorem AlJ {rs:List Rv} {k:Nat} {r:Rv} (h:rs[k]?=some r) (hv:vdB r.rw=false):rs.all (fun r=>vdB r.rw)=false:=by
 rw [List.all_eq_false]
 exact ⟨r,gM h,by rw [hv];decide⟩
theorem Ade {k:Nat} {p:Prt} {z:Int} (hp:ps[k]?=some p) (hz:ins[k]?=some z) (h:z<p.lo∨p.hi<z):Ut ps ins=false:=by
 unfold Ut
 rw [List.all_eq_false]
 refine ⟨k,List.mem_range.2 (gS.1 hz).1,?_⟩
 unfold AmX
 rw [hp,hz]
 simp only [decide_eq_true_eq]
 omega
theorem AlK {k:Nat} {p:Int × Nat} (h:st[k]?=some p) (hl:CI p=true):DD ps bs st ins=true:=by
 unfold DD
 rw [gc]
 exact .inl (List.any_eq_true.2 ⟨p,gM h,hl⟩)
theorem AlL (h:t<(BH bs).length) (hl:CI (Us ps bs st ins t)=true):DD ps bs st ins=true:=by
 unfold DD
 rw [gc]
 exact .inr (List.any_eq_true.2 ⟨t,List.mem_range.2 h,hl⟩)
theorem AlM (h1:∀ p∈st,CI p=false) (h2:∀ t,t<(BH bs).length→CI (Us ps bs st ins t)=false):DD ps bs st ins=false:=by
 unfold DD
 rw [ke]
 exact ⟨List.any_eq_false.2 fun p hp=>by rw [h1 p hp];decide,List.any_eq_false.2 fun t ht=>by rw [h2 t (List.mem_range.1 ht)];decide⟩
theorem Adf (hn:∀ p∈st,Nf p.1 p.2∧CI p=false) (hl:st.length=(Bx bs).length):Has (Wi (Bx bs) st (List.replicate bs.length none)) (Afs bs 0):=by
 have key:∀ t,t≤(Bx bs).length→Has (Wi ((Bx bs).take t) (st.take t) (List.replicate bs.length none)) (fun i=>i∈(Bx bs).take t):=fun t=>by
  induction t with
  | zero=>intro _;exact ⟨fun i hi=>by simp at hi⟩
  | succ t ih =>
   intro ht
   obtain ⟨j,hj⟩:∃ j,(Bx bs)[t]?=some j:=⟨_,gE (by omega)⟩
   obtain ⟨p,hp⟩:∃ p,st[t]?=some p:=⟨_,gE (by omega)⟩
   obtain ⟨h1,h2⟩:=hn p (gM hp)
   rw [PJ _ hj hp]
   refine (ih (by omega)).set (by rw [Mq,fa];have:=gM hj;unfold Bx at this;rw [List.mem_filter,jy] at this;exact this.1) (ZH h1 h2) fun i hi=>?_
   rw [aw,hj] at hi
   simpa using hi
 have h:=key (Bx bs).length (aa _)
 rw [ay,aq (by omega)] at h
 refine ⟨fun i hi=>h.at_ i ?_⟩
 rcases hi with ⟨h1,h2⟩|h1
 ·unfold Bx
  rw [List.mem_filter,jy,h2]
  exact ⟨h1,rfl⟩
 ·simp at h1
theorem Ye (h:Has (Ln ps bs st ins t) (Afs bs t)) (hj:(BH bs)[t]?=some j) (hsm:Sm (Us ps bs st ins t) LB LB):Has (Ln ps bs st ins (t+1)) (Afs bs (t+1)):=by
 rw [Mr hj]
 refine h.set (by rw [HW];exact (Rh hj).1) hsm fun i hi=>?_
 rcases hi with h1|h1
 ·exact .inl (.inl h1)
 ·rw [aw,hj] at h1
  rcases List.mem_append.1 h1 with h1|h1
  ·exact .inl (.inr h1)
  ·exact .inr (by simpa using h1)
theorem NI {k:Nat} (h:(Bx bs)[k]?=some i):i<bs.length∧AG bs i=2:=by
 have:=gM h
 unfold Bx at this
 rw [List.mem_filter,jy] at this
 exact ⟨this.1,by simpa using this.2⟩
theorem Adg (he:Bl ps bs os=0) {st:List (Int × Nat)} {ins:List Int} (h:Has (Ln ps bs st ins (BH bs).length) (Afs bs (BH bs).length)) {i:Nat} (hi:i<bs.length):∃ p,(Ln ps bs st ins (BH bs).length)[i]?=some (some p)∧Sm p LB LB:=by
 refine h.at_ i ?_
 by_cases hk:AG bs i=2
 ·exact .inl ⟨hi,hk⟩
 ·refine .inr ?_
  rw [ay]
  exact VU (LS he).2.2 hi hk
theorem Adh (w:World) (S:Du):Bh w S (.row false 3 0 []) (.slice none 0 0):=.row [] (aa _) (fun _=>rfl) rfl rfl (fun h=>absurd rfl h) (fun j u x h=>by simp at h)
theorem AlN (h:Bl ps bs os=0) {i:Nat} {y:Bk} (hy:bs[i]?=some y) (hk:y.kind=2):∃ b:Nat,y.args[0]?=some (b:Int)∧b<bs.length:=by
 have hA:=Cl h hy
 have h1:=hA.2.1
 rw [hk] at h1
 have hl1:y.args.length=1:=by unfold AO at h1;(repeat' split at h1) <;> omega
 obtain ⟨a,ha⟩:∃ a,y.args[0]?=some a:=⟨_,gE (by omega)⟩
 have hb:=hA.2.2 a (gM ha)
 rw [show Cn ps.length bs.length y.kind=bs.length from if_neg (by omega)] at hb
 exact ⟨a.toNat,by rw [ha];congr 1;omega,by omega⟩
theorem AlO {b:Nat} {y:Bk} (hy:bs[i]?=some y) (ha:y.args[0]?=some (b:Int)):AlB bs i=b:=by
 unfold AlB
 rw [hy,bu,ci,ha]
 rfl
theorem Nk (h:p:=by first|exact xS1 Ar|exact xSk Ar):p:=h
theorem ZR (h:p:=by first|exact xS1 Fp|exact xSk Fp):p:=h
theorem Apx (h:p:=by
 rw [hE,Lo (by decide),Lo (by decide)]
 repeat' (with_reducible first|apply FN|refine qq ?_|(refine Tx 15 ?_;refine gO xLt ?_)|(refine Tx 16 ?_;refine gO xM <| gO (xIr Af (AF hz)) <| gO xD <| gO xA <| gO xA ?_)|(refine Tx 17 ?_;refine gO xM <| gO xF <| gO xD <| gO xM <| gO (xIr Bv (Fy hp)) <| gO xF <| gO xD <| gO xLt <| gO xM ?_;(first|iterate 8 refine Jd ?_|(refine Jy xM1 ?_;refine Jy (xFa Lg DB) ?_;refine Jy (xLd DB) ?_;refine Jy xM1 ?_;refine Jy (xIr Bv (Fy hp)) ?_;refine Jy (xFa Ft Ak) ?_;refine Jy (xLd Ak) ?_;refine Jy xGt ?_));refine gO xPk ?_)|(refine Tx 18 ?_;refine gO (xMi underlying109) <| gZ Nk <| gZ Nk <| gZ ZR ?_))
 exact Ax rfl (.cons_ (rvB Ar (Fx rfl rfl)) (.cons_ (rvB Ar (Fx rfl rfl)) (.cons_ (rvB Fp (CA rfl fun _=>.val _)) .nil_)))):p:=h
theorem AgR (h:p:=by
 exact Ax rfl (.cons_ (rvB Ar (Fx rfl rfl)) (.cons_ (rvB Ar (Fx rfl rfl)) (.cons_ (rvB Fp (CA rfl fun _=>.val _)) .nil_)))):p:=h
theorem Apy (h:p:=by first|exact xIr Af (AF (SF hi))|exact xIr Af (hra)|exact xIo (i:=i) Af):p:=h
theorem Apz (h:p:=by first|exact xIr Af (AF (SF hj))|exact xIo (i:=j) Af):p:=h
theorem ApA (h:p:=by first|exact Apd rfl rfl rfl rfl Ae tl stV|exact xSk Ae):p:=h
theorem ApB (h:p:=by first|exact xIr Aj (DK hy)|exact xIo (i:=j) Aj):p:=h
theorem AgS (h:p:=by first|exact xIr Ai (hra)|exact xIo (i:=i) Ai):p:=h
theorem AgT (t v:Bool) {ps:List Prt} {bs:List Bk} {os:List Int} (hl:FK ps bs os) (rs:List Rv) (hw:∀ r∈rs,Ao r.ws∧r.ws.length≤1000) (hrl:rs.length≤1000000) (ins:List Int) (hil:ins.length≤1000000):CV prog An 54 [aDg t ps bs os,.one (Yd rs),.one (Ba v ins)] [AlI (okQ (stE ps bs os rs ins) (Fk ps bs (rs.map rvP) ins)),AlI (okQ (stE ps bs os rs ins) (Qn ps bs (rs.map rvP) ins)),aE (stE ps bs os rs ins)]:=by
 refine AoW Uf func54 rfl ntmps54 (bf rfl) (fc:=131) func131 (by kernel_rfl) rfl (i1:=1) (i2:=2) (i3:=3) (t1:=6) (t2:=7) (t3:=8) (chain:=tlC) (d1:=.row false 3 0 []) (d2:=.row false 3 0 []) (d3:=.val (IV 4)) (r1:=.slice none 0 0) (r2:=.slice none 0 0) (r3:=.iface 109 (.int .i64 4)) results54 underlying28 underlying28 underlying36 rfl rfl rfl (by decide) (fun w g1 g2 g3=>(AcJ g1 g2 g3 w).mono fun e u' w' h=>⟨⟨_,h.1⟩,h.2.1,h.2.2 ▸ ab _ _⟩) (fun b0 w g1 g2 g3 v1 v2 v3 a1 a2 a3 a4 a5 a6 a7 a8 a9 b1=>AcK b0 w g1 g2 g3 v1 v2 v3 a1 a2 a3 a4 a5 a6 a7 a8 a9 b1) (fun w S=>Adh w S) (fun w S=>Adh w S) (fun w S=>.val rfl) ?_
 have DL:=(Ux t hl (ps:=ps) (bs:=bs) (os:=os)).cv
 have OL:=(Yc t hl (ps:=ps) (bs:=bs) (os:=os)).cv
 have hnl:=CR (Bx bs)
 have hol:=CR (BH bs)
 have hl1:=hl.l1
 have hl2:=hl.l2
 have hl3:=hl.l3
 have hob:=AcP (bs:=bs)
 by_cases h0:Bl ps bs os=0
 case neg =>
  rw [if_neg h0] at DL
  have hE:=stE1 (rs:=rs) (ins:=ins) h0
  rw [hE,Lo h0,Lo h0]
  repeat' (with_reducible first|apply FN|refine qq ?_|(refine Tx 0 ?_;refine gN xBo <| gN (xAl DT) <| gN (xAl DT) <| gN (xAl RZ) ?_)|(refine Tx 1 ?_;refine gO xL <| gO (xCl func19 (DL)) <| gO xMt <| gO xEx <| gO xEx <| gO xA <| gO xA ?_)|(refine Tx 2 ?_;refine gO xM <| gO (xNE Ap) ?_)|(refine Tx 3 ?_;refine gO xM <| gZ Nk <| gZ Nk <| gZ ZR ?_))
  exact AgR
 rw [if_pos h0,h0] at DL
 rw [if_pos h0,h0] at OL
 by_cases hL:rs.length=(Bx bs).length
 case neg =>
  have hE:=stE2 (os:=os) (ins:=ins) h0 hL
  rw [hE,Lo (by decide),Lo (by decide)]
  repeat' (with_reducible first|apply FN|refine qq ?_|(refine Tx 0 ?_;refine gN xBo <| gN (xAl DT) <| gN (xAl DT) <| gN (xAl RZ) ?_)|(refine Tx 1 ?_;refine gO xL <| gO (xCl func19 (DL)) <| gO xMt <| gO xEx <| gO xEx <| gO xA <| gO xA ?_)|(refine Tx 2 ?_;refine gO xM <| gO (xNE Ap) ?_)|(refine Tx 4 ?_;refine gO xM <| gO xN <| gO xM <| gO xN <| gO xNe ?_)|(refine Tx 5 ?_;refine gO (xMi underlying109) <| gZ Nk <| gZ Nk <| gZ ZR ?_))
  exact AgR
 repeat' (with_reducible first|apply FN|refine qq ?_|(refine Tx 0 ?_;refine gN xBo <| gN (xAl DT) <| gN (xAl DT) <| gN (xAl RZ) ?_)|(refine Tx 1 ?_;refine gO xL <| gO (xCl func19 (DL)) <| gO xMt <| gO xEx <| gO xEx <| gO xA <| gO xA ?_)|(refine Tx 2 ?_;refine gO xM <| gO (xNE Ap) ?_)|(refine Tx 4 ?_;refine gO xM <| gO xN <| gO xM <| gO xN <| gO xNe ?_)|(refine Tx 6 ?_;refine gO xM <| gO xN <| gO xM ?_))
 refine Bi (BE 4) (Aq (fun n Fr H=>∃ k:Nat,k≤rs.length∧n=rs.length - k∧(∀ r∈rs.take k,vdB r.rw=true)∧Fr=ofL [(1,vd (Yd rs)),(2,vd (Ba v ins)),(3,vr 0),(6,vr 1),(7,vr 2),(8,vr 3),(9,vd (Ba false (BK (Bx bs)))),(36,vd (Yd rs)),(37,vi rs.length),(38,vi ((k:Nat)))]∧H=[.box 26 [.d (Dh t ps),.d (DC t bs),.d (Ba t os)],.box 28 [.d (.val (.slice none 0 0))],.box 28 [.d (.val (.slice none 0 0))],.box 36 [.d (.val .nilIface)]]) (n0:=rs.length) ⟨0,ad _,rfl,(fun r hr=>by simp at hr),rfl,rfl⟩ ?_)
 rintro n Fr H ⟨k,hk,rfl,hv,rfl,rfl⟩
 by_cases hlt:k<rs.length
 case pos =>
  obtain ⟨r,hr⟩:∃ r,rs[k]?=some r:=⟨_,gE hlt⟩
  have hrm:=hw r (gM hr)
  have VA:=Md (G:=An) false r hrm.1 (by omega)
  cases hb:vdB r.rw
  case false =>
   rw [hb] at VA
   have hE:=stE3 (os:=os) (ins:=ins) h0 hL (AlJ hr hb)
   rw [hE,Lo (by decide),Lo (by decide)]
   repeat' (with_reducible first|apply FN|refine qq ?_|(refine Tx 7 ?_;refine gO xLt ?_)|(refine Tx 8 ?_;refine gO (xIr Ai (Uy hr)) <| gO xL <| gN (xAl Av) <| gZ (xSk Ae) ?_)|(refine Tx 9 ?_;refine gO xL <| gO (xCl func123 (VA.cv)) <| gO Uw ?_)|(refine Tx 10 ?_;refine gO (xMi underlying109) <| gZ Nk <| gZ Nk <| gZ ZR ?_))
   exact AgR
  case true =>
   rw [hb] at VA
   repeat' (with_reducible first|apply FN|refine qq ?_|(refine Tx 7 ?_;refine gO xLt ?_)|(refine Tx 8 ?_;refine gO (xIr Ai (Uy hr)) <| gO xL <| gN (xAl Av) <| gZ (xSk Ae) ?_)|(refine Tx 9 ?_;refine gO xL <| gO (xCl func123 (VA.cv)) <| gO Uw ?_)|(refine Tx 11 ?_;refine gO xAd <| gO xM ?_))
   refine ⟨_,_,BE 4,_,by omega,k+1,by omega,rfl,PM hv hr hb,rfl,rfl⟩
 obtain rfl:k=rs.length:=by omega
 rw [ay] at hv
 clear hlt hk
 have hva:¬ rs.all (fun r=>vdB r.rw)=false:=by rw [mc];exact List.all_eq_true.2 hv
 by_cases hI:ins.length=ps.length
 case neg =>
  have hE:=stE4 (os:=os) h0 hL hva hI
  rw [hE,Lo (by decide),Lo (by decide)]
  repeat' (with_reducible first|apply FN|refine qq ?_|(refine Tx 7 ?_;refine gO xLt ?_)|(refine Tx 12 ?_;refine gO xM <| gO xN <| gO xF <| gO xD <| gO xN <| gO xNe ?_)|(refine Tx 13 ?_;refine gO (xMi underlying109) <| gZ Nk <| gZ Nk <| gZ ZR ?_))
  exact AgR
 repeat' (with_reducible first|apply FN|refine qq ?_|(refine Tx 7 ?_;refine gO xLt ?_)|(refine Tx 12 ?_;refine gO xM <| gO xN <| gO xF <| gO xD <| gO xN <| gO xNe ?_)|(refine Tx 14 ?_;refine gO xM <| gO xN <| gO xM ?_))
 refine Bi (BE 4) (Aq (fun n Fr H=>∃ k:Nat,k≤ins.length∧n=ins.length - k∧(∀ i,i<k→AmX ps ins i=true)∧Fr=ofL [(1,vd (Yd rs)),(2,vd (Ba v ins)),(3,vr 0),(6,vr 1),(7,vr 2),(8,vr 3),(9,vd (Ba false (BK (Bx bs)))),(54,vd (Ba v ins)),(55,vi ins.length),(56,vi ((k:Nat)))]∧H=[.box 26 [.d (Dh t ps),.d (DC t bs),.d (Ba t os)],.box 28 [.d (.val (.slice none 0 0))],.box 28 [.d (.val (.slice none 0 0))],.box 36 [.d (.val .nilIface)]]) (n0:=ins.length) ⟨0,ad _,rfl,(fun i hi=>absurd hi (fk i)),rfl,rfl⟩ ?_)
 rintro n Fr H ⟨k,hk,rfl,hr,rfl,rfl⟩
 by_cases hlt:k<ins.length
 case pos =>
  obtain ⟨z,hz⟩:∃ z,ins[k]?=some z:=⟨_,gE hlt⟩
  obtain ⟨p,hp⟩:∃ p,ps[k]?=some p:=⟨_,gE (by omega)⟩
  by_cases cl:z<p.lo
  case pos =>
   have hE:=stE5 (os:=os) h0 hL hva hI (Ade hp hz (.inl cl))
   exact Apx
  by_cases ch:p.hi<z
  case pos =>
   have hE:=stE5 (os:=os) h0 hL hva hI (Ade hp hz (.inr ch))
   exact Apx
  repeat' (with_reducible first|apply FN|refine qq ?_|(refine Tx 15 ?_;refine gO xLt ?_)|(refine Tx 16 ?_;refine gO xM <| gO (xIr Af (AF hz)) <| gO xD <| gO xA <| gO xA ?_)|(refine Tx 17 ?_;refine gO xM <| gO xF <| gO xD <| gO xM <| gO (xIr Bv (Fy hp)) <| gO xF <| gO xD <| gO xLt <| gO xM ?_;(first|iterate 8 refine Jd ?_|(refine Jy xM1 ?_;refine Jy (xFa Lg DB) ?_;refine Jy (xLd DB) ?_;refine Jy xM1 ?_;refine Jy (xIr Bv (Fy hp)) ?_;refine Jy (xFa Ft Ak) ?_;refine Jy (xLd Ak) ?_;refine Jy xGt ?_));refine gO xPk ?_)|(refine Tx 19 ?_;refine gO xAd <| gO xM ?_))
  refine ⟨_,_,BE 4,_,by omega,k+1,by omega,rfl,Wp hr (by unfold AmX;rw [hp,hz];exact decide_eq_true (by omega)),rfl,rfl⟩
 obtain rfl:k=ins.length:=by omega
 clear hlt hk
 have hin:Ut ps ins=true:=List.all_eq_true.2 fun i hi=>hr i (List.mem_range.1 hi)
 clear hr
 have hino:¬ Ut ps ins=false:=by rw [hin];decide
 have hE:=stE6 (os:=os) h0 hL hva hI hino
 repeat' (with_reducible first|refine AcI ?_|apply FN|refine qq ?_|(refine Tx 15 ?_;refine gO xLt ?_)|(refine Tx 20 ?_;refine gO xL <| gO (xCl func60 (OL)) <| gO xMt <| gO xEx <| gO xEx <| gO xA <| gO xA ?_)|(refine Tx 21 ?_;refine gO xM <| gO (xNE Ap) ?_))
 intro g1 g2 g3
 have hnf:∀ p∈rs.map rvP,Nf p.1 p.2∧(Ad p.1.natAbs).length≤1000:=fun p hp=>by
  obtain ⟨r,hr,rfl⟩:=List.mem_map.1 hp
  have h1:=Sv (t:=false) (hw r hr).1 (hv r hr)
  exact ⟨h1.2.1,lT (gf h1.2.2) (hw r hr).2⟩
 have hsl:(rs.map rvP).length=(Bx bs).length:=by rw [af];exact hL
 repeat' (with_reducible first|refine qq ?_|(refine Tx 24 ?_;refine gO xF <| gO xD <| gO xN <| gN (by first|exact AgH (n:=bs.length) rfl rfl rfl Ai Av (by omega) (by decide)|exact BP rfl rfl rfl Ai Av (by omega) (by decide)) <| gZ Nk ?_)|(refine Tx 25 ?_;refine gO xM <| gO xN <| gO xM ?_))
 refine Bi (BE 5 (h:=by rw [←hnl];exact mB rfl rfl)) (Aq (fun n Fr H=>∃ k:Nat,k≤(Bx bs).length∧n=(Bx bs).length - k∧(∀ p∈(rs.map rvP).take k,CI p=false)∧Fr=ofL [(1,vd (Yd rs)),(2,vd (Ba v ins)),(3,vr 0),(6,vr 1),(7,vr 2),(8,vr 3),(9,vd (Ba false (BK (Bx bs)))),(15,vd (Ba false (BK (BH bs)))),(155,Alt 1 2 3 g1 g2 g3),(94,vd (Ba false (BK (Bx bs)))),(95,vi ((Bx bs).length)),(96,vi ((k:Nat)))]∧H=[.box 26 [.d (Dh t ps),.d (DC t bs),.d (Ba t os)],.box 28 [.d (.val (.slice none 0 0))],.box 28 [.own 4 bs.length],.box 36 [.d (.val .nilIface)],.row 43 3 bs.length (cVs (Wi ((Bx bs).take (k)) ((rs.map rvP).take (k)) (List.replicate bs.length none)))]) (n0:=(Bx bs).length) ⟨0,ad _,rfl,(fun r hr=>by simp at hr),rfl,rfl⟩ ?_)
 rintro n Fr H ⟨k,hk,rfl,hnl2,rfl,rfl⟩
 by_cases hlt:k<(Bx bs).length
 case pos =>
  obtain ⟨i,hi⟩:∃ i,(Bx bs)[k]?=some i:=⟨_,gE hlt⟩
  obtain ⟨r,hr⟩:∃ r,rs[k]?=some r:=⟨_,gE (by omega)⟩
  have hrm:=gM hr
  have hdy:=Sv (t:=false) (hw r hrm).1 (hv r hrm)
  have hst:(rs.map rvP)[k]?=some (rvP r):=by rw [ag,hr];rfl
  have hra:=Uy hr
  rw [hdy.1] at hra
  have lp:(Ad (rvP r).1.natAbs).length≤40000:=lT (gf hdy.2.2) (by have:=(hw r hrm).2;omega)
  have hil2:=(NI hi).1
  have hn2:Nf (rvP r).1 (rvP r).2:=hdy.2.1
  have hra:((AN (dRv false) rs).drop (k*3)).take 3=dDy false (rvP r).1 (rvP r).2:=hra
  generalize rvP r=p at *
  by_cases hlg:CI p=true
  case pos =>
   have PB:=Ri p hn2 lp hlg
   rw [AlK hst hlg,if_pos rfl] at hE
   rw [hE,Lo (by decide),Lo (by decide)]
   repeat' (with_reducible first|(refine AcH (id:=28) (chain:=tlC) 6 AX (by kernel_rfl) ?_ ?_;refine Po (xLd Ar) ?_;refine Po xM1 ?_;refine Po xM1 ?_;refine Po xM1 ?_;refine Po AgS ?_;refine Po (xLa Ae) ?_;refine Pp (xPn func132 PB) ?_;refine Pd ?_;(first|refine Pd ?_|refine Po AgS ?_);refine Pd ?_;exact Pe;with_unfolding_all exact And.intro (by with_unfolding_all exact rfl) (Or.inr (And.intro rfl (And.intro ⟨rfl,rfl,rfl⟩ (And.intro ⟨(by with_unfolding_all exact rfl),(by with_unfolding_all exact rfl),(by with_unfolding_all exact rfl)⟩ ⟨⟨_,(by with_unfolding_all exact rfl)⟩,⟨_,(by with_unfolding_all exact rfl)⟩,⟨_,(by with_unfolding_all exact rfl)⟩⟩)))))|refine qq ?_|(refine Tx 26 ?_;refine gO xLt ?_)|(refine Tx 27 ?_;refine gO xM <| gO Apy <| gO xD <| gO xA <| gO xA ?_))
  rw [em] at hlg
  have PB:=Uu p hn2 lp hlg
  have SH:=BR p.1 p.2 0 hn2 (lT lp (by decide)) (by have:=hn2.1;omega)
  rw [DX hn2] at SH
  have tl:i<(Wi ((Bx bs).take (k)) ((rs.map rvP).take (k)) (List.replicate bs.length none)).length:=by rw [Mq,fa];exact hil2
  have stV:(Wi ((Bx bs).take (k)) ((rs.map rvP).take (k)) (List.replicate bs.length none)).set i (some p)=(Wi ((Bx bs).take (k+1)) ((rs.map rvP).take (k+1)) (List.replicate bs.length none)):=(PJ _ hi hst).symm
  repeat' (with_reducible first|refine qq ?_|(refine Tx 26 ?_;refine gO xLt ?_)|(refine Tx 27 ?_;refine gO xM <| gO Apy <| gO xD <| gO xA <| gO xA ?_)|(refine AJ (id:=28) 9 AX (by kernel_rfl) ?_;dsimp only [List.take,List.drop];refine gP xD <| gP xM <| gP xM <| gP xM <| gP AgS <| gP xL <| gP (xCl func132 (PB)) <| gP (xCl func21 (SH)) <| gP AgS ?_;refine Ke ?_;refine gZ ApA ?_)|(refine Tx 29 ?_;refine gO xAd <| gO xM ?_))
  refine ⟨_,_,BE 5,_,by omega,k+1,by omega,rfl,PM hnl2 hst hlg,rfl,rfl⟩
 obtain rfl:k=(Bx bs).length:=by omega
 clear hlt hk
 rw [aq (by omega)] at hnl2
 have HD:=Adf (bs:=bs) (st:=(rs.map rvP)) (fun p hp=>⟨(hnf p hp).1,hnl2 p hp⟩) hsl
 rw [←XY ps bs (rs.map rvP) ins] at HD
 rw [ay,aq (l:=(rs.map rvP)) (by omega),←XY ps bs (rs.map rvP) ins]
 repeat' (with_reducible first|refine qq ?_|(refine Tx 26 ?_;refine gO xLt ?_)|(refine Tx 30 ?_;refine gO xM <| gO xN <| gO xM ?_))
 refine Bi (BE 5 (h:=by rw [←hol];exact mB rfl rfl)) (Aq (fun n Fr H=>∃ k:Nat,k≤(BH bs).length∧n=(BH bs).length - k∧Has (Ln ps bs (rs.map rvP) ins (k)) (Afs bs k)∧(∀ s,s<k→CI (Us ps bs (rs.map rvP) ins s)=false)∧Fr=ofL [(1,vd (Yd rs)),(2,vd (Ba v ins)),(3,vr 0),(6,vr 1),(7,vr 2),(8,vr 3),(9,vd (Ba false (BK (Bx bs)))),(15,vd (Ba false (BK (BH bs)))),(155,Alt 1 2 3 g1 g2 g3),(111,vd (Ba false (BK (BH bs)))),(112,vi ((BH bs).length)),(113,vi ((k:Nat)))]∧H=[.box 26 [.d (Dh t ps),.d (DC t bs),.d (Ba t os)],.box 28 [.d (.val (.slice none 0 0))],.box 28 [.own 4 bs.length],.box 36 [.d (.val .nilIface)],.row 43 3 bs.length (cVs (Ln ps bs (rs.map rvP) ins (k)))]) (n0:=(BH bs).length) ⟨0,ad _,rfl,HD,(fun s hs=>absurd hs (fk s)),rfl,rfl⟩ ?_)
 rintro n Fr H ⟨k,hk,rfl,HK,hgd,rfl,rfl⟩
 by_cases hlt:k<(BH bs).length
 case pos =>
  obtain ⟨j,hj⟩:∃ j,(BH bs)[k]?=some j:=⟨_,gE hlt⟩
  obtain ⟨y,hy,hk2,T⟩:=Wj h0 hin hI hj HK
  have hjl:=(Rh hj).1
  have hvn:Us ps bs (rs.map rvP) ins k=Dc y (Mp (Ln ps bs (rs.map rvP) ins (k)) y) ps ins:=by unfold Us tkV;rw [hj];simp only [ci];rw [hy]
  have hgl:(gV (Ln ps bs (rs.map rvP) ins (k))).length=bs.length:=by rw [AcS,HW]
  have BL:=AcM t v ps bs os y (gV (Ln ps bs (rs.map rvP) ins (k))) (Mp (Ln ps bs (rs.map rvP) ins (k)) y) ins T.hk (by have:=T.len;omega) (by omega) hil (by omega) T.hl (fun p hp=>(T.hs p hp).more (by decide) (by decide)) T.hin T.hsv T.hsu T.hcl
  have TS:=T.sm
  rw [←hvn] at BL TS
  rw [hgl] at BL
  have lp:=TS.lenN 282 (by decide)
  have lp:=lT lp (show 282≤40000 by decide)
  have hn2:=TS.ok
  have tl:j<(Ln ps bs (rs.map rvP) ins (k)).length:=by rw [HW];exact hjl
  have stV:(Ln ps bs (rs.map rvP) ins (k)).set j (some (Us ps bs (rs.map rvP) ins k))=(Ln ps bs (rs.map rvP) ins (k+1)):=(Mr hj).symm
  have hbad:=AlL (ps:=ps) (st:=(rs.map rvP)) (ins:=ins) hlt
  have hnx:=Ye HK hj
  skip
  by_cases hlg:CI (Us ps bs (rs.map rvP) ins k)=true
  case pos =>
   have PB:=Ri (Us ps bs (rs.map rvP) ins k) hn2 lp hlg
   rw [hbad hlg,if_pos rfl] at hE
   rw [hE,Lo (by decide),Lo (by decide)]
   repeat' (with_reducible first|(refine AcH (id:=33) (chain:=tlC) 11 AX (by kernel_rfl) ?_ ?_;refine Po (xLd Ar) ?_;refine Po xM1 ?_;refine Po (xLa CE) ?_;refine Po (xFa BM AQ) ?_;refine Po (xLd AQ) ?_;refine Po xM1 ?_;refine Po ApB ?_;refine Po (xLa Bm) ?_;refine Po (xLd Ar) ?_;refine Po xM1 ?_;refine Po (xCl func133 BL (ha:=by with_unfolding_all first|((repeat' first|exact CF rfl rfl|refine BG rfl rfl ?_ ?_|refine GO rfl rfl ?_|refine EV rfl rfl ?_|exact CA rfl (fun h=>by cases h)|exact Wh rfl rfl rfl) <;> fail)|fail)) ?_;refine Pp (xPn func132 PB) ?_;(first|refine Pd ?_|refine Po (xIo (i:=j) Ai) ?_);refine Pd ?_;exact Pe;with_unfolding_all exact And.intro (by with_unfolding_all exact rfl) (Or.inr (And.intro rfl (And.intro ⟨rfl,rfl,rfl⟩ (And.intro ⟨(by with_unfolding_all exact rfl),(by with_unfolding_all exact rfl),(by with_unfolding_all exact rfl)⟩ ⟨⟨_,(by with_unfolding_all exact rfl)⟩,⟨_,(by with_unfolding_all exact rfl)⟩,⟨_,(by with_unfolding_all exact rfl)⟩⟩)))))|refine qq ?_|(refine Tx 31 ?_;refine gO xLt ?_)|(refine Tx 32 ?_;refine gO Apz <| gO xD <| gO xA ?_))
  rw [em] at hlg
  have PB:=Uu (Us ps bs (rs.map rvP) ins k) hn2 lp hlg
  repeat' (with_reducible first|refine qq ?_|(refine Tx 31 ?_;refine gO xLt ?_)|(refine Tx 32 ?_;refine gO Apz <| gO xD <| gO xA ?_)|(refine AJ (id:=33) 13 AX (by kernel_rfl) ?_;dsimp only [List.take,List.drop];refine gP xD <| gP xM <| gP xL <| gP xF <| gP xD <| gP xM <| gP ApB <| gP xL <| gP xD <| gP xM <| gP (xCl func133 BL (ha:=by with_unfolding_all first|((repeat' first|exact CF rfl rfl|refine BG rfl rfl ?_ ?_|refine GO rfl rfl ?_|refine EV rfl rfl ?_|exact CA rfl (fun h=>by cases h)|exact Wh rfl rfl rfl) <;> fail)|fail)) <| gP (xCl func132 (PB)) <| gP (xIo (i:=j) Ai) ?_;refine Ke ?_;refine gZ ApA ?_)|(refine Tx 34 ?_;refine gO xAd <| gO xM ?_))
  refine ⟨_,_,BE 5,_,by omega,k+1,by omega,rfl,hnx (ZH hn2 hlg),Wp hgd hlg,rfl,rfl⟩
 obtain rfl:k=(BH bs).length:=by omega
 clear hlt hk
 rw [AlM hnl2 hgd,if_neg (by decide)] at hE
 rw [hE,ZQ rfl,ZQ rfl]
 repeat' (with_reducible first|refine qq ?_|(refine Tx 31 ?_;refine gO xLt ?_)|(refine Tx 35 ?_;refine gO xM <| gO xN <| gO xM ?_))
 refine Bi (Pa 1 0 43 3 rfl rfl) ?_
 refine Bi (BE 6 (h:=by rw [←hnl];exact mB rfl rfl)) (Aq (fun n Fr H=>∃ k:Nat,k≤(Bx bs).length∧n=(Bx bs).length - k∧Fr=ofL [(1,vd (Yd rs)),(2,vd (Ba v ins)),(3,vr 0),(6,vr 1),(7,vr 2),(8,vr 3),(9,vd (Ba false (BK (Bx bs)))),(15,vd (Ba false (BK (BH bs)))),(155,Alt 1 2 3 g1 g2 g3),(131,vd (Ba false (BK (Bx bs)))),(132,vi ((Bx bs).length)),(133,vi ((k:Nat)))]∧H=[.box 26 [.d (Dh t ps),.d (DC t bs),.d (Ba t os)],.box 28 [.own 5 ((Fk ps bs (rs.map rvP) ins).take (k)).length],.box 28 [.own 4 bs.length],.box 36 [.d (.val .nilIface)],.row 43 3 bs.length (cVs (Ln ps bs (rs.map rvP) ins ((BH bs).length))),.row 43 3 ((Fk ps bs (rs.map rvP) ins).take (k)).length ((AN dyP ((Fk ps bs (rs.map rvP) ins).take (k))).map C.d)]) (n0:=(Bx bs).length) ⟨0,ad _,rfl,rfl,rfl⟩ ?_)
 rintro n Fr H ⟨k,hk,rfl,rfl,rfl⟩
 by_cases hlt:k<(Bx bs).length
 case pos =>
  obtain ⟨i,hi⟩:∃ i,(Bx bs)[k]?=some i:=⟨_,gE hlt⟩
  have hil2:=(NI hi).1
  obtain ⟨y,hy⟩:∃ y,bs[i]?=some y:=⟨_,gE hil2⟩
  obtain ⟨b,hA0,hbl⟩:=AlN h0 hy (by rw [←Ni hy];exact (NI hi).2)
  obtain ⟨p,hp,hsm⟩:=Adg h0 HK hbl
  have hal:=(gS.1 hA0).1
  have hpl:b<(Ln ps bs (rs.map rvP) ins ((BH bs).length)).length:=(gS.1 hp).1
  have lp:=lT (hsm.lenN 128 (by decide)) (show 128≤50000 by decide)
  have SH:=BR p.1 p.2 0 hsm.ok lp (by have:=hsm.ok.1;omega)
  rw [DX hsm.ok] at SH
  have hne:(Fk ps bs (rs.map rvP) ins)[k]?=some p:=by unfold Fk;rw [ag,hi,bu,AlO hy hA0];unfold Qn;rw [ZG hp];rfl
  have hap:(AN dyP ((Fk ps bs (rs.map rvP) ins).take (k))).map C.d++(dDy false p.1 p.2).map C.d=(AN dyP ((Fk ps bs (rs.map rvP) ins).take (k+1))).map C.d:=by rw [aw,hne,fe,EU,gz];rfl
  have hap2:((Fk ps bs (rs.map rvP) ins).take (k)).length+1=((Fk ps bs (rs.map rvP) ins).take (k+1)).length:=by rw [aw,hne,ak];rfl
  have hoL:((Fk ps bs (rs.map rvP) ins).take (k)).length≤k:=by rw [dm];omega
  repeat' (with_reducible first|refine qq ?_|(refine Tx 36 ?_;refine gO xLt ?_)|(refine Tx 37 ?_;refine gO (by first|exact xIr Af (AF (SF hi))|exact xIo (i:=b) Af) <| gO xD <| gO xA ?_)|(refine AJ (id:=38) 14 AX (by kernel_rfl) ?_;dsimp only [List.take,List.drop];refine gP xD <| gP xD <| gP xF <| gP xD <| gP xM <| gP (by first|exact xIr Aj (DK hy)|exact xIo (i:=b) Aj) <| gP xF <| gP xD <| gP (by first|exact xIr Af (AF hA0)|exact xIo (i:=b) Af) <| gP xD <| gP (xIo (i:=b) Ai) <| gP (by first|exact Apc rfl rfl rfl hp Ae|exact xLa Ae) <| gP (xCl func21 (SH)) <| gQ (by exact Bj rfl Ai Av rfl rfl (by decide) (by decide)) ?_;refine Ke ?_;refine gT (by exact Gx rfl rfl rfl rfl rfl rfl Ai Av (by omega) (by decide) (by decide) rfl hap hap2) <| gZ Nk ?_)|(refine Tx 39 ?_;refine gO xAd <| gO xM ?_))
  refine ⟨_,_,BE 6,_,by omega,k+1,by omega,rfl,rfl,rfl⟩
 obtain rfl:k=(Bx bs).length:=by omega
 clear hlt hk
 have hnE:(Fk ps bs (rs.map rvP) ins).length=(Bx bs).length:=by unfold Fk;rw [af]
 rw [←hnE,ay]
 have hvE:(Qn ps bs (rs.map rvP) ins).length=bs.length:=by unfold Qn;rw [AcS,HW]
 unfold AlI
 rw [hvE]
 repeat' (with_reducible first|refine qq ?_|(refine Tx 36 ?_;refine gO xLt ?_)|(refine Aid (id:=40) 2 1 28 [.own 5 (Fk ps bs (rs.map rvP) ins).length] AX (by kernel_rfl) ?_;dsimp only [List.take,List.drop];refine Sb rfl rfl (xLd Ar) (xLd Ar) ?_;refine Sb rfl rfl (xLd Ar) (xLd Ar) ?_;refine Aic ?_;refine Aoj rfl rfl rfl (by exact TV rfl rfl rfl rfl rfl Ar (bf rfl) rfl) ?_;refine gZ Nk <| gZ ZR ?_))
 exact ⟨by with_unfolding_all exact rfl,.inl (Ax rfl (.cons_ (rvB Ar (AcT rfl rfl rfl)) (.cons_ (rvB Ar (Wh rfl rfl rfl)) (.cons_ (rvB Fp (CA rfl fun _=>.val _)) .nil_))))⟩
def Lp (ps:List Prt) (bs:List Bk) (st:List (Int × Nat)) (ins:List Int):Int :=
 if ins.length≠ps.length then 11 else if Ut ps ins=false then 3 else if DD ps bs st ins=true then 4 else 0
structure AmZ (bs:List Bk) (st:List (Int × Nat)):Prop where
 len:st.length=(Bx bs).length
 sm:∀ p∈st,Sm p LB LB
theorem Uz (h:Lp ps bs st ins=0):ins.length=ps.length∧Ut ps ins=true∧DD ps bs st ins=false:=by
 unfold Lp at h
 by_cases h1:ins.length≠ps.length
 ·rw [if_pos h1] at h;cases h
 ·rw [if_neg h1] at h
  by_cases h2:Ut ps ins=false
  ·rw [if_pos h2] at h;cases h
  ·rw [if_neg h2] at h
   by_cases h3:DD ps bs st ins=true
   ·rw [if_pos h3] at h;cases h
   ·exact ⟨Decidable.not_not.1 h1,by simpa using h2,by simpa using h3⟩
theorem Adi (h:DD ps bs st ins=false):(∀ p∈st,CI p=false)∧∀ t,t<(BH bs).length→CI (Us ps bs st ins t)=false:=by
 unfold DD at h
 rw [ke] at h
 exact ⟨fun p hp=>by simpa using List.any_eq_false.1 h.1 p hp,fun t ht=>by simpa using List.any_eq_false.1 h.2 t (List.mem_range.2 ht)⟩
theorem Adj {y:Bk} (hj:(BH bs)[t]?=some j) (hy:bs[j]?=some y):Us ps bs st ins t=Dc y (Mp (Ln ps bs st ins t) y) ps ins:=by
 unfold Us tkV
 rw [hj,ci,hy]
section
variable {ps:List Prt} {bs:List Bk} {os:List Int} {st:List (Int × Nat)} {ins:List Int}
theorem Yf (he:Bl ps bs os=0) (hl:st.length=(Bx bs).length) (hn:∀ p∈st,Nf p.1 p.2) (h:Lp ps bs st ins=0):∀ t,t≤(BH bs).length→Has (Ln ps bs st ins t) (Afs bs t):=by
 obtain ⟨h1,h2,h3⟩:=Uz h
 obtain ⟨h4,h5⟩:=Adi h3
 intro t
 induction t with
 | zero=>intro _;rw [XY];exact Adf (fun p hp=>⟨hn p hp,h4 p hp⟩) hl
 | succ t ih =>
  intro ht
  obtain ⟨j,hj⟩:∃ j,(BH bs)[t]?=some j:=⟨_,gE (by omega)⟩
  have hv:=ih (by omega)
  obtain ⟨y,hy,hk,T⟩:=Wj he h2 h1 hj hv
  refine Ye hv hj (ZH ?_ (h5 t (by omega)))
  rw [Adj hj hy]
  exact T.sm.ok
theorem ZS (bs:List Bk):(Bx bs).Nodup:=List.Pairwise.filter _ List.nodup_range
theorem UA (bs:List Bk):(BH bs).Nodup:=(FJ bs.length (EX.nil bs)).nodup
theorem SI {l:List Nat} (h:l.Nodup) {i j x:Nat} (hi:l[i]?=some x) (hj:l[j]?=some x):i=j:=by
 obtain ⟨h1,e1⟩:=gS.1 hi
 obtain ⟨h2,e2⟩:=gS.1 hj
 exact (List.getElem_inj (h₀:=h1) (h₁:=h2) h).1 (e1.trans e2.symm)
theorem Yg {u:Nat} (htu:t≤u) (hu:u≤(BH bs).length) (h:∀ v,t≤v→v<u→(BH bs)[v]?≠some i):(Ln ps bs st ins u)[i]?=(Ln ps bs st ins t)[i]?:=by
 induction u with
 | zero=>rw [show t=0 by omega]
 | succ u ih =>
  by_cases e:t=u+1
  ·rw [e]
  ·obtain ⟨j,hj⟩:∃ j,(BH bs)[u]?=some j:=⟨_,gE (by omega)⟩
   have hne:j≠i:=fun hji=>h u (by omega) (by omega) (by rw [hj,hji])
   rw [Mr hj,iz hne]
   exact ih (by omega) (by omega) fun v h1 h2=>h v h1 (by omega)
theorem Yh {u:Nat} (htu:t≤u) (hu:u≤(BH bs).length) (h:Afs bs t i):(Ln ps bs st ins u)[i]?=(Ln ps bs st ins t)[i]?:=by
 refine Yg htu hu fun v h1 h2 hv=>?_
 rcases h with ⟨_,hk⟩|hm
 ·exact (Rh hv).2 hk
 ·obtain ⟨w,hw⟩:=List.mem_iff_getElem?.1 hm
  rw [bq] at hw
  split at hw
  ·have:=SI (UA bs) hw hv
   omega
  ·cases hw
def Dv (V:List (Int × Nat)) (y:Bk):List (Int × Nat):=if y.kind=0 then [] else y.args.map fun a=>V[a.toNat]?.getD (0,0)
theorem Yi:(Qn ps bs st ins).length=bs.length:=by unfold Qn;rw [AcS,HW]
theorem UB:(Fk ps bs st ins).length=(Bx bs).length:=by unfold Fk;rw [af]
theorem Adk (he:Bl ps bs os=0) (hl:st.length=(Bx bs).length) (hn:∀ p∈st,Nf p.1 p.2) (h:Lp ps bs st ins=0) {i:Nat} {y:Bk} (hy:bs[i]?=some y) (hk:y.kind≠2) :
  (Qn ps bs st ins)[i]?=some (Dc y (Dv (Qn ps bs st ins) y) ps ins):=by
 have H:=Yf he hl hn h
 obtain ⟨h1,h2,_⟩:=Uz h
 have hil:=(gS.1 hy).1
 obtain ⟨t,ht⟩:=List.mem_iff_getElem?.1 (VU (LS he).2.2 hil (by rw [Ni hy];exact hk))
 have htl:=(gS.1 ht).1
 obtain ⟨y',hy',_,T⟩:=Wj he h2 h1 ht (H t (by omega))
 obtain rfl:y'=y:=Option.some.inj (hy'.symm.trans hy)
 have e1:(Ln ps bs st ins (BH bs).length)[i]?=some (some (Us ps bs st ins t)):=by
  rw [Yg (t:=t+1) htl (aa _) fun v k1 k2 kv=>by have:=SI (UA bs) ht kv;omega]
  rw [Mr ht,gu (by rw [HW];exact hil)]
 rw [show Qn ps bs st ins=gV (Ln ps bs st ins (BH bs).length) from rfl,ZG e1,Adj ht hy']
 congr 2
 unfold Mp Dv
 by_cases h0:y'.kind=0
 ·rw [if_pos h0,if_pos h0]
 ·rw [if_neg h0,if_neg h0]
  refine ig fun a ha=>?_
  obtain ⟨k,hk'⟩:=List.mem_iff_getElem?.1 ha
  obtain ⟨p,a0,a1,a2,_⟩:=T.args h0 k a hk'
  have hst:Afs bs t a.toNat:=by
   have hsplit:BH bs=(BH bs).take t++i::(BH bs).drop (t+1):=by
    obtain ⟨hlt,he⟩:=gS.1 ht
    rw [←he,←du hlt,gj]
   exact (Om hsplit (a:=a) (by rw [XZ hy h0];exact ha)).imp (fun q=>⟨a1,q⟩) id
  have e2:=Yh (ps:=ps) (st:=st) (ins:=ins) (iq htl) (aa _) hst
  rw [a2] at e2
  rw [a2,ZG e2]
  rfl
theorem AgU {dl:List Nat} (hd:dl.Nodup) {st:List (Int × Nat)} {vs:List (Option (Int × Nat))} (hl:st.length=dl.length) (hb:∀ i∈dl,i<vs.length) {k i:Nat} (hk:dl[k]?=some i):(Wi dl st vs)[i]?=(st[k]?).map some:=by
 have key:∀ t,t≤dl.length→k<t→(Wi (dl.take t) (st.take t) vs)[i]?=(st[k]?).map some:=fun t=>by
  induction t with
  | zero=>intro _ h;omega
  | succ t ih =>
   intro ht hkt
   obtain ⟨j,hj⟩:∃ j,dl[t]?=some j:=⟨_,gE (by omega)⟩
   obtain ⟨p,hp⟩:∃ p,st[t]?=some p:=⟨_,gE (by omega)⟩
   rw [PJ _ hj hp]
   by_cases e:k=t
   ·subst e
    obtain rfl:j=i:=Option.some.inj (hj.symm.trans hk)
    rw [gu (by rw [Mq];exact hb j (gM hj)),hp]
    rfl
   ·have hne:j≠i:=fun h=>e (SI hd hk (h ▸ hj))
    rw [iz hne]
    exact ih (by omega) (by omega)
 have:=key dl.length (aa _) (gS.1 hk).1
 rwa [ay,aq (by omega)] at this
theorem Aiw (h:i∈Bx bs):i<bs.length∧AG bs i=2:=by
 obtain ⟨k,hk⟩:=List.mem_iff_getElem?.1 h
 exact NI hk
theorem Adl (hl:st.length=(Bx bs).length) {k i:Nat} (hk:(Bx bs)[k]?=some i):(Qn ps bs st ins)[i]?=st[k]?:=by
 have hkl:=(gS.1 hk).1
 have hi:=NI hk
 have e1:=Yh (ps:=ps) (st:=st) (ins:=ins) (ad (BH bs).length) (aa _) (.inl hi:Afs bs 0 i)
 rw [XY,AgU (ZS bs) hl (fun i hi=>by rw [fa];exact (Aiw hi).1) hk] at e1
 obtain ⟨p,hp⟩:∃ p,st[k]?=some p:=⟨_,gE (by omega)⟩
 rw [hp] at e1 ⊢
 exact ZG e1
theorem Adm (he:Bl ps bs os=0) (hl:st.length=(Bx bs).length) (hn:∀ p∈st,Nf p.1 p.2) (h:Lp ps bs st ins=0):∀ p∈Qn ps bs st ins,Sm p LB LB:=fun p hp=>by
 obtain ⟨i,hi⟩:=List.mem_iff_getElem?.1 hp
 have hil:=(gS.1 hi).1
 rw [Yi] at hil
 obtain ⟨q,h1,h2⟩:=Adg he (Yf he hl hn h _ (aa _)) hil
 rw [show Qn ps bs st ins=gV (Ln ps bs st ins (BH bs).length) from rfl,ZG h1] at hi
 cases hi
 exact h2
theorem Adn {k:Nat} (hk:(Bx bs)[k]?=some i):(Fk ps bs st ins)[k]?=some (((Qn ps bs st ins)[AlB bs i]?).getD (0,0)):=by
 unfold Fk
 rw [ag,hk,bu]
theorem AlP (he:Bl ps bs os=0) (hl:st.length=(Bx bs).length) (hn:∀ p∈st,Nf p.1 p.2) (h:Lp ps bs st ins=0):AmZ bs (Fk ps bs st ins):=⟨UB,fun p hp=>by
 obtain ⟨k,hk⟩:=List.mem_iff_getElem?.1 hp
 have hkl:=(gS.1 hk).1
 rw [UB] at hkl
 obtain ⟨i,hi⟩:∃ i,(Bx bs)[k]?=some i:=⟨_,gE hkl⟩
 rw [Adn hi] at hk
 cases hk
 exact CL (Adm he hl hn h) _⟩
theorem AmZ.nf (h:AmZ bs st):∀ p∈st,Nf p.1 p.2:=fun p hp=>(h.sm p hp).ok
end
def Ase (bs:List Bk) (i:Nat):Int:=(bs[i]?.getD bk0).vn
def Asf (bs:List Bk) (i:Nat):Int:=(bs[i]?.getD bk0).ve
def IH (bs:List Bk):List (Int × Nat):=(Bx bs).map fun i=>Ac (Ase bs i) 0 (Asf bs i)
theorem Yj (he:Bl ps bs os=0):AmZ bs (IH bs):=⟨by unfold IH;rw [af],fun p hp=>by
 obtain ⟨i,hi,rfl⟩:=List.mem_map.1 hp
 obtain ⟨h1,h2⟩:=Aiw hi
 obtain ⟨y,hy⟩:∃ y,bs[i]?=some y:=⟨_,gE h1⟩
 rw [Ni hy] at h2
 obtain ⟨s1,s2,s3,s4⟩:=Mn he hy (by unfold Pt;rw [h2];rfl)
 unfold Ase Asf
 rw [hy]
 exact (Sm.shift (n:=32) (by simp only [ci];omega) (by simp only [ci];omega) (by simp only [ci];omega)).more (by decide) (by decide)⟩
def II (p:Int × Nat):Rv:=⟨decide (p.1<0),Ad p.1.natAbs,p.2⟩
theorem ApC (p:Int × Nat):(II p).rw.x=p.1:=by
 show sg (decide (p.1<0)) (Ay (Ad p.1.natAbs))=p.1
 rw [Au]
 unfold sg
 split <;> rename_i h
 ·have:=of_decide_eq_true h;omega
 ·have:¬ p.1<0:=by simpa using h
  omega
theorem UC (p:Int × Nat):rvP (II p)=p:=by
 unfold rvP
 rw [ApC]
 show (p.1,((p.2:Nat):Int).toNat)=p
 rw [am]
theorem PN (t:Bool) (p:Int × Nat):dRv t (II p)=dDy t p.1 p.2:=by
 unfold dRv dDy wds
 rw [ZB]
 rfl
theorem Wq {p:Int × Nat} (h:Nf p.1 p.2):vdB (II p).rw=true:=by
 refine decide_eq_true ?_
 by_cases h0:(Ad p.1.natAbs).length=0
 ·refine (Agn (r:=(II p).rw) h0).2 ?_
  have hz:p.1.natAbs=0:=by
   have:=Au p.1.natAbs
   rw [bw h0] at this
   exact this.symm
  have hd:p.2=0:=cw fun hne=>by have:=h.2 hne;omega
  exact ⟨decide_eq_false (by omega),by show ((p.2:Nat):Int)=0;omega⟩
 ·refine (AcA (r:=(II p).rw) h0).2 ⟨?_,by show (0:Int)≤(p.2:Nat);omega,by have:=h.1;show ((p.2:Nat):Int)≤65536;omega,?_⟩
  ·have hne:p.1.natAbs≠0:=fun hz=>h0 (by rw [hz,AK];rfl)
   obtain ⟨q,L,hL,hq,q0,_,_⟩:=Rf hne
   show _≠_
   simp only [II,Rv.rw]
   first|(rw [hL];simpa [hq] using q0)|simp_all
  ·by_cases hd:p.2=0
   ·left;show ((p.2:Nat):Int)=0;omega
   ·right
    have:=h.2 hd
    have hb:=LA (Az p.1.natAbs) 0
    rw [Au] at hb
    simp only [Nat.pow_zero,Nat.div_one,Nat.zero_div,Nat.zero_mod] at hb
    show (Ad p.1.natAbs)[0]?.getD 0 % 2=1
    omega
theorem Yk (l:List (Int × Nat)):(l.map II).map rvP=l:=by
 rw [jb]
 exact (ig fun p _=>UC p).trans (List.map_id l)
theorem Wr (l:List (Int × Nat)):Yd (l.map II)=.row false 3 l.length (AN dyP l):=by
 unfold Yd AN
 rw [af,jb]
 congr 2
 exact ig fun p _=>PN false p
theorem ApD (he:Bl ps bs os=0) (h:AmZ bs st):stE ps bs os (st.map II) ins=Lp ps bs st ins:=by
 unfold stE Lp
 rw [if_neg (not_not_intro he),if_neg (not_not_intro (by rw [af];exact h.len)),if_neg (by rw [mc];exact List.all_eq_true.2 fun r hr=>by obtain ⟨p,hp,rfl⟩:=List.mem_map.1 hr;exact Wq (h.nf p hp)),Yk]
theorem Ado (bs:List Bk):(Bx bs).length≤bs.length:=by unfold Bx;exact lT (kg _ _) (gf kh)
theorem Yl {k:Nat} {y:Bk} (hi:(Bx bs)[k]?=some i) (hy:bs[i]?=some y):(IH bs)[k]?=some (Ac y.vn 0 y.ve):=by
 unfold IH Ase Asf
 rw [ag,hi,bu,hy]
 rfl
theorem UD {l:List (Int × Nat)} {k:Nat} {p:Int × Nat} (h:l[k]?=some p):(AN dyP (l.take k)).map C.d++(dDy false p.1 p.2).map C.d=(AN dyP (l.take (k+1))).map C.d∧(l.take k).length+1=(l.take (k+1)).length∧(l.take k).length≤k:=by
 refine ⟨?_,?_,by rw [dm];omega⟩
 ·rw [aw,h,fe,EU,gz];rfl
 ·rw [aw,h,ak];rfl
def Ws (u:Bool) (ls:List (List Int)):D:=.row u 1 ls.length (ls.map (Ba u))
theorem Adp {u:Bool} {ls:List (List Int)} {k:Nat} {l:List Int} (h:ls[k]?=some l):((ls.map (Ba u)).drop (k*1)).take 1=[Ba u l]:=AbN h
theorem Adq (t:Bool) {ps:List Prt} {bs:List Bk} {os:List Int} (hl:FK ps bs os):CV prog An 53 [aDg t ps bs os] [AlI (okQ (Bl ps bs os) (IH bs)),aE (Bl ps bs os)]:=by
 refine cvz func53 ntmps53 ?_
 have DL:=(Ux t hl (ps:=ps) (bs:=bs) (os:=os)).cv
 have hnl:=CR (Bx bs)
 by_cases h0:Bl ps bs os=0
 case neg =>
  rw [if_neg h0] at DL
  rw [Lo h0]
  repeat' (with_reducible first|refine qq ?_|(refine Tx 0 ?_;refine gN xBo <| gO xA <| gO xA ?_)|(refine Tx 1 ?_;refine gO xL <| gO (xCl func19 (DL)) <| gO xMt <| gO xEx <| gO xEx <| gO xA <| gO xA ?_)|(refine Tx 2 ?_;refine gO xM <| gO (xNE Ap) ?_)|(refine Tx 3 ?_;refine gO xM <| gO xA <| gO xA ?_))
  exact Ax rfl (.cons_ (.tmp (.one (Fx rfl rfl))) (.cons_ (Acf rfl rfl) .nil_))
 rw [if_pos h0,h0] at DL
 rw [h0,ZQ rfl]
 repeat' (with_reducible first|refine qq ?_|(refine Tx 0 ?_;refine gN xBo <| gO xA <| gO xA ?_)|(refine Tx 1 ?_;refine gO xL <| gO (xCl func19 (DL)) <| gO xMt <| gO xEx <| gO xEx <| gO xA <| gO xA ?_)|(refine Tx 2 ?_;refine gO xM <| gO (xNE Ap) ?_)|(refine Tx 4 ?_;refine gO xA ?_)|(refine Tx 5 ?_;refine gO xM <| gO xN <| gO xM ?_))
 refine Bi (LM 6 43 3 rfl) ?_
 have hl2:=hl.l2
 have hdb:=Ado bs
 have hsl:(IH bs).length=(Bx bs).length:=(Yj h0).len
 refine Bi (BE 2) (Aq (fun n Fr H=>∃ k:Nat,k≤(Bx bs).length∧n=(Bx bs).length - k∧Fr=ofL [(1,vr 0),(6,vo 1 (((IH bs).take k).length)),(17,vd (Ba false (BK (Bx bs)))),(18,vi ((BK (Bx bs)).length)),(19,vi ((k:Nat)))]∧H=[.box 26 [.d (Dh t ps),.d (DC t bs),.d (Ba t os)],.row 43 3 ((IH bs).take (k)).length ((AN dyP ((IH bs).take (k))).map C.d)]) (n0:=(Bx bs).length) ⟨0,ad _,rfl,rfl,rfl⟩ ?_)
 rintro n Fr H ⟨k,hk,rfl,rfl,rfl⟩
 by_cases hlt:k<(Bx bs).length
 case pos =>
  obtain ⟨i,hi⟩:∃ i,(Bx bs)[k]?=some i:=⟨_,gE hlt⟩
  have hid:=NI hi
  have hil:=hid.1
  obtain ⟨y,hy⟩:∃ y,bs[i]?=some y:=⟨_,gE hil⟩
  have hk2:=hid.2
  rw [Ni hy] at hk2
  have hsc:=Mn h0 hy (by unfold Pt;rw [hk2];rfl)
  have NU:=FY y.vn y.ve hsc
  obtain ⟨hap,hap2,hoL⟩:=UD (Yl hi hy)
  repeat' (with_reducible first|refine qq ?_|(refine Tx 6 ?_;refine gO xLt ?_)|(refine Tx 7 ?_;refine gO (xIr Af (AF (SF hi))) <| gO xD <| gO xA ?_)|(refine Tx 8 ?_;refine gO xM <| gO xF <| gO xD <| gO xM <| gO (xIr Aj (DK hy)) <| gO xF <| gO xL <| gO (xCl func130 (NU)) <| gN (by exact Bj rfl Ai Av rfl rfl (by decide) (by decide)) <| gT (by exact Gx rfl rfl rfl rfl rfl rfl Ai Av (by omega) (by decide) (by decide) rfl hap hap2) <| gO xA ?_)|(refine Tx 9 ?_;refine gO xAd <| gO xM ?_))
  refine ⟨_,_,BE 2,_,?_,k+1,by omega,rfl,rfl,rfl⟩
  ·omega
 obtain rfl:k=(Bx bs).length:=by omega
 clear hlt hk
 rw [←hsl,ay]
 unfold AlI
 repeat' (with_reducible first|refine qq ?_|(refine Tx 6 ?_;refine gO xLt ?_)|(refine Tx 10 ?_;refine gO xM <| gO xA <| gO xA ?_))
 exact Ax rfl (.cons_ (.tmp (.one (AcT rfl rfl rfl))) (.cons_ (Il rfl rfl) .nil_))
theorem AlQ (k:p') (h:Hd9 p'→p:=by with_reducible first|(intro Z9;refine qq ?_;exact Z9.o)|(intro Z9;refine Tx 0 ?_;refine gO xA ?_;exact Z9.o)|(intro Z9;refine Tx 1 ?_;refine gO xM <| gO xM <| gO xGe <| gO xM ?_;(first|iterate 3 refine Jd ?_|(refine Jy xM1 ?_;refine Jy xM1 ?_;refine Jy xLe ?_));refine gO xPk <| gO xA ?_;exact Z9.o)|fail):p:=h ⟨k⟩
theorem EM (n lo hi:Int):CV prog An 76 [aI n,aI lo,aI hi] [aB (GR n lo hi)]:=by
 refine cvz func76 ntmps76 ?_
 unfold GR
 by_cases c1:lo≤n
 case neg =>
  repeat' (with_reducible first|refine AlQ ?_)
  exact Ax rfl (.cons_ (DJ rfl ((decide_eq_false (by omega)).symm)) .nil_)
 by_cases c2:n≤hi
 case neg =>
  repeat' (with_reducible first|refine AlQ ?_)
  exact Ax rfl (.cons_ (DJ rfl ((decide_eq_false (by omega)).symm)) .nil_)
 repeat' (with_reducible first|refine AlQ ?_)
 exact Ax rfl (.cons_ (DJ rfl ((decide_eq_true (by omega)).symm)) .nil_)
theorem ApE (k:p') (h:Hd9 p'→p:=by with_reducible first|(intro Z9;refine qq ?_;exact Z9.o)|(intro Z9;refine Tx 0 ?_;refine gO xA ?_;exact Z9.o)|(intro Z9;refine Tx 1 ?_;refine gO xM ?_;exact Z9.o)|(intro Z9;refine Tx 2 ?_;refine gO xEq <| gO xA ?_;exact Z9.o)|(intro Z9;refine Tx 3 ?_;refine gO xA ?_;exact Z9.o)|(intro Z9;refine Tx 4 ?_;refine gO xEq <| gO xA ?_;exact Z9.o)|(intro Z9;refine Tx 5 ?_;refine gO xEq <| gO xA ?_;exact Z9.o)|(intro Z9;refine Tx 6 ?_;refine gO xEq <| gO xA ?_;exact Z9.o)|(intro Z9;refine Tx 7 ?_;refine gO xEq <| gO xA ?_;exact Z9.o)|(intro Z9;refine Tx 8 ?_;refine gO xEq <| gO xA ?_;exact Z9.o)|(intro Z9;refine Tx 9 ?_;refine gO xEq <| gO xA ?_;exact Z9.o)|(intro Z9;refine Tx 10 ?_;refine gO xA ?_;exact Z9.o)|(intro Z9;refine Tx 11 ?_;refine gO xEq <| gO xA ?_;exact Z9.o)|(intro Z9;refine Tx 12 ?_;refine gO xEq <| gO xA ?_;exact Z9.o)|(intro Z9;refine Tx 13 ?_;refine gO xEq <| gO xA ?_;exact Z9.o)|(intro Z9;refine Tx 14 ?_;refine gO xEq <| gO xA ?_;exact Z9.o)|(intro Z9;refine Tx 15 ?_;refine gO xEq <| gO xA ?_;exact Z9.o)|(intro Z9;refine Tx 16 ?_;refine gO xA ?_;exact Z9.o)|(intro Z9;refine Tx 17 ?_;refine gO xA ?_;exact Z9.o)|fail):p:=h ⟨k⟩
theorem Adr (k:Int):CV prog An 167 [aI k] [aI (AO k)]:=by
 refine cvz func167 ntmps167 ?_
 have h:k=1∨k=0∨k=2∨k=5∨k=10∨k=6∨k=11∨k=3∨k=4∨k=7∨k=8∨k=9∨(k≠1∧k≠0∧k≠2∧k≠5∧k≠10∧k≠6∧k≠11∧k≠3∧k≠4∧k≠7∧k≠8∧k≠9):=by omega
 rcases h with rfl|rfl|rfl|rfl|rfl|rfl|rfl|rfl|rfl|rfl|rfl|rfl|h
 rotate_left 12
 ·have e:AO k = -1:=by unfold AO;rw [if_neg (by omega),if_neg (by omega),if_neg (by omega)]
  rw [e]
  repeat' (with_reducible first|refine ApE ?_)
  exact Ax rfl (.cons_ (QX rfl rfl) .nil_)
 all_goals repeat' (with_reducible first|refine ApE ?_)
 all_goals exact Ax rfl (.cons_ (QX rfl (by decide)) .nil_)
theorem Wt (k:p') (h:Hd9 p'→p:=by with_reducible first|(intro Z9;refine qq ?_;exact Z9.o)|(intro Z9;refine Tx 0 ?_;refine gN xBo <| gO xA ?_;exact Z9.o)|(intro Z9;refine Tx 1 ?_;refine gO xM <| gO Uw ?_;exact Z9.o)|fail):p:=h ⟨k⟩
theorem ApF (h:p:=by first|exact xCl func76 (W1)|exact xCl func76 (W2)):p:=h
theorem Ads (k:p') (h:Hd9 p'→p:=by with_reducible first|(intro Z9;refine Tx 5 ?_;refine gO xF <| gO xD <| gO ApF <| gO Uw <| gO xM ?_;(first|iterate 4 refine Jd ?_|(refine Jy (xFa EJ Ak) ?_;refine Jy (xLd Ak) ?_;refine Jy ApF ?_;refine Jy Uw ?_));refine gO xPk ?_;exact Z9.o)|fail):p:=h ⟨k⟩
theorem Nl (h:p:=by
 exact Ax rfl (.cons_ (QX rfl (rfl)) .nil_)):p:=h
theorem Rn (n e:Int) (used:Bool):CV prog An 168 [.agg [dI n,dI e],aB used] [aI (CG n e used)]:=by
 refine cvz func168 ntmps168 ?_
 cases used
 case false =>
  unfold CG
  rw [if_neg (by decide)]
  by_cases h1:n=0∧e=0
  case pos =>
   rw [if_pos h1]
   obtain ⟨rfl,rfl⟩:=h1
   repeat' (with_reducible first|refine Wt ?_|(refine Tx 2 ?_;refine gO xL <| gO (by exact AC rfl GN rfl rfl) <| gO (by first|exact Wm rfl rfl rfl (rfl)|exact xNe) ?_)|(refine Tx 4 ?_;refine gO xA ?_))
   exact Nl
  case neg =>
   rw [if_neg h1]
   repeat' (with_reducible first|refine Wt ?_|(refine Tx 2 ?_;refine gO xL <| gO (by exact AC rfl GN rfl rfl) <| gO Apk ?_)|(refine Tx 3 ?_;refine gO xA ?_))
   exact Nl
 case true =>
  unfold CG
  rw [if_pos rfl]
  have W1:=EM n (-2147483647) 2147483647
  have W2:=EM e (-62) 30
  unfold GR at W1 W2
  by_cases c1 : -2147483648<n
  case neg =>
   rw [if_neg (fun h:Df n e=>c1 h.1)]
   rw [decide_eq_false (by omega)] at W1
   repeat' (with_reducible first|refine Wt ?_|refine Ads ?_|(refine Tx 6 ?_;refine gO xA ?_))
   exact Nl
  by_cases c2:n<2147483648
  case neg =>
   rw [if_neg (fun h:Df n e=>c2 h.2.1)]
   rw [decide_eq_false (by omega)] at W1
   repeat' (with_reducible first|refine Wt ?_|refine Ads ?_|(refine Tx 6 ?_;refine gO xA ?_))
   exact Nl
  by_cases c3 : -62≤e
  case neg =>
   rw [if_neg (fun h:Df n e=>c3 h.2.2.1)]
   rw [decide_eq_false (by omega)] at W2
   rw [decide_eq_true (by omega)] at W1
   repeat' (with_reducible first|refine Wt ?_|refine Ads ?_|(refine Tx 6 ?_;refine gO xA ?_))
   exact Nl
  by_cases c4:e≤30
  case neg =>
   rw [if_neg (fun h:Df n e=>c4 h.2.2.2)]
   rw [decide_eq_false (by omega)] at W2
   rw [decide_eq_true (by omega)] at W1
   repeat' (with_reducible first|refine Wt ?_|refine Ads ?_|(refine Tx 6 ?_;refine gO xA ?_))
   exact Nl
  rw [if_pos (show Df n e from ⟨c1,c2,c3,c4⟩)]
  rw [decide_eq_true (by omega)] at W1 W2
  repeat' (with_reducible first|refine Wt ?_|refine Ads ?_|(refine Tx 7 ?_;refine gO xA ?_))
  exact Nl
theorem Adt (k:p') (h:Hd9 p'→p:=by with_reducible first|(intro Z9;refine Tx 1 ?_;refine gO xF <| gO xD <| gO xF <| gO xD <| gO xGt ?_;exact Z9.o)|fail):p:=h ⟨k⟩
theorem UE (k:p') (h:Hd9 p'→p:=by with_reducible first|(intro Z9;refine Tx 4 ?_;refine gO xF <| gO xD <| gO xF <| gO xD <| gO xGt ?_;exact Z9.o)|fail):p:=h ⟨k⟩
theorem AlR (k:p') (h:Hd9 p'→p:=by with_reducible first|(intro Z9;refine Tx 7 ?_;refine gO xF <| gO xD <| gO xF <| gO xD <| gO xLt <| gO xA ?_;exact Z9.o)|fail):p:=h ⟨k⟩
theorem ApG (k:p') (h:Hd9 p'→p:=by with_reducible first|(intro Z9;refine Tx 9 ?_;refine gO xF <| gO xD <| gO xF <| gO xD <| gO xGt <| gO xA ?_;exact Z9.o)|fail):p:=h ⟨k⟩
theorem AgV (k:p') (h:Hd9 p'→p:=by with_reducible first|(intro Z9;refine Tx 5 ?_;refine gO xF <| gO xD <| gO xEq <| gO xM ?_;(first|iterate 3 refine Jd ?_|(refine Jy (xFa DU Ak) ?_;refine Jy (xLd Ak) ?_;refine Jy xGe ?_));refine gO xPk <| gO xM ?_;(first|iterate 3 refine Jd ?_|(refine Jy (xFa DU Ak) ?_;refine Jy (xLd Ak) ?_;refine Jy xLe ?_));refine gO xPk ?_;exact Z9.o)|fail):p:=h ⟨k⟩
theorem AgW (k:p') (h:Hd9 p'→p:=by with_reducible first|(intro Z9;refine Tx 2 ?_;refine gO xF <| gO xD <| gO xEq <| gO xM ?_;(first|iterate 3 refine Jd ?_|(refine Jy (xFa DU Ak) ?_;refine Jy (xLd Ak) ?_;refine Jy xGe ?_));refine gO xPk <| gO xM ?_;(first|iterate 3 refine Jd ?_|(refine Jy (xFa DU Ak) ?_;refine Jy (xLd Ak) ?_;refine Jy xLe ?_));refine gO xPk ?_;exact Z9.o)|fail):p:=h ⟨k⟩
theorem Wu (h:p:=by
 by_cases q1:n<n2
 case pos =>
  rw [if_pos q1]
  repeat' (with_reducible first|refine qq ?_|refine AlR ?_|(refine Tx 8 ?_;refine gO xA ?_))
  exact Ax rfl (.cons_ (QX rfl (rfl)) .nil_)
 rw [if_neg q1]
 by_cases q2:n2<n
 case pos =>
  rw [if_pos q2]
  repeat' (with_reducible first|refine qq ?_|refine AlR ?_|refine ApG ?_|(refine Tx 10 ?_;refine gO xA ?_))
  exact Ax rfl (.cons_ (QX rfl (rfl)) .nil_)
 rw [if_neg q2]
 repeat' (with_reducible first|refine qq ?_|refine AlR ?_|refine ApG ?_|(refine Tx 11 ?_;refine gO xA ?_))
 exact Ax rfl (.cons_ (QX rfl (rfl)) .nil_)):p:=h
theorem AgX (h:p:=by first|exact xS1 Ak|exact xSk Ak):p:=h
theorem AlS (an ae bn be:Int) (h1:Df an ae) (h2:Df bn be):CV prog An 169 [.agg [dI an,dI ae],.agg [dI bn,dI be]] [aI (NR an ae bn be)]:=by
 refine cvz func169 ntmps169 ?_
 obtain ⟨a0,a1,a2,a3⟩:=h1
 obtain ⟨b0,b1,b2,b3⟩:=h2
 repeat' (with_reducible first|refine qq ?_|(refine Tx 0 ?_;refine gN xBo <| gN xBo <| gO xA ?_))
 refine Bi (BE 2) (Aq (fun m Fr H=>∃ n e:Int,Sd n e an ae be∧m=(e+62).toNat∧Fr=ofL [(2,vr 0),(3,vr 1)]∧H=[.box 61 [.d (.val (.int .i64 (n))),.d (.val (.int .i64 (e)))],.box 61 [.d (.val (.int .i64 (bn))),.d (.val (.int .i64 (be)))]]) (n0:=(ae+62).toNat) ⟨an,ae,⟨rfl,by omega,by omega,.inl rfl,by omega,fun _=>rfl⟩,rfl,rfl,rfl⟩ ?_)
 rintro m Fr H ⟨n,e,D1,rfl,rfl,rfl⟩
 have d1:=D1.lo
 have d2:=D1.small
 have d3:=D1.hi
 by_cases e1:be<e
 case neg =>
  have X1:e≤be∨n=0∨2147483648≤n∨n ≤ -2147483648:=.inl (by omega)
  repeat' (with_reducible first|refine qq ?_|refine Adt ?_)
  refine Bi (BE 2) (Aq (fun m Fr H=>∃ n2 e2:Int,Sd n2 e2 bn be e∧m=(e2+62).toNat∧Fr=ofL [(2,vr 0),(3,vr 1)]∧H=[.box 61 [.d (.val (.int .i64 (n))),.d (.val (.int .i64 (e)))],.box 61 [.d (.val (.int .i64 (n2))),.d (.val (.int .i64 (e2)))]]) (n0:=(be+62).toNat) ⟨bn,be,⟨rfl,by omega,by omega,.inl rfl,by omega,fun _=>rfl⟩,rfl,rfl,rfl⟩ ?_)
  rintro m Fr H ⟨n2,e2,D2,rfl,rfl,rfl⟩
  have f1:=D2.lo
  have f2:=D2.small
  have f3:=D2.hi
  by_cases g1:e<e2
  case neg =>
   repeat' (with_reducible first|refine qq ?_|refine UE ?_)
   rw [Gq D1 X1 D2 (.inl (by omega)) ⟨a0,a1⟩ ⟨b0,b1⟩,BZ]
   exact Wu
  by_cases g2:n2=0
  case pos =>
   repeat' (with_reducible first|refine qq ?_|refine UE ?_|refine AgV ?_)
   rw [Gq D1 X1 D2 (.inr (.inl g2)) ⟨a0,a1⟩ ⟨b0,b1⟩,BZ]
   exact Wu
  by_cases g3:2147483648≤n2
  case pos =>
   repeat' (with_reducible first|refine qq ?_|refine UE ?_|refine AgV ?_)
   rw [Gq D1 X1 D2 (.inr (.inr (.inl g3))) ⟨a0,a1⟩ ⟨b0,b1⟩,BZ]
   exact Wu
  by_cases g4:n2 ≤ -2147483648
  case pos =>
   repeat' (with_reducible first|refine qq ?_|refine UE ?_|refine AgV ?_)
   rw [Gq D1 X1 D2 (.inr (.inr (.inr g4))) ⟨a0,a1⟩ ⟨b0,b1⟩,BZ]
   exact Wu
  repeat' (with_reducible first|refine qq ?_|refine UE ?_|refine AgV ?_|(refine Tx 6 ?_;refine gO xF <| gO xD <| gO (by exact Ht rfl rfl rfl (by omega)) <| gO xF <| gO xD <| gO xSb <| gO xF <| gZ AgX <| gO xF <| gZ AgX ?_))
  refine ⟨_,_,BE 2,_,by omega,2*n2,e2 - 1,XE D2 ⟨by omega,by omega⟩ g1 (by omega),rfl,rfl,rfl⟩
 by_cases e2:n=0
 case pos =>
  have X1:e≤be∨n=0∨2147483648≤n∨n ≤ -2147483648:=.inr (.inl e2)
  repeat' (with_reducible first|refine qq ?_|refine Adt ?_|refine AgW ?_)
  refine Bi (BE 2) (Aq (fun m Fr H=>∃ n2 e2:Int,Sd n2 e2 bn be e∧m=(e2+62).toNat∧Fr=ofL [(2,vr 0),(3,vr 1)]∧H=[.box 61 [.d (.val (.int .i64 (n))),.d (.val (.int .i64 (e)))],.box 61 [.d (.val (.int .i64 (n2))),.d (.val (.int .i64 (e2)))]]) (n0:=(be+62).toNat) ⟨bn,be,⟨rfl,by omega,by omega,.inl rfl,by omega,fun _=>rfl⟩,rfl,rfl,rfl⟩ ?_)
  rintro m Fr H ⟨n2,e2,D2,rfl,rfl,rfl⟩
  have f1:=D2.lo
  have f2:=D2.small
  have f3:=D2.hi
  by_cases g1:e<e2
  case neg =>
   repeat' (with_reducible first|refine qq ?_|refine UE ?_)
   rw [Gq D1 X1 D2 (.inl (by omega)) ⟨a0,a1⟩ ⟨b0,b1⟩,BZ]
   exact Wu
  exact absurd g1 (by omega)
 by_cases e3:2147483648≤n
 case pos =>
  have X1:e≤be∨n=0∨2147483648≤n∨n ≤ -2147483648:=.inr (.inr (.inl e3))
  repeat' (with_reducible first|refine qq ?_|refine Adt ?_|refine AgW ?_)
  refine Bi (BE 2) (Aq (fun m Fr H=>∃ n2 e2:Int,Sd n2 e2 bn be e∧m=(e2+62).toNat∧Fr=ofL [(2,vr 0),(3,vr 1)]∧H=[.box 61 [.d (.val (.int .i64 (n))),.d (.val (.int .i64 (e)))],.box 61 [.d (.val (.int .i64 (n2))),.d (.val (.int .i64 (e2)))]]) (n0:=(be+62).toNat) ⟨bn,be,⟨rfl,by omega,by omega,.inl rfl,by omega,fun _=>rfl⟩,rfl,rfl,rfl⟩ ?_)
  rintro m Fr H ⟨n2,e2,D2,rfl,rfl,rfl⟩
  have f1:=D2.lo
  have f2:=D2.small
  have f3:=D2.hi
  by_cases g1:e<e2
  case neg =>
   repeat' (with_reducible first|refine qq ?_|refine UE ?_)
   rw [Gq D1 X1 D2 (.inl (by omega)) ⟨a0,a1⟩ ⟨b0,b1⟩,BZ]
   exact Wu
  exact absurd g1 (by omega)
 by_cases e4:n ≤ -2147483648
 case pos =>
  have X1:e≤be∨n=0∨2147483648≤n∨n ≤ -2147483648:=.inr (.inr (.inr e4))
  repeat' (with_reducible first|refine qq ?_|refine Adt ?_|refine AgW ?_)
  refine Bi (BE 2) (Aq (fun m Fr H=>∃ n2 e2:Int,Sd n2 e2 bn be e∧m=(e2+62).toNat∧Fr=ofL [(2,vr 0),(3,vr 1)]∧H=[.box 61 [.d (.val (.int .i64 (n))),.d (.val (.int .i64 (e)))],.box 61 [.d (.val (.int .i64 (n2))),.d (.val (.int .i64 (e2)))]]) (n0:=(be+62).toNat) ⟨bn,be,⟨rfl,by omega,by omega,.inl rfl,by omega,fun _=>rfl⟩,rfl,rfl,rfl⟩ ?_)
  rintro m Fr H ⟨n2,e2,D2,rfl,rfl,rfl⟩
  have f1:=D2.lo
  have f2:=D2.small
  have f3:=D2.hi
  by_cases g1:e<e2
  case neg =>
   repeat' (with_reducible first|refine qq ?_|refine UE ?_)
   rw [Gq D1 X1 D2 (.inl (by omega)) ⟨a0,a1⟩ ⟨b0,b1⟩,BZ]
   exact Wu
  exact absurd g1 (by omega)
 repeat' (with_reducible first|refine qq ?_|refine Adt ?_|refine AgW ?_|(refine Tx 3 ?_;refine gO xF <| gO xD <| gO (by exact Ht rfl rfl rfl (by omega)) <| gO xF <| gO xD <| gO xSb <| gO xF <| gZ AgX <| gO xF <| gZ AgX ?_))
 refine ⟨_,_,BE 2,_,by omega,2*n,e - 1,XE D1 ⟨by omega,by omega⟩ e1 (by omega),rfl,rfl,rfl⟩
theorem AgY (k:p') (h:Hd9 p'→p:=by with_reducible first|(intro Z9;refine Tx 0 ?_;refine gN xBo <| gN xBo <| gO xA ?_;exact Z9.o)|(intro Z9;refine Tx 1 ?_;refine gO xF <| gO xD <| gO (xCl func167 (AR)) <| gO xA ?_;exact Z9.o)|(intro Z9;refine Tx 2 ?_;refine gO xM <| gO xLt ?_;exact Z9.o)|fail):p:=h ⟨k⟩
theorem ApH (k:p') (h:Hd9 p'→p:=by with_reducible first|(intro Z9;refine Tx 6 ?_;refine gO xF <| gO xD <| gO xN <| gO xA ?_;exact Z9.o)|(intro Z9;refine Tx 7 ?_;refine gO xF <| gO xD <| gO xEq ?_;exact Z9.o)|(intro Z9;refine Tx 9 ?_;refine gO xF <| gO xD <| gO xN <| gO xM ?_;exact Z9.o)|fail):p:=h ⟨k⟩
theorem Qz (k:p') (h:Hd9 p'→p:=by with_reducible first|(intro Z9;refine Tx 10 ?_;refine gO xLt ?_;exact Z9.o)|fail):p:=h ⟨k⟩
theorem AgZ (k:p') (h:Hd9 p'→p:=by with_reducible first|(intro Z9;refine Tx 11 ?_;refine gO (xIr Af (AF hz)) <| gO xD <| gO xA ?_;exact Z9.o)|(intro Z9;refine Tx 12 ?_;refine gO xM <| gO xM <| gO xSb <| gO (xCl func76 (WI)) <| gO Uw ?_;exact Z9.o)|fail):p:=h ⟨k⟩
theorem ApI (h:p:=by first|exact xCl func168 (SV)|exact xCl func168 (SU)):p:=h
theorem ZT (k:p') (h:Hd9 p'→p:=by with_reducible first|(intro Z9;refine Tx 15 ?_;refine gO xF <| gO xD <| gO xEq <| gO xA ?_;exact Z9.o)|(intro Z9;refine Tx 16 ?_;refine gO xF <| gO xL <| gO xM <| gO xM ?_;(first|iterate 3 refine Jd ?_|(refine Jy (xFa Dj Ak) ?_;refine Jy (xLd Ak) ?_;refine Jy xEq ?_));refine gO xPk <| gO xM ?_;(first|iterate 3 refine Jd ?_|(refine Jy (xFa Dj Ak) ?_;refine Jy (xLd Ak) ?_;refine Jy xEq ?_));refine gO xPk <| gO xM ?_;(first|iterate 3 refine Jd ?_|(refine Jy (xFa Dj Ak) ?_;refine Jy (xLd Ak) ?_;refine Jy xEq ?_));refine gO xPk <| gO ApI <| gO xA ?_;exact Z9.o)|(intro Z9;refine Tx 17 ?_;refine gO xM <| gO xNe ?_;exact Z9.o)|fail):p:=h ⟨k⟩
theorem Adu (k:p') (h:Hd9 p'→p:=by with_reducible first|(intro Z9;refine Tx 19 ?_;refine gO xF <| gO xL <| gO xM <| gO ApI <| gO xA ?_;exact Z9.o)|(intro Z9;refine Tx 20 ?_;refine gO xM <| gO xNe ?_;exact Z9.o)|fail):p:=h ⟨k⟩
theorem Asg (k:p') (h:Hd9 p'→p:=by with_reducible first|(intro Z9;refine Tx 22 ?_;refine gO xM <| gO xM ?_;(first|iterate 4 refine Jd ?_|(refine Jy (xFa ER Be) ?_;refine Jy (xLa Be) ?_;refine Jy (xFa ES Be) ?_;refine Jy (xLa Be) ?_));refine Jd ?_;(first|refine Jd ?_|refine Jy xGt ?_);refine gO xPk ?_;exact Z9.o)|fail):p:=h ⟨k⟩
theorem ApJ (k:p') (h:Hd9 p'→p:=by with_reducible first|(intro Z9;refine Tx 22 ?_;refine gO xM <| gO xM ?_;(first|iterate 6 refine Jd ?_|(refine Jy (xFa ER Be) ?_;refine Jy (xLa Be) ?_;refine Jy (xFa ES Be) ?_;refine Jy (xLa Be) ?_;refine Jy (xCl func169 (CM)) ?_;refine Jy xGt ?_));refine gO xPk ?_;exact Z9.o)|fail):p:=h ⟨k⟩
theorem Adv (h:p:=by
 rw [h4] at SV
 by_cases h5:CG y.un y.ue false=0
 case neg =>
  rw [be5 h1 h2 hM hf hv h4 hc h5]
  repeat' (with_reducible first|refine qq ?_|refine Qz ?_|refine ZT ?_|refine Adu ?_|(refine Tx 21 ?_;refine gO xM <| gO xA ?_))
  exact Ax rfl (.cons_ (QX rfl rfl) .nil_)
 rw [h5] at SU
 rw [be7 h1 h2 hM hf hv h4 hc h5 (fun h=>by cases h.1)]
 repeat' (with_reducible first|refine qq ?_|refine Qz ?_|refine ZT ?_|refine Adu ?_|refine Asg ?_|(refine Tx 24 ?_;refine gO xA ?_))
 exact Ax rfl (.cons_ (QX rfl (rfl)) .nil_)):p:=h
theorem ZU (h:p:=by
 rw [be4 h1 h2 hM hf hv h4]
 repeat' (with_reducible first|refine qq ?_|refine Qz ?_|refine ZT ?_|(refine Tx 18 ?_;refine gO xM <| gO xA ?_))
 exact Ax rfl (.cons_ (QX rfl rfl) .nil_)):p:=h
theorem Adw (t:Bool) {ps:List Prt} {bs:List Bk} {os:List Int} (hl:FK ps bs os) (y:Bk) (hyl:y.args.length≤1000000):CV prog An 77 [aDg t ps bs os,.agg (dBk t y)] [aI (BQ ps.length bs.length y)]:=by
 refine cvz func77 ntmps77 ?_
 have AR:=Adr y.kind
 have SV:=Rn y.vn y.ve (Pt y.kind)
 have SU:=Rn y.un y.ue (Lk y.kind)
 have hl1:=hl.l1
 have hl2:=hl.l2
 by_cases h1:AO y.kind<0
 case pos =>
  rw [be1 h1]
  repeat' (with_reducible first|refine qq ?_|refine AgY ?_|(refine Tx 3 ?_;refine gO xA ?_))
  exact Nl
 by_cases h2:((y.args.length:Nat):Int)=AO y.kind
 case neg =>
  rw [be2 h1 h2]
  repeat' (with_reducible first|refine qq ?_|refine AgY ?_|(refine Tx 4 ?_;refine gO xF <| gO xD <| gO xN <| gO xM <| gO xNe ?_)|(refine Tx 5 ?_;refine gO xA ?_))
  exact Nl
 have hA2:y.args.length≤2:=by unfold AO at h2;(repeat' split at h2) <;> omega
 by_cases k0:y.kind=0
 case pos =>
  have hM:Cn ps.length bs.length y.kind=ps.length:=if_pos k0
  repeat' (with_reducible first|refine qq ?_|refine AgY ?_|(refine Tx 4 ?_;refine gO xF <| gO xD <| gO xN <| gO xM <| gO xNe ?_)|refine ApH ?_|(refine Tx 8 ?_;refine gO xF <| gO xD <| gO xN <| gO xA ?_))
  refine Bi (BE 2) (Aq (fun n Fr H=>∃ k:Nat,k≤y.args.length∧n=y.args.length - k∧Ah ((y.args.map (NC ps.length)).take k)=0∧Fr=ofL [(2,vr 0),(3,vr 1),(6,vi ps.length),(32,vd (Ba t y.args)),(33,vi y.args.length),(34,vi ((k:Nat)))]∧H=[.box 26 [.d (Dh t ps),.d (DC t bs),.d (Ba t os)],.box 63 [.d (.val (.int .i64 y.kind)),.d (Ba t y.args),.d (.val (.int .i64 y.vn)),.d (.val (.int .i64 y.ve)),.d (.val (.int .i64 y.un)),.d (.val (.int .i64 y.ue))]]) (n0:=y.args.length) ⟨0,ad _,rfl,rfl,rfl,rfl⟩ ?_)
  rintro n Fr H ⟨k,hk,rfl,hf,rfl,rfl⟩
  by_cases hlt:k<y.args.length
  case pos =>
   obtain ⟨z,hz⟩:∃ z,y.args[k]?=some z:=⟨_,gE hlt⟩
   have WI:=EM z 0 ((ps.length:Nat) - 1)
   unfold GR at WI
   by_cases hb:0≤z∧z<((ps.length:Nat):Int)
   case neg =>
    rw [be3 h1 h2 hM (Sh hz hb hf)]
    rw [decide_eq_false (by omega)] at WI
    repeat' (with_reducible first|refine qq ?_|refine Qz ?_|refine AgZ ?_|(refine Tx 13 ?_;refine gO xA ?_))
    exact Nl
   rw [decide_eq_true (by omega)] at WI
   obtain ⟨z0,z1⟩:=hb
   repeat' (with_reducible first|refine qq ?_|refine Qz ?_|refine AgZ ?_|(refine Tx 14 ?_;refine gO xAd <| gO xM ?_))
   exact AgO
  obtain rfl:k=y.args.length:=by omega
  rw [aq (by rw [af];exact aa _)] at hf
  clear hlt hk
  generalize hv:Pt y.kind=vu at SV
  generalize hc:Lk y.kind=cu at SU
  have hv1:vu=false:=by rw [←hv,k0];rfl
  have hc1:cu=false:=by rw [←hc,k0];rfl
  subst hv1 hc1
  by_cases h4:CG y.vn y.ve false=0
  case neg =>
   exact ZU
  exact Adv
 case neg =>
  have hM:Cn ps.length bs.length y.kind=bs.length:=if_neg k0
  repeat' (with_reducible first|refine qq ?_|refine AgY ?_|(refine Tx 4 ?_;refine gO xF <| gO xD <| gO xN <| gO xM <| gO xNe ?_)|refine ApH ?_)
  refine Bi (BE 2) (Aq (fun n Fr H=>∃ k:Nat,k≤y.args.length∧n=y.args.length - k∧Ah ((y.args.map (NC bs.length)).take k)=0∧Fr=ofL [(2,vr 0),(3,vr 1),(6,vi bs.length),(32,vd (Ba t y.args)),(33,vi y.args.length),(34,vi ((k:Nat)))]∧H=[.box 26 [.d (Dh t ps),.d (DC t bs),.d (Ba t os)],.box 63 [.d (.val (.int .i64 y.kind)),.d (Ba t y.args),.d (.val (.int .i64 y.vn)),.d (.val (.int .i64 y.ve)),.d (.val (.int .i64 y.un)),.d (.val (.int .i64 y.ue))]]) (n0:=y.args.length) ⟨0,ad _,rfl,rfl,rfl,rfl⟩ ?_)
  rintro n Fr H ⟨k,hk,rfl,hf,rfl,rfl⟩
  by_cases hlt:k<y.args.length
  case pos =>
   obtain ⟨z,hz⟩:∃ z,y.args[k]?=some z:=⟨_,gE hlt⟩
   have WI:=EM z 0 ((bs.length:Nat) - 1)
   unfold GR at WI
   by_cases hb:0≤z∧z<((bs.length:Nat):Int)
   case neg =>
    rw [be3 h1 h2 hM (Sh hz hb hf)]
    rw [decide_eq_false (by omega)] at WI
    repeat' (with_reducible first|refine qq ?_|refine Qz ?_|refine AgZ ?_|(refine Tx 13 ?_;refine gO xA ?_))
    exact Nl
   rw [decide_eq_true (by omega)] at WI
   obtain ⟨z0,z1⟩:=hb
   repeat' (with_reducible first|refine qq ?_|refine Qz ?_|refine AgZ ?_|(refine Tx 14 ?_;refine gO xAd <| gO xM ?_))
   exact AgO
  obtain rfl:k=y.args.length:=by omega
  rw [aq (by rw [af];exact aa _)] at hf
  clear hlt hk
  generalize hv:Pt y.kind=vu at SV
  generalize hc:Lk y.kind=cu at SU
  by_cases k11:y.kind=11
  case pos =>
   have hv1:vu=true:=by rw [←hv,k11];rfl
   have hc1:cu=true:=by rw [←hc,k11];rfl
   subst hv1 hc1
   by_cases h4:CG y.vn y.ve true=0
   case neg =>
    exact ZU
   rw [h4] at SV
   by_cases h5:CG y.un y.ue true=0
   case neg =>
    rw [be5 h1 h2 hM hf hv h4 hc h5]
    repeat' (with_reducible first|refine qq ?_|refine Qz ?_|refine ZT ?_|refine Adu ?_|(refine Tx 21 ?_;refine gO xM <| gO xA ?_))
    exact Ax rfl (.cons_ (QX rfl rfl) .nil_)
   rw [h5] at SU
   have o1:=Pu h4
   have o2:=Pu h5
   have CM:=AlS y.vn y.ve y.un y.ue o1 o2
   generalize hq:NR y.vn y.ve y.un y.ue=q at CM
   by_cases h6:0<q
   case pos =>
    rw [be6 h1 h2 hM hf hv h4 hc h5 ⟨rfl,by rw [hq];exact h6⟩]
    repeat' (with_reducible first|refine qq ?_|refine Qz ?_|refine ZT ?_|refine Adu ?_|refine ApJ ?_|(refine Tx 23 ?_;refine gO xA ?_))
    exact Nl
   rw [be7 h1 h2 hM hf hv h4 hc h5 (fun h=>h6 (by rw [←hq];exact h.2))]
   repeat' (with_reducible first|refine qq ?_|refine Qz ?_|refine ZT ?_|refine Adu ?_|refine ApJ ?_|(refine Tx 24 ?_;refine gO xA ?_))
   exact Nl
  have hc1:cu=false:=by rw [←hc];exact DQ k11
  subst hc1
  by_cases kv:y.kind=1∨y.kind=2∨y.kind=6
  case pos =>
   have hv1:vu=true:=by rw [←hv];rcases kv with h|h|h <;> (rw [h];rfl)
   subst hv1
   rcases kv with kv|kv|kv
   ·
    by_cases h4:CG y.vn y.ve true=0
    case neg =>
     exact ZU
    exact Adv
   ·
    by_cases h4:CG y.vn y.ve true=0
    case neg =>
     exact ZU
    exact Adv
   ·
    by_cases h4:CG y.vn y.ve true=0
    case neg =>
     exact ZU
    exact Adv
  have hv1:vu=false:=by rw [←hv];unfold Pt;rw [DQ k11,DQ (by omega),DQ (by omega),DQ (by omega)];rfl
  subst hv1
  by_cases h4:CG y.vn y.ve false=0
  case neg =>
   exact ZU
  exact Adv
theorem Wv (t:Bool) {ps:List Prt} {bs:List Bk} {os:List Int} (hl:FK ps bs os):CV prog An 79 [aDg t ps bs os] [.one (Ba false (BK (Bx bs)))]:=by
 refine cvz func79 ntmps79 ?_
 have hl2:=hl.l2
 have hall:Bx bs=fl (CH bs) bs.length:=rfl
 repeat' (with_reducible first|refine qq ?_|(refine Tx 0 ?_;refine gN xBo <| gO xA ?_)|(refine Tx 1 ?_;refine gO xA ?_))
 refine Bi (LM 3 3 1 rfl) ?_
 repeat' (with_reducible first|refine qq ?_|(refine Tx 2 ?_;refine gO xF <| gO xD <| gO xN <| gO xM ?_))
 refine Bi (BE 2) (Aq (fun n Fr H=>∃ k:Nat,k≤bs.length∧n=bs.length - k∧Fr=ofL [(1,vr 0),(3,vo 1 ((BK (fl (CH bs) k)).length)),(7,vd (DC t bs)),(8,vi bs.length),(9,vi ((k:Nat)))]∧H=[.box 26 [.d (Dh t ps),.d (DC t bs),.d (Ba t os)],.row 3 1 (BK (fl (CH bs) (k))).length (cI (BK (fl (CH bs) (k))))]) (n0:=bs.length) ⟨0,ad _,rfl,rfl,rfl⟩ ?_)
 rintro n Fr H ⟨k,hk,rfl,rfl,rfl⟩
 by_cases hlt:k<bs.length
 case pos =>
  obtain ⟨y,hy⟩:∃ y,bs[k]?=some y:=⟨_,gE hlt⟩
  have hfl:=Akw (CH bs) k
  have hnl:=CR (fl (CH bs) k)
  by_cases k2:y.kind=2
  case pos =>
   have hd:CH bs k=true:=by unfold CH;rw [EY hy,k2];rfl
   have hap:(BK (fl (CH bs) (k)))++[(k:Int)]=(BK (fl (CH bs) (k+1))):=by rw [AbU hd,Hy]
   have hap2:(BK (fl (CH bs) (k))).length+1=(BK (fl (CH bs) (k+1))).length:=by rw [←hap,ak];rfl
   repeat' (with_reducible first|refine qq ?_|(refine Tx 3 ?_;refine gO xLt ?_)|(refine Tx 4 ?_;refine gO xM <| gO (xIr Aj (DK hy)) <| gO xL <| gN (xAl Bw) <| gO xA <| gZ (xSk Bm) ?_)|(refine Tx 5 ?_;refine gO xF <| gO xD <| gO xEq ?_)|(refine Tx 6 ?_;refine gO xM <| gO xM <| gN (by exact Bj rfl Af Bz rfl rfl (by decide) (by decide)) <| gT (by exact LP rfl rfl rfl rfl rfl rfl Af Bz (by omega) (by decide) hap hap2) <| gO xA ?_)|(refine Tx 7 ?_;refine gO xAd <| gO xM ?_))
   exact AgQ
  have hd:CH bs k=false:=by unfold CH;rw [EY hy];exact DQ k2
  have hno:(BK (fl (CH bs) (k+1)))=(BK (fl (CH bs) (k))):=by rw [Akv hd]
  repeat' (with_reducible first|refine qq ?_|(refine Tx 3 ?_;refine gO xLt ?_)|(refine Tx 4 ?_;refine gO xM <| gO (xIr Aj (DK hy)) <| gO xL <| gN (xAl Bw) <| gO xA <| gZ (xSk Bm) ?_)|(refine Tx 5 ?_;refine gO xF <| gO xD <| gO xEq ?_)|(refine Tx 7 ?_;refine gO xAd <| gO xM ?_))
  rw [←hno]
  exact AgQ
 obtain rfl:k=bs.length:=by omega
 rw [hall]
 repeat' (with_reducible first|refine qq ?_|(refine Tx 3 ?_;refine gO xLt ?_)|(refine Tx 8 ?_;refine gO xM <| gO xA ?_))
 exact Ax rfl (.cons_ (Ya rfl rfl rfl) .nil_)
end Go.Proofs.YtmdfjbpggbhgnaaGreatDoor
