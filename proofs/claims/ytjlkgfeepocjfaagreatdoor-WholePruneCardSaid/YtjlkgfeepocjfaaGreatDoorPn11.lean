/- What the proofs of this claim share, part 11. No conditions. -/
import Derived.Test.YtjlkgfeepocjfaaGreatDoorPn9
import Derived.Test.YtjlkgfeepocjfaaGreatDoorPn10
import Derived.Test.YtjlkgfeepocjfaaGreatDoorPn6
import Derived.Test.YtjlkgfeepocjfaaGreatDoorPn8
import Derived.Laws.StructEq
set_option maxRecDepth 100000
set_option maxHeartbeats 4000000
set_option linter.all false
open Go.Proofs.Tryz
namespace Go.Proofs.YtjlkgfeepocjfaaGreatDoor
open Go.RowKit
variable {by_ c fuel g i id lo m n s u:Nat} {t t' ty:TypeId} {y:Operand} {k':IntKind} {P:Program} {F:Frm} {H:List Ob} {G:World→Prop} {ts:Array TypeId} {w:World} {a b o o0 ws:List Nat} {e f q r:Int} {p p':Prop} {S:Dm} {bs:List Bk}
def cBl (l:List Bool):List C:=l.map fun b=>.d (.val (.bool b))
theorem Aia (n:Nat):DW (madeCells (Value.bool false).cells (n*1)).toList=cBl (List.replicate n false):=by
 rw [cz,show (Value.bool false).cells=#[Value.bool false] from rfl,toList_madeCells_one]
 simp [DW,cBl]
theorem Aeh {l:List Bool}:∀ c∈cBl l,C.bel n c:=fun c hc=>by obtain ⟨z,_,rfl⟩:=List.mem_map.1 hc;trivial
theorem Ara {l:List Bool} {k:Nat} {z:Bool} (h:l[k]?=some z):((cBl l).drop (k*1))[0]?=some (.d (.val (.bool z))):=by
 simp [cBl,h]
section
variable {P:Program} {G:World→Prop} {o:Oper} {F:Frm} {H:List Ob}
theorem Aei {e:TypeId} {x:Operand} {k:IntKind} (ho:o.op=.makeSlice t x y) (hx:F.ev x=.one (.d (.val (.int k (n:Int))))) (hy:F.ev y=.one (.d (.val (.int k' (n:Int))))) (ht:TyS P t e 1) (hz:TyZ P e (.bool false) 1 by_) (hn:n≤1000000) (hby:by_≤1000) :
  AU P G o F H (.one (.own H.length n)) [.row e 1 n (cBl (List.replicate n false))]:=by
 have:=Bo (P:=P) (G:=G) (H:=H) ho hx hy ht hz hn hby
 rwa [Aia] at this
theorem Aej {x:Operand} {k:Nat} {xs:List Bool} {z:Bool} (ho:o.op=.load t x) (hx:F.ev x=.one (.ref id (i*1) (some n))) (hH:H[id]?=some (.row ty s n (cBl xs))) (hz:xs[i]?=some z) (hk:TyK P t false k):AU P G o F H (.one (.d (.val (.bool z)))) [] :=
 Pf ho hx (.row hH) (Ara hz) hk
theorem Ana {x:Operand} {xs:List Bool} {z b:Bool} (ho:o.op=.store t x y) (hx:F.ev x=.one (.ref id (i*1) (some n))) (hH:H[id]?=some (.row ty s n (cBl xs))) (hy:F.ev y=.one (.d (.val (.bool z)))) (hty:TyK P t b 1) (hi:i<xs.length) {ys:List Bool} (hys:xs.set i z=ys):TOk P G o F H .any (H.set id (.row ty s n (cBl ys))):=by
 have:=Hu (P:=P) (G:=G) ho hx hH rfl hy hty (by simp [Ob.cs,cBl,hi])
 have e:(cBl xs).set (i*1) (.d (.val (.bool z)))=cBl ys:=by rw [←hys,cz];simp [cBl,gj]
 simp only [Ob.cs,Ob.setC,e] at this
 exact this
end
theorem Akr {t ty:Nat} {xs:List Int} (hF:F t=.one (.own id n)) (hH:H[id]?=some (.row ty 1 n (cI xs))) (hn:n=xs.length):RV P F H (.tmp t) (.one (AM false xs)):=.tmp (by
 rw [hF]
 refine .one (EI rfl hH (by rw [hn];rfl) (AP.map_l.2 ⟨by rw [ad],fun j a b ha hb=>?_⟩))
 rw [ag,ha] at hb
 cases hb
 exact .d fun _=>.val _)
theorem CV.cv {f:FuncId} {args res:List A} (h:CV P G f args res):CV P G f args res:=h
def Arb (S:Dm) (w w':World):Dm:=fun t b=>S t b∨(t=false∧w.heap.size≤b∧b<w'.heap.size)
def CVB (P:Program) (G:World→Prop) (f:FuncId) (args:List A) (d:D):Prop :=
 ∀ (w:World) (S:Dm) (vs:List Value),G w→(∀ t b,S t b→b<w.heap.size)→AP (EA w S) args vs →
  Calls P f vs.toArray w fun e w'=>∃ v,e=.returned v∧Ba w' (Arb S w w') d v∧Below w.heap.size w w'
theorem Arc (hG:∀ w w',Below w.heap.size w w'→G w→G w') {f:FuncId} {fn:Func} {c:Code} {N:Nat} {args:List A} {d:D} (hf:P.funcs[f]?=some fn) (hN:fn.ntmps=N) (ha:args.length≤N) (hb:fn.body=some c)
  (h:CW P G N c (F0 args) [] (fun e F _=>(e=.ret∨e=.normal)∧∃ t d',fn.results=#[.tmp t]∧F t=.one (.d d')∧∀ (w:World) (S:Dm) (v:Value),Ba w S d' v→Ba w S d v)):CVB P G f args d:=by
 intro w S vs hg hlt hargs
 refine calls_of_wp hf hb ?_
 refine wp_mono (h w.heap.size w ⟨S,[]⟩ _ ⟨w,S,[],fun _=>none⟩ (fun w' hb'=>hG w w' hb' hg) rfl (Ml hN ha hlt hargs)) fun e a' w' ⟨F',m',hw,hs,hret⟩=>?_
 subst hw
 obtain ⟨he,t,d',hr,hF,hdd⟩:=hret
 have hx:=hs.frame t
 rw [hF] at hx
 have hx:=hdd _ _ _ hx
 have hd:Ba m'.w (Arb S w m'.w) d (a'.tmps.getD t undef):=Ba.mono (fun t b hb'=>by
  cases t with
  | true=>exact .inl (by rw [hs.T] at hb';exact hb')
  | false=>exact (hs.S b hb').elim .inl fun h=>.inr ⟨rfl,h,hs.cx.lt _ _ hb'⟩) (fun _ _ _=>rfl) hx
 have hrun:(results fn a'.tmps).run P m'.w=.ok (a'.tmps.getD t undef) m'.w:=by
  have h1:(fn.results.mapM (VG a'.tmps)).run P m'.w=.ok #[a'.tmps.getD t undef] m'.w:=by
   rw [hr,←kb (xs:=#[ResultVar.tmp t]),kc,map_eq_pure_bind,ai]
   simp [jz,VG,ai]
  have hb':∀ (s:Sem (Array Value)) (k:Array Value→Sem Value),(s.bind k).run P m'.w=(s.run P m'.w).andThen fun a w=>(k a).run P w:=fun s k=>ai (x:=s) (f:=k) ..
  rw [II,hb',h1]
  rfl
 rcases he with rfl|rfl
 ·exact ⟨hs.defers,_,hrun,_,rfl,hd,hs.below⟩
 ·exact ⟨hs.defers,_,hrun,_,rfl,hd,hs.below⟩
theorem ZT {t:Bool} (w:World) (S:Dm) (v:Value) (h:Ba w S (.val (.slice none 0 0)) v):Ba w S (.row t s 0 []) v:=by
 cases h
 exact .row [] (aa _) (fun _=>rfl) (by simp) rfl (fun h=>absurd rfl h) (fun j u x h=>by simp at h)
theorem A.rel_x {m:Mm} {y:A} {v:Value} (h:Ey m y.x v):EA m.w m.S y v:=by
 cases y with
 | one d=>exact h
 | agg ds =>
  obtain ⟨xs,h1,h2⟩:=h
  exact ⟨xs,h1,(AP.map_l (f:=C.d)).1 h2⟩
section
variable {P:Program} {G:World→Prop} {o:Oper} {F:Frm} {H:List Ob}
theorem Aib {f:FuncId} {fn:Func} {c:Code} {xs:Array Operand} (ho:o.op=.call { callee:=.value (.func f),args:=xs,argTypes:=ts })
  (hf : P.funcs[f]? = some fn) (hn : (fn.name == "runtime.NumGoroutine") = false) (hb : fn.body = some c) {args : List A} {d : D} (h : CVB P G f args d) (ha : AP (fun x (y : A) => F.ev x = y.x) xs.toList args) :
  AU P G o F H (.one (.d d)) []:=by
 intro b0 m a hp hx hg hb0 _ hor K Q hK
 have hxs:∀ x∈xs.toList,Ey m (F.ev x) (a.eval x):=fun x hm=>AV hor (by
  rw [ho]
  simp only [Op.operands,Call.operands,ij,eo]
  exact .inr hm)
 have hcalls:=h m.w m.S (xs.toList.map a.eval) hg hx.lt ⟨by rw [ad];exact ha.1.symm,fun j y v hy hv=>by
   simp only [ag,dg] at hv
   obtain ⟨x,hxj,rfl⟩:=hv
   have h1:=hxs x (gM hxj)
   rw [ha.2 j x y hxj hy] at h1
   exact A.rel_x h1⟩
 unfold Oper.wp execOp
 simp only [ho,resolve,Act.eval,Deferred.ofValue,ai,bk,bd,invoke]
 rw [DD hf hn hb]
 rw [gl]
 have he:((#[]:Array Value)++xs.map a.eval++#[])=(xs.toList.map a.eval).toArray:=gb (by simp)
 simp only [he]
 refine hcalls.mono fun e w' ⟨v,hev,hres,hbel⟩=>?_
 subst hev
 refine hK v w' [] ⟨rfl,hbel,fun k e hk=>by simp at hk,List.Pairwise.nil⟩ ?_
 exact Ba.mono (fun t b hb=>by
  rcases hb with hb|⟨rfl,h1,h2⟩
  ·exact .inl hb
  ·exact .inr ⟨rfl,h1,h2,fun e he=>by simp at he⟩) (fun _ _ _=>rfl) hres
end
theorem xCb {G : World → Prop} {o : Oper} {f : FuncId} {fn : Func} {cd : Code} {xs : Array Operand} {args : List A} {d : D} (h1 : P.funcs[f]? = some fn) (h : CVB P G f args d) (h2 : (fn.name == "runtime.NumGoroutine") = false := by kernel_rfl) (h3 : fn.body = some cd := by with_unfolding_all exact rfl) (ho : o.op = .call { callee := .value (.func f), args := xs, argTypes := ts } := by with_unfolding_all exact rfl) (ha : AP (fun x (y : A) => F.ev x = y.x) xs.toList args := by with_unfolding_all first | ((repeat' first | exact BM rfl rfl | refine AX rfl rfl rfl ?_) <;> fail) | fail) : AU P G o F H (.one (.d d)) [] := Aib ho h1 h2 h3 h ha
theorem AbD (a b c d:Int) (w:World):(Op.equalIn 10000 63 (.agg #[.int .i64 a,.int .i64 b]) (.agg #[.int .i64 c,.int .i64 d])).run prog w=.ok (a == c && b == d) w:=by
 have hS:prog.underlying 63=some (.struct (prog.fieldsOf 63)):=by kernel_rfl
 have hp:prog.stoodInHeld 63=false:=by kernel_rfl
 have hi:prog.underlying 3=some (.int .i64):=by kernel_rfl
 rw [show (10000:Nat)=9999+1 from rfl,run_equalIn_agg w 9999 63 _ _ hS hp]
 simp only [Program.fieldsOf,underlying63]
 go_simp
 cases h1:(a == c) <;> cases h2:(b == d) <;> simp_all
section
variable {P:Program} {G:World→Prop} {o:Oper} {F:Frm} {H:List Ob}
theorem Aek {m:Mm}:∀ {vs:List Value} {v:Value},Ey m (.agg (vs.map fun u=>.d (.val u))) v→v=.agg vs.toArray:=fun {vs v} h=>by
 obtain ⟨xs,rfl,hl⟩:=h
 have:xs=vs:=by
  have e:AP (fun (u:Value) x=>x=u) vs xs:=AP.map_l.1 (hl.imp fun c x h=>h) |>.imp fun u x h=>by
   have h2:Ba m.w m.S (.val u) x:=h
   cases h2
   rfl
  refine fk fun j=>?_
  rcases hv:vs[j]? with _|u
  ·rw [List.getElem?_eq_none_iff] at hv ⊢
   have:=e.1
   omega
  ·obtain ⟨x,hx,rfl⟩:=e.at_ hv
   exact hx
 rw [this]
theorem Ael {x:Operand} {a b c d:Int} {r:Bool} (ho:o.op=.binOp .neq 63 x y t') (hx:F.ev x=.agg [.d (.val (.int .i64 a)),.d (.val (.int .i64 b))]) (hy:F.ev y=.agg [.d (.val (.int .i64 c)),.d (.val (.int .i64 d))]) (hr:(!(a == c && b == d))=r):AU prog G o F H (.one (.d (.val (.bool r)))) []:=BS fun b0 m ac _ _ hor=>by
 have ex:=Aek (m:=m) (vs:=[.int .i64 a,.int .i64 b]) (v:=ac.eval x) (by rw [show ([.int .i64 a,.int .i64 b]:List Value).map (fun u=>C.d (.val u))=[.d (.val (.int .i64 a)),.d (.val (.int .i64 b))] from rfl,←hx];exact AV hor (by rw [ho];simp [Op.operands]))
 have ey:=Aek (m:=m) (vs:=[.int .i64 c,.int .i64 d]) (v:=ac.eval y) (by rw [show ([.int .i64 c,.int .i64 d]:List Value).map (fun u=>C.d (.val u))=[.d (.val (.int .i64 c)),.d (.val (.int .i64 d))] from rfl,←hy];exact AV hor (by rw [ho];simp [Op.operands]))
 refine ⟨.bool r,?_,Ba.val rfl⟩
 unfold execOp
 simp only [ho,ex,ey]
 rw [ai]
 have h:((do eqGuard .neq 63 x y (.agg #[.int .i64 a,.int .i64 b]) (.agg #[.int .i64 c,.int .i64 d]);binOp .neq 63 (.agg #[.int .i64 a,.int .i64 b]) (.agg #[.int .i64 c,.int .i64 d])):Sem Value).run prog m.w=.ok (.bool r) m.w:=by
  rw [ai,run_eqGuard_agg m.w .neq 63 x y _ _ (by kernel_rfl),bd,run_neq_struct,AbD,bd,hr]
 rw [h]
 rfl
end
def Aks (vs:List Value):Prop:=∀ u∈vs,∀ z,u≠.int .u32 z
theorem BQ.notwd {t:Nat} {vs:List Value} {A:Option Addr} (h:BQ w g vs t) (hn:Aks vs) (hc:Aj w m A (w32 ws)) (j:Nat) (u:Value):Aj (w.setCell ⟨g,j,none⟩ u) m A (w32 ws):=fun hx=>by
 obtain ⟨b,off,hA,hbm,hbs,hcc⟩:=hc hx
 have hne:b≠g:=fun he=>by
  have hp:0<ws.length:=by
   have:=PP ws
   rcases co ws.length with h0|h0
   ·exact absurd (bj (this.trans h0)) hx
   ·exact h0
  have h1:=hcc 0 (.int .u32 (ws[0]:Int)) (by simp [w32,hp])
  rw [he,h.cell] at h1
  exact hn _ (gM h1) _ rfl
 refine ⟨b,off,hA,hbm,by simpa using hbs,fun i v hv=>?_⟩
 rw [World.cell?_setCell_other _ _ _ _ (fun e=>hne (by cases e;rfl))]
 exact hcc i v hv
theorem DyR.setH {hi d t:Nat} {v:Value} {x:Int} {vs:List Value} (h:DyR w lo hi v x d) (hg:BQ w g vs t) (hn:Aks vs) (j:Nat) (u:Value):DyR (w.setCell ⟨g,j,none⟩ u) lo hi v x d:=by
 obtain ⟨A,c,e,h1,h2,h3,h4,h5,h6⟩:=h
 exact ⟨A,c,e,h1,h2,hg.notwd hn h3 j u,h4,h5,h6⟩
theorem Aks.set {vs:List Value} (h:Aks vs) (j:Nat) {u:Value} (hu:∀ z,u≠.int .u32 z):Aks (vs.set j u):=fun v hv z=>by
 rcases kt hv with h1|rfl
 ·exact h v h1 z
 ·exact hu z
theorem Ard {b1:Bool} {A1:Option Addr} {L1 c1:Nat} {d1:Int}:Aks [.bool b1,.slice A1 L1 c1,.int .i64 d1]:=by
 intro u hu z
 simp only [et,ew,or_false] at hu
 rcases hu with rfl|rfl|rfl <;> simp
theorem DyR.set3H {hi d t:Nat} {v:Value} {x:Int} {v0 v1 v2 a0 a1 a2:Value} (h:DyR w lo hi v x d) (hg:BQ w g [v0,v1,v2] t) (hn:Aks [v0,v1,v2]) (ha:Aks [a0,a1,a2]) :
  DyR (((w.setCell ⟨g,0,none⟩ a0).setCell ⟨g,1,none⟩ a1).setCell ⟨g,2,none⟩ a2) lo hi v x d:=by
 have k0:=hn.set 0 (ha a0 (by simp))
 have k1:=k0.set 1 (ha a1 (by simp))
 exact ((h.setH hg hn 0 a0).setH (hg.set_ 0 a0) k0 1 a1).setH ((hg.set_ 0 a0).set_ 1 a1) k1 2 a2
theorem Are (w:World) (g:Nat) (a0 a1 a2:Value):(((w.setCell ⟨g,0,none⟩ a0).setCell ⟨g,1,none⟩ a1).setCell ⟨g,2,none⟩ a2).heap.size=w.heap.size:=by simp
theorem Yj {W:World} (h:Below m W w) (hg:m≤g) (a0 a1 a2:Value):Below m W (((w.setCell ⟨g,0,none⟩ a0).setCell ⟨g,1,none⟩ a1).setCell ⟨g,2,none⟩ a2) :=
 ((h.setCell hg a0).setCell hg a1).setCell hg a2
def shE (x k:Int):Int:=if k<0 then x / 2 ^ (-k).toNat else x*2 ^ k.toNat
theorem Aic (x:Int) (p:Nat):(nf x p).1 / 2 ^ (nf x p).2=x / 2 ^ p:=by
 induction p generalizing x with
 | zero=>rfl
 | succ p ih =>
  unfold nf
  split
  ·rename_i h
   rw [ih]
   have e:x=2*(x / 2):=by omega
   rw [Int.pow_succ,fv (2 ^ p) 2,←Int.ediv_ediv_of_nonneg (by omega)]
  ·rfl
theorem Wx (x:Int) (d:Nat):BX x d 0=(x / 2 ^ d,0):=by
 unfold BX
 by_cases h:d≤0
 ·have:d=0:=by omega
  subst this
  simp
 ·rw [if_neg h]
  rfl
theorem Arf {x k:Int} (h1 : -65536≤k) (h2:k≤65536):BX (Ac x 0 k).1 (Ac x 0 k).2 0=(shE x k,0):=by
 rw [Wx]
 congr 1
 unfold Ac shE
 rw [show max (-65536) (min k 65536)=k by omega]
 by_cases h:k<0
 ·rw [if_pos h,if_pos h,ax]
  exact Aic _ _
 ·rw [if_neg h,if_neg h]
  show x*2 ^ k.toNat / 2 ^ 0=_
  simp
def NL (n e f:Int):Prop := -2147483648<n∧n<2147483648 ∧ -62≤e∧e≤30∧0≤f∧f≤30
instance (n e f:Int):Decidable (NL n e f):=by unfold NL;infer_instance
def BW (n e f:Int):Int:=if NL n e f then (if -2147483648≤shE n (e+f)∧shE n (e+f)<2147483648 then 0 else 13) else 3
def Pu (n e f:Int):Int:=if BW n e f=0 then shE n (e+f) else 0
theorem Arg {n:Int} (h:¬ NL n e f):BW n e f=3∧Pu n e f=0:=by
 have h1:BW n e f=3:=if_neg h
 exact ⟨h1,by unfold Pu;rw [h1];rfl⟩
theorem Yk {n:Int} (h:NL n e f) (h2:¬ (-2147483648≤shE n (e+f)∧shE n (e+f)<2147483648)):BW n e f=13∧Pu n e f=0:=by
 have h1:BW n e f=13:=by unfold BW;rw [if_pos h,if_neg h2]
 exact ⟨h1,by unfold Pu;rw [h1];rfl⟩
theorem Anb {n:Int} (h:NL n e f) (h2 : -2147483648≤shE n (e+f)∧shE n (e+f)<2147483648):BW n e f=0∧Pu n e f=shE n (e+f):=by
 have h1:BW n e f=0:=by unfold BW;rw [if_pos h,if_pos h2]
 exact ⟨h1,by unfold Pu;rw [h1];rfl⟩
theorem SL {x:Int} {k:Nat} (hx:x.natAbs≤2147483648) (hk:k≤100):(x*2 ^ k).natAbs≤2147483648*2 ^ 100:=by
 rw [fw,fx]
 exact du hx (ba (by decide) hk)
theorem SM {x:Int} (k:Nat):(x / 2 ^ k).natAbs≤x.natAbs:=by
 have hp:(0:Int)<2 ^ k:=Int.pow_pos (by decide)
 have h1:=Int.mul_ediv_add_emod x (2 ^ k)
 have h2:=Int.emod_nonneg x (jf hp)
 have h3:=Int.emod_lt_of_pos x hp
 have hle:(0:Int)≤x→0≤x / 2 ^ k:=fun h=>Int.ediv_nonneg h (ck hp)
 by_cases h:0≤x
 ·have h4:=hle h
  have h5:=Int.ediv_le_self (2 ^ k) h
  omega
 ·have h4:x≤x / 2 ^ k:=by
   rw [Int.le_ediv_iff_mul_le hp]
   have h6:(1:Int)≤2 ^ k:=hp
   have h7:=jd (a := -x) (b:=2 ^ k - 1) (by omega) (by omega)
   rw [ej,Int.mul_sub,Int.mul_one] at h7
   omega
  have h5:x / 2 ^ k<0:=Int.ediv_neg_of_neg_of_pos (by omega) hp
  omega
theorem Arh {x k:Int} (hx:x.natAbs≤2147483648) (h1 : -100≤k) (h2:k≤100):(Ad (Ac x 0 k).1.natAbs).length≤5:=by
 refine AC (ic (m:=2147483648*2 ^ 100) ?_ (by decide))
 unfold Ac
 rw [show max (-65536) (min k 65536)=k by omega]
 by_cases h:k<0
 ·rw [if_pos h]
  exact lT (Gm _ _) (lT hx (by decide))
 ·rw [if_neg h]
  exact lT (Gm _ _) (SL hx (by omega))
theorem Anc {x k:Int} (hx:x.natAbs≤2147483648) (h2:k≤100):(Ad (shE x k).natAbs).length≤5:=by
 refine AC (ic (m:=2147483648*2 ^ 100) ?_ (by decide))
 unfold shE
 by_cases h:k<0
 ·rw [if_pos h]
  exact lT (SM _) (lT hx (by decide))
 ·rw [if_neg h]
  exact SL hx (by omega)
theorem Yl {n:Int} (h:NL n e f):¬ n ≤ -2147483648∧¬ 2147483648≤n∧¬ e < -62∧¬ 30<e∧¬ f<0∧¬ 30<f:=by
 unfold NL at h
 omega
theorem Aem {n:Int} (h:¬ NL n e f):n ≤ -2147483648∨(¬ n ≤ -2147483648∧2147483648≤n)∨(¬ n ≤ -2147483648∧¬ 2147483648≤n∧e < -62)∨(¬ n ≤ -2147483648∧¬ 2147483648≤n∧¬ e < -62∧30<e) ∨
  (¬ n ≤ -2147483648∧¬ 2147483648≤n∧¬ e < -62∧¬ 30<e∧f<0)∨(¬ n ≤ -2147483648∧¬ 2147483648≤n∧¬ e < -62∧¬ 30<e∧¬ f<0∧30<f):=by
 unfold NL at h
 omega
theorem AbE (h:p:=by
 go_enter func52,ntmps52
 go_wp2_with fail
 exact bodyPost_ret (v:=.tuple #[.int .i64 0,.iface 85 (.int .i64 3)]) (by simp [results,results52,go_sem]) rfl ⟨by rw [HV.out.1,HV.out.2];rfl,b0⟩):p:=h
theorem Ane (n e f:Int) (w:World) (h:¬ NL n e f) :
  Calls prog 52 #[.agg #[.int .i64 n,.int .i64 e],.int .i64 f] w fun r w'=>r=.returned (.tuple #[.int .i64 (Pu n e f),EK (BW n e f)])∧Below w.heap.size w w':=by
 have HV:=mi (Arg h)
 have b0:=al_ w (.cells #[.int .i64 n,.int .i64 e] 63)
 have r0:=BQ.new_ w [.int .i64 n,.int .i64 e] 63
 have h':=Aem h
 clear h
 rcases h' with g0|⟨g0,g1⟩|⟨g0,g1,g2⟩|⟨g0,g1,g2,g3⟩|⟨g0,g1,g2,g3,g4⟩|⟨g0,g1,g2,g3,g4,g5⟩
 ·have d0:decide (n ≤ -2147483648)=true:=decide_eq_true g0
  clear g0
  exact AbE
 ·have d0:decide (n ≤ -2147483648)=false:=decide_eq_false g0
  have d1:decide (2147483648≤n)=true:=decide_eq_true g1
  clear g0 g1
  exact AbE
 ·have d0:decide (n ≤ -2147483648)=false:=decide_eq_false g0
  have d1:decide (2147483648≤n)=false:=decide_eq_false g1
  have d2:decide (e < -62)=true:=decide_eq_true g2
  clear g0 g1 g2
  exact AbE
 ·have d0:decide (n ≤ -2147483648)=false:=decide_eq_false g0
  have d1:decide (2147483648≤n)=false:=decide_eq_false g1
  have d2:decide (e < -62)=false:=decide_eq_false g2
  have d3:decide (30<e)=true:=decide_eq_true g3
  clear g0 g1 g2 g3
  exact AbE
 ·have d0:decide (n ≤ -2147483648)=false:=decide_eq_false g0
  have d1:decide (2147483648≤n)=false:=decide_eq_false g1
  have d2:decide (e < -62)=false:=decide_eq_false g2
  have d3:decide (30<e)=false:=decide_eq_false g3
  have d4:decide (f<0)=true:=decide_eq_true g4
  clear g0 g1 g2 g3 g4
  exact AbE
 ·have d0:decide (n ≤ -2147483648)=false:=decide_eq_false g0
  have d1:decide (2147483648≤n)=false:=decide_eq_false g1
  have d2:decide (e < -62)=false:=decide_eq_false g2
  have d3:decide (30<e)=false:=decide_eq_false g3
  have d4:decide (f<0)=false:=decide_eq_false g4
  have d5:decide (30<f)=true:=decide_eq_true g5
  clear g0 g1 g2 g3 g4 g5
  exact AbE
theorem Anf (h:p:=by
 clear h32
 go_wp2_with fail
 exact bodyPost_ret (v:=.tuple #[.int .i64 0,.iface 85 (.int .i64 13)]) (by simp [results,results52,go_sem]) rfl ⟨by rw [HV.out.1,HV.out.2];rfl,HF.out⟩):p:=h
theorem Ang (n e f:Int) (w:World) (h:NL n e f) (ht:An w) :
  Calls prog 52 #[.agg #[.int .i64 n,.int .i64 e],.int .i64 f] w fun r w'=>r=.returned (.tuple #[.int .i64 (Pu n e f),EK (BW n e f)])∧Below w.heap.size w w':=by
 have hp:=Yl h
 have hn:n.natAbs≤2147483648:=by have:=hp.1;have:=hp.2.1;omega
 have hk : -62≤e+f∧e+f≤60:=by obtain ⟨_,_,_,_,_,_⟩:=hp;omega
 have HOK:=mi h
 have HT:=mi ht
 obtain ⟨g0,g1,g2,g3,g4,g5⟩:=hp
 have d0:decide (n ≤ -2147483648)=false:=decide_eq_false g0
 have d1:decide (2147483648≤n)=false:=decide_eq_false g1
 have d2:decide (e < -62)=false:=decide_eq_false g2
 have d3:decide (30<e)=false:=decide_eq_false g3
 have d4:decide (f<0)=false:=decide_eq_false g4
 have d5:decide (30<f)=false:=decide_eq_false g5
 have hi1 : -9223372036854775808≤n:=by omega
 have hi2:n<9223372036854775808:=by omega
 have l5:(Ad n.natAbs).length≤50000:=lT (AC (k:=1) (by omega)) (by decide)
 have l6:(Ad (Ac n 0 (e+f)).1.natAbs).length≤50000:=lT (Arh hn (by omega) (by omega)) (by decide)
 have l7:(Ad (shE n (e+f)).natAbs).length≤50000:=lT (Anc hn (by omega)) (by decide)
 have hsv:=mi (Arf (x:=n) (k:=e+f) (by omega) (by omega))
 obtain ⟨k,hkk⟩:∃ k,k=e+f:=⟨_,rfl⟩
 have hw1:IntKind.i64.wrap (e+f)=k:=by rw [hkk];exact ke _ (by omega)
 rw [←hkk] at l6 l7 hsv hk
 have HKK:=mi hkk
 obtain ⟨x,hx⟩:∃ x,x=shE n k:=⟨_,rfl⟩
 rw [←hx] at l7 hsv
 have HX:=mi hx
 clear h ht g0 g1 g2 g3 g4 g5 hkk hx
 go_enter func52,ntmps52
 go_wp2_with fail
 obtain ⟨W,hW⟩:∃ q,q=w.alloc (.cells #[.int .i64 n,.int .i64 e] 63):=⟨_,rfl⟩
 have rX:BQ W w.heap.size [.int .i64 n,.int .i64 e] 63:=by rw [hW];exact BQ.new_ _ _ _
 have bW:Below w.heap.size w W:=by rw [hW];exact al_ _ _
 rw [←hW]
 clear hW
 have hA:=rX.lt
 have a0:W.cell? ⟨w.heap.size,0,none⟩=some (.int .i64 n):=rX.cell 0
 have a1:W.cell? ⟨w.heap.size,1,none⟩=some (.int .i64 e):=rX.cell 1
 have HTW:=mi (HT.out.below bW HT.out.1)
 have hWs:=bW.size
 refine VQ 13 13 11 (by kernel_rfl) (by kernel_rfl) (by kernel_rfl) (by decide) ?_
 dsimp only [List.take,List.drop]
 obtain ⟨u0,hu0⟩:∃ q,q=W.drew:=⟨_,rfl⟩
 have hS:Below W.heap.size W u0:=by rw [hu0];exact (ah _ _).drew
 rw [←hu0]
 clear hu0
 refine TH 0 ?v0 rfl (by kernel_rfl) (by intro _ _ _ h;exact h) (by rfl) ?h0 ?r0
 case h0 =>
  intro w2 hx
  go_simp
  try rfl
 case' r0=>try simp only [Act.put,ef,dc,df]
 refine TH 1 ?v1 rfl (by kernel_rfl) (by intro _ _ _ h;exact h) (by rfl) ?h1 ?r1
 case h1 =>
  intro w2 hx
  have e0:w2.cell? ⟨w.heap.size,0,none⟩=some (.int .i64 n):=((hS.trans (hx.more0.mono hS.size)).cell (p:=⟨w.heap.size,0,none⟩) hA).trans a0
  go_simp
  try rfl
 case' r1=>try simp only [Act.put,ef,dc,df]
 refine TH 3 ?v3 rfl (by kernel_rfl) (by intro _ _ _ h;exact h) (by rfl) ?h3 ?r3
 case h3 =>
  intro w2 hx
  go_simp
  try rfl
 case' r3=>try simp only [Act.put,ef,dc,df]
 refine TH 4 ?v4 rfl (by kernel_rfl) (by intro _ _ _ h;exact h) (by rfl) ?h4 ?r4
 case h4 =>
  intro w2 hx
  have e1:w2.cell? ⟨w.heap.size,1,none⟩=some (.int .i64 e):=((hS.trans (hx.more0.mono hS.size)).cell (p:=⟨w.heap.size,1,none⟩) hA).trans a1
  go_simp
  try rfl
 case' r4=>try simp only [Act.put,ef,dc,df]
 refine TH 5 ?v5 rfl (by kernel_rfl) (by intro _ _ _ h;exact h) (by rfl) ?h5 ?r5
 case h5 =>
  intro w2 hx
  go_simp
  try rfl
 case' r5=>try simp only [Act.put,ef,dc,df]
 refine TH 6 ?v6 rfl (by kernel_rfl) (by intro _ _ _ h;exact h) (by rfl) ?h6 ?r6
 case h6 =>
  intro w2 hx
  have hw2:=hw1
  go_simp
  try rfl
 case' r6=>try simp only [Act.put,ef,dc,df]
 refine Aus 12 (fun g=>.pointer (some ⟨g,0,none⟩)) (.cells #[.bool false,.slice none 0 0,.int .i64 0] 43) W.heap.size rfl (by kernel_rfl) (by intro _ _ _ _ h;exact h) (by rfl) (by intro w2;go_simp;try rfl) hS.size (by intro b h;exact h.elim) ?_
 refine Amy 2 rfl (by kernel_rfl) (by rfl) ?_
 intro x1 hx K hK
 have hS1:=hS.trans (hx.mono hS.size)
 clear hS
 go_simp
 refine (XQ n hi1 hi2 x1 (HTW.out.below hS1 HTW.out.1)).mono ?_
 rintro e u1 ⟨v5,rfl,D5,hb⟩
 have hS:=hS1.trans (hb.mono hS1.size)
 obtain ⟨nb5,A5,L5,c5,rfl,_⟩:=D5.form
 refine hK.out _ _ (DQ.growU hb) ?_
 clear hK K hx hS1 hb
 try simp only [Act.put,ef,dc,df]
 refine Amy 7 rfl (by kernel_rfl) (by rfl) ?_
 intro x2 hx K hK
 have hS1:=hS.trans (hx.mono hS.size)
 clear hS
 replace D5:=(D5.below hx (aa _)).more hx.size
 go_simp
 refine (Nk (n:=k) D5 (aa _) l5 (by omega) (HTW.out.below hS1 HTW.out.1)).mono ?_
 rintro e u2 ⟨v6,rfl,D6,hb⟩
 have hS:=hS1.trans (hb.mono hS1.size)
 replace D5:=(D5.below hb (aa _)).more hb.size
 obtain ⟨nb6,A6,L6,c6,rfl,_⟩:=D6.form
 clear D5
 refine hK.out _ _ (DQ.growU hb) ?_
 clear hK K hx hS1 hb
 try simp only [Act.put,ef,dc,df]
 refine Amy 8 rfl (by kernel_rfl) (by rfl) ?_
 intro x3 hx K hK
 have hS1:=hS.trans (hx.mono hS.size)
 clear hS
 replace D6:=(D6.below hx (aa _)).more hx.size
 go_simp
 refine (Sc (den:=0) D6 (aa _) l6 (by omega) (HTW.out.below hS1 HTW.out.1)).mono ?_
 rintro e u3 ⟨v7,rfl,D7,hb⟩
 have hS:=hS1.trans (hb.mono hS1.size)
 replace D6:=(D6.below hb (aa _)).more hb.size
 rw [hsv.out] at D7
 obtain ⟨nb7,A7,L7,c7,rfl,_⟩:=D7.form
 clear D6
 refine hK.out _ _ (DQ.growU hb) ?_
 clear hK K hx hS1 hb
 try simp only [Act.put,ef,dc,df]
 refine TH 9 ?v9 rfl (by kernel_rfl) (by intro _ _ _ h;exact h) (by rfl) ?h9 ?r9
 case h9 =>
  intro w2 hx
  go_simp
  try rfl
 case' r9=>try simp only [Act.put,ef,dc,df]
 refine TH 10 ?v10 rfl (by kernel_rfl) (by intro _ _ _ h;exact h) (by rfl) ?h10 ?r10
 case h10 =>
  intro w2 hx
  go_simp
  try rfl
 case' r10=>try simp only [Act.put,ef,dc,df]
 refine TH 11 ?v11 rfl (by kernel_rfl) (by intro _ _ _ h;exact h) (by rfl) ?h11 ?r11
 case h11 =>
  intro w2 hx
  go_simp
  try rfl
 case' r11=>try simp only [Act.put,ef,dc,df]
 refine endE (by kernel_rfl) ?_
 intro u4 hx g hg hU hgo
 dsimp only [OM]
 have rg:BQ u4 g [.bool false,.slice none 0 0,.int .i64 0] 43:=hgo
 have hS4:=hS.trans (hx.mono hS.size)
 replace D7:=(D7.below hx (aa _)).more hx.size
 clear hx hS hU hgo
 have RG:=mi rg
 have HD7:=mi D7
 have HS4:=mi hS4
 have c0:u4.cell? ⟨g,0,none⟩=some (.bool false):=rg.cell 0
 have c1:u4.cell? ⟨g,1,none⟩=some (.slice none 0 0):=rg.cell 1
 have c2:u4.cell? ⟨g,2,none⟩=some (.int .i64 0):=rg.cell 2
 have cf:=rg.free
 have cg:=rg.lt
 clear rg D7 hS4 a0 a1
 go_wp2_with fail
 refine NoPanic.normal ?_
 go_wp2_with fail
 go_at_call 124
 obtain ⟨y,hy⟩:∃ q,q=(((u4.setCell ⟨g,0,none⟩ (.bool nb7)).setCell ⟨g,1,none⟩ (.slice A7 L7 c7)).setCell ⟨g,2,none⟩ (.int .i64 0)):=⟨_,rfl⟩
 have Dy:DyR y x3.heap.size y.heap.size (.agg #[.bool nb7,.slice A7 L7 c7,.int .i64 ((0:Nat):Int)]) x 0:=by rw [hy,Are];exact HD7.out.set3H RG.out Ard Ard
 have hSy:Below W.heap.size W y:=by rw [hy];exact Yj HS4.out hg _ _ _
 try rw [←hy]
 clear hy
 refine (Ahq (m:=y.heap.size) Dy rfl (aa _) l7).mono ?_
 rintro e8 u8 ⟨rfl,hb8⟩
 have HF:=mi (bW.trans ((hSy.trans (hb8.mono hSy.size)).mono hWs))
 clear hb8 hSy Dy HS4 RG HD7 cf cg c0 c1 c2 hg
 by_cases h32 : -2147483648≤x∧x<2147483648
 ·have HV:=mi (Anb HOK.out (by rw [←HKK.out,←HX.out];exact h32))
  have h64:=Qa (x:=x) (by omega)
  rw [h64.1,h64.2]
  have f1:decide (x < -2147483648)=false:=decide_eq_false (by omega)
  have f2:decide (2147483648≤x)=false:=decide_eq_false (by omega)
  clear h64
  clear h32
  go_wp2_with fail
  exact bodyPost_ret (v:=.tuple #[.int .i64 x,.nilIface]) (by simp [results,results52,go_sem]) rfl ⟨by rw [HV.out.1,HV.out.2,←HKK.out,←HX.out];rfl,HF.out⟩
 ·by_cases h64 : -9223372036854775808≤x∧x<9223372036854775808
  ·by_cases h7:x < -2147483648
   ·have HV:=mi (Yk HOK.out (by rw [←HKK.out,←HX.out];exact h32))
    have h6:=Qa h64
    rw [h6.1,h6.2]
    have f1:decide (x < -2147483648)=true:=decide_eq_true h7
    clear h6 h64 h7
    exact Anf
   ·have HV:=mi (Yk HOK.out (by rw [←HKK.out,←HX.out];exact h32))
    have h6:=Qa h64
    rw [h6.1,h6.2]
    have f1:decide (x < -2147483648)=false:=decide_eq_false h7
    have f2:decide (2147483648≤x)=true:=decide_eq_true (by omega)
    clear h6 h64 h7
    exact Anf
  ·have HV:=mi (Yk HOK.out (by rw [←HKK.out,←HX.out];exact h32))
   have h6:=Zu h64
   rw [h6.1,h6.2]
   clear h6 h64
   exact Anf
theorem Aid (n e f:Int) (w:World) (ht:An w) :
  Calls prog 52 #[.agg #[.int .i64 n,.int .i64 e],.int .i64 f] w fun r w'=>r=.returned (.tuple #[.int .i64 (Pu n e f),EK (BW n e f)])∧Below w.heap.size w w':=by
 by_cases h:NL n e f
 ·exact Ang n e f w h ht
 ·exact Ane n e f w h
def wds (x:Int):List D:=(w32 (Ad x.natAbs)).map D.val
def dDy (t:Bool) (x:Int) (d:Nat):List D:=[.val (.bool (decide (x<0))),.row t 1 (Ad x.natAbs).length (wds x),.val (.int .i64 (d:Int))]
def aDy (t:Bool) (x:Int) (d:Nat):A:=.agg (dDy t x d)
def Nf (x:Int) (d:Nat):Prop:=d≤65536∧(d≠0→x % 2=1)
theorem Aen {t:Bool} {x:Int} {d:Nat} {v:Value} (h:EA w S (aDy t x d) v) (hS:∀ t b,S t b→b<w.heap.size) (hn:Nf x d):DyR w 0 w.heap.size v x d:=by
 obtain ⟨xs,rfl,h1⟩:=h
 obtain ⟨a,l1,rfl,ha,h2⟩:=h1.uncons
 obtain ⟨b,l2,rfl,hb,h3⟩:=h2.uncons
 obtain ⟨c,l3,rfl,hc,h4⟩:=h3.uncons
 rw [h4.unnil]
 cases ha
 cases hc
 cases hb with
 | @row _ _ _ c cs A xs hc hA hl hx hm hr =>
  have hw:xs=w32 (Ad x.natAbs):=Pr (vs:=w32 (Ad x.natAbs)) ⟨hx,hr⟩
  subst hw
  refine ⟨A,c,rfl,hA,hc,fun hne=>?_,fun a _=>af _,hn.1,hn.2⟩
  obtain ⟨b,off,rfl,hb,hcell⟩:=hm (fun h=>hne (List.map_eq_nil_iff.1 h))
  exact ⟨b,off,rfl,hS _ _ hb,hS _ _ hb,hcell⟩
theorem Ym {l:List Nat} {v:Value} (h:v∈w32 l):v.oneCell'=true:=by
 simp only [w32,jb] at h
 obtain ⟨n,_,rfl⟩:=h
 rfl
theorem ZU {w':World} {v:Value} {x:Int} {d:Nat} (h:DyR w' w.heap.size w'.heap.size v x d):EA w' (VW w w') (aDy false x d) v:=by
 obtain ⟨A,c,rfl,h1,h2,h3,h4,h5,h6⟩:=h
 refine ⟨[.bool (decide (x<0)),.slice A (Ad x.natAbs).length c,.int .i64 (d:Int)],rfl,.cons_ (.val rfl) (.cons_ (.row (w32 (Ad x.natAbs)) h2 h1 ?_ ?_ ?_ ?_) (.cons_ (.val rfl) .nil_))⟩
 ·rw [wds,ad,PP,cz]
 ·rw [wds,ad]
 ·intro hne
  obtain ⟨b,off,rfl,h7,h8,h9⟩:=h3 (fun h=>hne (by rw [wds,h];rfl))
  exact ⟨b,off,rfl,⟨rfl,h4 _ rfl,h8⟩,h9⟩
 ·intro j u y hu hy
  rw [wds,ag,hy] at hu
  cases hu
  exact .val (Ym (gM hy))
theorem Nf.nf {m:Int} {p:Nat} (h:p≤65536):Nf (nf m p).1 (nf m p).2:=⟨lT (Amc m p) h,Ada m p⟩
theorem Aeo {a b:Int} {p q:Nat} (h:a*2 ^ p=b*2 ^ q):sgI a=sgI b:=by rw [←Gb a p,h,Gb b q]
theorem Yn {a b A B:Int} {da db q:Nat} (ha:a*2 ^ q=A*2 ^ da) (hb:b*2 ^ q=B*2 ^ db):Cf a da b db=sgI (A - B):=by
 unfold Cf DV
 rw [Aeo (Ahm _ _)]
 refine Aeo (p:=q) (q:=max da db) ?_
 have e1:a*2 ^ (max da db - da)*2 ^ q=A*2 ^ max da db:=by
  rw [jg,ha,bc,←bi];congr 2;omega
 have e2:b*2 ^ (max da db - db)*2 ^ q=B*2 ^ max da db:=by
  rw [jg,hb,bc,←bi];congr 2;omega
 rw [Int.add_mul,ej,ej,e1,e2,Int.sub_mul]
 omega
def dW (n:Nat):D:=.val (.int .u32 (n:Int))
def cW (ws:List Nat):List C:=ws.map fun n=>.d (dW n)
theorem AbF (ws:List Nat):(w32 ws).map D.val=ws.map dW:=by simp [w32,dW]
theorem Anh (n:Nat):DW (madeCells (Value.int .u32 0).cells (n*1)).toList=cW (List.replicate n 0):=by
 rw [cz,show (Value.int .u32 0).cells=#[Value.int .u32 0] from rfl,toList_madeCells_one]
 simp [DW,cW,dW]
theorem Akt {l:List Nat}:∀ c∈cW l,C.bel n c:=fun c hc=>by obtain ⟨z,_,rfl⟩:=List.mem_map.1 hc;trivial
theorem Ani {k x:Nat} (h:ws[k]?=some x):((ws.map dW).drop (k*1)).take 1=[dW x]:=ZC h
section
variable {P:Program} {G:World→Prop} {o:Oper} {F:Frm} {H:List Ob}
theorem Ua {e:TypeId} {x:Operand} {z:Value} {k:IntKind} (ho:o.op=.makeSlice t x y) (hx:F.ev x=.one (.d (.val (.int k (n:Int))))) (hy:F.ev y=.one (.d (.val (.int k' (n:Int))))) (ht:TyS P t e s) (hz:TyZ P e z s by_) (hn:n≤36000000000000) (hby:by_*n≤281474976710656) :
  AU P G o F H (.one (.own H.length n)) [.row e s n (DW (madeCells z.cells (n*s)).toList)] :=
 VH (.inr ⟨n,rfl,rfl⟩) fun b0 m a hp hcx hb hor=>by
  have ex:=CA (m:=m) (v:=a.eval x) (by rw [←hx];exact AV hor (by rw [ho];simp [Op.operands]))
  have ey:=CA (m:=m) (v:=a.eval y) (by rw [←hy];exact AV hor (by rw [ho];simp [Op.operands]))
  obtain ⟨i,hi,hi2⟩:=Option.map_eq_some_iff.1 hz.h
  simp only [Prod.mk.injEq] at hi2
  have hb1:(i.bytes:Int)*(n:Int)≤281474976710656:=by
   have h2:((i.bytes*n:Nat):Int)≤281474976710656:=by rw [hi2.2.2];exact Int.ofNat_le.2 hby
   rwa [ja] at h2
  have hrun:=run_make (P:=P) m.w t e i z ht.h hi hi2.1 k k' (n:Int) (n:Int) (by omega) (dh _) hb1 (by omega)
  rw [hi2.2.1,ar] at hrun
  refine ⟨madeCells z.cells (n*s),e,.row (.slice (some ⟨m.w.heap.size,0,none⟩) n n) e s n (madeCells z.cells (n*s)).toList,?_,?_,rfl,rfl,rfl,rfl,rfl,Ht ?_⟩
  ·unfold execOp
   simp only [ho,ex,ey]
   rw [ai,hrun]
   rfl
  ·refine ⟨by simp [size_madeCells],.inr ⟨m.w.heap.size,n,_,rfl,hb,heap_alloc_new m.w _,aa _,by unfold maxLen;omega,by simp [size_madeCells],?_⟩⟩
   rw [am (by simp [size_madeCells])]
  ·refine List.all_eq_true.2 fun v hv=>?_
   unfold madeCells at hv
   simp only [kg,jb] at hv
   obtain ⟨j,hj,rfl⟩:=hv
   have hj':j<n*s:=by simpa using hj
   have hs:0<z.cells.size:=by
    rw [hz.c]
    rcases co s with h|h
    ·rw [h] at hj';omega
    ·exact h
   have hlt:j % z.cells.size<z.cells.size:=fy _ hs
   have h1:z.cells[j % z.cells.size]! = z.cells[j % z.cells.size]:=by simp [hlt]
   rw [h1]
   exact (Array.all_eq_true_iff_forall_mem.1 hz.one) _ (Array.getElem_mem hlt)
theorem Pv {e:TypeId} {x:Operand} {k:IntKind} {z:Int} (ho:o.op=.makeSlice t x y) (hx:F.ev x=.one (.d (.val (.int k z)))) (hy:F.ev y=.one (.d (.val (.int k' z)))) (hz':z=(n:Int)) (ht:TyS P t e 1) (hz:TyZ P e (.int .u32 0) 1 by_) (hn:n≤36000000000000) (hby:by_≤7) :
  AU P G o F H (.one (.own H.length n)) [.row e 1 n (cW (List.replicate n 0))]:=by
 subst hz'
 have:=Ua (P:=P) (G:=G) (H:=H) ho hx hy ht hz hn (by have:=du hby hn;omega)
 rwa [Anh] at this
theorem Aku {x:Operand} {k:Nat} {xs:List Nat} {z:Nat} (ho:o.op=.load t x) (hx:F.ev x=.one (.ref id (i*1) (some n))) (hH:H[id]?=some (.row ty s n (cW xs))) (hz:xs[i]?=some z) (hk:TyK P t false k):AU P G o F H (.one (.d (.val (.int .u32 (z:Int))))) [] :=
 Pf ho hx (.row hH) (by simp [cW,hz,dW]) hk
theorem Aep {x:Operand} {xs:List Nat} {z:Int} {b:Bool} (ho:o.op=.store t x y) (hx:F.ev x=.one (.ref id (i*1) (some n))) (hH:H[id]?=some (.row ty s n (cW xs))) (hy:F.ev y=.one (.d (.val (.int .u32 z)))) (hz:z=(u:Int)) (hty:TyK P t b 1) (hi:i<xs.length) {ys:List Nat} (hys:xs.set i u=ys):TOk P G o F H .any (H.set id (.row ty s n (cW ys))):=by
 subst hz
 have:=Hu (P:=P) (G:=G) ho hx hH rfl hy hty (by simp [Ob.cs,cW,hi])
 have e:(cW xs).set (i*1) (.d (.val (.int .u32 (u:Int))))=cW ys:=by rw [←hys,cz];simp [cW,gj,dW]
 simp only [Ob.cs,Ob.setC,e] at this
 exact this
theorem EQ {s:TypeId} {x:Operand} {k:IntKind} {p:Int} (ho:o.op=.convert s t x) (hs:P.underlying s=some (.int k)) (ht:P.underlying t=some (.int k')) (hx:F.ev x=.one (.d (.val (.int k p)))) (hr:k'.wrap p=r):AU P G o F H (.one (.d (.val (.int k' r)))) []:=hr ▸ FY ho hs ht hx
theorem Anj {x:Operand} {k:IntKind} {p:Int} (ho:o.op=.binOp .mul t x y t') (hx:F.ev x=.one (.d (.val (.int k p)))) (hy:F.ev y=.one (.d (.val (.int k q)))) (hr:k.wrap (p*q)=r):AU P G o F H (.one (.d (.val (.int k r)))) []:=hr ▸ Akf ho hx hy
theorem Aeq {x:Operand} {k:IntKind} {p:Int} (ho:o.op=.binOp .add t x y t') (hx:F.ev x=.one (.d (.val (.int k p)))) (hy:F.ev y=.one (.d (.val (.int k q)))) (hr:k.wrap (p+q)=r):AU P G o F H (.one (.d (.val (.int k r)))) []:=hr ▸ Ake ho hx hy
theorem ZV {x:Operand} {p:Nat} (ho:o.op=.binOp .shr t x (.const (.int k' 32)) t') (hx:F.ev x=.one (.d (.val (.int .u64 (p:Int))))) (hr:((p / 4294967296:Nat):Int)=r):AU P G o F H (.one (.d (.val (.int .u64 r)))) []:=by
 subst hr
 refine Dr (y:=.const (.int k' 32)) (u':=.int k' 32) ho hx rfl (fun w=>?_) rfl
 have e:(p:Int).fdiv 4294967296=((p / 4294967296:Nat):Int):=by rw [Int.fdiv_eq_ediv_of_nonneg _ (by decide)];rfl
 simp [eqGuard,binOp,Op.shift,IntKind.bits,e]
theorem Ank {x:Operand} {p q:Bool} (ho:o.op=.binOp .neq t x y t') (ht:P.underlying t=some .bool) (hx:F.ev x=.one (.d (.val (.bool p)))) (hy:F.ev y=.one (.d (.val (.bool q)))):AU P G o F H (.one (.d (.val (.bool (p != q))))) []:=by
 refine Dr ho hx hy (fun w=>?_) rfl
 have h1:(Op.equal t (.bool p) (.bool q)).run P w=.ok (p == q) w:=by
  have key:∀ d:Nat,(Op.equalIn (d+1) t (.bool p) (.bool q)).run P w=.ok (p == q) w:=fun d=>by simp [Op.equalIn,run_underlying ht]
  exact key 9999
 simp [eqGuard,binOp,h1,bne]
end
theorem Mx {z:Int} (h0:0≤z) (h1:z<18446744073709551616):IntKind.wrap .u64 z=z:=by rw [gk];omega
theorem Ub (n:Nat):IntKind.wrap .u32 (n:Int)=((n % 4294967296:Nat):Int):=by rw [lc];omega
theorem Pw:∀ {j u v:Nat},o[j]?=some v→Bc (o.set j u)+v*4294967296 ^ j=Bc o+u*4294967296 ^ j:=by
 induction o with
 | nil=>intro j u v h;simp at h
 | cons y o ih =>
  intro j u v h
  cases j with
  | zero =>
   simp only [eb,Option.some.injEq] at h
   subst h
   simp only [dc,Bc]
   omega
  | succ j =>
   simp only [fi] at h
   have:=ih (u:=u) h
   simp only [df,Bc,ce]
   rw [←aw,←aw]
   omega
theorem GA {j:Nat} (h:Az o) (hu:u<4294967296):Az (o.set j u):=fun x hx=>by
 rcases kt hx with hx|rfl
 ·exact h x hx
 ·exact hu
structure Wy (b o0:List Nat) (i x k:Nat) (o:List Nat) (c:Nat):Prop where
 len:o.length=o0.length
 ok:Az o
 car:c<4294967296
 val:Bc o+c*4294967296 ^ (i+k)=Bc o0+x*Bc (b.take k)*4294967296 ^ i
 zero:∀ j,i+b.length≤j→j<o0.length→o[j]?=some 0
theorem Wy.fit {x k:Nat} {y:Nat} (h:Wy b o0 i x k o c) (hx:x<4294967296) (hy:y<4294967296) (hu:o[i+k]?=some u):x*y+u<18446744073709551616∧c+(x*y+u)<18446744073709551616:=by
 have h1:x*y≤4294967295*4294967295:=du (by omega) (by omega)
 have h2:=h.ok u (gM hu)
 have h3:=h.car
 omega
theorem Wy.step {x k:Nat} {y:Nat} (h:Wy b o0 i x k o c) (hx:x<4294967296) (hb:Az b) (hy:b[k]?=some y) (hu:o[i+k]?=some u):Wy b o0 i x (k+1) (o.set (i+k) ((c+(x*y+u)) % 4294967296)) ((c+(x*y+u)) / 4294967296):=by
 obtain ⟨f1,f2⟩:=h.fit hx (hb y (gM hy)) hu
 have hkb:=(gS.1 hy).1
 refine ⟨by rw [dw];exact h.len,GA h.ok (by omega),by omega,?_,fun j h1 h2=>by rw [bu,if_neg (by omega)];exact h.zero j h1 h2⟩
 have hs:=Pw (u:=(c+(x*y+u)) % 4294967296) hu
 have hv:=h.val
 have ht:=Bg b k
 rw [hy,bg] at ht
 have hdm:=ek (c+(x*y+u)) 4294967296
 rw [ht,fe,bo,show i+(k+1)=(i+k)+1 by omega,ce]
 generalize hP:4294967296 ^ (i+k)=p at hs hv ⊢
 have e1:x*(4294967296 ^ k*y)*4294967296 ^ i=x*y*p:=by
  rw [←hP,bh]
  simp only [aw,ay,Nat.mul_left_comm]
 rw [e1]
 generalize (c+(x*y+u)) / 4294967296=q at hdm ⊢
 generalize (c+(x*y+u)) % 4294967296=r at hs hdm ⊢
 have e2:q*(p*4294967296)+r*p=(c+(x*y+u))*p:=by
  rw [←hdm,bo,ay p 4294967296,←aw,ay q 4294967296]
 rw [bo,bo] at e2
 omega
structure My (a b:List Nat) (i:Nat) (o:List Nat):Prop where
 len:o.length=a.length+b.length
 ok:Az o
 val:Bc o=Bc (a.take i)*Bc b
 zero:∀ j,i+b.length≤j→j<a.length+b.length→o[j]?=some 0
theorem My.start (a b:List Nat):My a b 0 (List.replicate (a.length+b.length) 0):=by
 refine ⟨by simp,fun x hx=>by rw [(List.mem_replicate.1 hx).2];decide,by rw [Gl];simp [Bc],fun j _ h2=>by simp [h2]⟩
theorem My.enter {x:Nat} (h:My a b i o):Wy b o i x 0 o 0 :=
 ⟨rfl,h.ok,by decide,by simp [Bc],fun j h1 h2=>h.zero j h1 (by rw [←h.len];exact h2)⟩
theorem My.leave {x:Nat} (h:My a b i o0) (hx:a[i]?=some x) (h2:Wy b o0 i x b.length o c):My a b (i+1) (o.set (i+b.length) c):=by
 have hi:=(gS.1 hx).1
 have hz:=h2.zero (i+b.length) (aa _) (by rw [h.len];omega)
 have hs:=Pw (u:=c) hz
 refine ⟨by rw [dw,h2.len];exact h.len,GA h2.ok h2.car,?_,fun j h3 h4=>by rw [bu,if_neg (by omega)];exact h2.zero j (by omega) (by rw [h.len];exact h4)⟩
 have hv:=h2.val
 rw [az] at hv
 have ht:=Bg a i
 rw [hx,bg] at ht
 rw [ht,bo,←h.val]
 have e:x*Bc b*4294967296 ^ i=4294967296 ^ i*x*Bc b:=by simp only [aw,ay,Nat.mul_left_comm]
 omega
theorem Anl (x y:Int):sg (decide (x<0) != decide (y<0)) (x.natAbs*y.natAbs)=x*y:=by
 unfold sg
 have hx:x=if x<0 then -(x.natAbs:Int) else x.natAbs:=by split <;> omega
 have hy:y=if y<0 then -(y.natAbs:Int) else y.natAbs:=by split <;> omega
 by_cases h1:x<0 <;> by_cases h2:y<0
 all_goals
  simp only [h1,h2,decide_true,decide_false,bne_self_eq_false,dn,if_true,if_false,Bool.true_bne,Bool.false_bne,fp] at hx hy ⊢
  conv=>rhs;rw [hx,hy]
  simp [ej,Int.mul_neg]
def NN (x:Int) (dx:Nat) (y:Int) (dy:Nat):Int × Nat:=nf (x*y) (dx+dy)
theorem Ari (x:Int):Dn (.row false 1 (Ad x.natAbs).length (wds x)):=.row fun d hd=>by obtain ⟨v,_,rfl⟩:=List.mem_map.1 hd;exact .val _
theorem rvW {t:Tmp} {ty ty' k:Nat} {x:Int} {d:Nat} (hk:TyK P ty true k) (hi:3=k) (hF:F t=.one (.ref id 0 none):=by with_unfolding_all exact rfl) (hH:H[id]?=some (.box ty' ((dDy false x d).map C.d)):=by with_unfolding_all exact rfl):RV P F H (.cell t ty) (aDy false x d) :=
 ZS hF hH hk hi rfl (.cons_ (Bp rfl fun _=>.val _) (.cons_ (Bp rfl fun _=>Ari x) (.cons_ (Bp rfl fun _=>.val _) .nil_)))
theorem Ff {N:Nat} {ty:Nat} {ds:List D} (t id:Nat) (h:F t=.one (.own id n)) (hH:H[id]?=some (.row ty s n (ds.map C.d))):Wk N F H (F.put (some t) (.one (.d (.row false s n ds)))) (H.set id .dead):=fun b0 w0 S0 a m hm hs=>by
 subst hm
 have hv:=hs.frame t
 rw [h] at hv
 obtain ⟨xs,hE,hat,hl⟩:=Mn hs.cx hv hH
 generalize hvv:a.tmps.getD t undef=v at hv hE hat
 have hidl:=(gS.1 hH).1
 have hset:∀ i ob,(m.H.set id .dead)[i]?=some ob→(i=id∧ob=.dead)∨(i≠id∧m.H[i]?=some ob):=fun i ob hi=>by
  rw [bu] at hi
  by_cases e:id=i
  ·rw [if_pos e,if_pos (by omega)] at hi
   exact .inl ⟨e.symm,(Option.some.inj hi).symm⟩
  ·rw [if_neg e] at hi
   exact .inr ⟨fun h=>e h.symm,hi⟩
 have hget:∀ i e,(if i=id then none else m.E i)=some e→i≠id∧m.E i=some e:=fun i e hi=>by
  by_cases q:i=id
  ·rw [if_pos q] at hi;cases hi
  ·rw [if_neg q] at hi;exact ⟨q,hi⟩
 have hle:Le m { m with S:=fun t b=>m.S t b∨(t=false∧v.ownBlock=some b),H:=m.H.set id .dead,E:=fun i=>if i=id then none else m.E i }:=by
  refine ⟨fun t b h=>.inl h,?_,fun _ _ _=>rfl,fun i ob hob=>?_⟩
  ·funext b
   simp
  ·by_cases q:i=id
   ·subst q
    exact ⟨.dead,by show (m.H.set i .dead)[i]?=_;rw [bu,if_pos rfl,if_pos hidl],fun k hk=>by cases hk⟩
   ·exact ⟨ob,by show (m.H.set id .dead)[i]?=_;rw [bu,if_neg (fun h=>q h.symm)];exact hob,Np.same fun e he=>by show (if i=id then none else m.E i)=some e;rw [if_neg q];exact he⟩
 refine ⟨{ m with S:=fun t b=>m.S t b∨(t=false∧v.ownBlock=some b),H:=m.H.set id .dead,E:=fun i=>if i=id then none else m.E i },rfl,rfl,⟨⟨fun i e hi=>?_,fun i j e e' hij hi hj=>?_,fun i e g t' hi hg=>?_,fun t' b hb=>?_⟩,fun i ob hob hk=>?_,fun t'=>?_,hs.size,hs.defers,hs.below,hs.base,fun b hb=>?_,?_⟩⟩
 ·obtain ⟨q,hi⟩:=hget i e hi
  obtain ⟨h1,ob,h2,h3⟩:=hs.cx.each i e hi
  exact ⟨h1,ob,by show (m.H.set id .dead)[i]?=_;rw [bu,if_neg (fun h=>q h.symm)];exact h2,h3.le hle⟩
 ·exact hs.cx.apart i j e e' hij (hget i e hi).2 (hget j e' hj).2
 ·obtain ⟨q,hi⟩:=hget i e hi
  rintro (hb|⟨rfl,hb⟩)
  ·exact hs.cx.far i e g t' hi hg hb
  ·exact hs.cx.apart i id e _ q hi hE g hg hb
 ·rcases hb with hb|⟨_,hb⟩
  ·exact hs.cx.lt t' b hb
  ·exact (World.ownsRow.lt hat b hb).2
 ·rcases hset i ob hob with ⟨_,rfl⟩|⟨q,h1⟩
  ·cases hk
  ·show (if i=id then none else m.E i).isSome=true
   rw [if_neg q]
   exact hs.tot i ob h1 hk
 ·rw [EH]
  split
  ·rename_i ht
   cases ht
   rw [hvv]
   have hld:AP (Ba m.w m.S) ds xs:=⟨by have:=hl.1;simpa using this,fun j x y hx hy=>hl.2 j (.d x) y (by simp [hx]) hy⟩
   show Ba _ _ (.row false s n ds) v
   rcases hat.2 with ⟨rfl,h0⟩|⟨g,cap,cur,rfl,hb,hg,hnc,_,hcur,hxs⟩
   ·subst h0
    have hx0:xs=[]:=bj (by have:=hat.1;simpa using this)
    subst hx0
    have hd0:ds=[]:=bj (by have:=hld.1;simpa using this)
    subst hd0
    exact .row [] (aa _) (fun _=>rfl) (by simp) rfl (fun h=>absurd rfl h) (fun j u x hu=>by simp at hu)
   ·refine .row xs hnc (by simp) (by rw [hld.1];exact hat.1) hld.1 (fun _=>⟨g,0,rfl,.inr ⟨rfl,rfl⟩,fun j x hj=>?_⟩) (fun j u x hu hx=>Ba.le hle (hld.2 j u x hu hx))
    rw [ax,cell_of_row _ g j _ ty (0,0) hg]
    have hj':(cur.toList.take (n*s))[j]?=some x:=by rw [hxs];exact hj
    rw [bq] at hj'
    split at hj'
    ·simpa using hj'
    ·cases hj'
  ·exact (hs.frame t').le hle
 ·rcases hb with hb|⟨_,hb⟩
  ·exact hs.S b hb
  ·exact .inr (World.ownsRow.lt hat b hb).1
 ·exact hle.T.trans hs.T
def wdN (n:Nat):List D:=(w32 (Ad n)).map D.val
def IQ (t:Bool) (n:Nat):D:=.row t 1 (Ad n).length (wdN n)
theorem Aer (n:Nat):wdN n=(Ad n).map dW:=AbF _
theorem Wz {k p:Nat} (h:(Ad n)[k]?=some p):((wdN n).drop (k*1)).take 1=[dW p]:=by
 rw [Aer]
 exact Ani h
theorem AuM (ws:List Nat):cW ws=(ws.map dW).map C.d:=by simp [cW]
theorem Px {t:Bool} {v:Value} (h:Ba w S (.row t 1 n (ws.map dW)) v) (hS:∀ t b,S t b→b<w.heap.size) (hn:n=ws.length):∃ A c,v=.slice A ws.length c∧(A=none→c=0)∧ws.length≤c∧Aj w w.heap.size A (w32 ws)∧(ws≠[]→∃ b off,A=some ⟨b,off,none⟩∧S t b∧∀ (j:Nat) (x:Value),(w32 ws)[j]?=some x→w.cell? ⟨b,off+j,none⟩=some x):=by
 subst hn
 cases h with
 | @row _ _ _ c cs A xs hc hA hl hx hm hr =>
  have hw:xs=w32 ws:=Pr (vs:=w32 ws) (by rw [AbF];exact ⟨hx,hr⟩)
  subst hw
  refine ⟨A,c,rfl,hA,hc,fun hne=>?_,fun hne=>hm fun h=>hne (List.map_eq_nil_iff.1 h)⟩
  obtain ⟨b,off,rfl,hb,hcell⟩:=hm (fun h=>hne (by rw [List.map_eq_nil_iff.1 h];rfl))
  exact ⟨b,off,rfl,hS _ _ hb,hS _ _ hb,hcell⟩
theorem Anm {t:Bool} {v:Value} (h:Ba w S (IQ t n) v) (hS:∀ t b,S t b→b<w.heap.size):WdR w w.heap.size v n:=by
 unfold IQ at h
 rw [Aer] at h
 obtain ⟨A,c,rfl,h1,h2,h3,_⟩:=Px h hS rfl
 exact ⟨A,c,rfl,h1,h2,h3⟩
theorem Aes {t:Bool} {A:Option Addr} (hn:n=ws.length) (hc:n≤c) (hA:A=none→c=0) (hm:ws≠[]→∃ b off,A=some ⟨b,off,none⟩∧S t b∧∀ (j:Nat) (x:Value),(w32 ws)[j]?=some x→w.cell? ⟨b,off+j,none⟩=some x):Ba w S (.row t 1 n (ws.map dW)) (.slice A n c):=by
 subst hn
 refine .row (w32 ws) hc hA (by simp) (by simp [w32]) (fun hne=>hm fun h=>hne (by rw [h];rfl)) (fun j u x hu hx=>?_)
 rw [←AbF,ag,hx] at hu
 cases hu
 exact .val (Ym (gM hx))
section
variable {G:World→Prop}
theorem Py (ws:List Nat) (n:Nat) (hn:n=ws.length) (hw:Az ws) (hl:ws.length≤36000000000000):CV prog G 159 [.one (.row false 1 n (ws.map dW))] [.one (IQ false (Bc ws))]:=fun w S vs hg hlt ha=>by
 obtain ⟨u,hu,h2⟩:=CG ha
 subst hu
 obtain ⟨A,c,rfl,h1,h3,h4,h5⟩:=Px h2 hlt hn
 refine (Gn A ws c w.heap.size w h4 h3 hl).mono fun r w' ⟨he,hww⟩=>?_
 subst hww
 refine ⟨_,he,?_,ah _ _⟩
 show Ba _ _ (IQ false (Bc ws)) _
 have hcan:=Gk hw
 have hle:(Nh ws).length≤ws.length:=by rw [EW];exact Mh _ _
 unfold IQ
 rw [Aer,←hcan]
 refine Aes rfl (by omega) h1 fun hne=>?_
 obtain ⟨b,off,hA,hb,hc⟩:=h5 (fun h=>hne (by rw [h];rfl))
 refine ⟨b,off,hA,⟨rfl,.inl hb⟩,fun j x hj=>hc j x ?_⟩
 have:w32 (Nh ws)=(w32 ws).take (Fp ws ws.length):=by unfold w32 Nh;rw [List.map_take]
 rw [this,bq] at hj
 split at hj
 ·exact hj
 ·cases hj
theorem FM (x:Int) (d:Nat) (hn:Nf x d) (hl:(Ad x.natAbs).length≤36000000000000):CV prog G 71 [aDy false x d] [aB (decide (x<0)),.one (IQ false x.natAbs),aI (d:Int)]:=fun w S vs hg hlt ha=>by
 obtain ⟨u,hu,h3⟩:=CG ha
 subst hu
 have hD:=Aen h3 hlt hn
 obtain ⟨xs,rfl,h4⟩:=h3
 obtain ⟨a,l1,rfl,q0,h5⟩:=h4.uncons
 obtain ⟨b,l2,rfl,q1,h6⟩:=h5.uncons
 obtain ⟨c,l3,rfl,q2,h7⟩:=h6.uncons
 rw [h7.unnil] at hD ⊢
 refine (GK hD (aa _) hl).mono fun r w' ⟨nb,A,L,cc,e,he,hb⟩=>?_
 injection e with e
 have e2:=congrArg Array.toList e
 simp only [List.cons.injEq,and_true] at e2
 obtain ⟨rfl,rfl,rfl⟩:=e2
 refine ⟨_,he,⟨[_,_,_],rfl,.cons_ ?_ (.cons_ ?_ (.cons_ ?_ .nil_))⟩,hb⟩
 ·cases q0;exact Ba.val rfl
 ·have h8:Ba w (fun t b=>t=false∧S false b) (IQ false x.natAbs) (.slice A L cc):=Ba.free (fun b h=>⟨rfl,h⟩) q1 (.row fun d hd=>by obtain ⟨v,_,rfl⟩:=List.mem_map.1 hd;exact .val _)
  exact h8.mono (fun t b h=>⟨h.1,.inl h.2⟩) (fun t b h=>hb.block b (hlt _ _ h.2))
 ·exact Ba.val rfl
theorem QI (t t':Bool) (a b:Nat) (l1:(Ad a).length≤36000000000000) (l2:(Ad b).length≤36000000000000):CVF prog G 30 [.one (IQ t a),.one (IQ t' b)] [aI (sgI ((a:Int) - (b:Int)))]:=fun w S vs hg hlt ha=>by
 obtain ⟨v,vs',rfl,h1,ha⟩:=ha.uncons
 obtain ⟨u,hu,h2⟩:=CG ha
 subst hu
 exact (Nj (Anm h1 hlt) (Anm h2 hlt) l1 l2).mono fun r w' ⟨he,hb⟩=>⟨_,he,Ba.val rfl,hb⟩
end
theorem EU (t neg:Bool) (n d:Nat) (hl:(Ad n).length≤100000) (hd:d≤65536):CVF prog An 73 [aB neg,.one (IQ t n),aI (d:Int)] [aDy false (nf (sg neg n) d).1 (nf (sg neg n) d).2]:=fun w S vs hg hlt hv=>by
 obtain ⟨v,vs',rfl,q1,hv⟩:=hv.uncons
 obtain ⟨v2,vs',rfl,q2,hv⟩:=hv.uncons
 obtain ⟨u,hu,q3⟩:=CG hv
 subst hu
 cases q1
 cases q3
 exact (Ep (neg:=neg) (Anm q2 hlt) (aa _) hl hd hg).mono fun r w' ⟨v,he,hd,hb⟩=>⟨v,he,ZU hd,hb⟩
theorem Yo (t:Bool) (ws:List Nat) (n i:Nat) (hn:n=ws.length) (hi:i≤1000000) (hl:ws.length≤1000000):CVF prog An 213 [.one (.row t 1 n (ws.map dW)),aI (i:Int)] [.one (dW (ws[i]?.getD 0))]:=fun w S vs hg hlt hv=>by
 obtain ⟨v,vs',rfl,q1,hv⟩:=hv.uncons
 obtain ⟨u,hu,q3⟩:=CG hv
 subst hu
 cases q3
 obtain ⟨A,c,rfl,h1,h3,h4,h5⟩:=Px q1 hlt hn
 refine (Zs A ws c i w.heap.size w h4 hi hl).mono fun r w' ⟨he,hb⟩=>?_
 subst hb
 exact ⟨_,he,Ba.val rfl,ah _ _⟩
theorem Aie (x y c:Nat) (hx:x<4294967296) (hy:y<4294967296) (hc:c≤1):CVF prog An 221 [.one (dW x),.one (dW y),.one (dW c)] [.one (dW ((x+y+c) % 4294967296)),.one (dW ((x+y+c) / 4294967296))]:=fun w S vs hg hlt hv=>by
 obtain ⟨v,vs',rfl,q1,hv⟩:=hv.uncons
 obtain ⟨v2,vs',rfl,q2,hv⟩:=hv.uncons
 obtain ⟨u,hu,q3⟩:=CG hv
 subst hu
 cases q1
 cases q2
 cases q3
 refine (Vz x y c w hx hy hc).mono fun r w' ⟨he,hw⟩=>?_
 subst hw
 exact ⟨_,he,TY (Ba.val rfl) (Ba.val rfl),ah _ _⟩
theorem ZW (n:Nat):Dn (IQ false n):=.row fun d hd=>by obtain ⟨v,_,rfl⟩:=List.mem_map.1 hd;exact .val _
theorem AK:TyS prog 90 143 1:=⟨underlying90,by kernel_rfl⟩
theorem Aif (h:p:=by
 exact AN rfl (.cons_ (.tmp (.one (Bp rfl fun _=>ZW _))) .nil_)):p:=h
theorem Ann (h:p:=by
 refine ⟨_,_,TN _ 1 ?_ ?_ ?_,_,by omega,k+1,_,_,by omega,rfl,hst,rfl,rfl⟩
 ·rfl
 ·exact mB rfl rfl
 ·exact ⟨Akt,trivial⟩):p:=h
theorem AtW (h:p:=by first|exact xIr AK (hp2)|exact xIr AK (hr2)|exact FF (i:=i+k) rfl rfl rfl rfl (by omega) AK (by omega) (by decide)):p:=h
theorem AtX (h:p:=by first|exact Aep rfl rfl rfl rfl rfl Cn tl rfl|exact xS1 Cn|exact xSk Cn):p:=h
theorem AuN (h:p:=by first|exact Aku rfl rfl rfl hu Cn|exact xLd Cn):p:=h
theorem Ano (a b:Nat) (l1:(Ad a).length≤100000) (l2:(Ad b).length≤100000):CV prog An 211 [.one (IQ false a),.one (IQ false b)] [.one (IQ false (a*b))]:=by
 refine cvz func211 ntmps211 ?_
 have hax:=Bd a
 have hay:=Bd b
 repeat' (with_reducible first|refine qq ?_|(refine Tx 0 ?_;refine gO xA ?_)|(refine Tx 1 ?_;refine gO xM <| gO xN <| gO xM <| gO xN <| gO xAd <| gN (by first|exact Pv (n:=(Ad a).length+(Ad b).length) rfl rfl rfl (by omega) AK Eq (by omega) (by decide)|exact Bo rfl rfl rfl AK Eq (by omega) (by decide)) <| gO xA ?_)|(refine Tx 2 ?_;refine gO xM <| gO xN <| gO xM ?_))
 refine AY (Bz 1) (Aq (fun n Fr H=>∃ (i:Nat) (o:List Nat),i≤(Ad a).length∧n=(Ad a).length - i∧My (Ad a) (Ad b) i o∧Fr=ofL [(0,vd (IQ false a)),(1,vd (IQ false b)),(5,vo 0 (((Ad a).length+(Ad b).length))),(17,vi ((Ad a).length)),(18,vi ((i:Nat)))]∧H=[.row 143 1 ((Ad a).length+(Ad b).length) (cW o)]) (n0:=(Ad a).length) ⟨0,(List.replicate ((Ad a).length+(Ad b).length) 0),af _,rfl,My.start _ _,rfl,rfl⟩ ?_)
 rintro n Fr H ⟨i,o,hi,rfl,ho,rfl,rfl⟩
 by_cases hlt:i<(Ad a).length
 case pos =>
  obtain ⟨p,hp⟩:∃ p,(Ad a)[i]?=some p:=⟨_,gE hlt⟩
  have hpk:=hax p (gM hp)
  have hp2:=Wz hp
  repeat' (with_reducible first|refine qq ?_|(refine Tx 3 ?_;refine gO xLt ?_)|(refine Tx 4 ?_;refine gO xM <| gO xA ?_)|(refine Tx 5 ?_;refine gO xA ?_)|(refine Tx 6 ?_;refine gO xM <| gO xN <| gO xM ?_))
  refine AY (Bz 1) (Aq (fun n Fr H=>∃ (k:Nat) (q:List Nat) (c:Nat),k≤(Ad b).length∧n=(Ad b).length - k∧Wy (Ad b) o i p k q c∧Fr=ofL [(0,vd (IQ false a)),(1,vd (IQ false b)),(5,vo 0 (((Ad a).length+(Ad b).length))),(6,vi i),(17,vi ((Ad a).length)),(18,vi ((i:Nat))),(7,vd (.val (.int .u64 ((c:Nat):Int)))),(22,vi ((Ad b).length)),(23,vi ((k:Nat)))]∧H=[.row 143 1 ((Ad a).length+(Ad b).length) (cW q)]) (n0:=(Ad b).length) ⟨0,o,0,af _,rfl,ho.enter,rfl,rfl⟩ ?_)
  rintro n Fr H ⟨k,q,c,hk,rfl,hq,rfl,rfl⟩
  by_cases hlt2:k<(Ad b).length
  case pos =>
   obtain ⟨r,hr⟩:∃ r,(Ad b)[k]?=some r:=⟨_,gE hlt2⟩
   have hrk:=hay r (gM hr)
   have hr2:=Wz hr
   have hql:=hq.len
   have hol:=ho.len
   obtain ⟨u,hu⟩:∃ u,q[i+k]?=some u:=⟨_,gE (by omega)⟩
   have hu2:=hq.ok u (gM hu)
   obtain ⟨f1,f2⟩:=hq.fit hpk hrk hu
   have hst:=hq.step hpk hay hr hu
   have m1:IntKind.wrap .u64 (p:Int)=(p:Int):=Mx (by omega) (by omega)
   have m2:IntKind.wrap .u64 (r:Int)=(r:Int):=Mx (by omega) (by omega)
   have m3:IntKind.wrap .u64 ((p:Int)*(r:Int))=((p*r:Nat):Int):=by rw [←ja];exact Mx (by omega) (by omega)
   have m4:IntKind.wrap .u64 (u:Int)=(u:Int):=Mx (by omega) (by omega)
   have m5:IntKind.wrap .u64 (((p*r:Nat):Int)+(u:Int))=((p*r+u:Nat):Int):=Mx (by omega) (by omega)
   have m6:IntKind.wrap .u64 (((p*r+u:Nat):Int)+(c:Int))=((c+(p*r+u):Nat):Int):=by rw [Mx (by omega) (by omega)];omega
   have m7:=Ub (c+(p*r+u))
   have tl:i+k<q.length:=by omega
   generalize hm:p*r+u=m at *
   repeat' (with_reducible first|refine qq ?_|(refine Tx 7 ?_;refine gO xLt ?_)|(refine Tx 8 ?_;refine gO xM <| gO xA ?_)|(refine BB (id:=9) AJ (by kernel_rfl) ?_;refine gP xM <| gP xM <| gP AtW <| gP AuN <| gP (by first|exact EQ rfl underlying143 underlying148 rfl m1|exact FY rfl underlying143 underlying148 rfl) <| gP xM <| gP xM <| gP AtW <| gP AuN <| gP (by first|exact EQ rfl underlying143 underlying148 rfl m2|exact FY rfl underlying143 underlying148 rfl) <| gP (by first|exact Anj rfl rfl rfl m3|exact Pb rfl rfl rfl (by omega)) <| gP xM <| gP xM <| gP xM <| gP xAd <| gP AtW <| gP AuN <| gP (by first|exact EQ rfl underlying143 underlying148 rfl m4|exact FY rfl underlying143 underlying148 rfl) <| gP (by first|exact Aeq rfl rfl rfl m5|exact xAd) <| gP xM <| gP (by first|exact Aeq rfl rfl rfl m6|exact xAd) <| gP xA ?_;refine Ke ?_)|(refine Tx 10 ?_;refine gO xM <| gO xM <| gO xM <| gO xAd <| gO xM <| gO (by first|exact EQ rfl underlying148 underlying143 rfl m7|exact FY rfl underlying148 underlying143 rfl) <| gO AtW <| gZ AtX ?_)|(refine Tx 11 ?_;refine gO xM <| gO (by exact ZV rfl rfl rfl) <| gO xA ?_)|(refine Tx 12 ?_;refine gO xAd <| gO xM ?_))
   exact Ann
  obtain rfl:k=(Ad b).length:=by omega
  have hql:=hq.len
  have hol:=ho.len
  have hlv:=ho.leave hp hq
  have tl:i+(Ad b).length<q.length:=by omega
  have hck:=hq.car
  have m8:IntKind.wrap .u32 (c:Int)=(c:Int):=by rw [Ub,ia hck]
  repeat' (with_reducible first|refine qq ?_|(refine Tx 7 ?_;refine gO xLt ?_)|(refine Tx 13 ?_;refine gO xM <| gO xM <| gO xM <| gO xN <| gO xAd <| gO xM <| gO (by first|exact EQ rfl underlying148 underlying143 rfl m8|exact FY rfl underlying148 underlying143 rfl) <| gO (by exact FF (i:=i+(Ad b).length) rfl rfl rfl rfl (by omega) AK (by omega) (by decide)) <| gZ AtX ?_)|(refine Tx 14 ?_;refine gO xAd <| gO xM ?_))
  refine ⟨_,_,Bz 1,_,by omega,i+1,_,by omega,rfl,hlv,rfl,rfl⟩
 obtain rfl:i=(Ad a).length:=by omega
 have hv:=ho.val
 rw [az,AI,AI] at hv
 have hol:=ho.len
 have TC:=Py (G:=An) o ((Ad a).length+(Ad b).length) hol.symm ho.ok (by omega)
 rw [hv] at TC
 repeat' (with_reducible first|refine qq ?_|(refine Tx 3 ?_;refine gO xLt ?_))
 refine AY (Ff (ds:=o.map dW) 5 0 rfl (by rw [←AuM];rfl)) ?_
 repeat' (with_reducible first|refine qq ?_|(refine Tx 15 ?_;refine gO xM <| gO (xCl func159 (TC)) <| gO xA ?_))
 exact Aif
theorem Uc {a b:Nat} (ha:(Ad a).length≤40000) (hb:(Ad b).length≤40000):(Ad (a*b)).length≤100000:=by
 have h1:=Co (Bd a)
 have h2:=Co (Bd b)
 rw [AI] at h1 h2
 refine lT (AC (k:=(Ad a).length+(Ad b).length) ?_) (by omega)
 rw [bh]
 exact Nat.mul_lt_mul'' h1 h2
theorem OU (h:p:=by
 exact AN rfl (.cons_ (rvW Ab rfl) .nil_)):p:=h
theorem AtY (h:p:=by first|exact xCl func71 (PX)|exact xCl func71 (PY)):p:=h
theorem Gd (x:Int) (dx:Nat) (y:Int) (dy:Nat) (hnx:Nf x dx) (hny:Nf y dy) (lx:(Ad x.natAbs).length≤40000) (ly:(Ad y.natAbs).length≤40000) (hd:dx+dy≤65536):CV prog An 149 [aDy false x dx,aDy false y dy] [aDy false (NN x dx y dy).1 (NN x dx y dy).2]:=by
 refine cvz func149 ntmps149 ?_
 have PX:=FM (G:=An) x dx hnx (lT lx (by decide))
 have PY:=FM (G:=An) y dy hny (lT ly (by decide))
 have NM:=Ano x.natAbs y.natAbs (lT lx (by decide)) (lT ly (by decide))
 have hlm:(Ad (x.natAbs*y.natAbs)).length≤100000:=Uc lx ly
 have RS:=EU false (decide (x<0) != decide (y<0)) (x.natAbs*y.natAbs) (dx+dy) hlm hd
 rw [Anl] at RS
 have hdx:=hnx.1
 have hdy:=hny.1
 repeat' (with_reducible first|refine qq ?_|(refine Tx 0 ?_;refine gN xBo <| gN xBo <| gN (xAl Ak) ?_)|(refine Tx 1 ?_;refine gO xL <| gO AtY <| gO xMt <| gO xEx <| gO xEx <| gO xEx <| gO xA <| gO xA <| gO xA ?_)|(refine Tx 2 ?_;refine gO xL <| gO AtY <| gO xMt <| gO xEx <| gO xEx <| gO xEx <| gO xA <| gO xA <| gO xA ?_)|(refine Tx 3 ?_;refine gO xM <| gO xM <| gO (by first|exact Ank rfl underlying4 rfl rfl|exact xNe) <| gO xM <| gO xM <| gO (xCl func211 (NM)) <| gO xM <| gO xM <| gO xAd <| gO (xCl func73 (RS.cv)) <| gZ (xSk Ab) ?_))
 exact OU
theorem Yp {k:Nat} (h:o[k]?=some 0):Bc (o.set k u)=Bc o+u*4294967296 ^ k:=by
 have:=Pw (u:=u) h
 omega
structure Ud (a b:List Nat) (L k:Nat) (o:List Nat) (c:Nat):Prop where
 len:o.length=L
 ok:Az o
 car:c≤1
 val:Bc o+c*4294967296 ^ k=Bc (a.take k)+Bc (b.take k)
 zero:∀ j,k≤j→j<L→o[j]?=some 0
theorem NP (h:Az a) (k:Nat):a[k]?.getD 0<4294967296:=by
 cases hx:a[k]? with
 | none=>decide
 | some x=>exact h x (gM hx)
theorem Pz (L:Nat):∀ j,0≤j→j<L→(List.replicate L 0)[j]?=some 0:=fun j _ h=>by simp [h]
theorem Ue (L:Nat):Az (List.replicate L 0):=fun x hx=>by rw [(List.mem_replicate.1 hx).2];decide
theorem Ud.start (a b:List Nat) (L:Nat):Ud a b L 0 (List.replicate L 0) 0:=⟨by simp,Ue L,by decide,by rw [Gl];simp [Bc],Pz L⟩
theorem Ud.step {L k:Nat} (h:Ud a b L k o c) (ha:Az a) (hb:Az b) (hk:k<L):Ud a b L (k+1) (o.set k ((a[k]?.getD 0+b[k]?.getD 0+c) % 4294967296)) ((a[k]?.getD 0+b[k]?.getD 0+c) / 4294967296):=by
 have x1:=NP ha k
 have y1:=NP hb k
 have hc:=h.car
 refine ⟨by rw [dw];exact h.len,GA h.ok (by omega),by omega,?_,fun j h1 h2=>by rw [bu,if_neg (by omega)];exact h.zero j (by omega) h2⟩
 rw [Yp (h.zero k (aa _) hk),Bg,Bg,ce]
 have hv:=h.val
 generalize a[k]?.getD 0=x at *
 generalize b[k]?.getD 0=y at *
 have hd:=ek (x+y+c) 4294967296
 generalize (x+y+c) / 4294967296=q at *
 generalize (x+y+c) % 4294967296=r at *
 generalize 4294967296 ^ k=P at *
 have e:q*(P*4294967296)+r*P=(x+y+c)*P:=by rw [←hd,bo,ay P 4294967296,←aw,ay q 4294967296]
 rw [bo,bo] at e
 rw [ay P x,ay P y]
 omega
theorem Ud.done (h:Ud a b (max a.length b.length+1) (max a.length b.length+1) o c) (ha:Az a) (hb:Az b):Bc o=Bc a+Bc b:=by
 have hv:=h.val
 rw [am (by omega),am (by omega)] at hv
 have h1:=Co ha
 have h2:=Co hb
 have p1:4294967296 ^ a.length≤4294967296 ^ (max a.length b.length):=ba (by decide) (by omega)
 have p2:4294967296 ^ b.length≤4294967296 ^ (max a.length b.length):=ba (by decide) (by omega)
 have hc:=h.car
 rw [ce] at hv
 rcases (show c=0∨c=1 by omega) with rfl|rfl <;> omega
structure Uf (a b:List Nat) (k:Nat) (o:List Nat) (c:Nat):Prop where
 len:o.length=a.length
 ok:Az o
 car:c≤1
 val:Bc o+Bc (b.take k)=Bc (a.take k)+c*4294967296 ^ k
 zero:∀ j,k≤j→j<a.length→o[j]?=some 0
theorem Uf.start (a b:List Nat):Uf a b 0 (List.replicate a.length 0) 0:=⟨by simp,Ue _,by decide,by rw [Gl];simp [Bc],Pz _⟩
def AcO (x y c:Nat):Nat:=if x<y+c then 1 else 0
theorem Anp (x y c:Nat):AcO x y c≤1:=by unfold AcO;split <;> omega
theorem Uf.step {k:Nat} {x:Nat} (h:Uf a b k o c) (ha:Az a) (hb:Az b) (hx:a[k]?=some x):Uf a b (k+1) (o.set k ((x+4294967296 - b[k]?.getD 0 - c) % 4294967296)) (AcO x (b[k]?.getD 0) c):=by
 have hk:=(gS.1 hx).1
 have x1:=ha x (gM hx)
 have y1:=NP hb k
 have hc:=h.car
 refine ⟨by rw [dw];exact h.len,GA h.ok (by omega),Anp _ _ _,?_,fun j h1 h2=>by rw [bu,if_neg (by omega)];exact h.zero j (by omega) h2⟩
 rw [Yp (h.zero k (aa _) hk),Bg,Bg,ce,hx,bg]
 have hv:=h.val
 generalize b[k]?.getD 0=y at *
 have hd:(x+4294967296 - y - c) % 4294967296+y+c=x+AcO x y c*4294967296:=by unfold AcO;split <;> omega
 generalize AcO x y c=q at *
 generalize (x+4294967296 - y - c) % 4294967296=r at *
 generalize 4294967296 ^ k=P at *
 have e:(r+y+c)*P=(x+q*4294967296)*P:=by rw [hd]
 rw [bo,bo,bo,aw q 4294967296 P,ay 4294967296 P] at e
 rw [ay P x,ay P y]
 omega
theorem Uf.done (h:Uf a b a.length o c) (ha:Az a) (hle:Bc b≤Bc a) (hl:b.length≤a.length):Bc o=Bc a - Bc b:=by
 have hv:=h.val
 rw [az,am hl] at hv
 have h1:=Co h.ok
 rw [h.len] at h1
 have hc:=h.car
 rcases (show c=0∨c=1 by omega) with rfl|rfl <;> omega
structure Yq (a:List Nat) (q r k:Nat) (o:List Nat):Prop where
 len:o.length=a.length+q+1
 ok:Az o
 val:Bc o=Bc (a.take k)*(2 ^ r*4294967296 ^ q)
 top:∃ cy,o[q+k]?=some cy∧cy<2 ^ r
 zero:∀ j,q+k<j→j<a.length+q+1→o[j]?=some 0
theorem Yq.start (a:List Nat) (q r:Nat):Yq a q r 0 (List.replicate (a.length+q+1) 0):=⟨by simp,Ue _,by rw [Gl];simp [Bc],⟨0,by rw [dv];exact Pz _ q (af _) (by omega),bt r⟩,fun j _ h=>Pz _ j (af _) h⟩
theorem Yq.step {q r k:Nat} {x cy:Nat} (h:Yq a q r k o) (ha:Az a) (hr:r<32) (hx:a[k]?=some x) (hcy:o[q+k]?=some cy) (hlt:cy<2 ^ r) (hfit:cy+x*2 ^ r % 4294967296<4294967296) :
  Yq a q r (k+1) ((o.set (q+k) (cy+x*2 ^ r % 4294967296)).set (q+k+1) (x*2 ^ r / 4294967296)):=by
 have hk:=(gS.1 hx).1
 have x1:=ha x (gM hx)
 have hhi:x*2 ^ r / 4294967296<2 ^ r:=by
  rw [jp (by decide),ay (2 ^ r)]
  exact jq x1 (bt r)
 have h32:2 ^ r≤4294967296:=by rw [show (4294967296:Nat)=2 ^ 32 from rfl];exact ba (by decide) (by omega)
 refine ⟨by rw [dw,dw];exact h.len,GA (GA h.ok hfit) (by omega),?_,⟨_,by rw [show q+(k+1)=q+k+1 by omega,bu,if_pos rfl,if_pos (by rw [dw,h.len];omega)],hhi⟩,fun j h1 h2=>by rw [bu,if_neg (by omega),bu,if_neg (by omega)];exact h.zero j (by omega) h2⟩
 have e1:=Pw (u:=cy+x*2 ^ r % 4294967296) hcy
 have e2:Bc ((o.set (q+k) (cy+x*2 ^ r % 4294967296)).set (q+k+1) (x*2 ^ r / 4294967296))=_:=Yp (by rw [bu,if_neg (by omega)];exact h.zero _ (by omega) (by omega))
 rw [e2,Bg,hx,bg,bo,←h.val,ce]
 have hd:=ek (x*2 ^ r) 4294967296
 have e3:4294967296 ^ k*x*(2 ^ r*4294967296 ^ q)=(x*2 ^ r)*4294967296 ^ (q+k):=by rw [bh];simp only [aw,ay,Nat.mul_left_comm]
 rw [e3]
 generalize x*2 ^ r=t at *
 generalize t / 4294967296=u at *
 generalize t % 4294967296=l at *
 generalize 4294967296 ^ (q+k)=P at *
 have e4:u*(P*4294967296)+l*P=t*P:=by rw [←hd,bo,ay P 4294967296,←aw,ay u 4294967296]
 rw [bo] at e1
 omega
theorem Anq (v:BitVec 32):v.toNat / 2147483648=if v.msb=true then 1 else 0:=by
 have h:=ma v
 have hl:=v.isLt
 rw [h]
 by_cases hc:2147483648≤v.toNat
 ·rw [if_pos (decide_eq_true hc)];omega
 ·rw [if_neg (by rw [decide_eq_true_eq];exact hc)];omega
theorem Aet (X Y D:BitVec 32) (x y c:Nat) (hx:X.toNat=x) (hy:Y.toNat=y) (hd:D.toNat=(x+4294967296 - y - c) % 4294967296) (hc:c≤1):((~~~X &&& Y) ||| (~~~(X ^^^ Y) &&& D)).toNat / 2147483648=AcO x y c:=by
 rw [Anq]
 have hX:=ma X
 have hY:=ma Y
 have hD:=ma D
 rw [hx] at hX
 rw [hy] at hY
 rw [hd] at hD
 have lx:=X.isLt
 have ly:=Y.isLt
 rw [hx] at lx
 rw [hy] at ly
 simp only [BitVec.msb_or,BitVec.msb_and,BitVec.msb_not,BitVec.msb_xor,hX,hY,hD]
 unfold AcO
 by_cases h1:2 ^ 31≤x <;> by_cases h2:2 ^ 31≤y <;> by_cases h3:2 ^ 31≤(x+4294967296 - y - c) % 4294967296
 all_goals
  simp only [Nat.reduceSub,h1,h2,h3,decide_true,decide_false]
  by_cases h4:x<y+c
  ·simp [h4]
   try omega
  ·simp [h4]
   try omega
def nB (v:BitVec 32):Int:=(v.toNat:Int)
theorem NQ (v:BitVec 32):BitVec.ofInt 32 (nB v)=v:=by
 unfold nB
 rw [BitVec.ofInt_natCast]
 exact BitVec.eq_of_toNat_eq (by rw [ku];exact ia v.isLt)
theorem Ys (v:BitVec 32):IntKind.wrap .u32 ((v.toNat:Nat):Int)=nB v:=by
 have:=v.isLt
 rw [lc]
 unfold nB
 omega
theorem Akv (u v:BitVec 32):bits .and .u32 (nB u) (nB v)=nB (u &&& v):=by
 show IntKind.wrap .u32 (((BitVec.ofInt 32 (nB u) &&& BitVec.ofInt 32 (nB v)).toNat:Nat):Int)=_
 rw [NQ,NQ,Ys]
theorem AuO (u v:BitVec 32):bits .or .u32 (nB u) (nB v)=nB (u ||| v):=by
 show IntKind.wrap .u32 (((BitVec.ofInt 32 (nB u) ||| BitVec.ofInt 32 (nB v)).toNat:Nat):Int)=_
 rw [NQ,NQ,Ys]
theorem Akw (u v:BitVec 32):bits .xor .u32 (nB u) (nB v)=nB (u ^^^ v):=by
 show IntKind.wrap .u32 (((BitVec.ofInt 32 (nB u) ^^^ BitVec.ofInt 32 (nB v)).toNat:Nat):Int)=_
 rw [NQ,NQ,Ys]
theorem Akx (v:BitVec 32):bits .xor .u32 IntKind.u32.max (nB v)=nB (~~~v):=by
 rw [show IntKind.u32.max=nB (BitVec.allOnes 32) from rfl,Akw,BitVec.allOnes_xor]
theorem Anr {x:Nat} (h:x<4294967296):((x:Nat):Int)=nB (BitVec.ofNat 32 x):=by
 unfold nB
 rw [ku,ia h]
theorem Aeu (x y c:Nat) (w:World) (hx:x<4294967296) (hy:y<4294967296) (hc:c≤1) :
  Calls prog 223 #[.int .u32 (x:Int),.int .u32 (y:Int),.int .u32 (c:Int)] w fun e w'=>e=.returned (.tuple #[.int .u32 (((x+4294967296 - y - c) % 4294967296:Nat):Int),.int .u32 ((AcO x y c:Nat):Int)])∧w=w':=by
 go_enter func223,ntmps223
 go_wp2_with fail
 refine bodyPost_ret (v:=.tuple #[.int .u32 (((x+4294967296 - y - c) % 4294967296:Nat):Int),.int .u32 ((AcO x y c:Nat):Int)]) ?_ rfl ⟨rfl,rfl⟩
 simp [results,results223,go_sem]
 refine ⟨by omega,?_⟩
 have hd:((x:Int) - (y:Int) - (c:Int)) % 4294967296=(((x+4294967296 - y - c) % 4294967296:Nat):Int):=by omega
 rw [hd,Anr hx,Anr hy,Anr (x:=(x+4294967296 - y - c) % 4294967296) (by omega),Akx,Akv,Akw,Akx,Akv,AuO]
 have key:=Aet (BitVec.ofNat 32 x) (BitVec.ofNat 32 y) (BitVec.ofNat 32 ((x+4294967296 - y - c) % 4294967296)) x y c (by rw [ku,ia hx]) (by rw [ku,ia hy]) (by rw [ku];omega) hc
 rw [←key]
 rfl
theorem Aig (x y c:Nat) (hx:x<4294967296) (hy:y<4294967296) (hc:c≤1):CVF prog An 223 [.one (dW x),.one (dW y),.one (dW c)] [.one (dW ((x+4294967296 - y - c) % 4294967296)),.one (dW (AcO x y c))]:=fun w S vs hg hlt hv=>by
 obtain ⟨v,vs',rfl,q1,hv⟩:=hv.uncons
 obtain ⟨v2,vs',rfl,q2,hv⟩:=hv.uncons
 obtain ⟨u,hu,q3⟩:=CG hv
 subst hu
 cases q1
 cases q2
 cases q3
 refine (Aeu x y c w hx hy hc).mono fun r w' ⟨he,hw⟩=>?_
 subst hw
 exact ⟨_,he,TY (Ba.val rfl) (Ba.val rfl),ah _ _⟩
section
variable {P:Program} {G:World→Prop} {o:Oper} {F:Frm} {H:List Ob}
theorem Ans {x:Operand} {p:Int} (ho:o.op=.binOp .or t x y t') (hx:F.ev x=.one (.d (.val (.int .u32 p)))) (hy:F.ev y=.one (.d (.val (.int .u32 q)))) (hr:bits .or .u32 p q=r):AU P G o F H (.one (.d (.val (.int .u32 r)))) []:=by
 subst hr
 refine Dr ho hx hy (fun w=>?_) rfl
 simp [eqGuard,binOp,intBits_or]
theorem Aev {x:Operand} {k:IntKind} {p:Int} (ho:o.op=.binOp .shl t x y t') (hx:F.ev x=.one (.d (.val (.int k p)))) (hy:F.ev y=.one (.d (.val (.int k' (n:Int))))) (hn:n≤k.bits) (hr:k.wrap (p*2 ^ n)=r):AU P G o F H (.one (.d (.val (.int k r)))) []:=by
 subst hr
 refine Dr ho hx hy (fun w=>?_) rfl
 have h1:¬ ((n:Int)<0):=by omega
 simp [eqGuard,binOp,Op.shift,h1,ei hn]
theorem Ant {x:Operand} {k:IntKind} {p:Int} (ho:o.op=.binOp .quo t x y t') (hx:F.ev x=.one (.d (.val (.int k p)))) (hy:F.ev y=.one (.d (.val (.int k q)))) (h0:q≠0) (hr:k.wrap (p.tdiv q)=r):AU P G o F H (.one (.d (.val (.int k r)))) []:=hr ▸ Akg ho hx hy h0
theorem Anu {x:Operand} {k:IntKind} {p:Int} (ho:o.op=.binOp .rem t x y t') (hx:F.ev x=.one (.d (.val (.int k p)))) (hy:F.ev y=.one (.d (.val (.int k q)))) (h0:q≠0) (hr:p.tmod q=r):AU P G o F H (.one (.d (.val (.int k r)))) []:=hr ▸ Akh ho hx hy h0
end
theorem Arj (h:p:=by
 rw [hv] at TC
 repeat' (with_reducible first|refine qq ?_|(refine Tx 4 ?_;refine gO xLt ?_))
 refine AY (Ff (ds:=o.map dW) 5 0 rfl (by rw [←AuM];rfl)) ?_
 repeat' (with_reducible first|refine qq ?_|(refine Tx 8 ?_;refine gO xM <| gO (xCl func159 (TC)) <| gO xA ?_))
 exact AN rfl (.cons_ (.tmp (.one (Bp rfl fun _=>ZW _))) .nil_)):p:=h
theorem zh5k (h:p:=by first|exact xCl func213 (A1.cv)|exact xCl func213 (A2.cv)):p:=h
theorem Anv (a b:Nat) (l1:(Ad a).length≤200000) (l2:(Ad b).length≤200000):CV prog An 203 [.one (IQ false a),.one (IQ false b)] [.one (IQ false (a+b))]:=by
 refine cvz func203 ntmps203 ?_
 have ha:=Bd a
 have hb:=Bd b
 repeat' (with_reducible first|refine qq ?_|(refine Tx 0 ?_;refine gO xA ?_)|(refine Tx 1 ?_;refine gO xM <| gO xN <| gO xM <| gO xN <| gO (by exact FZ rfl rfl rfl) <| gO xAd <| gN (by first|exact Pv (n:=(max (Ad a).length (Ad b).length+1)) rfl rfl rfl (by omega) AK Eq (by omega) (by decide)|exact Bo rfl rfl rfl AK Eq (by omega) (by decide)) <| gO xA ?_)|(refine Tx 2 ?_;refine gO xA ?_)|(refine Tx 3 ?_;refine gO xM <| gO xN <| gO xM ?_))
 refine AY (Bz 1) (Aq (fun n Fr H=>∃ (k:Nat) (o:List Nat) (c:Nat),k≤(max (Ad a).length (Ad b).length+1)∧n=(max (Ad a).length (Ad b).length+1) - k∧Ud (Ad a) (Ad b) (max (Ad a).length (Ad b).length+1) k o c∧Fr=ofL [(0,vd (IQ false a)),(1,vd (IQ false b)),(5,vo 0 ((max (Ad a).length (Ad b).length+1))),(6,vd (dW c)),(16,vi ((max (Ad a).length (Ad b).length+1))),(17,vi ((k:Nat)))]∧H=[.row 143 1 (max (Ad a).length (Ad b).length+1) (cW o)]) (n0:=(max (Ad a).length (Ad b).length+1)) ⟨0,(List.replicate (max (Ad a).length (Ad b).length+1) 0),0,af _,rfl,Ud.start _ _ _,rfl,rfl⟩ ?_)
 rintro n Fr H ⟨k,o,c,hk,rfl,ho,rfl,rfl⟩
 by_cases hlt:k<(max (Ad a).length (Ad b).length+1)
 case pos =>
  have hst:=ho.step ha hb hlt
  have hol:=ho.len
  have A1:=Yo false (Ad a) (Ad a).length k rfl (by omega) (by omega)
  have A2:=Yo false (Ad b) (Ad b).length k rfl (by omega) (by omega)
  rw [←Aer] at A1 A2
  have AD:=Aie ((Ad a)[k]?.getD 0) ((Ad b)[k]?.getD 0) c (NP ha k) (NP hb k) ho.car
  have tl:k<o.length:=by omega
  generalize (Ad a)[k]?.getD 0=x at *
  generalize (Ad b)[k]?.getD 0=y at *
  generalize (x+y+c) % 4294967296=r at *
  generalize (x+y+c) / 4294967296=q at *
  repeat' (with_reducible first|refine qq ?_|(refine Tx 4 ?_;refine gO xLt ?_)|(refine Tx 5 ?_;refine gO xM <| gO xA ?_)|(refine Tx 6 ?_;refine gO xM <| gO xM <| gO xM <| gO xM <| gO zh5k <| gO xM <| gO xM <| gO zh5k <| gO xM <| gO (xCl func221 (AD.cv)) <| gO xMt <| gO xEx <| gO xEx <| gO (xIo (i:=k) AK) <| gZ AtX <| gO xA ?_)|(refine Tx 7 ?_;refine gO xAd <| gO xM ?_))
  exact Ann
 obtain rfl:k=(max (Ad a).length (Ad b).length+1):=by omega
 have hv:=ho.done ha hb
 rw [AI,AI] at hv
 have hol:=ho.len
 have TC:=Py (G:=An) o (max (Ad a).length (Ad b).length+1) hol.symm ho.ok (by omega)
 exact Arj
theorem zh6k (h:p:=by first|exact xIr AK (hx2)|exact xIo (i:=k) AK):p:=h
theorem Aew (a b:Nat) (hle:b≤a) (l1:(Ad a).length≤200000):CV prog An 210 [.one (IQ false a),.one (IQ false b)] [.one (IQ false (a - b))]:=by
 refine cvz func210 ntmps210 ?_
 have ha:=Bd a
 have hb:=Bd b
 have hlb:(Ad b).length≤(Ad a).length:=Bt hle
 repeat' (with_reducible first|refine qq ?_|(refine Tx 0 ?_;refine gO xA ?_)|(refine Tx 1 ?_;refine gO xM <| gO xN <| gN (by first|exact Pv (n:=(Ad a).length) rfl rfl rfl rfl AK Eq (by omega) (by decide)|exact Bo rfl rfl rfl AK Eq (by omega) (by decide)) <| gO xA ?_)|(refine Tx 2 ?_;refine gO xA ?_)|(refine Tx 3 ?_;refine gO xM <| gO xN <| gO xM ?_))
 refine AY (Bz 1) (Aq (fun n Fr H=>∃ (k:Nat) (o:List Nat) (c:Nat),k≤(Ad a).length∧n=(Ad a).length - k∧Uf (Ad a) (Ad b) k o c∧Fr=ofL [(0,vd (IQ false a)),(1,vd (IQ false b)),(5,vo 0 ((Ad a).length)),(6,vd (dW c)),(12,vi ((Ad a).length)),(13,vi ((k:Nat)))]∧H=[.row 143 1 (Ad a).length (cW o)]) (n0:=(Ad a).length) ⟨0,(List.replicate (Ad a).length 0),0,af _,rfl,Uf.start _ _,rfl,rfl⟩ ?_)
 rintro n Fr H ⟨k,o,c,hk,rfl,ho,rfl,rfl⟩
 by_cases hlt:k<(Ad a).length
 case pos =>
  obtain ⟨x,hx⟩:∃ x,(Ad a)[k]?=some x:=⟨_,gE hlt⟩
  have hx1:=ha x (gM hx)
  have hx2:=Wz hx
  have hst:=ho.step ha hb hx
  have hol:=ho.len
  have A2:=Yo false (Ad b) (Ad b).length k rfl (by omega) (by omega)
  rw [←Aer] at A2
  have SB:=Aig x ((Ad b)[k]?.getD 0) c hx1 (NP hb k) ho.car
  have tl:k<o.length:=by omega
  generalize (Ad b)[k]?.getD 0=y at *
  generalize (x+4294967296 - y - c) % 4294967296=r at *
  generalize AcO x y c=q at *
  repeat' (with_reducible first|refine qq ?_|(refine Tx 4 ?_;refine gO xLt ?_)|(refine Tx 5 ?_;refine gO xM <| gO xA ?_)|(refine FC (id:=6) 15 [(15,13)] AJ (by kernel_rfl) ?_;dsimp only [List.take,List.drop];refine gP xM <| gP xM <| gP xM <| gP xM <| gP zh6k <| gP xD <| gP xM <| gP xM <| gP (xCl func213 (A2.cv)) <| gP xM <| gP (xCl func223 (SB.cv)) <| gP xMt <| gP xEx <| gP xEx <| gP zh6k ?_;refine Ke ?_;refine gZ AtX <| gO xA ?_)|(refine Tx 7 ?_;refine gO xAd <| gO xM ?_))
  exact Ann
 obtain rfl:k=(Ad a).length:=by omega
 have hv:=ho.done ha (by rw [AI,AI];exact hle) hlb
 rw [AI,AI] at hv
 have hol:=ho.len
 have TC:=Py (G:=An) o (Ad a).length hol.symm ho.ok (by omega)
 exact Arj
theorem Anw (k:p') (h:Hd9 p'→p:=by with_reducible first|(intro Z9;refine Tx 0 ?_;refine gO xA ?_;exact Z9.o)|(intro Z9;refine Tx 1 ?_;refine gO xM <| gO xEq <| gO xM ?_;(first|iterate 3 refine Jd ?_|(refine Jy xM1 ?_;refine Jy (xLn AK) ?_;refine Jy xEq ?_));refine gO xPk ?_;exact Z9.o)|fail):p:=h ⟨k⟩
theorem AtZ (h:p:=by first|exact xIr AK (hx2)|exact FF (i:=q+k) rfl rfl rfl rfl (by omega) AK (by omega) (by decide)|exact FF (i:=q+k+1) rfl rfl rfl rfl (by omega) AK (by omega) (by decide)):p:=h
theorem zh8k (h:p:=by first|exact Aep rfl rfl rfl rfl rfl Cn tl rfl|exact Aep rfl rfl rfl rfl rfl Cn tl2 rfl|exact xS1 Cn|exact xSk Cn):p:=h
theorem zh9k (h:p:=by first|exact Aku rfl rfl rfl hcy Cn|exact xLd Cn):p:=h
theorem ZX (a n:Nat) (l1:(Ad a).length≤35184372087808) (ln:n≤1000000):CV prog An 72 [.one (IQ false a),aI (n:Int)] [.one (IQ false (a*2 ^ n))]:=by
 refine cvz func72 ntmps72 ?_
 have ha:=Bd a
 by_cases h0:n=0
 case pos =>
  subst h0
  rw [Nat.pow_zero,cz]
  repeat' (with_reducible first|refine qq ?_|refine Anw ?_|(refine Tx 2 ?_;refine gO xM <| gO xA ?_))
  exact Aif
 by_cases h1:(Ad a).length=0
 case pos =>
  have ha0:a=0:=bz fun h=>by have:=Eh h;omega
  subst ha0
  rw [ep]
  have h1i:((Ad 0).length:Int)=0:=by omega
  repeat' (with_reducible first|refine qq ?_|refine Anw ?_|(refine Tx 2 ?_;refine gO xM <| gO xA ?_))
  exact Aif
 obtain ⟨q,r,hn,hr⟩:∃ q r,n=32*q+r∧r<32:=⟨n / 32,n % 32,by omega,by omega⟩
 have hq:IntKind.wrap .i64 ((n:Int).tdiv 32)=(q:Int):=by rw [Int.tdiv_eq_ediv_of_nonneg (by omega)];rw [show (n:Int) / 32=(q:Int) by omega];rw [ld];omega
 have hm:(n:Int).tmod 32=(r:Int):=by rw [Int.tmod_eq_emod_of_nonneg (by omega)];omega
 have hmw:IntKind.wrap .u64 (r:Int)=(r:Int):=Mx (by omega) (by omega)
 repeat' (with_reducible first|refine qq ?_|refine Anw ?_|(refine Tx 3 ?_;refine gO xM <| gO (by first|exact Ant rfl rfl rfl (by decide) hq|exact Akg rfl rfl rfl (by omega)) <| gO xM <| gO (by first|exact Anu rfl rfl rfl (by decide) hm|exact Akh rfl rfl rfl (by omega)) <| gO (by first|exact EQ rfl underlying3 underlying149 rfl hmw|exact FY rfl underlying3 underlying149 rfl) <| gO xA <| gO xA ?_)|(refine Tx 4 ?_;refine gO xM <| gO xN <| gO xM <| gO xAd <| gO xAd <| gN (by first|exact Pv (n:=((Ad a).length+q+1)) rfl rfl rfl (by omega) AK Eq (by omega) (by decide)|exact Bo rfl rfl rfl AK Eq (by omega) (by decide)) <| gO xA ?_)|(refine Tx 5 ?_;refine gO xM <| gO xN <| gO xM ?_))
 refine AY (Bz 1) (Aq (fun n Fr H=>∃ (k:Nat) (o:List Nat),k≤(Ad a).length∧n=(Ad a).length - k∧Yq (Ad a) q r k o∧Fr=ofL [(5,vi q),(6,vd (.val (.int .u64 (r:Int)))),(7,vo 0 (((Ad a).length+q+1))),(30,vd (IQ false a)),(31,vi ((Ad a).length)),(32,vi ((k:Nat)))]∧H=[.row 143 1 ((Ad a).length+q+1) (cW o)]) (n0:=(Ad a).length) ⟨0,(List.replicate ((Ad a).length+q+1) 0),af _,rfl,Yq.start _ _ _,rfl,rfl⟩ ?_)
 rintro nn Fr H ⟨k,o,hk,rfl,ho,rfl,rfl⟩
 by_cases hlt:k<(Ad a).length
 case pos =>
  obtain ⟨x,hx⟩:∃ x,(Ad a)[k]?=some x:=⟨_,gE hlt⟩
  have hx1:=ha x (gM hx)
  have hx2:=Wz hx
  obtain ⟨cy,hcy,hcl⟩:=ho.top
  have hol:=ho.len
  obtain ⟨hor,hfit⟩:=Zt (l:=x*2 ^ r % 4294967296) hcl (fy _ (by decide)) (Nat.le_of_lt hr) (Akc (Nat.le_of_lt hr))
  have hst:=ho.step ha hr hx hcy hcl hfit
  have h32:2 ^ r≤2147483648:=by rw [show (2147483648:Nat)=2 ^ 31 from rfl];exact ba (by decide) (by omega)
  have hxm:x*2 ^ r≤4294967295*2147483648:=du (by omega) h32
  have w1:IntKind.wrap .u64 (x:Int)=(x:Int):=Mx (by omega) (by omega)
  have w2:IntKind.wrap .u64 ((x:Int)*2 ^ r)=((x*2 ^ r:Nat):Int):=by rw [show ((x:Int)*2 ^ r)=((x*2 ^ r:Nat):Int) by push_cast;rfl];exact Mx (by omega) (by omega)
  have w3:=Ub (x*2 ^ r)
  have w4:IntKind.wrap .u32 ((x*2 ^ r / 4294967296:Nat):Int)=((x*2 ^ r / 4294967296:Nat):Int):=by rw [Ub,ia (by omega)]
  have tl:q+k<o.length:=by omega
  have tl2:q+k+1<(o.set (q+k) (cy+x*2 ^ r % 4294967296)).length:=by rw [dw];omega
  generalize x*2 ^ r=t at *
  repeat' (with_reducible first|refine qq ?_|(refine Tx 6 ?_;refine gO xLt ?_)|(refine Tx 7 ?_;refine gO xM <| gO AtZ <| gO zh9k <| gO xA <| gO xA ?_)|(refine Tx 8 ?_;refine gO xM <| gO (by first|exact EQ rfl underlying143 underlying148 rfl w1|exact FY rfl underlying143 underlying148 rfl) <| gO xM <| gO (by exact Aev rfl rfl rfl (lT (Nat.le_of_lt hr) (by decide)) w2) <| gO xA ?_)|(refine Tx 9 ?_;refine gO xM <| gO xM <| gO xM <| gO xAd <| gO AtZ <| gO zh9k <| gO xM <| gO (by first|exact EQ rfl underlying148 underlying143 rfl w3|exact FY rfl underlying148 underlying143 rfl) <| gO (by exact Ans rfl rfl rfl hor) <| gO AtZ <| gZ zh8k ?_)|(refine Tx 10 ?_;refine gO xM <| gO xM <| gO xM <| gO xAd <| gO xAd <| gO xM <| gO (by exact ZV rfl rfl rfl) <| gO (by first|exact EQ rfl underlying148 underlying143 rfl w4|exact FY rfl underlying148 underlying143 rfl) <| gO AtZ <| gZ zh8k ?_)|(refine Tx 11 ?_;refine gO xAd <| gO xM ?_))
  refine ⟨_,_,Bz 1,_,by omega,k+1,_,by omega,rfl,hst,rfl,rfl⟩
 obtain rfl:k=(Ad a).length:=by omega
 have hv:=ho.val
 rw [az,AI] at hv
 have hv2:Bc o=a*2 ^ n:=by rw [hv,hn,bh,gx,ay (2 ^ r)]
 have hol:=ho.len
 have TC:=Py (G:=An) o ((Ad a).length+q+1) hol.symm ho.ok (by omega)
 rw [hv2] at TC
 repeat' (with_reducible first|refine qq ?_|(refine Tx 6 ?_;refine gO xLt ?_))
 refine AY (Ff (ds:=o.map dW) 7 0 rfl (by rw [←AuM];rfl)) ?_
 repeat' (with_reducible first|refine qq ?_|(refine Tx 12 ?_;refine gO xM <| gO (xCl func159 (TC)) <| gO xA ?_))
 exact Aif
theorem Aex {o:Oper} {x:Operand} {k:IntKind} {p:Int} (ho:o.op=.call { callee:=.builtin .max,args:=#[x,y],argTypes:=ts }) (hx:F.ev x=.one (.d (.val (.int k p)))) (hy:F.ev y=.one (.d (.val (.int k q)))) (hr:max p q=r):AU P G o F H (.one (.d (.val (.int k r)))) []:=hr ▸ FZ ho hx hy
theorem Aih {o:Oper} {x:Operand} {p q r:Bool} (ho:o.op=.binOp .eql t x y t') (ht:P.underlying t=some .bool) (hx:F.ev x=.one (.d (.val (.bool p)))) (hy:F.ev y=.one (.d (.val (.bool q)))) (hr:(p == q)=r):AU P G o F H (.one (.d (.val (.bool r)))) []:=by
 subst hr
 refine Dr ho hx hy (fun w=>?_) rfl
 have h1:(Op.equal t (.bool p) (.bool q)).run P w=.ok (p == q) w:=by
  have key:∀ d:Nat,(Op.equalIn (d+1) t (.bool p) (.bool q)).run P w=.ok (p == q) w:=fun d=>by simp [Op.equalIn,run_underlying ht]
  exact key 9999
 simp [eqGuard,binOp,h1]
theorem Ark (x:Int):sg (!decide (x<0)) x.natAbs = -x:=by
 unfold sg
 by_cases h:x<0
 ·simp only [h,decide_true,ee,dn,if_false];omega
 ·simp only [h,decide_false,fp,if_true];omega
theorem Anx (x:Int):sg (decide (x<0)) x.natAbs=x:=by
 unfold sg
 by_cases h:x<0
 ·simp only [h,decide_true,if_true];omega
 ·simp only [h,decide_false,dn,if_false];omega
theorem Aky (x:Int) (k:Nat):sg (decide (x<0)) (x.natAbs*2 ^ k)=x*2 ^ k:=by
 have h1:=Anx x
 unfold sg at *
 by_cases h:x<0
 ·simp only [h,decide_true,if_true] at *
  conv=>rhs;rw [←h1]
  rw [ja,ej,Int.natCast_pow]
  rfl
 ·simp only [h,decide_false,dn,if_false] at *
  conv=>rhs;rw [←h1]
  rw [ja,Int.natCast_pow]
  rfl
theorem Arl (h:p:=by
 unfold sg
 cases hx:decide (x<0) <;> cases hy:decide (y<0) <;> simp only [hx,hy] at h ⊢ <;> simp at h ⊢ <;> omega):p:=h
theorem Aii (x:Int) (dx:Nat) (y:Int) (dy:Nat) :
  (decide (x<0)=decide (y<0)→DV x dx y dy=nf (sg (decide (x<0)) (x.natAbs*2 ^ (max dx dy - dx)+y.natAbs*2 ^ (max dx dy - dy))) (max dx dy)) ∧
  (¬ decide (x<0)=decide (y<0)→y.natAbs*2 ^ (max dx dy - dy)≤x.natAbs*2 ^ (max dx dy - dx)→DV x dx y dy=nf (sg (decide (x<0)) (x.natAbs*2 ^ (max dx dy - dx) - y.natAbs*2 ^ (max dx dy - dy))) (max dx dy)) ∧
  (¬ decide (x<0)=decide (y<0)→¬ y.natAbs*2 ^ (max dx dy - dy)≤x.natAbs*2 ^ (max dx dy - dx)→DV x dx y dy=nf (sg (decide (y<0)) (y.natAbs*2 ^ (max dx dy - dy) - x.natAbs*2 ^ (max dx dy - dx))) (max dx dy)):=by
 have h1:=Aky x (max dx dy - dx)
 have h2:=Aky y (max dx dy - dy)
 unfold DV
 rw [←h1,←h2]
 generalize x.natAbs*2 ^ (max dx dy - dx)=p
 generalize y.natAbs*2 ^ (max dx dy - dy)=q
 refine ⟨fun h=>?_,fun h hle=>?_,fun h hle=>?_⟩
 ·rw [←h]
  congr 1
  unfold sg
  split <;> omega
 ·congr 1
  exact Arl
 ·congr 1
  exact Arl
theorem Dx {x:Int} {d:Nat} (h:Nf x d):Ac x d 0=(x,d):=by
 unfold Ac
 rw [if_neg (by decide)]
 show nf (x*2 ^ 0) d=_
 rw [Int.pow_zero,Int.mul_one]
 exact Ni h.2
theorem Fg (n:Int) (h1 : -9223372036854775808≤n) (h2:n<9223372036854775808):CV prog An 123 [aI n] [aDy false n 0]:=CVF.cv fun w S vs hg hlt ha=>by
 obtain ⟨u,hu,h3⟩:=CG ha
 subst hu
 cases h3
 exact (XQ n h1 h2 w hg).mono fun r w' ⟨v,he,hd,hb⟩=>⟨v,he,ZU hd,hb⟩
theorem Bj (x:Int) (d:Nat) (n:Int) (hn:Nf x d) (hl:(Ad x.natAbs).length≤50000) (hd:(d:Int) - max (-65536) (min n 65536)≤65536):CV prog An 27 [aDy false x d,aI n] [aDy false (Ac x d n).1 (Ac x d n).2]:=CVF.cv fun w S vs hg hlt ha=>by
 obtain ⟨v,vs',rfl,h1,ha⟩:=ha.uncons
 obtain ⟨u,hu,h2⟩:=CG ha
 subst hu
 cases h2
 exact (Nk (Aen h1 hlt hn) (aa _) hl hd hg).mono fun r w' ⟨v,he,hd,hb⟩=>⟨v,he,ZU hd,hb⟩
theorem Ug (x:Int) (dx:Nat) (y:Int) (dy:Nat):Cf x dx y dy=Wd x dx y dy:=by
 unfold Cf Wd DV
 rw [Aeo (Ahm _ _),ej]
 rfl
theorem Ck (x:Int) (dx:Nat) (y:Int) (dy:Nat) (hnx:Nf x dx) (hny:Nf y dy) (lx:(Ad x.natAbs).length≤40000) (ly:(Ad y.natAbs).length≤40000):CV prog An 9 [aDy false x dx,aDy false y dy] [aI (Cf x dx y dy)]:=CVF.cv fun w S vs hg hlt ha=>by
 obtain ⟨v,vs',rfl,h1,ha⟩:=ha.uncons
 obtain ⟨u,hu,h2⟩:=CG ha
 subst hu
 exact (ZI (Aen h1 hlt hnx) (Aen h2 hlt hny) (aa _) (lT lx (by decide)) (lT ly (by decide))).mono fun r w' ⟨he,hb⟩=>⟨_,he.trans (by rw [Ug]),Ba.val rfl,hb⟩
theorem Arm (h:p:=by first|exact xCl func72 (LX)|exact xCl func72 (LY)):p:=h
theorem ZY (x:Int) (dx:Nat) (y:Int) (dy:Nat) (hnx:Nf x dx) (hny:Nf y dy) (lx:(Ad x.natAbs).length≤35184372087808) (ly:(Ad y.natAbs).length≤35184372087808):CV prog An 29 [aDy false x dx,aDy false y dy] [aB (decide (x<0)),.one (IQ false (x.natAbs*2 ^ ((max dx dy) - dx))),aB (decide (y<0)),.one (IQ false (y.natAbs*2 ^ ((max dx dy) - dy))),aI ((max dx dy):Nat)]:=by
 refine cvz func29 ntmps29 ?_
 have PX:=FM (G:=An) x dx hnx (lT lx (by decide))
 have PY:=FM (G:=An) y dy hny (lT ly (by decide))
 have hdx:=hnx.1
 have hdy:=hny.1
 have hm:(max (dx:Int) (dy:Int))=(((max dx dy):Nat):Int):=by omega
 have LX:=ZX x.natAbs ((max dx dy) - dx) (lT lx (by decide)) (by omega)
 have LY:=ZX y.natAbs ((max dx dy) - dy) (lT ly (by decide)) (by omega)
 have e1:(((max dx dy) - dx:Nat):Int)=(((max dx dy):Nat):Int) - (dx:Int):=by omega
 have e2:(((max dx dy) - dy:Nat):Int)=(((max dx dy):Nat):Int) - (dy:Int):=by omega
 rw [e1] at LX
 rw [e2] at LY
 repeat' (with_reducible first|refine qq ?_|(refine Tx 0 ?_;refine gN xBo <| gN xBo <| gO xA <| gO xA <| gO xA <| gO xA <| gO xA ?_)|(refine Tx 1 ?_;refine gO xL <| gO AtY <| gO xMt <| gO xEx <| gO xEx <| gO xEx <| gO xA <| gO xA <| gO xA ?_)|(refine Tx 2 ?_;refine gO xL <| gO AtY <| gO xMt <| gO xEx <| gO xEx <| gO xEx <| gO xA <| gO xA <| gO xA ?_)|(refine Tx 3 ?_;refine gO xM <| gO xM <| gO (by first|exact Aex rfl rfl rfl hm|exact FZ rfl rfl rfl) <| gO xA ?_)|(refine Tx 4 ?_;refine gO xM <| gO xM <| gO xM <| gO xM <| gO xSb <| gO Arm <| gO xM <| gO xM <| gO xM <| gO xM <| gO xSb <| gO Arm <| gO xM <| gO xA <| gO xA <| gO xA <| gO xA <| gO xA ?_))
 exact AN rfl (.cons_ (GI rfl rfl) (.cons_ (.tmp (.one (Bp rfl fun _=>ZW _))) (.cons_ (GI rfl rfl) (.cons_ (.tmp (.one (Bp rfl fun _=>ZW _))) (.cons_ (AhG rfl rfl) .nil_)))))
theorem Any (k:p') (h:Hd9 p'→p:=by with_reducible first|(intro Z9;refine qq ?_;exact Z9.o)|(intro Z9;refine Tx 0 ?_;refine gN xBo <| gN xBo <| gN (xAl Ak) ?_;exact Z9.o)|(intro Z9;refine Tx 1 ?_;refine gO xL <| gO xL <| gO (xCl func29 (AL)) <| gO xMt <| gO xEx <| gO xEx <| gO xEx <| gO xEx <| gO xEx <| gO xA <| gO xA <| gO xA <| gO xA <| gO xA ?_;exact Z9.o)|(intro Z9;refine Tx 2 ?_;refine gO xM <| gO xM <| gO (xCl func30 (CP.cv)) <| gO xA ?_;exact Z9.o)|(intro Z9;refine Tx 3 ?_;refine gO xM <| gO xM <| gO (by first|exact Aih rfl underlying4 rfl rfl hsb|exact xEq) <| gO xA ?_;exact Z9.o)|fail):p:=h ⟨k⟩
theorem CY (x:Int) (dx:Nat) (y:Int) (dy:Nat) (hnx:Nf x dx) (hny:Nf y dy) (lx:(Ad x.natAbs).length≤40000) (ly:(Ad y.natAbs).length≤40000):CV prog An 146 [aDy false x dx,aDy false y dy] [aDy false (DV x dx y dy).1 (DV x dx y dy).2]:=by
 refine cvz func146 ntmps146 ?_
 have AL:=ZY x dx y dy hnx hny (lT lx (by decide)) (lT ly (by decide))
 have hdx:=hnx.1
 have hdy:=hny.1
 have hX:(Ad (x.natAbs*2 ^ ((max dx dy) - dx))).length≤50000:=lT (BO x.natAbs ((max dx dy) - dx)) (by omega)
 have hY:(Ad (y.natAbs*2 ^ ((max dx dy) - dy))).length≤50000:=lT (BO y.natAbs ((max dx dy) - dy)) (by omega)
 have CP:=QI (G:=An) false false (x.natAbs*2 ^ ((max dx dy) - dx)) (y.natAbs*2 ^ ((max dx dy) - dy)) (by omega) (by omega)
 have SU:=Aii x dx y dy
 generalize (x.natAbs*2 ^ ((max dx dy) - dx))=p at *
 generalize (y.natAbs*2 ^ ((max dx dy) - dy))=q at *
 obtain ⟨S1,S2,S3⟩:=SU
 have hpq:=Mi p q
 by_cases hs:decide (x<0)=decide (y<0)
 case pos =>
  have NA:=Anv p q (by omega) (by omega)
  have RS:=EU false (decide (x<0)) (p+q) (max dx dy) (by omega) (by omega)
  rw [←S1 hs] at RS
  have hsb:=beq_iff_eq.2 hs
  repeat' (with_reducible first|refine Any ?_|(refine Tx 4 ?_;refine gO xM <| gO xM <| gO xM <| gO (xCl func203 (NA)) <| gO xM <| gO (xCl func73 (RS.cv)) <| gZ (xSk Ab) ?_))
  exact OU
 have hsb:(decide (x<0) == decide (y<0))=false:=beq_eq_false_iff_ne.2 hs
 by_cases hc:q≤p
 case pos =>
  have NS:=Aew p q hc (by omega)
  have RS:=EU false (decide (x<0)) (p - q) (max dx dy) (lT (Bt (Nat.sub_le p q)) (by omega)) (by omega)
  rw [←S2 hs hc] at RS
  have hge:0≤sgI ((p:Int) - (q:Int)):=by rw [Eu];(repeat' split) <;> omega
  repeat' (with_reducible first|refine Any ?_|(refine Tx 5 ?_;refine gO xM <| gO xGe <| gO xA ?_)|(refine Tx 6 ?_;refine gO xM <| gO xM <| gO xM <| gO (xCl func210 (NS)) <| gO xM <| gO (xCl func73 (RS.cv)) <| gZ (xSk Ab) ?_))
  exact OU
 have NS:=Aew q p (by omega) (by omega)
 have RS:=EU false (decide (y<0)) (q - p) (max dx dy) (lT (Bt (Nat.sub_le q p)) (by omega)) (by omega)
 rw [←S3 hs hc] at RS
 have hge:¬ 0≤sgI ((p:Int) - (q:Int)):=by rw [Eu];(repeat' split) <;> omega
 repeat' (with_reducible first|refine Any ?_|(refine Tx 5 ?_;refine gO xM <| gO xGe <| gO xA ?_)|(refine Tx 7 ?_;refine gO xM <| gO xM <| gO xM <| gO (xCl func210 (NS)) <| gO xM <| gO (xCl func73 (RS.cv)) <| gZ (xSk Ab) ?_))
 exact OU
theorem Anz (h:p:=by first|exact xNt|exact xNg):p:=h
theorem ER (x:Int) (dx:Nat) (hnx:Nf x dx) (lx:(Ad x.natAbs).length≤40000):CV prog An 83 [aDy false x dx] [aDy false (-x) dx]:=by
 refine cvz func83 ntmps83 ?_
 have PX:=FM (G:=An) x dx hnx (lT lx (by decide))
 have hdx:=hnx.1
 have RS:=EU false (!decide (x<0)) x.natAbs dx (lT lx (by decide)) hdx
 rw [show nf (sg (!decide (x<0)) x.natAbs) dx=(-x,dx) by rw [Ark];exact Ni fun h=>by have:=hnx.2 h;omega] at RS
 repeat' (with_reducible first|refine qq ?_|(refine Tx 0 ?_;refine gN xBo <| gN (xAl Ak) ?_)|(refine Tx 1 ?_;refine gO xL <| gO (xCl func71 (PX)) <| gO xMt <| gO xEx <| gO xEx <| gO xEx <| gO xA <| gO xA <| gO xA ?_)|(refine Tx 2 ?_;refine gO xM <| gO Anz <| gO xM <| gO xM <| gO (xCl func73 (RS.cv)) <| gZ (xSk Ab) ?_))
 exact OU
theorem PA (x:Int) (dx:Nat) (hnx:Nf x dx) (lx:(Ad x.natAbs).length≤40000):CV prog An 150 [aDy false x dx] [aDy false ((x.natAbs:Nat):Int) dx]:=by
 refine cvz func150 ntmps150 ?_
 have PX:=FM (G:=An) x dx hnx (lT lx (by decide))
 have hdx:=hnx.1
 have RS:=EU false false x.natAbs dx (lT lx (by decide)) hdx
 rw [show nf (sg false x.natAbs) dx=(((x.natAbs:Nat):Int),dx) from Ni fun h=>by have:=hnx.2 h;show ((x.natAbs:Nat):Int) % 2=1;omega] at RS
 repeat' (with_reducible first|refine qq ?_|(refine Tx 0 ?_;refine gN xBo <| gN (xAl Ak) ?_)|(refine Tx 1 ?_;refine gO xL <| gO (xCl func71 (PX)) <| gO xMt <| gO xEx <| gO xEx <| gO xEx <| gO xA <| gO xA <| gO xA ?_)|(refine Tx 2 ?_;refine gO xM <| gO xM <| gO (xCl func73 (RS.cv)) <| gZ (xSk Ab) ?_))
 exact OU
theorem Aij (x:Int) (dx:Nat) (y:Int) (dy:Nat) (hnx:Nf x dx) (hny:Nf y dy) (lx:(Ad x.natAbs).length≤40000) (ly:(Ad y.natAbs).length≤40000):CV prog An 157 [aDy false x dx,aDy false y dy] [aDy false (DV x dx (-y) dy).1 (DV x dx (-y) dy).2]:=by
 refine cvz func157 ntmps157 ?_
 have NG:=ER y dy hny ly
 have AD:=CY x dx (-y) dy hnx ⟨hny.1,fun h=>by have:=hny.2 h;omega⟩ lx (by rw [Int.natAbs_neg];exact ly)
 repeat' (with_reducible first|refine qq ?_|(refine Tx 0 ?_;refine gN xBo <| gN xBo <| gN (xAl Ak) ?_)|(refine AE (id:=1) 4 AJ (by kernel_rfl) ?_;dsimp only [List.take,List.drop];refine gP xL <| gP xL <| gP (xCl func83 (NG)) <| gP (xCl func146 (AD)) ?_;refine Ke ?_;refine gZ (xSk Ab) ?_))
 exact OU
theorem Mz (x:Int) (dx:Nat) (y:Int) (dy:Nat) (hnx:Nf x dx) (hny:Nf y dy) (lx:(Ad x.natAbs).length≤40000) (ly:(Ad y.natAbs).length≤40000):CV prog An 158 [aDy false x dx,aDy false y dy] [aDy false (Fq x dx y dy).1 (Fq x dx y dy).2]:=by
 refine cvz func158 ntmps158 ?_
 have CM:=Ck x dx y dy hnx hny lx ly
 have SX:=Bj x dx 0 hnx (lT lx (by decide)) (by have:=hnx.1;omega)
 have SY:=Bj y dy 0 hny (lT ly (by decide)) (by have:=hny.1;omega)
 rw [Dx hnx] at SX
 rw [Dx hny] at SY
 by_cases h:Cf x dx y dy≤0
 case pos =>
  rw [show Fq x dx y dy=(x,dx) from if_neg (by omega)]
  repeat' (with_reducible first|refine qq ?_|(refine Tx 0 ?_;refine gN xBo <| gN xBo <| gN (xAl Ak) ?_)|(refine Tx 1 ?_;refine gO xL <| gO xL <| gO (xCl func9 (CM)) <| gO xLe ?_)|(refine Tx 2 ?_;refine gO xL <| gO (xCl func27 (SX)) <| gZ (xSk Ab) ?_))
  exact OU
 case neg =>
  rw [show Fq x dx y dy=(y,dy) from if_pos (by omega)]
  repeat' (with_reducible first|refine qq ?_|(refine Tx 0 ?_;refine gN xBo <| gN xBo <| gN (xAl Ak) ?_)|(refine Tx 1 ?_;refine gO xL <| gO xL <| gO (xCl func9 (CM)) <| gO xLe ?_)|(refine Tx 3 ?_;refine gO xL <| gO (xCl func27 (SY)) <| gZ (xSk Ab) ?_))
  exact OU
theorem Ek (x:Int) (dx:Nat) (y:Int) (dy:Nat) (hnx:Nf x dx) (hny:Nf y dy) (lx:(Ad x.natAbs).length≤40000) (ly:(Ad y.natAbs).length≤40000):CV prog An 91 [aDy false x dx,aDy false y dy] [aDy false (Ft x dx y dy).1 (Ft x dx y dy).2]:=by
 refine cvz func91 ntmps91 ?_
 have CM:=Ck x dx y dy hnx hny lx ly
 have SX:=Bj x dx 0 hnx (lT lx (by decide)) (by have:=hnx.1;omega)
 have SY:=Bj y dy 0 hny (lT ly (by decide)) (by have:=hny.1;omega)
 rw [Dx hnx] at SX
 rw [Dx hny] at SY
 by_cases h:0≤Cf x dx y dy
 case pos =>
  rw [show Ft x dx y dy=(x,dx) from if_neg (by omega)]
  repeat' (with_reducible first|refine qq ?_|(refine Tx 0 ?_;refine gN xBo <| gN xBo <| gN (xAl Ak) ?_)|(refine Tx 1 ?_;refine gO xL <| gO xL <| gO (xCl func9 (CM)) <| gO xGe ?_)|(refine Tx 2 ?_;refine gO xL <| gO (xCl func27 (SX)) <| gZ (xSk Ab) ?_))
  exact OU
 case neg =>
  rw [show Ft x dx y dy=(y,dy) from if_pos (by omega)]
  repeat' (with_reducible first|refine qq ?_|(refine Tx 0 ?_;refine gN xBo <| gN xBo <| gN (xAl Ak) ?_)|(refine Tx 1 ?_;refine gO xL <| gO xL <| gO (xCl func9 (CM)) <| gO xGe ?_)|(refine Tx 3 ?_;refine gO xL <| gO (xCl func27 (SY)) <| gZ (xSk Ab) ?_))
  exact OU
theorem Aey {o:Oper} {e:TypeId} {x l:Operand} {tg:Bool} {k:IntKind} {z:Int} {cs:List D} (ho:o.op=.slice t x (some l) none none) (hx:F.ev x=.one (.d (.row tg s n cs))) (hl:F.ev l=.one (.d (.val (.int k z)))) (hz:z=(lo:Int)) (ht:TyS P t e s) (h1:lo≤n) :
  AU P G o F H (.one (.d (.row tg s (n - lo) (cs.drop (lo*s))))) []:=BS fun b0 m a hp hcx hor=>by
 subst hz
 have hv:=AV hor (x:=x) (by rw [ho];simp [Op.operands])
 have el:=CA (m:=m) (v:=a.eval l) (by rw [←hl];exact AV hor (by rw [ho];simp [Op.operands]))
 rw [hx] at hv
 have hv':Ba m.w m.S (.row tg s n cs) (a.eval x):=hv
 generalize hxe:a.eval x=u at hv'
 cases hv' with
 | @row _ _ _ cap _ A xs hc hA hln hxl hm hr =>
  obtain ⟨ie,hi1,hi2⟩:=Option.map_eq_some_iff.1 ht.s
  have hls:lo*s≤n*s:=jo _ h1
  have e3:(n:Int)≤(cap:Int):=by omega
  have e4:(lo:Int)≤(n:Int):=by omega
  have e6:(0:Int)≤(lo:Int):=by omega
  refine ⟨.slice (if cap=lo then A else A.map (·.add (lo*s))) (n - lo) (cap - lo),?_,Ba.row (xs.drop (lo*s)) (by omega) (fun h0=>?_) ?_ ?_ (fun hne=>?_) (fun j u x hu hj=>?_)⟩
  ·unfold execOp
   simp [ho,hxe,el,Instr.sliceAt,Instr.slice,run_underlying ht.h,Instr.sliceBounds,Instr.sliceBound,asIntOf,sizeOf,typeInfo,hi1,hi2,h1,hc]
  ·split at h0
   ·omega
   ·cases A with
    | none=>have:=hA rfl;omega
    | some p=>simp at h0
  ·rw [iz,hln,Nat.sub_mul]
  ·simp [hxl]
  ·have hcne:cs≠[]:=fun h0=>hne (by rw [h0];simp)
   obtain ⟨b,off,rfl,hb,hcells⟩:=hm hcne
   have hcl:cap≠lo:=fun h0=>hne (by
    refine bj ?_
    rw [iz,hln,show n=lo by omega,em])
   rw [if_neg hcl]
   refine ⟨b,off+lo*s,by simp [mj],hb,fun j x hj=>?_⟩
   rw [cn] at hj
   rw [gr]
   exact hcells _ x hj
  ·rw [cn] at hu hj
   exact hr _ u x hu hj
structure Sm (p:Int × Nat) (n d:Nat):Prop where
 ok:Nf p.1 p.2
 n:p.1.natAbs<2 ^ n
 d:p.2≤d
theorem WA (k:Nat) (h:n≤32*k):2 ^ n≤4294967296 ^ k:=by
 rw [show (4294967296:Nat)=2 ^ 32 from rfl,←gx]
 exact ba (by decide) h
theorem Sm.len {p:Int × Nat} {d:Nat} (h:Sm p n d) (hn:n≤1600):(Ad p.1.natAbs).length≤50:=AC (au h.n (WA 50 (by omega)))
theorem Sm.lenN {p:Int × Nat} {d:Nat} (h:Sm p n d) (k:Nat) (hn:n≤32*k):(Ad p.1.natAbs).length≤k:=AC (au h.n (WA k hn))
theorem Sm.l4 {p:Int × Nat} {d:Nat} (h:Sm p n d) (hn:n≤32*625:=by decide):(Ad p.1.natAbs).length≤40000:=lT (h.lenN 625 hn) (by decide)
theorem Sm.lz {p:Int × Nat} {d k:Nat} (h:Sm p n d) (hn:n≤32*k:=by decide):(Ad p.1.natAbs).length≤k:=h.lenN k hn
theorem Sm.more {p:Int × Nat} {d n' d':Nat} (h:Sm p n d) (h1:n≤n') (h2:d≤d'):Sm p n' d':=⟨h.ok,au h.n (ba (by decide) h1),lT h.d h2⟩
theorem Sm.mk_nf {m:Int} {p d:Nat} (hd:p≤d) (h:p≤65536) (hm:m.natAbs<2 ^ n):Sm (nf m p) n d:=⟨Nf.nf h,ic (Gm m p) hm,lT (Amc m p) hd⟩
theorem Sm.shift {x k:Int} (h1 : -200≤k) (h2:k≤200) (hx:x.natAbs<2 ^ n):Sm (Ac x 0 k) (n+200) 200:=by
 unfold Ac
 rw [show max (-65536) (min k 65536)=k by omega]
 split
 ·exact (Sm.mk_nf (by omega) (by omega) hx).more (by omega) (aa _)
 ·refine Sm.mk_nf (by omega) (by omega) ?_
  rw [fw,fx,bh]
  exact ic (gu _ (ba (by decide) (show k.toNat≤200 by omega))) (jq hx (Nat.pow_pos (by decide)))
section
variable {p q:Int × Nat} {X Y Z:Int} {n m d:Nat}
theorem Sm.neg (h:Sm p n d):Sm (-p.1,p.2) n d:=⟨⟨h.ok.1,fun h0=>by have:=h.ok.2 h0;show (-p.1) % 2=1;omega⟩,by show (-p.1).natAbs<_;rw [Int.natAbs_neg];exact h.n,h.d⟩
theorem Sm.abs (h:Sm p n d):Sm (((p.1.natAbs:Nat):Int),p.2) n d:=⟨⟨h.ok.1,fun h0=>by have:=h.ok.2 h0;show ((p.1.natAbs:Nat):Int) % 2=1;omega⟩,h.n,h.d⟩
theorem Sm.sum (h:Sm p n d) (h2:Sm q n d) (hd:d≤65536):Sm (DV p.1 p.2 q.1 q.2) (n+d+1) d:=by
 have e:∀ r:Int × Nat,Sm r n d→(r.1*2 ^ (Max.max p.2 q.2 - r.2)).natAbs<2 ^ (n+d):=fun r hr=>by
  rw [fw,fx,bh]
  have hpd:=h.d
  have hqd:=h2.d
  exact ic (gu _ (ba (by decide) (show Max.max p.2 q.2 - r.2≤d by omega))) (jq hr.n (Nat.pow_pos (by decide)))
 have hpd:=h.d
 have hqd:=h2.d
 refine Sm.mk_nf (by omega) (by omega) ?_
 have h3:=e p h
 have h4:=e q h2
 have h5:=Int.natAbs_add_le (p.1*2 ^ (Max.max p.2 q.2 - p.2)) (q.1*2 ^ (Max.max p.2 q.2 - q.2))
 rw [ce]
 omega
theorem Sm.mul (h:Sm p n d) (h2:Sm q n d) (hd:d≤30000):Sm (NN p.1 p.2 q.1 q.2) (n+n) (d+d):=by
 have hpd:=h.d
 have hqd:=h2.d
 refine Sm.mk_nf (by omega) (by omega) ?_
 rw [fw,bh]
 exact Nat.mul_lt_mul'' h.n h2.n
theorem Sm.min (h:Sm p n d) (h2:Sm q n d):Sm (Fq p.1 p.2 q.1 q.2) n d:=by
 unfold Fq
 split
 ·exact h2
 ·exact h
theorem Sm.max (h:Sm p n d) (h2:Sm q n d):Sm (Ft p.1 p.2 q.1 q.2) n d:=by
 unfold Ft
 split
 ·exact h2
 ·exact h
end
def dyP (p:Int × Nat):List D:=dDy false p.1 p.2
theorem Yt {l:List (Int × Nat)} {k:Nat} {p:Int × Nat} (h:l[k]?=some p):((Ar dyP l).drop (k*3)).take 3=dyP p:=EO (f:=dyP) (s:=3) (fun _=>rfl) h
def ZZ (y:Bk) (l:List (Int × Nat)):Int × Nat :=
 if y.kind=1 then Ac y.vn 0 y.ve
 else if y.kind=3 then DV (l[0]?.getD (0,0)).1 (l[0]?.getD (0,0)).2 (l[1]?.getD (0,0)).1 (l[1]?.getD (0,0)).2
 else if y.kind=4 then DV (l[0]?.getD (0,0)).1 (l[0]?.getD (0,0)).2 (-(l[1]?.getD (0,0)).1) (l[1]?.getD (0,0)).2
 else if y.kind=5 then (-(l[0]?.getD (0,0)).1,(l[0]?.getD (0,0)).2)
 else if y.kind=6 then NN (Ac y.vn 0 y.ve).1 (Ac y.vn 0 y.ve).2 (l[0]?.getD (0,0)).1 (l[0]?.getD (0,0)).2
 else if y.kind=7 then NN (l[0]?.getD (0,0)).1 (l[0]?.getD (0,0)).2 (l[1]?.getD (0,0)).1 (l[1]?.getD (0,0)).2
 else if y.kind=8 then Fq (l[0]?.getD (0,0)).1 (l[0]?.getD (0,0)).2 (l[1]?.getD (0,0)).1 (l[1]?.getD (0,0)).2
 else if y.kind=9 then Ft (l[0]?.getD (0,0)).1 (l[0]?.getD (0,0)).2 (l[1]?.getD (0,0)).1 (l[1]?.getD (0,0)).2
 else if y.kind=10 then ((((l[0]?.getD (0,0)).1.natAbs:Nat):Int),(l[0]?.getD (0,0)).2)
 else Fq (Ft (l[0]?.getD (0,0)).1 (l[0]?.getD (0,0)).2 (Ac y.vn 0 y.ve).1 (Ac y.vn 0 y.ve).2).1 (Ft (l[0]?.getD (0,0)).1 (l[0]?.getD (0,0)).2 (Ac y.vn 0 y.ve).1 (Ac y.vn 0 y.ve).2).2 (Ac y.un 0 y.ue).1 (Ac y.un 0 y.ue).2
theorem WB {bs:List Bk}:∀ (f:Nat) (out:List Nat),(∀ l1 j l2,out=l1++j::l2→rdy bs l1 j=true)→∀ l1 j l2,Sq bs f out=l1++j::l2→rdy bs l1 j=true
 | 0,out,h,l1,j,l2,e=>h l1 j l2 e
 | f+1,out,h,l1,j,l2,e=>by
  unfold Sq at e
  cases hn:nxt bs out with
  | none=>rw [hn] at e;exact h l1 j l2 e
  | some i =>
   rw [hn] at e
   refine WB f (out++[i]) (fun m1 q m2 he=>?_) l1 j l2 e
   rcases List.eq_nil_or_concat m2 with rfl|⟨m3,q',rfl⟩
   ·have h1:=List.append_inj' he rfl
    obtain ⟨rfl,h2⟩:=h1
    cases h2
    exact (Mr hn).2
   ·have h1:out++[i]=(m1++q::m3)++[q']:=by rw [he];simp
    exact h m1 q m3 (List.append_inj' h1 rfl).1
theorem PC {l1 l2:List Nat} {j:Nat} (h:Bb bs=l1++j::l2) {a:Int} (ha:a∈Hl bs j):AQ bs a.toNat=2∨a.toNat∈l1:=by
 have h1:=WB bs.length [] (fun m1 q m2 he=>by simp at he) l1 j l2 h
 unfold rdy at h1
 rw [aj] at h1
 have h2:=List.all_eq_true.1 h1.2 a ha
 unfold Dd at h2
 simpa using h2
theorem Yu (h:Db bs=0) {j:Nat} (hj:j<bs.length) (hk:AQ bs j≠2):j∈Bb bs:=bz fun hn=>by
 have hlen:(Bb bs).length=Cy bs:=by
  unfold Db at h
  exact bz fun hx=>by rw [if_neg hx] at h;cases h
 have ho:=NI bs.length (GN.nil bs)
 have:=GN.le (bs:=bs) (out:=j::Bb bs) ⟨List.nodup_cons.2 ⟨hn,ho.nodup⟩,fun i hi=>by
  rcases List.mem_cons.1 hi with rfl|hi
  ·exact ⟨hj,hk⟩
  ·exact ho.mem i hi⟩
 rw [cq] at this
 omega
theorem Lm {a b:Int} (h:¬ a=b):(a == b)=false:=beq_eq_false_iff_ne.2 h
theorem AuP {n:Int} (h:¬ (n=0∧e=0)):(!(n == 0 && e == 0))=true:=by
 by_cases h1:n=0
 ·rw [Lm (fun h2=>h ⟨h1,h2⟩),Bool.and_false];rfl
 ·rw [Lm h1];rfl
theorem Akz {n:Int} (h:DA n e):Nf (Ac n 0 e).1 (Ac n 0 e).2∧(Ad (Ac n 0 e).1.natAbs).length≤40000:=by
 unfold DA at h
 have sm:=Sm.shift (n:=32) (x:=n) (k:=e) (by omega) (by omega) (by omega)
 exact ⟨sm.ok,lT (sm.lenN 10 (by decide)) (by decide)⟩
theorem Arn (k:p') (h:Hd9 p'→p:=by with_reducible first|(intro Z9;refine qq ?_;exact Z9.o)|(intro Z9;refine Tx 0 ?_;refine gO xA ?_;exact Z9.o)|(intro Z9;refine Tx 1 ?_;refine gO xM ?_;exact Z9.o)|(intro Z9;refine Tx 2 ?_;refine gO xEq <| gO xA ?_;exact Z9.o)|(intro Z9;refine Tx 3 ?_;refine gO xA ?_;exact Z9.o)|(intro Z9;refine Tx 4 ?_;refine gO xEq <| gO xA ?_;exact Z9.o)|(intro Z9;refine Tx 5 ?_;refine gO xEq <| gO xA ?_;exact Z9.o)|(intro Z9;refine Tx 6 ?_;refine gO xEq <| gO xA ?_;exact Z9.o)|(intro Z9;refine Tx 7 ?_;refine gO xEq <| gO xA ?_;exact Z9.o)|(intro Z9;refine Tx 8 ?_;refine gO xEq <| gO xA ?_;exact Z9.o)|(intro Z9;refine Tx 9 ?_;refine gO xEq <| gO xA ?_;exact Z9.o)|(intro Z9;refine Tx 10 ?_;refine gO xA ?_;exact Z9.o)|(intro Z9;refine Tx 11 ?_;refine gO xEq <| gO xA ?_;exact Z9.o)|(intro Z9;refine Tx 12 ?_;refine gO xEq <| gO xA ?_;exact Z9.o)|(intro Z9;refine Tx 13 ?_;refine gO xEq <| gO xA ?_;exact Z9.o)|(intro Z9;refine Tx 14 ?_;refine gO xEq <| gO xA ?_;exact Z9.o)|(intro Z9;refine Tx 15 ?_;refine gO xEq <| gO xA ?_;exact Z9.o)|(intro Z9;refine Tx 16 ?_;refine gO xA ?_;exact Z9.o)|(intro Z9;refine Tx 17 ?_;refine gO xA ?_;exact Z9.o)|fail):p:=h ⟨k⟩
theorem Aez (k:Int):CV prog An 152 [aI k] [aI (Ay k)]:=by
 refine cvz func152 ntmps152 ?_
 have h:k=1∨k=0∨k=2∨k=5∨k=10∨k=6∨k=11∨k=3∨k=4∨k=7∨k=8∨k=9∨(k≠1∧k≠0∧k≠2∧k≠5∧k≠10∧k≠6∧k≠11∧k≠3∧k≠4∧k≠7∧k≠8∧k≠9):=by omega
 rcases h with rfl|rfl|rfl|rfl|rfl|rfl|rfl|rfl|rfl|rfl|rfl|rfl|h
 rotate_left 12
 ·have e:Ay k = -1:=by unfold Ay;rw [if_neg (by omega),if_neg (by omega),if_neg (by omega)]
  rw [e]
  repeat' (with_reducible first|refine Arn ?_)
  exact AN rfl (.cons_ (AhG rfl rfl) .nil_)
 all_goals repeat' (with_reducible first|refine Arn ?_)
 all_goals exact AN rfl (.cons_ (AhG rfl (by decide)) .nil_)
theorem Yv (k:p') (h:Hd9 p'→p:=by with_reducible first|(intro Z9;refine qq ?_;exact Z9.o)|(intro Z9;refine Tx 0 ?_;refine gN xBo <| gO xA ?_;exact Z9.o)|(intro Z9;refine Tx 1 ?_;refine gO xM <| gO Anz ?_;exact Z9.o)|fail):p:=h ⟨k⟩
theorem AeA (k:p') (h:Hd9 p'→p:=by with_reducible first|(intro Z9;refine Tx 5 ?_;refine gO xF <| gO xD <| gO xLe <| gO xM ?_;(first|iterate 3 refine Jd ?_|(refine Jy (xFa Nx Al) ?_;refine Jy (xLd Al) ?_;refine Jy xGe ?_));refine gO xPk <| gO xM ?_;(first|iterate 3 refine Jd ?_|(refine Jy (xFa Gs Al) ?_;refine Jy (xLd Al) ?_;refine Jy xLt ?_));refine gO xPk <| gO xM ?_;(first|iterate 3 refine Jd ?_|(refine Jy (xFa Gs Al) ?_;refine Jy (xLd Al) ?_;refine Jy xGt ?_));refine gO xPk ?_;exact Z9.o)|fail):p:=h ⟨k⟩
theorem Fw (h:p:=by
 exact AN rfl (.cons_ (AbC rfl (by decide) (rfl)) .nil_)):p:=h
theorem SN (n e:Int) (used:Bool):CV prog An 153 [.agg [dI n,dI e],aB used] [aE (Cl n e used)]:=by
 refine cvz func153 ntmps153 ?_
 cases used
 case false =>
  unfold Cl
  rw [if_neg (by decide)]
  by_cases h1:n=0∧e=0
  case pos =>
   rw [if_pos h1]
   obtain ⟨rfl,rfl⟩:=h1
   repeat' (with_reducible first|refine Yv ?_|(refine Tx 2 ?_;refine gO xL <| gO (by exact AH rfl Qn rfl rfl) <| gO (by first|exact Ael rfl rfl rfl (rfl)|exact xNe) ?_)|(refine Tx 4 ?_;refine gO xA ?_))
   exact AN rfl (.cons_ (Fv rfl (rfl)) .nil_)
  case neg =>
   rw [if_neg h1]
   repeat' (with_reducible first|refine Yv ?_|(refine Tx 2 ?_;refine gO xL <| gO (by exact AH rfl Qn rfl rfl) <| gO (by first|exact Ael rfl rfl rfl (AuP h1)|exact xNe) ?_)|(refine Tx 3 ?_;refine gO (xMi underlying85) <| gO xA ?_))
   exact Fw
 case true =>
  unfold Cl
  rw [if_pos rfl]
  by_cases c1 : -2147483648<n
  case neg =>
   rw [if_neg (fun h:DA n e=>c1 h.1)]
   repeat' (with_reducible first|refine Yv ?_|refine AeA ?_|(refine Tx 6 ?_;refine gO (xMi underlying85) <| gO xA ?_))
   exact Fw
  by_cases c2:n<2147483648
  case neg =>
   rw [if_neg (fun h:DA n e=>c2 h.2.1)]
   repeat' (with_reducible first|refine Yv ?_|refine AeA ?_|(refine Tx 6 ?_;refine gO (xMi underlying85) <| gO xA ?_))
   exact Fw
  by_cases c3 : -62≤e
  case neg =>
   rw [if_neg (fun h:DA n e=>c3 h.2.2.1)]
   repeat' (with_reducible first|refine Yv ?_|refine AeA ?_|(refine Tx 6 ?_;refine gO (xMi underlying85) <| gO xA ?_))
   exact Fw
  by_cases c4:e≤30
  case neg =>
   rw [if_neg (fun h:DA n e=>c4 h.2.2.2)]
   repeat' (with_reducible first|refine Yv ?_|refine AeA ?_|(refine Tx 6 ?_;refine gO (xMi underlying85) <| gO xA ?_))
   exact Fw
  rw [if_pos (show DA n e from ⟨c1,c2,c3,c4⟩)]
  repeat' (with_reducible first|refine Yv ?_|refine AeA ?_|(refine Tx 7 ?_;refine gO xA ?_))
  exact AN rfl (.cons_ (Fv rfl (rfl)) .nil_)
theorem SO (n e:Int) (h:DA n e):CV prog An 154 [.agg [dI n,dI e]] [aDy false (Ac n 0 e).1 (Ac n 0 e).2]:=by
 refine cvz func154 ntmps154 ?_
 have OF:=Fg n (by unfold DA at h;omega) (by unfold DA at h;omega)
 have SH:=Bj n 0 e ⟨by decide,fun h=>absurd rfl h⟩ (lT (AC (k:=2) (by unfold DA at h;omega)) (by decide)) (by unfold DA at h;omega)
 repeat' (with_reducible first|refine qq ?_|(refine Tx 0 ?_;refine gN xBo <| gN (xAl Ak) ?_)|(refine AE (id:=1) 6 AJ (by kernel_rfl) ?_;dsimp only [List.take,List.drop];refine gP xF <| gP xD <| gP (xCl func123 (OF)) <| gP xF <| gP xD <| gP (xCl func27 (SH)) ?_;refine Ke ?_;refine gZ (xSk Ab) ?_))
 exact OU
structure Uh (ps:List Prt) (bs:List Bk) (os:List Int):Prop where
 l1:ps.length≤17592186044416
 l2:bs.length≤17592186044416
 l3:os.length≤17592186044416
 la:∀ b∈bs,b.args.length≤17592186044416
theorem EF.big {ps:List Prt} {os:List Int} (h:EF ps bs os):Uh ps bs os:=⟨lT h.l1 (by decide),lT h.l2 (by decide),lT h.l3 (by decide),fun b hb=>lT (h.la b hb) (by decide)⟩
theorem Aik (k:p') (h:Hd9 p'→p:=by with_reducible first|(intro Z9;refine Tx 0 ?_;refine gN xBo <| gN xBo <| gO xA ?_;exact Z9.o)|(intro Z9;refine Tx 1 ?_;refine gO xF <| gO xD <| gO (xCl func152 (AR)) <| gO xA ?_;exact Z9.o)|(intro Z9;refine Tx 2 ?_;refine gO xM <| gO xLt ?_;exact Z9.o)|fail):p:=h ⟨k⟩
theorem Aro (k:p') (h:Hd9 p'→p:=by with_reducible first|(intro Z9;refine Tx 6 ?_;refine gO xF <| gO xD <| gO xN <| gO xA ?_;exact Z9.o)|(intro Z9;refine Tx 7 ?_;refine gO xF <| gO xD <| gO xEq ?_;exact Z9.o)|(intro Z9;refine Tx 9 ?_;refine gO xF <| gO xD <| gO xN <| gO xM ?_;exact Z9.o)|fail):p:=h ⟨k⟩
theorem QJ (k:p') (h:Hd9 p'→p:=by with_reducible first|(intro Z9;refine Tx 10 ?_;refine gO xLt ?_;exact Z9.o)|fail):p:=h ⟨k⟩
theorem AeB (k:p') (h:Hd9 p'→p:=by with_reducible first|(intro Z9;refine Tx 11 ?_;refine gO (xIr Aa (AF hz)) <| gO xD <| gO xA ?_;exact Z9.o)|(intro Z9;refine Tx 12 ?_;refine gO xM <| gO xLt <| gO xM ?_;(first|iterate 3 refine Jd ?_|(refine Jy xM1 ?_;refine Jy xM1 ?_;refine Jy xGe ?_));refine gO xPk ?_;exact Z9.o)|fail):p:=h ⟨k⟩
theorem Arp (h:p:=by first|exact xCl func153 (SV)|exact xCl func153 (SU)):p:=h
theorem AbG (k:p') (h:Hd9 p'→p:=by with_reducible first|(intro Z9;refine Tx 15 ?_;refine gO xF <| gO xD <| gO xEq <| gO xA ?_;exact Z9.o)|(intro Z9;refine Tx 16 ?_;refine gO xF <| gO xL <| gO xM <| gO xM ?_;(first|iterate 3 refine Jd ?_|(refine Jy (xFa Gu Al) ?_;refine Jy (xLd Al) ?_;refine Jy xEq ?_));refine gO xPk <| gO xM ?_;(first|iterate 3 refine Jd ?_|(refine Jy (xFa Gu Al) ?_;refine Jy (xLd Al) ?_;refine Jy xEq ?_));refine gO xPk <| gO xM ?_;(first|iterate 3 refine Jd ?_|(refine Jy (xFa Gu Al) ?_;refine Jy (xLd Al) ?_;refine Jy xEq ?_));refine gO xPk <| gO Arp <| gO xA ?_;exact Z9.o)|fail):p:=h ⟨k⟩
theorem Arq (h:p:=by first|assumption|omega):p:=h
theorem Arr (h:p:=by first|rfl|omega):p:=h
theorem AuQ (k:p') (h:Hd9 p'→p:=by with_reducible first|(intro Z9;refine Tx 17 ?_;refine gO xM <| gO (by first|exact Bn rfl Ag rfl (GM h4)|exact Bn rfl Ag rfl (OS Arr)|exact Bn rfl Ag rfl (GM Arq)|exact Bn rfl Ag rfl rfl) ?_;exact Z9.o)|(intro Z9;refine Tx 18 ?_;refine gO xM <| gO xA ?_;exact Z9.o)|fail):p:=h ⟨k⟩
theorem AeC (k:p') (h:Hd9 p'→p:=by with_reducible first|(intro Z9;refine Tx 17 ?_;refine gO xM <| gO (xNE Ag) ?_;exact Z9.o)|(intro Z9;refine Tx 19 ?_;refine gO xF <| gO xL <| gO xM <| gO Arp <| gO xA ?_;exact Z9.o)|fail):p:=h ⟨k⟩
theorem Ars (k:p') (h:Hd9 p'→p:=by with_reducible first|(intro Z9;refine Tx 20 ?_;refine gO xM <| gO (by first|exact Bn rfl Ag rfl (GM h5)|exact Bn rfl Ag rfl (OS Arr)|exact Bn rfl Ag rfl (GM Arq)|exact Bn rfl Ag rfl rfl) ?_;exact Z9.o)|(intro Z9;refine Tx 21 ?_;refine gO xM <| gO xA ?_;exact Z9.o)|fail):p:=h ⟨k⟩
theorem AuR (k:p') (h:Hd9 p'→p:=by with_reducible first|(intro Z9;refine BB (id:=22) AJ (by kernel_rfl) ?_;refine gP xM <| gP xM ?_;(first|iterate 2 refine Kd ?_|(refine Ky (xFa Hy BE) ?_;refine Ky (xLa BE) ?_));refine Kd ?_;(first|iterate 2 refine Kd ?_|(refine Ky (xFa Hz BE) ?_;refine Ky (xLa BE) ?_));refine Kd ?_;refine Kd ?_;(first|refine Kd ?_|refine Ky xGt ?_);refine gP xPk ?_;refine Ke ?_;exact Z9.o)|fail):p:=h ⟨k⟩
theorem Art (h:p:=by first|exact xCl func154 (V1)|exact xCl func154 (V2)):p:=h
theorem Aru (k:p') (h:Hd9 p'→p:=by with_reducible first|(intro Z9;refine BB (id:=22) AJ (by kernel_rfl) ?_;refine gP xM <| gP xM ?_;(first|iterate 8 refine Kd ?_|(refine Ky (xFa Hy BE) ?_;refine Ky (xLa BE) ?_;refine Ky Art ?_;refine Ky (xFa Hz BE) ?_;refine Ky (xLa BE) ?_;refine Ky Art ?_;refine Ky (xCl func9 (CM)) ?_;refine Ky xGt ?_));refine gP xPk ?_;refine Ke ?_;exact Z9.o)|fail):p:=h ⟨k⟩
theorem AeD (h:p:=by
 rw [h4] at SV
 by_cases h5:Cl y.un y.ue false=0
 case neg =>
  rw [be5 h1 h2 hM hf hv h4 hc h5]
  repeat' (with_reducible first|refine qq ?_|refine QJ ?_|refine AbG ?_|refine AeC ?_|refine Ars ?_)
  exact AN rfl (.cons_ (AcN rfl rfl) .nil_)
 rw [h5] at SU
 rw [be7 h1 h2 hM hf hv h4 hc h5 (fun h=>by cases h.1)]
 repeat' (with_reducible first|refine qq ?_|refine QJ ?_|refine AbG ?_|refine AeC ?_|(refine Tx 20 ?_;refine gO xM <| gO (xNE Ag) ?_)|refine AuR ?_|(refine Tx 24 ?_;refine gO xA ?_))
 exact AN rfl (.cons_ (Fv rfl (rfl)) .nil_)):p:=h
theorem AbH (h:p:=by
 rw [be4 h1 h2 hM hf hv h4]
 repeat' (with_reducible first|refine qq ?_|refine QJ ?_|refine AbG ?_|refine AuQ ?_)
 exact AN rfl (.cons_ (AcN rfl rfl) .nil_)):p:=h
theorem Arv (h:p:=by
 obtain ⟨z0,z1⟩:=hb
 repeat' (with_reducible first|refine qq ?_|refine QJ ?_|refine AeB ?_|(refine Tx 14 ?_;refine gO xAd <| gO xM ?_))
 refine ⟨_,_,TN _ 2 ?_ ?_ ?_,_,by omega,k+1,by omega,rfl,GU hz ⟨z0,z1⟩ hf,rfl,rfl⟩
 ·rfl
 ·exact mB rfl rfl
 ·exact ⟨DG rfl,DG rfl,trivial⟩):p:=h
theorem AbI (t:Bool) {ps:List Prt} {bs:List Bk} {os:List Int} (hl:Uh ps bs os) (y:Bk) (hyl:y.args.length≤17592186044416):CV prog An 64 [aDg t ps bs os,.agg (dBk t y)] [aE (Be ps.length bs.length y)]:=by
 refine cvz func64 ntmps64 ?_
 have AR:=Aez y.kind
 have SV:=SN y.vn y.ve (Ox y.kind)
 have SU:=SN y.un y.ue (Hm y.kind)
 have hl1:=hl.l1
 have hl2:=hl.l2
 by_cases h1:Ay y.kind<0
 case pos =>
  rw [be1 h1]
  repeat' (with_reducible first|refine qq ?_|refine Aik ?_|(refine Tx 3 ?_;refine gO (xMi underlying85) <| gO xA ?_))
  exact Fw
 by_cases h2:((y.args.length:Nat):Int)=Ay y.kind
 case neg =>
  rw [be2 h1 h2]
  repeat' (with_reducible first|refine qq ?_|refine Aik ?_|(refine Tx 4 ?_;refine gO xF <| gO xD <| gO xN <| gO xM <| gO xNe ?_)|(refine Tx 5 ?_;refine gO (xMi underlying85) <| gO xA ?_))
  exact Fw
 have hA2:y.args.length≤2:=by unfold Ay at h2;(repeat' split at h2) <;> omega
 by_cases k0:y.kind=0
 case pos =>
  have hM:Cm ps.length bs.length y.kind=ps.length:=if_pos k0
  repeat' (with_reducible first|refine qq ?_|refine Aik ?_|(refine Tx 4 ?_;refine gO xF <| gO xD <| gO xN <| gO xM <| gO xNe ?_)|refine Aro ?_|(refine Tx 8 ?_;refine gO xF <| gO xD <| gO xN <| gO xA ?_))
  refine AY (Bz 2) (Aq (fun n Fr H=>∃ k:Nat,k≤y.args.length∧n=y.args.length - k∧Ai ((y.args.map (Ll ps.length)).take k)=0∧Fr=ofL [(2,vr 0),(3,vr 1),(6,vi ps.length),(34,vd (AM t y.args)),(35,vi y.args.length),(36,vi ((k:Nat)))]∧H=[.box 26 [.d (CU t ps),.d (Dw t bs),.d (AM t os)],.box 65 [.d (.val (.int .i64 y.kind)),.d (AM t y.args),.d (.val (.int .i64 y.vn)),.d (.val (.int .i64 y.ve)),.d (.val (.int .i64 y.un)),.d (.val (.int .i64 y.ue))]]) (n0:=y.args.length) ⟨0,af _,rfl,rfl,rfl,rfl⟩ ?_)
  rintro n Fr H ⟨k,hk,rfl,hf,rfl,rfl⟩
  by_cases hlt:k<y.args.length
  case pos =>
   obtain ⟨z,hz⟩:∃ z,y.args[k]?=some z:=⟨_,gE hlt⟩
   by_cases hb:0≤z∧z<((ps.length:Nat):Int)
   case neg =>
    rw [be3 h1 h2 hM (DH hz hb hf)]
    by_cases hz0:z<0
    case pos =>
     repeat' (with_reducible first|refine qq ?_|refine QJ ?_|refine AeB ?_|(refine Tx 13 ?_;refine gO (xMi underlying85) <| gO xA ?_))
     exact Fw
    repeat' (with_reducible first|refine qq ?_|refine QJ ?_|refine AeB ?_|(refine Tx 13 ?_;refine gO (xMi underlying85) <| gO xA ?_))
    exact Fw
   exact Arv
  obtain rfl:k=y.args.length:=by omega
  rw [am (by rw [ad];exact aa _)] at hf
  clear hlt hk
  generalize hv:Ox y.kind=vu at SV
  generalize hc:Hm y.kind=cu at SU
  have hv1:vu=false:=by rw [←hv,k0];rfl
  have hc1:cu=false:=by rw [←hc,k0];rfl
  subst hv1 hc1
  by_cases h4:Cl y.vn y.ve false=0
  case neg =>
   exact AbH
  exact AeD
 case neg =>
  have hM:Cm ps.length bs.length y.kind=bs.length:=if_neg k0
  repeat' (with_reducible first|refine qq ?_|refine Aik ?_|(refine Tx 4 ?_;refine gO xF <| gO xD <| gO xN <| gO xM <| gO xNe ?_)|refine Aro ?_)
  refine AY (Bz 2) (Aq (fun n Fr H=>∃ k:Nat,k≤y.args.length∧n=y.args.length - k∧Ai ((y.args.map (Ll bs.length)).take k)=0∧Fr=ofL [(2,vr 0),(3,vr 1),(6,vi bs.length),(34,vd (AM t y.args)),(35,vi y.args.length),(36,vi ((k:Nat)))]∧H=[.box 26 [.d (CU t ps),.d (Dw t bs),.d (AM t os)],.box 65 [.d (.val (.int .i64 y.kind)),.d (AM t y.args),.d (.val (.int .i64 y.vn)),.d (.val (.int .i64 y.ve)),.d (.val (.int .i64 y.un)),.d (.val (.int .i64 y.ue))]]) (n0:=y.args.length) ⟨0,af _,rfl,rfl,rfl,rfl⟩ ?_)
  rintro n Fr H ⟨k,hk,rfl,hf,rfl,rfl⟩
  by_cases hlt:k<y.args.length
  case pos =>
   obtain ⟨z,hz⟩:∃ z,y.args[k]?=some z:=⟨_,gE hlt⟩
   by_cases hb:0≤z∧z<((bs.length:Nat):Int)
   case neg =>
    rw [be3 h1 h2 hM (DH hz hb hf)]
    by_cases hz0:z<0
    case pos =>
     repeat' (with_reducible first|refine qq ?_|refine QJ ?_|refine AeB ?_|(refine Tx 13 ?_;refine gO (xMi underlying85) <| gO xA ?_))
     exact Fw
    repeat' (with_reducible first|refine qq ?_|refine QJ ?_|refine AeB ?_|(refine Tx 13 ?_;refine gO (xMi underlying85) <| gO xA ?_))
    exact Fw
   exact Arv
  obtain rfl:k=y.args.length:=by omega
  rw [am (by rw [ad];exact aa _)] at hf
  clear hlt hk
  generalize hv:Ox y.kind=vu at SV
  generalize hc:Hm y.kind=cu at SU
  by_cases k11:y.kind=11
  case pos =>
   have hv1:vu=true:=by rw [←hv,k11];rfl
   have hc1:cu=true:=by rw [←hc,k11];rfl
   subst hv1 hc1
   by_cases h4:Cl y.vn y.ve true=0
   case neg =>
    exact AbH
   rw [h4] at SV
   by_cases h5:Cl y.un y.ue true=0
   case neg =>
    rw [be5 h1 h2 hM hf hv h4 hc h5]
    repeat' (with_reducible first|refine qq ?_|refine QJ ?_|refine AbG ?_|refine AeC ?_|refine Ars ?_)
    exact AN rfl (.cons_ (AcN rfl rfl) .nil_)
   rw [h5] at SU
   have o1:=QG h4
   have o2:=QG h5
   have V1:=SO y.vn y.ve o1
   have V2:=SO y.un y.ue o2
   have s1:=Akz o1
   have s2:=Akz o2
   have CM:=Ck (Ac y.vn 0 y.ve).1 (Ac y.vn 0 y.ve).2 (Ac y.un 0 y.ue).1 (Ac y.un 0 y.ue).2 s1.1 s2.1 s1.2 s2.2
   have hpc:=AdT o1 o2
   have hpc:Cf (Ac y.vn 0 y.ve).1 (Ac y.vn 0 y.ve).2 (Ac y.un 0 y.ue).1 (Ac y.un 0 y.ue).2=TR y.vn y.ve y.un y.ue:=(Ug _ _ _ _).trans hpc
   rw [hpc] at CM
   generalize hq:TR y.vn y.ve y.un y.ue=q at CM
   by_cases h6:0<q
   case pos =>
    rw [be6 h1 h2 hM hf hv h4 hc h5 ⟨rfl,by rw [hq];exact h6⟩]
    repeat' (with_reducible first|refine qq ?_|refine QJ ?_|refine AbG ?_|refine AeC ?_|(refine Tx 20 ?_;refine gO xM <| gO (xNE Ag) ?_)|refine Aru ?_|(refine Tx 23 ?_;refine gO (xMi underlying85) <| gO xA ?_))
    exact Fw
   rw [be7 h1 h2 hM hf hv h4 hc h5 (fun h=>h6 (by rw [←hq];exact h.2))]
   repeat' (with_reducible first|refine qq ?_|refine QJ ?_|refine AbG ?_|refine AeC ?_|(refine Tx 20 ?_;refine gO xM <| gO (xNE Ag) ?_)|refine Aru ?_|(refine Tx 24 ?_;refine gO xA ?_))
   exact AN rfl (.cons_ (Fv rfl (rfl)) .nil_)
  have hc1:cu=false:=by rw [←hc];exact Lm k11
  subst hc1
  by_cases kv:y.kind=1∨y.kind=2∨y.kind=6
  case pos =>
   have hv1:vu=true:=by rw [←hv];rcases kv with h|h|h <;> (rw [h];rfl)
   subst hv1
   rcases kv with kv|kv|kv
   ·
    by_cases h4:Cl y.vn y.ve true=0
    case neg =>
     exact AbH
    exact AeD
   ·
    by_cases h4:Cl y.vn y.ve true=0
    case neg =>
     exact AbH
    exact AeD
   ·
    by_cases h4:Cl y.vn y.ve true=0
    case neg =>
     exact AbH
    exact AeD
  have hv1:vu=false:=by rw [←hv];unfold Ox;rw [Lm k11,Lm (by omega),Lm (by omega),Lm (by omega)];rfl
  subst hv1
  by_cases h4:Cl y.vn y.ve false=0
  case neg =>
   exact AbH
  exact AeD
theorem AnA (k:p') (h:Hd9 p'→p:=by with_reducible first|(intro Z9;refine qq ?_;exact Z9.o)|(intro Z9;refine Tx 0 ?_;refine gN xBo <| gO xA ?_;exact Z9.o)|(intro Z9;refine Tx 1 ?_;refine gO xF <| gO xD <| gO xM <| gO (xIr Ap (Gc hy)) <| gO xF <| gO xD ?_;exact Z9.o)|(intro Z9;refine Tx 2 ?_;refine gO xEq <| gO xA ?_;exact Z9.o)|(intro Z9;refine Tx 3 ?_;refine gO xEq <| gO xA ?_;exact Z9.o)|(intro Z9;refine Tx 4 ?_;refine gO xA ?_;exact Z9.o)|(intro Z9;refine Tx 5 ?_;refine gO xF <| gO xD <| gO xM <| gO (xIr Ap (Gc hy)) <| gO xF <| gO xD <| gO xA ?_;exact Z9.o)|fail):p:=h ⟨k⟩
theorem Yw (t:Bool) {ps:List Prt} {bs:List Bk} {os:List Int} (hl:EF ps bs os) {i:Nat} {y:Bk} (hy:bs[i]?=some y):CVB prog An 66 [aDg t ps bs os,aI (i:Int)] (AM t (BV bs false i)):=by
 refine Arc TX func66 ntmps66 (bl rfl) rfl ?_
 have hl2:=hl.l2
 have hil:=(gS.1 hy).1
 rw [GR hy]
 by_cases k2:y.kind=2
 case pos =>
  rw [if_pos ⟨k2,rfl⟩]
  repeat' (with_reducible first|refine AnA ?_)
  exact ⟨.inl rfl,_,_,results66,rfl,ZT⟩
 rw [if_neg (fun h=>k2 h.1)]
 by_cases k0:y.kind=0
 case pos =>
  rw [if_pos k0]
  repeat' (with_reducible first|refine AnA ?_)
  exact ⟨.inl rfl,_,_,results66,rfl,ZT⟩
 rw [if_neg k0]
 repeat' (with_reducible first|refine AnA ?_)
 exact ⟨.inl rfl,_,_,results66,rfl,fun _ _ _ h=>h⟩
theorem AnB (k:p') (h:Hd9 p'→p:=by with_reducible first|(intro Z9;refine Tx 16 ?_;refine gO xM <| gO xA ?_;exact Z9.o)|(intro Z9;refine Tx 17 ?_;refine gO xM <| gO xM <| gO (xIo (i:=k) Fa) <| gO (by first|exact Aej rfl rfl rfl hg DE|exact xLd DE) <| gO Anz <| gO xM ?_;(first|iterate 2 refine Jd ?_|(refine Jy xM1 ?_;refine Jy xLt ?_));refine gO xPk <| gO xA ?_;exact Z9.o)|(intro Z9;refine Tx 18 ?_;refine gO xL <| gO xM <| gO (xCb func66 BF) <| gO xN <| gO xM ?_;exact Z9.o)|fail):p:=h ⟨k⟩
theorem Arw (k:p') (h:Hd9 p'→p:=by with_reducible first|(intro Z9;refine Tx 20 ?_;refine gO (xIr Aa (AF hz)) <| gO xD <| gO xA ?_;exact Z9.o)|(intro Z9;refine Tx 21 ?_;refine gO xM <| gO xM ?_;(first|iterate 4 refine Jd ?_|(refine Jy xM1 ?_;refine Jy xM1 ?_;refine Jy (by exact FF (i:=z.toNat) rfl rfl rfl rfl (by omega) Fa (by omega) (by decide)) ?_;refine Jy (by first|exact Aej rfl rfl rfl hgz DE|exact xLd DE) ?_));refine gO xPk <| gO xA ?_;exact Z9.o)|(intro Z9;refine Tx 22 ?_;refine gO xAd <| gO xM ?_;exact Z9.o)|fail):p:=h ⟨k⟩
theorem Arx (k:p') (h:Hd9 p'→p:=by with_reducible first|(intro Z9;refine Tx 23 ?_;refine gO xM ?_;exact Z9.o)|(intro Z9;refine Tx 25 ?_;refine gO xAd <| gO xM ?_;exact Z9.o)|fail):p:=h ⟨k⟩
theorem AnC (h:p:=by
 clear hd
 refine AY (F':=ofL [(1,vr 0),(4,vo 1 ((Br out).length)),(5,vo 2 bs.length),(6,vi lf),(9,vi pk),(10,vi ((k:Nat))),(11,vd (.val (.bool b0))),(40,vd (Dw t bs)),(41,vi bs.length),(42,vi ((k:Nat))),(56,vd (AM t xs)),(57,vi xs.length),(58,vi ((0:Nat)))]) (H':=[.box 26 [.d (CU t ps),.d (Dw t bs),.d (AM t os)],.row 3 1 (Br out).length (cI (Br out)),.row 4 1 bs.length (cBl (EE bs out))]) (Bz 3 (h:=by rw [←hb0];exact mB rfl rfl)) ?_
 clear hb0
 refine Aq (fun n Fr H=>∃ (u:Nat) (b:Bool),u≤xs.length∧n=xs.length - u∧b=(b0 && Ahg bs out xs u)∧Fr=ofL [(1,vr 0),(4,vo 1 ((Br out).length)),(5,vo 2 bs.length),(6,vi lf),(9,vi pk),(10,vi ((k:Nat))),(11,vd (.val (.bool b))),(40,vd (Dw t bs)),(41,vi bs.length),(42,vi ((k:Nat))),(56,vd (AM t xs)),(57,vi xs.length),(58,vi ((u:Nat)))]∧H=[.box 26 [.d (CU t ps),.d (Dw t bs),.d (AM t os)],.row 3 1 (Br out).length (cI (Br out)),.row 4 1 bs.length (cBl (EE bs out))]) (n0:=xs.length) ⟨0,b0,af _,rfl,(Bool.and_true _).symm,rfl,rfl⟩ ?_
 rintro n Fr H ⟨u,b,hu,rfl,hb,rfl,rfl⟩
 by_cases hlu:u<xs.length
 case pos =>
  obtain ⟨z,hz⟩:∃ z,xs[u]?=some z:=⟨_,gE hlu⟩
  obtain ⟨z0,z1⟩:=hbd z (gM hz)
  have hgz:(EE bs out)[z.toNat]?=some (Dd bs out z.toNat):=(by unfold EE;rw [ag,jh (by omega)];rfl)
  have hst:=Wo (bs:=bs) (out:=out) hz
  cases b
  case false =>
   repeat' (with_reducible first|refine qq ?_|(refine Tx 19 ?_;refine gO xLt ?_)|refine Arw ?_)
   refine ⟨_,_,Bz 3,_,by omega,u+1,_,by omega,rfl,by rw [hst,←Bool.and_assoc,←hb];try rfl,rfl,rfl⟩
  repeat' (with_reducible first|refine qq ?_|(refine Tx 19 ?_;refine gO xLt ?_)|refine Arw ?_)
  refine ⟨_,_,Bz 3,_,by omega,u+1,_,by omega,rfl,by rw [hst,←Bool.and_assoc,←hb];try rfl,rfl,rfl⟩
 obtain rfl:u=xs.length:=by omega
 rw [ZL (aa _)] at hb
 have hf2:=hfin b hb
 cases b
 case false =>
  repeat' (with_reducible first|refine qq ?_|(refine Tx 19 ?_;refine gO xLt ?_)|refine Arx ?_)
  refine ⟨_,_,Bz 3,_,by omega,k+1,pk,by omega,rfl,hf2.symm,rfl,rfl⟩
 repeat' (with_reducible first|refine qq ?_|(refine Tx 19 ?_;refine gO xLt ?_)|refine Arx ?_|(refine Tx 24 ?_;refine gO xM <| gO xA ?_))
 refine ⟨_,_,TN _ 3 ?_ ?_ ?_,_,by omega,k+1,(k:Int),by omega,rfl,hf2.symm,rfl,rfl⟩
 ·rfl
 ·exact mB rfl rfl
 ·exact ⟨DG rfl,ZG,Aeh,trivial⟩):p:=h
theorem Ary (h:p:=by first|exact Ana rfl rfl rfl rfl DE tl stV|exact xS1 DE|exact xSk DE):p:=h
theorem SQ (t:Bool) {ps:List Prt} {bs:List Bk} {os:List Int} (hl:EF ps bs os) (hS:Lk bs):CV prog An 65 [aDg t ps bs os] [.one (AM false (AdW bs)),aE (Db bs)]:=by
 refine cvz func65 ntmps65 ?_
 have hl2:=hl.l2
 repeat' (with_reducible first|refine qq ?_|(refine Tx 0 ?_;refine gN xBo <| gO xA <| gO xA ?_)|(refine Tx 1 ?_;refine gO xA ?_))
 refine AY (Mp 4 3 1 rfl) ?_
 repeat' (with_reducible first|refine qq ?_|(refine Tx 2 ?_;refine gO xF <| gO xD <| gO xN <| gN (by first|exact Aei (n:=bs.length) rfl rfl rfl Fa AdE (by omega) (by decide)|exact Bo rfl rfl rfl Fa AdE (by omega) (by decide)) <| gO xA ?_)|(refine Tx 3 ?_;refine gO xA ?_)|(refine Tx 4 ?_;refine gO xF <| gO xD <| gO xN <| gO xM ?_))
 rw [←Sy]
 refine AY (Bz 3) (Aq (fun n Fr H=>∃ (k:Nat) (lf:Int),k≤bs.length∧n=bs.length - k∧lf=((fl (Gx bs) k).length:Nat)∧Fr=ofL [(1,vr 0),(4,vo 1 ((Br []).length)),(5,vo 2 bs.length),(6,vi lf),(19,vd (Dw t bs)),(20,vi bs.length),(21,vi ((k:Nat)))]∧H=[.box 26 [.d (CU t ps),.d (Dw t bs),.d (AM t os)],.row 3 1 (Br []).length (cI (Br [])),.row 4 1 bs.length (cBl (Gw bs k))]) (n0:=bs.length) ⟨0,0,af _,rfl,rfl,rfl,rfl⟩ ?_)
 rintro n Fr H ⟨k,lf,hk,rfl,hlf,rfl,rfl⟩
 by_cases hlt:k<bs.length
 case pos =>
  obtain ⟨y,hy⟩:∃ y,bs[k]?=some y:=⟨_,gE hlt⟩
  have tl:k<(Gw bs k).length:=by rw [QE];exact hlt
  have hfl:=AhR (Gx bs) k
  by_cases k2:y.kind=2
  case pos =>
   have hd:DR bs k=true:=by unfold DR;rw [Fe hy,k2];rfl
   have hn:Gx bs k=false:=by unfold Gx;rw [Fe hy,k2];rfl
   have stV:=Wr hd
   repeat' (with_reducible first|refine qq ?_|(refine Tx 5 ?_;refine gO xLt ?_)|(refine Tx 6 ?_;refine gO xM <| gO (by first|exact xIr Ap (Gc hy)|exact xIo (i:=k) Ap) <| gO xL <| gN (xAl Cw) <| gO xA <| gZ (xSk BZ) ?_)|(refine Tx 7 ?_;refine gO xF <| gO xD <| gO xEq ?_)|(refine Tx 8 ?_;refine gO xM <| gO xM <| gO (xIo (i:=k) Fa) <| gZ Ary ?_)|(refine Tx 10 ?_;refine gO xAd <| gO xM ?_))
   refine ⟨_,_,Bz 3,_,by omega,k+1,lf,by omega,rfl,by rw [AhQ hn];exact hlf,rfl,rfl⟩
  have hd:DR bs k=false:=by unfold DR;rw [Fe hy];exact Lm k2
  have hn:Gx bs k=true:=by unfold Gx;rw [Fe hy,bne,Lm k2];rfl
  have hdn:=ZN hd
  repeat' (with_reducible first|refine qq ?_|(refine Tx 5 ?_;refine gO xLt ?_)|(refine Tx 6 ?_;refine gO xM <| gO (xIr Ap (Gc hy)) <| gO xL <| gN (xAl Cw) <| gO xA <| gZ (xSk BZ) ?_)|(refine Tx 7 ?_;refine gO xF <| gO xD <| gO xEq ?_)|(refine Tx 9 ?_;refine gO xM <| gO xAd <| gO xA ?_)|(refine Tx 10 ?_;refine gO xAd <| gO xM ?_))
  rw [←hdn]
  refine ⟨_,_,Bz 3,_,by omega,k+1,lf+1,by omega,rfl,by rw [ZJ hn,aq,hlf];try rfl,rfl,rfl⟩
 obtain rfl:k=bs.length:=by omega
 rw [SE] at hlf
 rw [Wq]
 clear hlt hk
 repeat' (with_reducible first|refine qq ?_|(refine Tx 5 ?_;refine gO xLt ?_))
 have hnd:=HW bs
 refine AY (Bz 3) (Aq (fun n Fr H=>∃ (out:List Nat) (lf:Int),LM bs out∧n=Cy bs - out.length∧lf=(Cy bs:Int) - (out.length:Int)∧Fr=ofL [(1,vr 0),(4,vo 1 ((Br out).length)),(5,vo 2 bs.length),(6,vi lf)]∧H=[.box 26 [.d (CU t ps),.d (Dw t bs),.d (AM t os)],.row 3 1 (Br out).length (cI (Br out)),.row 4 1 bs.length (cBl (EE bs out))]) (n0:=Cy bs) ⟨[],lf,LM.nil bs,rfl,by rw [hlf];simp,rfl,rfl⟩ ?_)
 clear hlf lf
 rintro n Fr H ⟨out,lf,hO,rfl,hlf,rfl,rfl⟩
 have hle:=hO.ok.le
 have hnl:=Cb out
 by_cases hpos:0<lf
 case neg =>
  have hfull:=hO.full (by omega)
  have he:Db bs=0:=by unfold Db;rw [hfull,if_pos (by omega)]
  have hL:AdW bs=Br out:=by unfold AdW;rw [if_pos he,hfull]
  rw [he,hL]
  repeat' (with_reducible first|refine qq ?_|(refine Tx 11 ?_;refine gO xM <| gO xGt ?_)|(refine Tx 30 ?_;refine gO xM <| gO xA <| gO xA ?_))
  exact AN rfl (.cons_ (Akr rfl rfl rfl) (.cons_ (Fv rfl rfl) .nil_))
 repeat' (with_reducible first|refine qq ?_|(refine Tx 11 ?_;refine gO xM <| gO xGt ?_)|(refine Tx 13 ?_;refine gO xA ?_)|(refine Tx 14 ?_;refine gO xF <| gO xD <| gO xN <| gO xM ?_))
 refine AY (Bz 3) (Aq (fun n Fr H=>∃ (k:Nat) (pk:Int),k≤bs.length∧n=bs.length - k∧pk=GT bs out k∧Fr=ofL [(1,vr 0),(4,vo 1 ((Br out).length)),(5,vo 2 bs.length),(6,vi lf),(9,vi pk),(40,vd (Dw t bs)),(41,vi bs.length),(42,vi ((k:Nat)))]∧H=[.box 26 [.d (CU t ps),.d (Dw t bs),.d (AM t os)],.row 3 1 (Br out).length (cI (Br out)),.row 4 1 bs.length (cBl (EE bs out))]) (n0:=bs.length) ⟨0,-1,af _,rfl,(Abz bs out).symm,rfl,rfl⟩ ?_)
 rintro n Fr H ⟨k,pk,hk,rfl,hpk,rfl,rfl⟩
 by_cases hlt:k<bs.length
 case pos =>
  obtain ⟨y,hy⟩:∃ y,bs[k]?=some y:=⟨_,gE hlt⟩
  have BF:=Yw t hl hy
  have hg:(EE bs out)[k]?=some (Dd bs out k):=(by unfold EE;rw [ag,jh (by omega)];rfl)
  obtain ⟨xs,hxs⟩:∃ xs,BV bs false k=xs:=⟨_,rfl⟩
  rw [hxs] at BF
  have hxl:xs.length≤1000000:=by rw [←hxs,GR hy];have:=hl.la y (gM hy);split <;> (try split) <;> first|exact this|exact af _
  have hbd:∀ z∈xs,0≤z∧z<(bs.length:Int):=fun z hz=>hS k hlt z (Fc (over:=false) (by rw [hxs];exact hz))
  obtain ⟨b0,hb0⟩:∃ b0:Bool,(!Dd bs out k && decide (pk<0))=b0:=⟨_,rfl⟩
  have hfin:∀ b:Bool,b=(b0 && xs.all fun z=>Dd bs out z.toNat)→GT bs out (k+1)=if b=true then (k:Int) else pk:=fun b hb=>by
   cases hd:Dd bs out k with
   | true =>
    have hr:rdy bs out k=false:=by rw [Yf,hd];rfl
    rw [hd] at hb0
    rw [hb,←hb0,IP (.inr hr),if_neg (by simp),hpk]
   | false =>
    have hr:=Wv (out:=out) hd
    rw [hxs] at hr
    by_cases hp:pk<0
    ·rw [hd,decide_eq_true hp] at hb0
     rw [←hb0,←hr] at hb
     cases hq:rdy bs out k with
     | true=>rw [hq] at hb;rw [Ws (by rw [←hpk];exact hp) hq,hb];rfl
     | false=>rw [hq] at hb;rw [IP (.inr hq),hb,←hpk];rfl
    ·rw [hd,decide_eq_false hp] at hb0
     rw [hb,←hb0,IP (.inl (by omega)),if_neg (by simp),hpk]
  skip
  cases hd:Dd bs out k
  case true =>
   rw [hd] at hg hb0
   rw [ee,im] at hb0
   repeat' (with_reducible first|refine qq ?_|(refine Tx 15 ?_;refine gO xLt ?_)|refine AnB ?_)
   exact AnC
  rw [hd] at hg hb0
  by_cases hp:pk<0
  case pos =>
   rw [decide_eq_true hp] at hb0
   rw [fp,Bool.and_true] at hb0
   repeat' (with_reducible first|refine qq ?_|(refine Tx 15 ?_;refine gO xLt ?_)|refine AnB ?_)
   exact AnC
  rw [decide_eq_false hp] at hb0
  rw [Bool.and_false] at hb0
  repeat' (with_reducible first|refine qq ?_|(refine Tx 15 ?_;refine gO xLt ?_)|refine AnB ?_)
  exact AnC
 obtain rfl:k=bs.length:=by omega
 clear hlt hk
 cases hnx:nxt bs out
 case none =>
  rw [Wt hnx] at hpk
  subst hpk
  have hod:=hO.done hnx
  have he:Db bs=24:=by unfold Db;rw [hod,if_neg (by omega)]
  have hL:AdW bs=[]:=by unfold AdW;rw [if_neg (by rw [he];decide)]
  rw [he,hL]
  repeat' (with_reducible first|refine qq ?_|(refine Tx 15 ?_;refine gO xLt ?_)|(refine Tx 26 ?_;refine gO xM <| gO xLt ?_)|(refine Tx 27 ?_;refine gO (xMi underlying85) <| gO xA <| gO xA ?_))
  exact AN rfl (.cons_ (.tmp (.one (FI rfl rfl))) (.cons_ (AbC rfl (by decide) rfl) .nil_))
 case some p =>
  rw [Wu hnx] at hpk
  subst hpk
  have hO2:=hO.push hnx
  have hpl:=(Mr hnx).1
  have hlt2:=hO.lt hnx
  have tl:p<(EE bs out).length:=by rw [Mt];exact hpl
  have stV:(EE bs out).set p true=EE bs (out++[p]):=(Sz bs out p).symm
  have hap:Br out++[(p:Int)]=Br (out++[p]):=(Ms out p).symm
  have hap2:(Br out).length+1=(Br (out++[p])).length:=by rw [Cb,Cb,aq];rfl
  repeat' (with_reducible first|refine qq ?_|(refine Tx 15 ?_;refine gO xLt ?_)|(refine Tx 26 ?_;refine gO xM <| gO xLt ?_)|(refine Tx 28 ?_;refine gO xM <| gO xM <| gO (xIo (i:=p) Fa) <| gZ Ary ?_)|(refine Tx 29 ?_;refine gO xM <| gO xM <| gN (by exact AZ rfl Aa BK rfl rfl (by decide) (by decide)) <| gT (by exact Qw rfl rfl rfl rfl rfl rfl Aa BK (by omega) (by decide) hap hap2) <| gO xA ?_)|(refine Tx 12 ?_;refine gO xM <| gO xSb <| gO xA ?_))
  refine ⟨_,_,Bz 3,_,(by rw [aq];show Cy bs - (out.length+1)<_;omega),out++[p],lf - 1,hO2,rfl,by rw [aq,hlf];show _=(Cy bs:Int) - ((out.length+1:Nat):Int);omega,rfl,rfl⟩
theorem AeE {y:Bk} (h:Be n m y=0):y.args.length≤2:=by
 by_cases h1:Ay y.kind<0
 ·rw [be1 h1] at h;cases h
 by_cases h2:((y.args.length:Nat):Int)=Ay y.kind
 ·unfold Ay at h2
  (repeat' split at h2) <;> omega
 ·rw [be2 h1 h2] at h;cases h
theorem Uh.len {ps:List Prt} {os:List Int} (h:Uh ps bs os) (hs:CT ps bs os) (hB:Ai (bs.map (Be ps.length bs.length))=0):EF ps bs os:=by
 unfold CT at hs
 exact ⟨by omega,by omega,by omega,fun b hb=>lT (AeE (BH hB _ (fo hb))) (by decide)⟩
theorem Ail (k:p') (h:Hd9 p'→p:=by with_reducible first|(intro Z9;refine Tx 0 ?_;refine gN xBo <| gO xA ?_;exact Z9.o)|(intro Z9;refine Tx 1 ?_;refine gO xF <| gO xD <| gO xN <| gO xGt <| gO xM ?_;(first|iterate 4 refine Jd ?_|(refine Jy (xFa DZ Cc) ?_;refine Jy (xLd Cc) ?_;refine Jy (xLn Ap) ?_;refine Jy xGt ?_));refine gO xPk <| gO xM ?_;(first|iterate 4 refine Jd ?_|(refine Jy (xFa Qm Ax) ?_;refine Jy (xLd Ax) ?_;refine Jy (xLn Aa) ?_;refine Jy xGt ?_));refine gO xPk ?_;exact Z9.o)|fail):p:=h ⟨k⟩
theorem AbJ (k:p') (h:Hd9 p'→p:=by with_reducible first|(intro Z9;refine Tx 5 ?_;refine gO (xIr BG (Gz hp)) <| gO xL <| gN (xAl Qo) <| gZ (xSk Ny) ?_;exact Z9.o)|(intro Z9;refine Tx 6 ?_;refine gO xF <| gO xD <| gO xLt <| gO xM ?_;(first|iterate 5 refine Jd ?_|(refine Jy (xFa IJ Al) ?_;refine Jy (xLd Al) ?_;refine Jy (xFa ZB Al) ?_;refine Jy (xLd Al) ?_;refine Jy xLt ?_));refine gO xPk <| gO xM ?_;(first|iterate 3 refine Jd ?_|(refine Jy (xFa IJ Al) ?_;refine Jy (xLd Al) ?_;refine Jy xGe ?_));refine gO xPk <| gO xM ?_;(first|iterate 3 refine Jd ?_|(refine Jy (xFa TL Al) ?_;refine Jy (xLd Al) ?_;refine Jy xLt ?_));refine gO xPk <| gO xM ?_;(first|iterate 3 refine Jd ?_|(refine Jy (xFa TL Al) ?_;refine Jy (xLd Al) ?_;refine Jy xGt ?_));refine gO xPk ?_;exact Z9.o)|fail):p:=h ⟨k⟩
theorem AnE (k:p') (h:Hd9 p'→p:=by with_reducible first|(intro Z9;refine Tx 18 ?_;refine gO (xIr Aa (AF hz)) <| gO xD <| gO xA ?_;exact Z9.o)|(intro Z9;refine Tx 19 ?_;refine gO xM <| gO xLt <| gO xM ?_;(first|iterate 5 refine Jd ?_|(refine Jy xM1 ?_;refine Jy (xFa DZ Cc) ?_;refine Jy (xLd Cc) ?_;refine Jy (xLn Ap) ?_;refine Jy xGe ?_));refine gO xPk ?_;exact Z9.o)|fail):p:=h ⟨k⟩
theorem Arz (h:p:=by first|exact Bn rfl Ag rfl (GM h0)|exact Bn rfl Ag rfl (OS (by first|rfl|omega))|exact Bn rfl Ag rfl (GM (by first|assumption|omega))|exact Bn rfl Ag rfl rfl):p:=h
theorem SR (t:Bool) {ps:List Prt} {bs:List Bk} {os:List Int} (hl:Uh ps bs os):CV prog An 22 [aDg t ps bs os] [aE (Av ps bs os)]:=by
 refine cvz func22 ntmps22 ?_
 have hl1:=hl.l1
 have hl2:=hl.l2
 have hl3:=hl.l3
 by_cases hs:CT ps bs os
 case neg =>
  rw [de0 hs]
  unfold CT at hs
  by_cases c1:ps.length≤16
  case neg =>
   repeat' (with_reducible first|refine qq ?_|refine Ail ?_|(refine Tx 2 ?_;refine gO (xMi underlying85) <| gO xA ?_))
   exact Fw
  by_cases c2:bs.length≤64
  case neg =>
   repeat' (with_reducible first|refine qq ?_|refine Ail ?_|(refine Tx 2 ?_;refine gO (xMi underlying85) <| gO xA ?_))
   exact Fw
  have c3:¬ os.length≤16:=fun h=>hs ⟨c1,c2,h⟩
  repeat' (with_reducible first|refine qq ?_|refine Ail ?_|(refine Tx 2 ?_;refine gO (xMi underlying85) <| gO xA ?_))
  exact Fw
 have hs2:=hs
 unfold CT at hs2
 obtain ⟨c1,c2,c3⟩:=hs2
 repeat' (with_reducible first|refine qq ?_|refine Ail ?_|(refine Tx 3 ?_;refine gO xF <| gO xD <| gO xN <| gO xM ?_))
 refine AY (Bz 1) (Aq (fun n Fr H=>∃ k:Nat,k≤ps.length∧n=ps.length - k∧Ai ((ps.map DI).take k)=0∧Fr=ofL [(1,vr 0),(30,vd (CU t ps)),(31,vi ps.length),(32,vi ((k:Nat)))]∧H=[.box 26 [.d (CU t ps),.d (Dw t bs),.d (AM t os)]]) (n0:=ps.length) ⟨0,af _,rfl,rfl,rfl,rfl⟩ ?_)
 rintro n Fr H ⟨k,hk,rfl,hf,rfl,rfl⟩
 by_cases hlt:k<ps.length
 case pos =>
  obtain ⟨p,hp⟩:∃ p,ps[k]?=some p:=⟨_,gE hlt⟩
  by_cases he:DI p=0
  case neg =>
   have h3:DI p=3:=by unfold DI at he ⊢;split at he;exact absurd rfl he;rename_i hn;rw [if_neg hn]
   rw [de1 hs (pe1 hp h3 (by decide) hf) (by decide)]
   unfold DI at he
   by_cases q1 : -2147483648≤p.lo
   case neg =>
    repeat' (with_reducible first|refine qq ?_|(refine Tx 4 ?_;refine gO xLt ?_)|refine AbJ ?_|(refine Tx 7 ?_;refine gO (xMi underlying85) <| gO xA ?_))
    exact Fw
   by_cases q2:p.lo≤p.hi
   case neg =>
    repeat' (with_reducible first|refine qq ?_|(refine Tx 4 ?_;refine gO xLt ?_)|refine AbJ ?_|(refine Tx 7 ?_;refine gO (xMi underlying85) <| gO xA ?_))
    exact Fw
   by_cases q3:p.hi<2147483648
   case neg =>
    repeat' (with_reducible first|refine qq ?_|(refine Tx 4 ?_;refine gO xLt ?_)|refine AbJ ?_|(refine Tx 7 ?_;refine gO (xMi underlying85) <| gO xA ?_))
    exact Fw
   by_cases q4:0≤p.fr
   case neg =>
    repeat' (with_reducible first|refine qq ?_|(refine Tx 4 ?_;refine gO xLt ?_)|refine AbJ ?_|(refine Tx 7 ?_;refine gO (xMi underlying85) <| gO xA ?_))
    exact Fw
   have q5:¬ p.fr≤30:=fun h=>he (if_pos ⟨q1,q2,q3,q4,h⟩)
   repeat' (with_reducible first|refine qq ?_|(refine Tx 4 ?_;refine gO xLt ?_)|refine AbJ ?_|(refine Tx 7 ?_;refine gO (xMi underlying85) <| gO xA ?_))
   exact Fw
  have hq:=he
  unfold DI at hq
  by_cases hn : -2147483648≤p.lo∧p.lo≤p.hi∧p.hi<2147483648∧0≤p.fr∧p.fr≤30
  case neg =>
   rw [if_neg hn] at hq
   cases hq
  obtain ⟨q1,q2,q3,q4,q5⟩:=hn
  repeat' (with_reducible first|refine qq ?_|(refine Tx 4 ?_;refine gO xLt ?_)|refine AbJ ?_|(refine Tx 8 ?_;refine gO xAd <| gO xM ?_))
  refine ⟨_,_,Bz 1,_,by omega,k+1,by omega,rfl,fs1 hp he hf,rfl,rfl⟩
 obtain rfl:k=ps.length:=by omega
 have hP:=hf
 rw [am (by rw [ad];exact aa _)] at hP
 clear hlt hk hf
 repeat' (with_reducible first|refine qq ?_|(refine Tx 4 ?_;refine gO xLt ?_)|(refine Tx 9 ?_;refine gO xF <| gO xD <| gO xN <| gO xM ?_))
 refine AY (Bz 1) (Aq (fun n Fr H=>∃ k:Nat,k≤bs.length∧n=bs.length - k∧Ai ((bs.map (Be ps.length bs.length)).take k)=0∧Fr=ofL [(1,vr 0),(64,vd (Dw t bs)),(65,vi bs.length),(66,vi ((k:Nat)))]∧H=[.box 26 [.d (CU t ps),.d (Dw t bs),.d (AM t os)]]) (n0:=bs.length) ⟨0,af _,rfl,rfl,rfl,rfl⟩ ?_)
 rintro n Fr H ⟨k,hk,rfl,hf,rfl,rfl⟩
 by_cases hlt:k<bs.length
 case pos =>
  obtain ⟨y,hy⟩:∃ y,bs[k]?=some y:=⟨_,gE hlt⟩
  have BC:=AbI t hl y (hl.la y (gM hy))
  generalize he:Be ps.length bs.length y=e at BC
  by_cases h0:e=0
  case neg =>
   rw [de1 hs (pe2 hP hy he h0 hf) h0]
   repeat' (with_reducible first|refine qq ?_|(refine Tx 10 ?_;refine gO xLt ?_)|(refine Tx 11 ?_;refine gO (xIr Ap (Gc hy)) <| gO xL <| gN (xAl Cw) <| gZ (xSk BZ) ?_)|(refine Tx 12 ?_;refine gO xL <| gO xL <| gO (xCl func64 (BC)) <| gO xA ?_)|(refine Tx 13 ?_;refine gO xM <| gO Arz ?_)|(refine Tx 14 ?_;refine gO xM <| gO xA ?_))
   exact AN rfl (.cons_ (AcN rfl rfl) .nil_)
  subst h0
  repeat' (with_reducible first|refine qq ?_|(refine Tx 10 ?_;refine gO xLt ?_)|(refine Tx 11 ?_;refine gO (xIr Ap (Gc hy)) <| gO xL <| gN (xAl Cw) <| gZ (xSk BZ) ?_)|(refine Tx 12 ?_;refine gO xL <| gO xL <| gO (xCl func64 (BC)) <| gO xA ?_)|(refine Tx 13 ?_;refine gO xM <| gO (xNE Ag) ?_)|(refine Tx 15 ?_;refine gO xAd <| gO xM ?_))
  refine ⟨_,_,Bz 1,_,by omega,k+1,by omega,rfl,fs1 hy he hf,rfl,rfl⟩
 obtain rfl:k=bs.length:=by omega
 have hB:=hf
 rw [am (by rw [ad];exact aa _)] at hB
 clear hlt hk hf
 repeat' (with_reducible first|refine qq ?_|(refine Tx 10 ?_;refine gO xLt ?_)|(refine Tx 16 ?_;refine gO xF <| gO xD <| gO xN <| gO xM ?_))
 refine AY (Bz 1) (Aq (fun n Fr H=>∃ k:Nat,k≤os.length∧n=os.length - k∧Ai ((os.map (Ll bs.length)).take k)=0∧Fr=ofL [(1,vr 0),(78,vd (AM t os)),(79,vi os.length),(80,vi ((k:Nat)))]∧H=[.box 26 [.d (CU t ps),.d (Dw t bs),.d (AM t os)]]) (n0:=os.length) ⟨0,af _,rfl,rfl,rfl,rfl⟩ ?_)
 rintro n Fr H ⟨k,hk,rfl,hf,rfl,rfl⟩
 by_cases hlt:k<os.length
 case pos =>
  obtain ⟨z,hz⟩:∃ z,os[k]?=some z:=⟨_,gE hlt⟩
  by_cases hb:0≤z∧z<(bs.length:Int)
  case neg =>
   rw [de1 hs (pe3 hP hB hz (if_neg hb) (by decide) hf) (by decide)]
   by_cases hz0:z<0
   case pos =>
    repeat' (with_reducible first|refine qq ?_|(refine Tx 17 ?_;refine gO xLt ?_)|refine AnE ?_|(refine Tx 20 ?_;refine gO (xMi underlying85) <| gO xA ?_))
    exact Fw
   repeat' (with_reducible first|refine qq ?_|(refine Tx 17 ?_;refine gO xLt ?_)|refine AnE ?_|(refine Tx 20 ?_;refine gO (xMi underlying85) <| gO xA ?_))
   exact Fw
  have hb2:=hb
  obtain ⟨z0,z1⟩:=hb2
  repeat' (with_reducible first|refine qq ?_|(refine Tx 17 ?_;refine gO xLt ?_)|refine AnE ?_|(refine Tx 21 ?_;refine gO xAd <| gO xM ?_))
  refine ⟨_,_,Bz 1,_,by omega,k+1,by omega,rfl,fs1 hz (if_pos hb) hf,rfl,rfl⟩
 obtain rfl:k=os.length:=by omega
 have hO:=hf
 rw [am (by rw [ad];exact aa _)] at hO
 clear hlt hk hf
 have hpe:=pe4 hP hB hO
 rw [de2 hs hpe]
 have OR:=SQ t (hl.len hs hB) (TV hB)
 repeat' (with_reducible first|refine qq ?_|(refine Tx 17 ?_;refine gO xLt ?_)|(refine Tx 22 ?_;refine gO xL <| gO (xCl func65 (OR)) <| gO xMt <| gO xEx <| gO xEx <| gO xA <| gO xA ?_)|(refine Tx 23 ?_;refine gO xM <| gO xA ?_))
 exact AN rfl (.cons_ (AcN rfl rfl) .nil_)
theorem QK (t:Bool) {ps:List Prt} {bs:List Bk} {os:List Int} (hl:EF ps bs os):CV prog An 22 [aDg t ps bs os] [aE (Av ps bs os)]:=SR t hl.big
theorem ArA (h:p:=by
 rw [if_neg h0]
 repeat' (with_reducible first|refine qq ?_|(refine Tx 0 ?_;refine gN xBo <| gO xA <| gO xA ?_)|(refine Tx 1 ?_;refine gO xL <| gO (xCl func22 (CK)) <| gO xA ?_)|(refine Tx 2 ?_;refine gO xM <| gO Arz ?_)|(refine Tx 3 ?_;refine gO xM <| gO xA <| gO xA ?_))
 exact AN rfl (.cons_ (.tmp (.one (FI rfl rfl))) (.cons_ (AcN rfl rfl) .nil_))):p:=h
theorem PD (t:Bool) {ps:List Prt} {bs:List Bk} {os:List Int} (hl:EF ps bs os):CV prog An 35 [aDg t ps bs os] [.one (AM false (if Av ps bs os=0 then Br (Bb bs) else [])),aE (Av ps bs os)]:=by
 refine cvz func35 ntmps35 ?_
 have CK:=QK t hl
 by_cases h0:Av ps bs os=0
 case neg =>
  exact ArA
 have OR:=SQ t hl (Yh h0)
 have ho:Db bs=0:=(FK h0).2.2
 unfold AdW at OR
 rw [ho,if_pos rfl] at OR
 rw [if_pos h0]
 rw [h0] at CK
 rw [h0]
 repeat' (with_reducible first|refine qq ?_|(refine Tx 0 ?_;refine gN xBo <| gO xA <| gO xA ?_)|(refine Tx 1 ?_;refine gO xL <| gO (xCl func22 (CK)) <| gO xA ?_)|(refine Tx 2 ?_;refine gO xM <| gO (xNE Ag) ?_)|(refine Tx 4 ?_;refine gO xL <| gO (xCl func65 (OR)) <| gO xEx <| gO xEx <| gO xA <| gO xA ?_))
 exact AN rfl (.cons_ (.tmp (.one (Bp rfl fun _=>ZQ _))) (.cons_ (Fv rfl rfl) .nil_))
theorem ArB (h:p:=by
 refine ⟨_,_,TN _ 2 ?_ ?_ ?_,_,by omega,k+1,by omega,rfl,rfl,rfl⟩
 ·rfl
 ·exact mB rfl rfl
 ·exact ⟨DG rfl,ZG,trivial⟩):p:=h
theorem Ih (t:Bool) {ps:List Prt} {bs:List Bk} {os:List Int} (hl:EF ps bs os):CV prog An 36 [aDg t ps bs os] [.one (AM false (if Av ps bs os=0 then Br (AW bs) else [])),aE (Av ps bs os)]:=by
 refine cvz func36 ntmps36 ?_
 have hl2:=hl.l2
 have hall:AW bs=fl (DR bs) bs.length:=rfl
 have CK:=QK t hl
 by_cases h0:Av ps bs os=0
 case neg =>
  exact ArA
 rw [if_pos h0]
 rw [h0] at CK
 rw [h0]
 repeat' (with_reducible first|refine qq ?_|(refine Tx 0 ?_;refine gN xBo <| gO xA <| gO xA ?_)|(refine Tx 1 ?_;refine gO xL <| gO (xCl func22 (CK)) <| gO xA ?_)|(refine Tx 2 ?_;refine gO xM <| gO (xNE Ag) ?_)|(refine Tx 4 ?_;refine gO xA ?_))
 refine AY (Mp 5 3 1 rfl) ?_
 repeat' (with_reducible first|refine qq ?_|(refine Tx 5 ?_;refine gO xF <| gO xD <| gO xN <| gO xM ?_))
 refine AY (Bz 2) (Aq (fun n Fr H=>∃ k:Nat,k≤bs.length∧n=bs.length - k∧Fr=ofL [(1,vr 0),(5,vo 1 ((Br (fl (DR bs) k)).length)),(14,vd (Dw t bs)),(15,vi bs.length),(16,vi ((k:Nat)))]∧H=[.box 26 [.d (CU t ps),.d (Dw t bs),.d (AM t os)],.row 3 1 (Br (fl (DR bs) (k))).length (cI (Br (fl (DR bs) (k))))]) (n0:=bs.length) ⟨0,af _,rfl,rfl,rfl⟩ ?_)
 rintro n Fr H ⟨k,hk,rfl,rfl,rfl⟩
 by_cases hlt:k<bs.length
 case pos =>
  obtain ⟨y,hy⟩:∃ y,bs[k]?=some y:=⟨_,gE hlt⟩
  have hfl:=AhR (DR bs) k
  have hnl:=Cb (fl (DR bs) k)
  by_cases k2:y.kind=2
  case pos =>
   have hd:DR bs k=true:=by unfold DR;rw [Fe hy,k2];rfl
   have hap:(Br (fl (DR bs) (k)))++[(k:Int)]=(Br (fl (DR bs) (k+1))):=by rw [ZJ hd,Ms]
   have hap2:(Br (fl (DR bs) (k))).length+1=(Br (fl (DR bs) (k+1))).length:=by rw [←hap,aq];rfl
   repeat' (with_reducible first|refine qq ?_|(refine Tx 6 ?_;refine gO xLt ?_)|(refine Tx 7 ?_;refine gO xM <| gO (xIr Ap (Gc hy)) <| gO xL <| gN (xAl Cw) <| gO xA <| gZ (xSk BZ) ?_)|(refine Tx 8 ?_;refine gO xF <| gO xD <| gO xEq ?_)|(refine Tx 9 ?_;refine gO xM <| gO xM <| gN (by exact AZ rfl Aa BK rfl rfl (by decide) (by decide)) <| gT (by exact Qw rfl rfl rfl rfl rfl rfl Aa BK (by omega) (by decide) hap hap2) <| gO xA ?_)|(refine Tx 10 ?_;refine gO xAd <| gO xM ?_))
   exact ArB
  have hd:DR bs k=false:=by unfold DR;rw [Fe hy];exact Lm k2
  have hno:(Br (fl (DR bs) (k+1)))=(Br (fl (DR bs) (k))):=by rw [AhQ hd]
  repeat' (with_reducible first|refine qq ?_|(refine Tx 6 ?_;refine gO xLt ?_)|(refine Tx 7 ?_;refine gO xM <| gO (xIr Ap (Gc hy)) <| gO xL <| gN (xAl Cw) <| gO xA <| gZ (xSk BZ) ?_)|(refine Tx 8 ?_;refine gO xF <| gO xD <| gO xEq ?_)|(refine Tx 10 ?_;refine gO xAd <| gO xM ?_))
  rw [←hno]
  exact ArB
 obtain rfl:k=bs.length:=by omega
 rw [hall]
 repeat' (with_reducible first|refine qq ?_|(refine Tx 6 ?_;refine gO xLt ?_)|(refine Tx 11 ?_;refine gO xM <| gO xA <| gO xA ?_))
 exact AN rfl (.cons_ (Akr rfl rfl rfl) (.cons_ (Fv rfl rfl) .nil_))
open Go.ChangeShapes Go.WideShapes Go.ChangeAt Go.Joins Go.Deep
structure Rw where
 nb:Bool
 A:Option Addr
 ws:List Nat
 cap:Nat
 den:Int
def Rw.cells (r:Rw):List Value:=[.bool r.nb,.slice r.A r.ws.length r.cap,.int .i64 r.den]
def Rw.val (r:Rw):Value:=.agg #[.bool r.nb,.slice r.A r.ws.length r.cap,.int .i64 r.den]
def rw0:Rw:=⟨false,none,[],0,0⟩
instance:Inhabited Rw:=⟨rw0⟩
structure ApQ (w:World) (m:Nat) (r:Rw):Prop where
 nul:r.A=none→r.cap=0
 fit:r.ws.length≤r.cap
 at_:Aj w m r.A (w32 r.ws)
 ok:Az r.ws
def vdP (r:Rw):Prop:=if r.ws.length=0 then r.nb=false∧r.den=0 else r.ws[r.ws.length - 1]?.getD 0≠0∧0≤r.den∧r.den≤65536∧(r.den=0∨r.ws[0]?.getD 0 % 2=1)
instance (r:Rw):Decidable (vdP r):=by unfold vdP;infer_instance
def vdB (r:Rw):Bool:=decide (vdP r)
def Rw.x (r:Rw):Int:=sg r.nb (Bc r.ws)
def Rw.d (r:Rw):Nat:=r.den.toNat
theorem AnF {r:Rw} (h:r.ws.length=0):vdP r ↔ r.nb=false∧r.den=0:=by unfold vdP;rw [if_pos h]
theorem Aim {r:Rw} (h:¬ r.ws.length=0):vdP r ↔ r.ws[r.ws.length - 1]?.getD 0≠0∧0≤r.den∧r.den≤65536∧(r.den=0∨r.ws[0]?.getD 0 % 2=1):=by unfold vdP;rw [if_neg h]
theorem AeF {r:Rw} (h:vdP r):vdB r=true:=decide_eq_true h
theorem WC {r:Rw} (h:¬ vdP r):vdB r=false:=decide_eq_false h
theorem Ain {r:Rw} (hok:Az r.ws) (h:vdB r=true):Ad (Bc r.ws)=r.ws:=by
 have h:=of_decide_eq_true h
 refine RZ hok fun hne=>?_
 have hl:¬ r.ws.length=0:=fun h0=>hne (bj h0)
 exact ((Aim hl).1 h).1
theorem AnG (r:Rw):r.x.natAbs=Bc r.ws:=PZ _ _
structure Iv where
 lo:Rw
 hi:Rw
def Iv.cells (a:Iv):List Value:=[.bool a.lo.nb,.slice a.lo.A a.lo.ws.length a.lo.cap,.int .i64 a.lo.den,.bool a.hi.nb,.slice a.hi.A a.hi.ws.length a.hi.cap,.int .i64 a.hi.den]
def iv0:Iv:=⟨rw0,rw0⟩
instance:Inhabited Iv:=⟨iv0⟩
structure IvAt (w:World) (m:Nat) (a:Iv):Prop where
 lo:ApQ w m a.lo
 hi:ApQ w m a.hi
def ivP (a:Iv):Prop:=vdB a.lo=true∧vdB a.hi=true∧Wd a.lo.x a.lo.d a.hi.x a.hi.d≤0
instance (a:Iv):Decidable (ivP a):=by unfold ivP;infer_instance
/- What came in. -/
set_option maxRecDepth 100000
section
variable {H:Type} {enc:TypeId × Value→H} {w:World} {spare:Nat→Bool} {held:Bool}
theorem Ui {v:Value} {x:DataW H × List MemPlace} (h:DataW.trod enc prog w 0 spare held fuel 41 [v]=some x) :
  ∃ (A:Option Addr) (cap:Nat) (ws:List Nat),v=.slice A ws.length cap∧(A=none→cap=0)∧ws.length≤cap∧ws.length≤maxLen∧Aj w w.heap.size A (w32 ws)∧Az ws:=by
 rcases open_ints underlying41 underlying143 (by kernel_rfl) h with ⟨hcs,_⟩|⟨a,len,cap,zs,hcs,_,hl,hm,hz,_,hcell,hwz⟩
 ·exact ⟨none,0,[],by simpa using hcs,fun _=>rfl,aa _,af _,Aj.nil_,fun _ h=>by cases h⟩
 ·have hle:len≤zs.length:=by rw [hz];split <;> omega
  have hlen:((zs.take len).map Int.toNat).length=len:=by simp;omega
  have hpos:∀ z∈zs,0≤z∧z≤4294967295:=fun z hz=>bounds_u32 (hwz z hz)
  refine ⟨some a,cap,(zs.take len).map Int.toNat,by rw [hlen];simpa using hcs,by simp,by omega,by omega,fun hx=>?_,fun y hy=>?_⟩
  ·have hp:0<len:=by
    rcases co len with h0|h0
    ·subst h0;simp [w32] at hx
    ·exact h0
   obtain ⟨b,off,rfl,hcell'⟩:=ints_at hcell (by omega)
   have h0:=hcell' 0 (by omega)
   have hb:b<w.heap.size:=by
    rcases bf b w.heap.size with h|h
    ·exact h
    ·simp [World.cell?,fb h] at h0
   refine ⟨b,off,rfl,hb,hb,fun j u hu=>?_⟩
   have hj:j<len:=by
    have:=(gS.1 hu).1
    rw [PP,hlen] at this
    exact this
   have hjz:j<zs.length:=by omega
   rw [hcell' j hjz]
   simp only [w32,ag,bq,if_pos hj,gE hjz,bp,Option.some.injEq] at hu
   rw [←hu]
   have:=(hpos zs[j] (ff hjz)).1
   simp only [List.getD,gE hjz,bg]
   rw [Int.toNat_of_nonneg this]
  ·obtain ⟨z,hz1,rfl⟩:=List.mem_map.1 hy
   have:=hpos z (eh hz1)
   omega
theorem AeG {cs:List Value} {x:DataW H × List MemPlace} (h:DataW.trod enc prog w 0 spare held fuel 43 cs=some x) :
  ∃ r:Rw,cs=r.cells∧ApQ w w.heap.size r∧r.ws.length≤maxLen ∧ -9223372036854775808≤r.den∧r.den≤9223372036854775807:=by
 obtain ⟨xs,n,_,_,hlen,hxl,hg⟩:=il underlying43 h
 have hl3:cs.length=3:=hlen.trans (by kernel_rfl)
 match cs,hl3 with
 | [c0,c1,c2],_ =>
  have k1:prog.cellsOf 4=1:=by kernel_rfl
  have k2:prog.cellsOf 41=1:=by kernel_rfl
  have k3:prog.cellsOf 3=1:=by kernel_rfl
  have hx3:xs.length=3:=hxl
  match xs,hx3 with
  | [x0,x1,x2],_ =>
   have g0:DataW.trod enc prog w 0 spare held n 4 (([c0,c1,c2].drop 0).take (prog.cellsOf 4))=some x0:=hg 0 _ rfl
   have g1:DataW.trod enc prog w 0 spare held n 41 (([c0,c1,c2].drop 1).take (prog.cellsOf 41))=some x1:=hg 1 _ rfl
   have g2:DataW.trod enc prog w 0 spare held n 3 (([c0,c1,c2].drop 2).take (prog.cellsOf 3))=some x2:=hg 2 _ rfl
   rw [k1] at g0
   rw [k2] at g1
   rw [k3] at g2
   obtain ⟨nb,hn,_⟩:=DataW.trod_bool underlying4 g0
   obtain ⟨A,cap,ws,ha,hA0,hc1,hc2,hc3,hc4⟩:=Ui g1
   obtain ⟨den,hd,_,hdb⟩:=DataW.trod_int underlying3 g2
   have e0:[c0]=[Value.bool nb]:=hn
   have e2:[c2]=[Value.int .i64 den]:=hd
   simp only [List.cons.injEq,and_true] at e0 e2
   refine ⟨⟨nb,A,ws,cap,den⟩,?_,⟨hA0,hc1,hc3,hc4⟩,hc2,bounds_i64 hdb⟩
   rw [e0,ha,e2]
   rfl
theorem ArC {cs:List Value} {x:DataW H × List MemPlace} (h:DataW.trod enc prog w 0 spare held fuel 45 cs=some x) :
  ∃ a:Iv,cs=a.cells∧IvAt w w.heap.size a∧a.lo.ws.length≤maxLen∧a.hi.ws.length≤maxLen∧(-9223372036854775808≤a.lo.den∧a.lo.den≤9223372036854775807) ∧ -9223372036854775808≤a.hi.den∧a.hi.den≤9223372036854775807:=by
 obtain ⟨xs,n,_,_,hlen,hxl,hg⟩:=il underlying45 h
 have hl6:cs.length=6:=hlen.trans (by kernel_rfl)
 match cs,hl6 with
 | [c0,c1,c2,c3,c4,c5],_ =>
  have k1:prog.cellsOf 43=3:=by kernel_rfl
  have hx2:xs.length=2:=hxl
  match xs,hx2 with
  | [x0,x1],_ =>
   have g0:DataW.trod enc prog w 0 spare held n 43 (([c0,c1,c2,c3,c4,c5].drop 0).take (prog.cellsOf 43))=some x0:=hg 0 _ rfl
   have g1:DataW.trod enc prog w 0 spare held n 43 (([c0,c1,c2,c3,c4,c5].drop 3).take (prog.cellsOf 43))=some x1:=hg 1 _ rfl
   rw [k1] at g0 g1
   obtain ⟨r,hr,h1,h2,h3⟩:=AeG g0
   obtain ⟨s,hs,h4,h5,h6⟩:=AeG g1
   have e0:[c0,c1,c2]=r.cells:=hr
   have e1:[c3,c4,c5]=s.cells:=hs
   simp only [Rw.cells,List.cons.injEq,and_true] at e0 e1
   refine ⟨⟨r,s⟩,?_,⟨h1,h4⟩,h2,h5,h3,h6⟩
   rw [e0.1,e0.2.1,e0.2.2,e1.1,e1.2.1,e1.2.2]
   rfl
end
theorem QL (h:p:=by
  clear hp
  go_enter func58,ntmps58
  go_wp2_with fail
  all_goals first
    | (exfalso;omega)
    | (go_ret
       exact ⟨by rw [HV.out];rfl,al_ _ _⟩)):p:=h
theorem AbK (r:Rw) (m:Nat) (w:World) (hm:m≤w.heap.size) (h:ApQ w m r) (hl:r.ws.length≤36000000000000) :
  Calls prog 58 #[r.val] w fun e w'=>e=.returned (.bool (vdB r))∧Below w.heap.size w w':=by
 have hat:=h.at_
 have hok:=h.ok
 obtain ⟨nb,A,ws,cap,den⟩:=r
 dsimp only at hat hok hl
 simp only [Rw.val]
 have key:den<0∨den=0∨(0<den∧den≤65536)∨65536<den:=by omega
 by_cases h0:ws.length=0
 ·have hp:=AnF (r:=⟨nb,A,ws,cap,den⟩) h0
  dsimp only at hp
  have hz:(ws.length:Int)=0:=by omega
  have hzb:((ws.length:Int) == 0)=true:=by rw [hz];rfl
  rw [h0] at hzb ⊢
  clear hat hok hl h hz h0
  cases nb with
  | true =>
   rcases key with k1|k1|k1|k1
   all_goals
    have HV:=mi (show vdB ⟨true,A,ws,cap,den⟩=false from WC (fun hv=>by have:=(hp.1 hv).1;cases this))
    exact QL
  | false =>
   rcases key with k1|k1|k1|k1
   ·have d0:(den == 0)=false:=by rw [beq_eq_false_iff_ne];omega
    have HV:=mi (show vdB ⟨false,A,ws,cap,den⟩=false from WC (fun hv=>by have:=(hp.1 hv).2;omega))
    exact QL
   ·have d0:(den == 0)=true:=by simp;omega
    have HV:=mi (show vdB ⟨false,A,ws,cap,den⟩=true from AeF (hp.2 ⟨rfl,k1⟩))
    exact QL
   ·have d0:(den == 0)=false:=by rw [beq_eq_false_iff_ne];omega
    have HV:=mi (show vdB ⟨false,A,ws,cap,den⟩=false from WC (fun hv=>by have:=(hp.1 hv).2;omega))
    exact QL
   ·have d0:(den == 0)=false:=by rw [beq_eq_false_iff_ne];omega
    have HV:=mi (show vdB ⟨false,A,ws,cap,den⟩=false from WC (fun hv=>by have:=(hp.1 hv).2;omega))
    exact QL
 ·have hp:=Aim (r:=⟨nb,A,ws,cap,den⟩) h0
  dsimp only at hp
  obtain ⟨b,off,z,hA,q1,q2,hz,g1⟩:=hat.w32_ (k:=ws.length - 1) (by omega)
  subst hA
  obtain ⟨b',off',y,hA',_,_,hy,g0⟩:=hat.w32_ (k:=0) (by omega)
  cases hA'
  rw [dv] at g0
  obtain ⟨L,hL⟩:∃ L,L=ws.length - 1:=⟨_,rfl⟩
  have hlen:ws.length=L+1:=by omega
  have hl':L≤36000000000000:=by omega
  have e0:((L:Int)+1 == 0)=false:=by simp;omega
  rw [←hL] at g1
  rw [hz,hy] at hp
  simp only [bg] at hp
  rw [hlen]
  clear hat hok hl h hz hy hL q1 q2 h0 hlen
  by_cases hz0:z=0
  ·subst hz0
   have hzb:(((0:Nat):Int) != 0)=false:=by rfl
   rcases key with k1|k1|k1|k1
   all_goals
    have HV:=mi (show vdB ⟨nb,some ⟨b,off,none⟩,ws,cap,den⟩=false from WC (fun hv=>(hp.1 hv).1 rfl))
    exact QL
  ·have hzb:((z:Int) != 0)=true:=by simp;omega
   rcases key with k1|k1|k1|k1
   ·have HV:=mi (show vdB ⟨nb,some ⟨b,off,none⟩,ws,cap,den⟩=false from WC (fun hv=>by have:=(hp.1 hv).2.1;omega))
    exact QL
   ·have d0:(den == 0)=true:=by simp;omega
    have HV:=mi (show vdB ⟨nb,some ⟨b,off,none⟩,ws,cap,den⟩=true from AeF (hp.2 ⟨hz0,by omega,by omega,.inl k1⟩))
    exact QL
   ·have d0:(den == 0)=false:=by rw [beq_eq_false_iff_ne];omega
    have d1:decide (den≤65536)=true:=decide_eq_true k1.2
    have d2:decide (0≤den)=true:=decide_eq_true (by omega)
    by_cases ho:y % 2=1
    ·have hoi:(y:Int) % 2=1:=by omega
     have HV:=mi (show vdB ⟨nb,some ⟨b,off,none⟩,ws,cap,den⟩=true from AeF (hp.2 ⟨hz0,by omega,k1.2,.inr ho⟩))
     exact QL
    ·have hoi:(y:Int) % 2=0:=by omega
     have HV:=mi (show vdB ⟨nb,some ⟨b,off,none⟩,ws,cap,den⟩=false from WC (fun hv=>by have:=(hp.1 hv).2.2.2;omega))
     exact QL
   ·have HV:=mi (show vdB ⟨nb,some ⟨b,off,none⟩,ws,cap,den⟩=false from WC (fun hv=>by have:=(hp.1 hv).2.2.1;omega))
    exact QL
end Go.Proofs.YtjlkgfeepocjfaaGreatDoor
