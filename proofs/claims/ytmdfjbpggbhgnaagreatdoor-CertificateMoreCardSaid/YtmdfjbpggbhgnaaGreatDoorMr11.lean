/- What the proofs of this claim share, part 11. No conditions. -/
import Derived.Test.YtmdfjbpggbhgnaaGreatDoorMr9
import Derived.Test.YtmdfjbpggbhgnaaGreatDoorMr10
import Derived.Test.YtmdfjbpggbhgnaaGreatDoorMr6
import Derived.Test.YtmdfjbpggbhgnaaGreatDoorMr8
import Derived.Laws.StructEq
set_option maxHeartbeats 8000000
set_option maxRecDepth 100000
set_option linter.all false
open Go.Proofs.Tryz
namespace Go.Proofs.YtmdfjbpggbhgnaaGreatDoor
open Go.RowKit
variable {b c d dx dy g i id lo lo1 lo2 m m2 n s ty u:Nat} {t t':TypeId} {y:Operand} {k':IntKind} {P:Program} {F:Frm} {H:List Ob} {G:World→Prop} {ts:Array TypeId} {p:Prop} {tmps:Array Value} {w:World} {v0 v1 v2:Value} {a o o0 ws:List Nat} {e f q r z:Int} {S:Eh}
def cBl (l:List Bool):List C:=l.map fun b=>.d (.val (.bool b))
theorem AcV (n:Nat):Em (madeCells (Value.bool false).cells (n*1)).toList=cBl (List.replicate n false):=by
 rw [cr,show (Value.bool false).cells=#[Value.bool false] from rfl,toList_madeCells_one]
 simp [Em,cBl]
theorem Zx {l:List Bool}:∀ c∈cBl l,C.bel n c:=fun c hc=>by obtain ⟨z,_,rfl⟩:=List.mem_map.1 hc;trivial
theorem Ald {l:List Bool} {k:Nat} {z:Bool} (h:l[k]?=some z):((cBl l).drop (k*1))[0]?=some (.d (.val (.bool z))):=by
 simp [cBl,h]
section
variable {P:Program} {G:World→Prop} {o:Oper} {F:Frm} {H:List Ob}
theorem Zy {e:TypeId} {x:Operand} {by_:Nat} {k:IntKind} (ho:o.op=.makeSlice t x y) (hx:F.ev x=.one (.d (.val (.int k (n:Int))))) (hy:F.ev y=.one (.d (.val (.int k' (n:Int))))) (ht:TyS P t e 1) (hz:TyZ P e (.bool false) 1 by_) (hn:n≤1000000) (hby:by_≤1000) :
  AN P G o F H (.one (.own H.length n)) [.row e 1 n (cBl (List.replicate n false))]:=by
 have:=Bs (P:=P) (G:=G) (H:=H) ho hx hy ht hz hn hby
 rwa [AcV] at this
theorem Zz {ty:TypeId} {x:Operand} {k:Nat} {xs:List Bool} {z:Bool} (ho:o.op=.load t x) (hx:F.ev x=.one (.ref id (i*1) (some n))) (hH:H[id]?=some (.row ty s n (cBl xs))) (hz:xs[i]?=some z) (hk:TyK P t false k):AN P G o F H (.one (.d (.val (.bool z)))) [] :=
 Mo ho hx (.row hH) (Ald hz) hk
theorem AhG {ty:TypeId} {x:Operand} {xs:List Bool} {z b:Bool} (ho:o.op=.store t x y) (hx:F.ev x=.one (.ref id (i*1) (some n))) (hH:H[id]?=some (.row ty s n (cBl xs))) (hy:F.ev y=.one (.d (.val (.bool z)))) (hty:TyK P t b 1) (hi:i<xs.length) {ys:List Bool} (hys:xs.set i z=ys):TOk P G o F H .any (H.set id (.row ty s n (cBl ys))):=by
 have:=IB (P:=P) (G:=G) ho hx hH rfl hy hty (by simp [Ob.cs,cBl,hi])
 have e:(cBl xs).set (i*1) (.d (.val (.bool z)))=cBl ys:=by rw [←hys,cr];simp [cBl,fo]
 simp only [Ob.cs,Ob.setC,e] at this
 exact this
end
theorem VS {t:Nat} {xs:List Int} (hF:F t=.one (.own id n)) (hH:H[id]?=some (.row ty 1 n (cI xs))) (hn:n=xs.length):RV P F H (.tmp t) (.one (Bd false xs)):=.tmp (by
 rw [hF]
 refine .one (Cg rfl hH (by rw [hn];rfl) (AY.map_l.2 ⟨by rw [af],fun j a b ha hb=>?_⟩))
 rw [ag,ha] at hb
 cases hb
 exact .d fun _=>.val _)
theorem CV.cv {f:FuncId} {args res:List A} (h:CV P G f args res):CV P G f args res:=h
def Ale (S:Eh) (w w':World):Eh:=fun t b=>S t b∨(t=false∧w.heap.size≤b∧b<w'.heap.size)
def CVB (P:Program) (G:World→Prop) (f:FuncId) (args:List A) (d:D):Prop :=
 ∀ (w:World) (S:Eh) (vs:List Value),G w→(∀ t b,S t b→b<w.heap.size)→AY (EM w S) args vs →
  Calls P f vs.toArray w fun e w'=>∃ v,e=.returned v∧Br w' (Ale S w w') d v∧Below w.heap.size w w'
theorem Afc (hG:∀ w w',Below w.heap.size w w'→G w→G w') {f:FuncId} {fn:Func} {c:Code} {N:Nat} {args:List A} {d:D} (hf:P.funcs[f]?=some fn) (hN:fn.ntmps=N) (ha:args.length≤N) (hb:fn.body=some c)
  (h:CW P G N c (F0 args) [] (fun e F _=>(e=.ret∨e=.normal)∧∃ t d',fn.results=#[.tmp t]∧F t=.one (.d d')∧∀ (w:World) (S:Eh) (v:Value),Br w S d' v→Br w S d v)):CVB P G f args d:=by
 intro w S vs hg hlt hargs
 refine calls_of_wp hf hb ?_
 refine wp_mono (h w.heap.size w ⟨S,[]⟩ _ ⟨w,S,[],fun _=>none⟩ (fun w' hb'=>hG w w' hb' hg) rfl (Qn hN ha hlt hargs)) fun e a' w' ⟨F',m',hw,hs,hret⟩=>?_
 subst hw
 obtain ⟨he,t,d',hr,hF,hdd⟩:=hret
 have hx:=hs.frame t
 rw [hF] at hx
 have hx:=hdd _ _ _ hx
 have hd:Br m'.w (Ale S w m'.w) d (a'.tmps.getD t undef):=Br.mono (fun t b hb'=>by
  cases t with
  | true=>exact .inl (by rw [hs.T] at hb';exact hb')
  | false=>exact (hs.S b hb').elim .inl fun h=>.inr ⟨rfl,h,hs.cx.lt _ _ hb'⟩) (fun _ _ _=>rfl) hx
 have hrun:(results fn a'.tmps).run P m'.w=.ok (a'.tmps.getD t undef) m'.w:=by
  have h1:(fn.results.mapM (TV a'.tmps)).run P m'.w=.ok #[a'.tmps.getD t undef] m'.w:=by
   rw [hr,←jl (xs:=#[ResultVar.tmp t]),jm,map_eq_pure_bind,ah]
   simp [jk,TV,ah]
  have hb':∀ (s:Sem (Array Value)) (k:Array Value→Sem Value),(s.bind k).run P m'.w=(s.run P m'.w).andThen fun a w=>(k a).run P w:=fun s k=>ah (x:=s) (f:=k) ..
  rw [GT,hb',h1]
  rfl
 rcases he with rfl|rfl
 ·exact ⟨hs.defers,_,hrun,_,rfl,hd,hs.below⟩
 ·exact ⟨hs.defers,_,hrun,_,rfl,hd,hs.below⟩
theorem QB {t:Bool} (w:World) (S:Eh) (v:Value) (h:Br w S (.val (.slice none 0 0)) v):Br w S (.row t s 0 []) v:=by
 cases h
 exact .row [] (aa _) (fun _=>rfl) (by simp) rfl (fun h=>absurd rfl h) (fun j u x h=>by simp at h)
theorem VT {t:Bool} {c:C} {y:D} {xs:List Int} (hc:c=.own id n) (hH:H[id]?=some (.row ty 1 n (cI xs))) (hn:n=xs.length) (hy:y=Bd t xs):Fd t H c y :=
 Cg hc hH (by rw [hy,hn];rfl) (AY.map_l.2 ⟨by rw [af],fun j a b ha hb=>by
  rw [ag,ha] at hb
  cases hb
  exact .d fun _=>.val _⟩)
theorem A.rel_x {m:Mm} {y:A} {v:Value} (h:Fj m y.x v):EM m.w m.S y v:=by
 cases y with
 | one d=>exact h
 | agg ds =>
  obtain ⟨xs,h1,h2⟩:=h
  exact ⟨xs,h1,(AY.map_l (f:=C.d)).1 h2⟩
section
variable {P:Program} {G:World→Prop} {o:Oper} {F:Frm} {H:List Ob}
theorem AcW {f:FuncId} {fn:Func} {c:Code} {xs:Array Operand} (ho:o.op=.call { callee:=.value (.func f),args:=xs,argTypes:=ts })
  (hf : P.funcs[f]? = some fn) (hn : (fn.name == "runtime.NumGoroutine") = false) (hb : fn.body = some c) {args : List A} {d : D} (h : CVB P G f args d) (ha : AY (fun x (y : A) => F.ev x = y.x) xs.toList args) :
  AN P G o F H (.one (.d d)) []:=by
 intro b0 m a hp hx hg hb0 _ hor K Q hK
 have hxs:∀ x∈xs.toList,Fj m (F.ev x) (a.eval x):=fun x hm=>Ba hor (by
  rw [ho]
  simp only [Op.operands,Call.operands,ir,iu]
  exact .inr hm)
 have hcalls:=h m.w m.S (xs.toList.map a.eval) hg hx.lt ⟨by rw [af];exact ha.1.symm,fun j y v hy hv=>by
   simp only [ag,ct] at hv
   obtain ⟨x,hxj,rfl⟩:=hv
   have h1:=hxs x (gM hxj)
   rw [ha.2 j x y hxj hy] at h1
   exact A.rel_x h1⟩
 unfold Oper.wp execOp
 simp only [ho,resolve,Act.eval,Deferred.ofValue,ah,bu,au,invoke]
 rw [Ew hf hn hb]
 rw [gl]
 have he:((#[]:Array Value)++xs.map a.eval++#[])=(xs.toList.map a.eval).toArray:=fp (by simp)
 simp only [he]
 refine hcalls.mono fun e w' ⟨v,hev,hres,hbel⟩=>?_
 subst hev
 refine hK v w' [] ⟨rfl,hbel,fun k e hk=>by simp at hk,List.Pairwise.nil⟩ ?_
 exact Br.mono (fun t b hb=>by
  rcases hb with hb|⟨rfl,h1,h2⟩
  ·exact .inl hb
  ·exact .inr ⟨rfl,h1,h2,fun e he=>by simp at he⟩) (fun _ _ _=>rfl) hres
end
theorem xCb {G : World → Prop} {o : Oper} {f : FuncId} {fn : Func} {cd : Code} {xs : Array Operand} {args : List A} {d : D} (h1 : P.funcs[f]? = some fn) (h : CVB P G f args d) (h2 : (fn.name == "runtime.NumGoroutine") = false := by kernel_rfl) (h3 : fn.body = some cd := by with_unfolding_all exact rfl) (ho : o.op = .call { callee := .value (.func f), args := xs, argTypes := ts } := by with_unfolding_all exact rfl) (ha : AY (fun x (y : A) => F.ev x = y.x) xs.toList args := by with_unfolding_all first | ((repeat' first | exact Bh rfl rfl | refine Au rfl rfl rfl ?_) <;> fail) | fail) : AN P G o F H (.one (.d d)) [] := AcW ho h1 h2 h3 h ha
theorem Xq (a b c d:Int) (w:World):(Op.equalIn 10000 61 (.agg #[.int .i64 a,.int .i64 b]) (.agg #[.int .i64 c,.int .i64 d])).run prog w=.ok (a == c && b == d) w:=by
 have hS:prog.underlying 61=some (.struct (prog.fieldsOf 61)):=by kernel_rfl
 have hp:prog.stoodInHeld 61=false:=by kernel_rfl
 have hi:prog.underlying 3=some (.int .i64):=by kernel_rfl
 rw [show (10000:Nat)=9999+1 from rfl,run_equalIn_agg w 9999 61 _ _ hS hp]
 simp only [Program.fieldsOf,underlying61]
 go_simp
 cases h1:(a == c) <;> cases h2:(b == d) <;> simp_all
section
variable {P:Program} {G:World→Prop} {o:Oper} {F:Frm} {H:List Ob}
theorem ZA {m:Mm}:∀ {vs:List Value} {v:Value},Fj m (.agg (vs.map fun u=>.d (.val u))) v→v=.agg vs.toArray:=fun {vs v} h=>by
 obtain ⟨xs,rfl,hl⟩:=h
 have:xs=vs:=by
  have e:AY (fun (u:Value) x=>x=u) vs xs:=AY.map_l.1 (hl.imp fun c x h=>h) |>.imp fun u x h=>by
   have h2:Br m.w m.S (.val u) x:=h
   cases h2
   rfl
  refine ek fun j=>?_
  rcases hv:vs[j]? with _|u
  ·rw [List.getElem?_eq_none_iff] at hv ⊢
   have:=e.1
   omega
  ·obtain ⟨x,hx,rfl⟩:=e.at_ hv
   exact hx
 rw [this]
theorem QC {x:Operand} {a b c d:Int} {r:Bool} (ho:o.op=.binOp .neq 61 x y t') (hx:F.ev x=.agg [.d (.val (.int .i64 a)),.d (.val (.int .i64 b))]) (hy:F.ev y=.agg [.d (.val (.int .i64 c)),.d (.val (.int .i64 d))]) (hr:(!(a == c && b == d))=r):AN prog G o F H (.one (.d (.val (.bool r)))) []:=BN fun b0 m ac _ _ hor=>by
 have ex:=ZA (m:=m) (vs:=[.int .i64 a,.int .i64 b]) (v:=ac.eval x) (by rw [show ([.int .i64 a,.int .i64 b]:List Value).map (fun u=>C.d (.val u))=[.d (.val (.int .i64 a)),.d (.val (.int .i64 b))] from rfl,←hx];exact Ba hor (by rw [ho];simp [Op.operands]))
 have ey:=ZA (m:=m) (vs:=[.int .i64 c,.int .i64 d]) (v:=ac.eval y) (by rw [show ([.int .i64 c,.int .i64 d]:List Value).map (fun u=>C.d (.val u))=[.d (.val (.int .i64 c)),.d (.val (.int .i64 d))] from rfl,←hy];exact Ba hor (by rw [ho];simp [Op.operands]))
 refine ⟨.bool r,?_,Br.val rfl⟩
 unfold execOp
 simp only [ho,ex,ey]
 rw [ah]
 have h:((do eqGuard .neq 61 x y (.agg #[.int .i64 a,.int .i64 b]) (.agg #[.int .i64 c,.int .i64 d]);binOp .neq 61 (.agg #[.int .i64 a,.int .i64 b]) (.agg #[.int .i64 c,.int .i64 d])):Sem Value).run prog m.w=.ok (.bool r) m.w:=by
  rw [ah,run_eqGuard_agg m.w .neq 61 x y _ _ (by kernel_rfl),au,run_neq_struct,Xq,au,hr]
 rw [h]
 rfl
end
theorem IK (A:Option Addr) (ws:List Nat) (c m:Nat) (w:World) (h:An w m A (w32 ws)) (hc:ws.length≤c) (hl:ws.length≤1000000) :
  Calls prog 206 #[.slice A ws.length c] w fun e w'=>e=.returned (.slice A (HG ws).length c)∧w=w':=by
 have H:=li h
 clear h
 go_enter func206,ntmps206
 go_wp2_with fail
 go_loopw [3] (fun i wr=>AjT w ws i wr) (fun i _=>(intOf i).toNat)
 case atStart=>exact ⟨ws.length,aa _,rfl,rfl,rfl⟩
 case round =>
  obtain ⟨k,hk,rfl,ht,rfl⟩:=hrel
  have HT:=li ht
  clear ht
  by_cases h0:k=0
  ·subst h0
   go_wp2_with fail
   go_ret
   refine ⟨?_,rfl⟩
   rw [Cd,←HT.out]
   rfl
  ·obtain ⟨j,rfl⟩:=ji h0
   obtain ⟨b,off,z,rfl,hbm,hbs,hx,hcc⟩:=H.out.w32_ (k:=j) (by omega)
   have HX:=li hx
   clear hx
   by_cases hz:z=0
   ·subst hz
    go_wp2_with fail
    have e1:Dt ws j=Dt ws ws.length:=by
     rw [←HT.out]
     show Dt ws j=if ws[j]?.getD 0=0 then Dt ws j else j+1
     rw [if_pos (by rw [HX.out];rfl)]
    exact ⟨⟨j,by omega,by go_num,e1,rfl⟩,by simp [intOf];try omega⟩
   ·have hz':((z:Int) == 0)=false:=by simp;omega
    go_wp2_with fail
    go_ret
    refine ⟨?_,rfl⟩
    have e1:j+1=Dt ws ws.length:=by
     rw [←HT.out]
     show j+1=if ws[j]?.getD 0=0 then Dt ws j else j+1
     rw [if_neg (by rw [HX.out];exact hz)]
    rw [Cd,←e1]
    rfl
theorem Alf (h:p:=by
 clear ka kb
 go_wp2_with (at_builtin;refine LL rfl _ _ rfl w.heap.size _ os z wr.heap.size rfl (HO.out.alloc _) rfl (by simp [go_sem]) (by have:=HOL.out;omega) (by simp;omega) ?_;intro v' w2 hown2 hg2 hb2)
 exact ⟨⟨k+1,os++[z],c',by omega,by go_num,rfl,hown2,by rw [ak,HOL.out];rfl,Cb HOK.out hzb,hcb.out,(TH HOL.out HX.out HY.out HV.out (by have:=HZ.out;omega)),hb.trans ((((ab _ wr).alloc (aa _) _).mono hb.size).trans hb2)⟩,by simp [intOf];omega⟩):p:=h
theorem AcX (A B:Option Addr) (a b:List Nat) (c1 c2 m:Nat) (w:World) (hm:m≤w.heap.size) (h1:An w m A (w32 a)) (h2:An w m B (w32 b)) (ha:Ar a) (hb:Ar b) (l1:a.length≤100000) (l2:b.length≤100000) :
    Calls prog 108 #[.slice A a.length c1,.slice B b.length c2] w fun e w' =>
      ∃ G g,e=.returned (.slice G (Ab (Az a+Az b)).length g)∧(G=none→g=0)∧(Ab (Az a+Az b)).length≤g∧An w' w'.heap.size G (w32 (Ab (Az a+Az b)))∧Below w.heap.size w w':=by
  have H1:=li h1
  have H2:=li h2
  have HA:=li ha
  have HB:=li hb
  clear h1 h2 ha hb
  go_enter func108,ntmps108
  go_wp2_with fail
  go_loopw [5,6,7] (fun v cv i wr=>Aoj w a b v cv i wr) (fun _ _ i _=>max a.length b.length - (intOf i).toNat)
  case atStart=>exact ⟨0,[],0,ad _,rfl,rfl,Dw.nil_ _ _,rfl,by simp [Ar],by omega,by simp [Az],ab _ _⟩
  case round =>
    as_aux_lemma =>
    obtain ⟨k,os,cy,hk,rfl,rfl,hown,hol,hok,hcy,hv,hb⟩:=hrel
    have HO:=li hown
    have HOL:=li hol
    have HOK:=li hok
    have HV:=li hv
    clear hown hol hok hv
    have hmax:max (a.length:Int) (b.length:Int)=((max a.length b.length:Nat):Int):=by omega
    have hsz:=hb.size
    by_cases hlt:k<max a.length b.length
    · by_cases ka:k<a.length
      · by_cases kb:k<b.length
        · as_aux_lemma =>
          obtain ⟨b1,o1,x,rfl,q1,_,hx,g1'⟩:=H1.out.w32_ ka
          have g1:=(hb.cell (p:=⟨b1,o1+k,none⟩) (aj q1 hm)).trans g1'
          have bx:=HA.out x (gM hx)
          have HX := li (show a[k]?.getD 0 = x by rw [hx]; rfl)
          have ka':(k:Int)<(a.length:Int):=by omega
          clear hx g1'
          obtain ⟨b2,o2,y,rfl,q2,_,hy,g2'⟩:=H2.out.w32_ kb
          have g2:=(hb.cell (p:=⟨b2,o2+k,none⟩) (aj q2 hm)).trans g2'
          have by':=HB.out y (gM hy)
          have HY := li (show b[k]?.getD 0 = y by rw [hy]; rfl)
          have kb':(k:Int)<(b.length:Int):=by omega
          clear hy g2'
          obtain ⟨z,hz⟩:∃ z:Nat,((cy:Int)+(x:Int)+(y:Int)) % 4294967296=(z:Int):=⟨((cy+x+y) % 4294967296:Nat),by omega⟩
          obtain ⟨c',hc'⟩:∃ c':Nat,((cy:Int)+(x:Int)+(y:Int)) / 4294967296=(c':Int):=⟨((cy+x+y) / 4294967296:Nat),by omega⟩
          have HZ := li (show z + 4294967296 * c' = cy + x + y by omega)
          have hzb:z<4294967296:=by omega
          have hcb := li (show c' ≤ 1 by omega)
          clear ka kb
          go_wp2_with (at_builtin;refine LL rfl _ _ rfl w.heap.size _ os z wr.heap.size rfl (HO.out.alloc _) rfl (by simp [go_sem]) (by have:=HOL.out;omega) (by simp;omega) ?_;intro v' w2 hown2 hg2 hb2)
          exact ⟨⟨k+1,os++[z],c',by omega,by go_num,rfl,hown2,by rw [ak,HOL.out];rfl,Cb HOK.out hzb,hcb.out,(TH HOL.out HX.out HY.out HV.out HZ.out),hb.trans ((((ab _ wr).alloc (aa _) _).mono hb.size).trans hb2)⟩,by simp [intOf];omega⟩
        · as_aux_lemma =>
          obtain ⟨b1,o1,x,rfl,q1,_,hx,g1'⟩:=H1.out.w32_ ka
          have g1:=(hb.cell (p:=⟨b1,o1+k,none⟩) (aj q1 hm)).trans g1'
          have bx:=HA.out x (gM hx)
          have HX := li (show a[k]?.getD 0 = x by rw [hx]; rfl)
          have ka':(k:Int)<(a.length:Int):=by omega
          clear hx g1'
          have HY := li (show b[k]?.getD 0 = 0 by rw [dn (by omega)]; rfl)
          have kb':¬ (k:Int)<(b.length:Int):=by omega
          have kb2:decide ((k:Int)<(b.length:Int))=false:=decide_eq_false kb'
          obtain ⟨z,hz⟩:∃ z:Nat,((cy:Int)+(x:Int)) % 4294967296=(z:Int):=⟨((cy+x) % 4294967296:Nat),by omega⟩
          obtain ⟨c',hc'⟩:∃ c':Nat,((cy:Int)+(x:Int)) / 4294967296=(c':Int):=⟨((cy+x) / 4294967296:Nat),by omega⟩
          have HZ := li (show z + 4294967296 * c' = cy + x by omega)
          have hzb:z<4294967296:=by omega
          have hcb := li (show c' ≤ 1 by omega)
          exact Alf
      · have kb:k<b.length:=by omega
        have HX := li (show a[k]?.getD 0 = 0 by rw [dn (by omega)]; rfl)
        have ka':¬ (k:Int)<(a.length:Int):=by omega
        have ka2:decide ((k:Int)<(a.length:Int))=false:=decide_eq_false ka'
        obtain ⟨b2,o2,y,rfl,q2,_,hy,g2'⟩:=H2.out.w32_ kb
        have g2:=(hb.cell (p:=⟨b2,o2+k,none⟩) (aj q2 hm)).trans g2'
        have by':=HB.out y (gM hy)
        have HY := li (show b[k]?.getD 0 = y by rw [hy]; rfl)
        have kb':(k:Int)<(b.length:Int):=by omega
        clear hy g2'
        obtain ⟨z,hz⟩:∃ z:Nat,((cy:Int)+(y:Int)) % 4294967296=(z:Int):=⟨((cy+y) % 4294967296:Nat),by omega⟩
        obtain ⟨c',hc'⟩:∃ c':Nat,((cy:Int)+(y:Int)) / 4294967296=(c':Int):=⟨((cy+y) / 4294967296:Nat),by omega⟩
        have HZ := li (show z + 4294967296 * c' = cy + y by omega)
        have hzb:z<4294967296:=by omega
        have hcb := li (show c' ≤ 1 by omega)
        exact Alf
    · as_aux_lemma =>
      have hle:¬ (k:Int)<((max a.length b.length:Nat):Int):=by omega
      have hke:k=max a.length b.length:=by omega
      have hka:a.length≤k:=by omega
      have hkb:b.length≤k:=by omega
      have hcy32:cy<4294967296:=by omega
      obtain ⟨ws,hws⟩:∃ ws,ws=os++[cy]:=⟨_,rfl⟩
      have hwok:Ar ws:=by rw [hws];exact Cb HOK.out hcy32
      have hwl:ws.length=k+1:=by rw [hws,ak,HOL.out];rfl
      have hwv:Az ws=Az a+Az b:=by
        have hv:=HV.out
        rw [al hka,al hkb] at hv
        rw [hws,BM,HOL.out,←hv]
        simp only [Az,Nat.mul_zero,bz]
      have hl6:ws.length≤1000000:=by omega
      have HWS:=li hws
      have HWO:=li hwok
      have HWV:=li hwv
      clear hws hwok hwv hmax hke hka hkb hwl hlt
      have hmax:max (a.length:Int) (b.length:Int)=((max a.length b.length:Nat):Int):=by omega
      go_wp2_with (first
        | (go_at_call 206;refine (IK G ws g w2.heap.size w2 hGc hgc hl6).mono ?_;rintro e w3 ⟨rfl,rfl⟩)
        | (at_builtin;refine LL rfl _ _ rfl w.heap.size _ os cy wr.heap.size rfl (HO.out.alloc _) rfl (by simp [go_sem]) (by have:=HOL.out;omega) (by simp;omega) ?_;intro v' w2 hown2 hg2 hb2;rw [←HWS.out] at hown2;obtain ⟨G,g,rfl,hGn,hGc⟩:=hown2.view;obtain ⟨_,hgc,_,_⟩:=hown2.cap_))
      go_ret
      have hcan:=Cz HWO.out
      rw [HWV.out] at hcan
      refine ⟨G,g,by rw [hcan];rfl,hGn,?_,?_,hb.trans ((((ab _ wr).alloc (aa _) _).mono hb.size).trans hb2)⟩
      · rw [←hcan,Cd]
        have:=Ea ws ws.length
        omega
      · rw [←hcan]
        exact hGc.takeW _
theorem AcY (A B:Option Addr) (a b:List Nat) (c1 c2 m:Nat) (w:World) (h1:An w m A (w32 a)) (h2:An w m B (w32 b)) (ha:Ar a) (hb:Ar b) (l1:a.length≤100000) (l2:b.length≤100000) :
  Calls prog 109 #[.slice A a.length c1,.slice B b.length c2] w fun e w'=>e=.returned (.bool (Yq a b))∧Below w.heap.size w w':=by
 have H1:=li h1
 have H2:=li h2
 have HA:=li ha
 have HB:=li hb
 clear h1 h2 ha hb
 by_cases hl:a.length=b.length
 ·have HL:=li hl
  have e1:((a.length:Int) != (b.length:Int))=false:=by simp;omega
  have hlb:Yq a b=decide (Az a<Az b):=if_pos hl
  rw [hlb]
  clear hl hlb
  go_enter func109,ntmps109
  go_wp2_with fail
  go_loopw [5] (fun i wr=>AjV w a b i wr) (fun i _=>(intOf i+1).toNat)
  case atStart=>exact ⟨a.length,0,aa _,rfl,by rw [gi,HL.out,gi],rfl⟩
  case round =>
   as_aux_lemma =>
   obtain ⟨k,nq,hk,rfl,hd,rfl⟩:=hrel
   have HD:=li hd
   clear hd
   by_cases h0:k=0
   ·subst h0
    go_wp2_with fail
    go_ret
    refine ⟨?_,below_drewN (ab _ _) _⟩
    have:=HD.out
    simp at this
    subst this
    simp
   ·obtain ⟨j,rfl⟩:=ji h0
    obtain ⟨b1,o1,x,rfl,_,_,hx,g1⟩:=H1.out.w32_ (k:=j) (by omega)
    obtain ⟨b2,o2,y,rfl,_,_,hy,g2⟩:=H2.out.w32_ (k:=j) (by have:=HL.out;omega)
    have HX:=li hx
    have HY:=li hy
    have hj:((j.succ:Nat):Int) - 1=(j:Int):=by omega
    have hja:(j:Int)<(a.length:Int):=by omega
    have hjb:(j:Int)<(b.length:Int):=by have:=HL.out;omega
    rw [hj]
    clear hx hy h0
    by_cases hxy:x=y
    ·subst hxy
     have e2:((x:Int) != (x:Int))=false:=by simp
     go_wp2_with fail
     go_quiet (fail)
     go_wp2_with fail
     exact ⟨⟨j,_,by omega,by go_num,RF HX.out HY.out HD.out,rfl⟩,by simp [intOf];try omega⟩
    ·have e2:((x:Int) != (y:Int))=true:=by simp;omega
     have HN:=li hxy
     clear hxy
     go_wp2_with fail
     go_quiet (fail)
     go_wp2_with fail
     go_quiet (fail)
     go_wp2_with fail
     go_ret
     refine ⟨?_,by repeat (first|exact ab _ _|refine Ry ?_ _)⟩
     rw [Yp HA.out HB.out HX.out HY.out HD.out HN.out]
     simp
 ·have e1:((a.length:Int) != (b.length:Int))=true:=by simp;omega
  have hlb:Yq a b=decide (a.length<b.length):=if_neg hl
  rw [hlb]
  clear hl hlb
  go_enter func109,ntmps109
  go_wp2_with fail
  go_ret
  exact ⟨by simp,ab _ _⟩
theorem Alg (h:p:=by
 clear hlt kb
 go_wp2_with (at_builtin;refine LL rfl _ _ rfl w.heap.size _ os z wr.heap.size rfl (HO.out.alloc _) rfl (by simp [go_sem]) (by have:=HOL.out;omega) (by simp;omega) ?_;intro v' w2 hown2 hg2 hb2)
 exact ⟨⟨k+1,os++[z],1,by omega,by go_num,rfl,hown2,by rw [ak,HOL.out];rfl,Cb HOK.out hzb,by omega,Ys HOL.out HX.out HY.out HV.out HZ.out,hb.trans ((((ab _ wr).alloc (aa _) _).mono hb.size).trans hb2)⟩,by simp [intOf];omega⟩):p:=h
theorem Alh (h:p:=by
 clear hlt kb
 go_wp2_with (at_builtin;refine LL rfl _ _ rfl w.heap.size _ os z wr.heap.size rfl (HO.out.alloc _) rfl (by simp [go_sem]) (by have:=HOL.out;omega) (by simp;omega) ?_;intro v' w2 hown2 hg2 hb2)
 exact ⟨⟨k+1,os++[z],0,by omega,by go_num,rfl,hown2,by rw [ak,HOL.out];rfl,Cb HOK.out hzb,by omega,Ys HOL.out HX.out HY.out HV.out HZ.out,hb.trans ((((ab _ wr).alloc (aa _) _).mono hb.size).trans hb2)⟩,by simp [intOf];omega⟩):p:=h
theorem ZB (A B:Option Addr) (a b:List Nat) (c1 c2 m:Nat) (w:World) (hm:m≤w.heap.size) (h1:An w m A (w32 a)) (h2:An w m B (w32 b)) (ha:Ar a) (hb:Ar b) (l1:a.length≤100000) (l2:b.length≤a.length) (hle:Az b≤Az a) :
  Calls prog 110 #[.slice A a.length c1,.slice B b.length c2] w fun e w' =>
   ∃ G g,e=.returned (.slice G (Ab (Az a - Az b)).length g)∧(G=none→g=0)∧(Ab (Az a - Az b)).length≤g∧An w' w'.heap.size G (w32 (Ab (Az a - Az b)))∧Below w.heap.size w w':=by
 have H1:=li h1
 have H2:=li h2
 have HA:=li ha
 have HB:=li hb
 have HLE:=li hle
 clear h1 h2 ha hb hle
 go_enter func110,ntmps110
 go_wp2_with fail
 go_loopw [5,6,11] (fun v cv i wr=>Aok w a b v cv i wr) (fun _ _ i _=>a.length - (intOf i).toNat)
 case atStart=>exact ⟨0,[],0,ad _,rfl,rfl,Dw.nil_ _ _,rfl,by simp [Ar],by omega,by simp [Az],ab _ _⟩
 case round =>
  as_aux_lemma =>
  obtain ⟨k,os,br,hk,rfl,rfl,hown,hol,hok,hcy,hv,hb⟩:=hrel
  have HO:=li hown
  have HOL:=li hol
  have HOK:=li hok
  have HV:=li hv
  clear hown hol hok hv
  have hsz:=hb.size
  by_cases hlt:k<a.length
  ·by_cases kb:k<b.length
   ·skip
    obtain ⟨b1,o1,x,rfl,q1,_,hx,g1'⟩:=H1.out.w32_ hlt
    have g1:=(hb.cell (p:=⟨b1,o1+k,none⟩) (aj q1 hm)).trans g1'
    have bx:=HA.out x (gM hx)
    have HX:=li (show a[k]?.getD 0=x by rw [hx];rfl)
    have ka':(k:Int)<(a.length:Int):=by omega
    clear hx g1'
    obtain ⟨b2,o2,y,rfl,q2,_,hy,g2'⟩:=H2.out.w32_ kb
    have g2:=(hb.cell (p:=⟨b2,o2+k,none⟩) (aj q2 hm)).trans g2'
    have by':=HB.out y (gM hy)
    have HY:=li (show b[k]?.getD 0=y by rw [hy];rfl)
    have kb':(k:Int)<(b.length:Int):=by omega
    clear hy g2'
    by_cases hneg:(x:Int) - (br:Int) - (y:Int)<0
    ·as_aux_lemma =>
     obtain ⟨z,hz⟩:∃ z:Nat,(x:Int) - (br:Int) - (y:Int)+4294967296=(z:Int):=⟨((x:Int) - (br:Int) - (y:Int)+4294967296).toNat,by omega⟩
     have HZ:=li (show z+br+y=x+4294967296*1 by omega)
     have hzb:z<4294967296:=by omega
     have hzm:(z:Int) % 4294967296=(z:Int):=by omega
     exact Alg
    ·as_aux_lemma =>
     obtain ⟨z,hz⟩:∃ z:Nat,(x:Int) - (br:Int) - (y:Int)=(z:Int):=⟨((x:Int) - (br:Int) - (y:Int)).toNat,by omega⟩
     have HZ:=li (show z+br+y=x+4294967296*0 by omega)
     have hzb:z<4294967296:=by omega
     have hzm:(z:Int) % 4294967296=(z:Int):=by omega
     exact Alh
   ·skip
    obtain ⟨b1,o1,x,rfl,q1,_,hx,g1'⟩:=H1.out.w32_ hlt
    have g1:=(hb.cell (p:=⟨b1,o1+k,none⟩) (aj q1 hm)).trans g1'
    have bx:=HA.out x (gM hx)
    have HX:=li (show a[k]?.getD 0=x by rw [hx];rfl)
    have ka':(k:Int)<(a.length:Int):=by omega
    clear hx g1'
    have HY:=li (show b[k]?.getD 0=0 by rw [dn (by omega)];rfl)
    have kb':¬ (k:Int)<(b.length:Int):=by omega
    by_cases hneg:(x:Int) - (br:Int)<0
    ·as_aux_lemma =>
     obtain ⟨z,hz⟩:∃ z:Nat,(x:Int) - (br:Int)+4294967296=(z:Int):=⟨((x:Int) - (br:Int)+4294967296).toNat,by omega⟩
     have HZ:=li (show z+br+0=x+4294967296*1 by omega)
     have hzb:z<4294967296:=by omega
     have hzm:(z:Int) % 4294967296=(z:Int):=by omega
     exact Alg
    ·as_aux_lemma =>
     obtain ⟨z,hz⟩:∃ z:Nat,(x:Int) - (br:Int)=(z:Int):=⟨((x:Int) - (br:Int)).toNat,by omega⟩
     have HZ:=li (show z+br+0=x+4294967296*0 by omega)
     have hzb:z<4294967296:=by omega
     have hzm:(z:Int) % 4294967296=(z:Int):=by omega
     exact Alh
  ·as_aux_lemma =>
   have hka:a.length≤k:=by omega
   have hkb:b.length≤k:=by omega
   have hke:k=a.length:=by omega
   have hwv:Az os=Az a - Az b:=by
    have hv:=HV.out
    rw [al hka,al hkb,hke] at hv
    exact AjW (HOL.out.trans hke) HOK.out hcy HLE.out hv
   have hl6:os.length≤1000000:=by have:=HOL.out;omega
   have HWV:=li hwv
   obtain ⟨G,g,rfl,hGn,hGc⟩:=HO.out.view
   obtain ⟨_,hgc,_,_⟩:=HO.out.cap_
   have HGC:=li hGc
   clear hwv hka hkb hke hGc
   go_wp2_with (go_at_call 206;refine (IK G os g wr.heap.size wr HGC.out hgc hl6).mono ?_;rintro e w3 ⟨rfl,rfl⟩)
   go_ret
   have hcan:=Cz HOK.out
   rw [HWV.out] at hcan
   refine ⟨G,g,by rw [hcan];rfl,hGn,?_,?_,hb⟩
   ·rw [←hcan,Cd]
    have:=Ea os os.length
    omega
   ·rw [←hcan]
    exact HGC.out.takeW _
theorem AhH (h:p:=by
 go_enter func81,ntmps81
 go_wp2_with fail
 go_ret
 exact ⟨rfl,(ab _ w).alloc (aa _) _⟩):p:=h
theorem ZC (neg:Bool) (A:Option Addr) (n den c m:Nat) (w:World) (hm:m≤w.heap.size) (h:An w m A (w32 (Ab n))) (hl:(Ab n).length≤100000) (ok:AjX neg n den) :
  Calls prog 81 #[.agg #[.bool neg,.slice A (Ab n).length c,.int .i64 (den:Int)]] w fun e w'=>e=.returned (.bool true)∧Below w.heap.size w w':=by
 by_cases h0:n=0
 ·obtain ⟨rfl,rfl⟩:=ok.zero h0
  subst h0
  rw [AF]
  clear h hl ok
  exact AhH
 ·have hp:=Cj h0
  have ht:=MW h0
  obtain ⟨b,off,z,rfl,q1,q2,hz,g1⟩:=h.w32_ (k:=(Ab n).length - 1) (by omega)
  have hz0:((z:Int) != 0)=true:=by
   rw [hz] at ht
   simp at ht
   simp
   omega
  have g0:w.cell? ⟨b,off,none⟩=some (.int .u32 ((n % 4294967296:Nat):Int)):=by
   obtain ⟨b',off',z',hA,_,_,hz',g'⟩:=h.w32_ (k:=0) hp
   cases hA
   rw [OY h0] at hz'
   cases hz'
   exact g'
  obtain ⟨L,hL⟩:∃ L,L=(Ab n).length - 1:=⟨_,rfl⟩
  obtain ⟨x,hx⟩:∃ x:Nat,x=n % 4294967296:=⟨_,rfl⟩
  have hlen:(Ab n).length=L+1:=by omega
  have hd:=ok.fine
  have ho:=ok.odd
  rw [←hx] at g0
  rw [←hL] at g1
  rw [hlen]
  have hl':L≤100000:=by omega
  have e0:((L:Int)+1 == 0)=false:=by simp;omega
  have hodd:den≠0→(x:Int) % 2=1:=fun hne=>by have:=ho hne;omega
  clear h hl ok ho ht hz hL hx hlen hp h0
  by_cases hden:den=0
  ·subst hden
   clear hodd hd
   exact AhH
  ·have ho:=hodd hden
   have d0:((den:Int) == 0)=false:=by simp;omega
   have d1:decide ((den:Int)≤65536)=true:=decide_eq_true (by omega)
   clear hodd hden
   exact AhH
theorem AcZ (h2:tmps.getD 2 undef=.pointer (some ⟨b,0,none⟩)) (hB:Bz w b [v0,v1,v2] 43) :
  (results Tryz.f105 tmps).run prog w=.ok (.agg #[v0,v1,v2]) w:=by
 have k0:=hB.cell 0
 have k1:=hB.cell 1
 have k2:=hB.cell 2
 simp at k0 k1 k2
 simp at h2
 simp [results,results105,go_sem,h2,k0,k1,k2]
theorem Mv (neg:Bool) (A:Option Addr) (n den c m:Nat) (w:World) (hm:m≤w.heap.size) (h:An w m A (w32 (Ab n))) (hl:(Ab n).length≤100000) (ok:AjX neg n den) :
  Calls prog 105 #[.agg #[.bool neg,.slice A (Ab n).length c,.int .i64 (den:Int)]] w fun e w'=>e=.returned (.agg #[.bool neg,.slice A (Ab n).length c,.int .i64 (den:Int)])∧Below w.heap.size w w':=by
 have H:=li h
 have OK:=li ok
 have HL:=li hl
 clear h ok hl
 have b0:Below w.heap.size w ((w.alloc (.cells #[.bool neg,.slice A (Ab n).length c,.int .i64 (den:Int)] 43)).alloc (.cells #[.bool false,.slice none 0 0,.int .i64 0] 43)):=Ao (Ao (ab _ _) _) _
 have r0:=Bz.new_ (w.alloc (.cells #[.bool neg,.slice A (Ab n).length c,.int .i64 (den:Int)] 43)) [.bool false,.slice none 0 0,.int .i64 0] 43
 go_enter func105,ntmps105
 go_wp2_with fail
 go_at_call 81
 refine (ZC neg A n den c m _ (by simp;omega) (H.out.below b0 hm) HL.out OK.out).mono ?_
 rintro e w1 ⟨rfl,hb⟩
 obtain ⟨qc,qf,qs,qz⟩:=Hi (m:=w.heap.size+2) hb (by simp) (by simp)
 have r1:=r0.below hb (by simp)
 have b1:=b0.trans (hb.mono (by simp;omega))
 have e1:(w.alloc (.cells #[.bool neg,.slice A (Ab n).length c,.int .i64 (den:Int)] 43)).heap.size=w.heap.size+1:=by simp
 rw [e1] at r1
 clear hb r0 b0 e1
 go_wp2_with fail
 refine bodyPost_ret (AcZ rfl (((r1.set_ 0 _).set_ 1 _).set_ 2 _)) rfl ⟨rfl,((b1.setCell (by simp) _).setCell (by simp) _).setCell (by simp) _⟩
theorem AhI (h:p:=by
 rintro e w1 ⟨rfl,hb⟩
 obtain ⟨qc,qf,qs,qz⟩:=Hi (m:=w.heap.size+1) hb (by simp) (by simp)
 have b1:=b0.trans (hb.mono (by simp))
 clear hb r0 b0
 go_wp2_with fail
 go_ret
 exact ⟨by rw [SV];rfl,((b1.setCell (by simp) _).setCell (by simp) _).setCell (by simp) _⟩):p:=h
theorem Ada (neg:Bool) (A:Option Addr) (n den c m:Nat) (w:World) (hm:m≤w.heap.size) (h:An w m A (w32 (Ab n))) (hl:(Ab n).length≤100000) (ok:AjX neg n den) :
  Calls prog 41 #[.agg #[.bool neg,.slice A (Ab n).length c,.int .i64 (den:Int)]] w fun e w'=>e=.returned (.int .i64 (sgn neg n))∧Below w.heap.size w w':=by
 have H:=li h
 have OK:=li ok
 have HL:=li hl
 clear h ok hl
 have b0:Below w.heap.size w (w.alloc (.cells #[.bool neg,.slice A (Ab n).length c,.int .i64 (den:Int)] 43)):=Ao (ab _ _) _
 have r0:=Bz.new_ w [.bool neg,.slice A (Ab n).length c,.int .i64 (den:Int)] 43
 by_cases h0:n=0
 ·have SV:sgn neg n=0:=by simp [sgn,h0]
  have ez:(((Ab n).length:Int) == 0)=true:=by rw [h0,AF];rfl
  clear h0
  go_enter func41,ntmps41
  go_wp2_with fail
  go_at_call 105
  refine (Mv neg A n den c m _ (by simp;omega) (H.out.below b0 hm) HL.out OK.out).mono ?_
  exact AhI
 ·have hp:=Cj h0
  have ez:(((Ab n).length:Int) == 0)=false:=by rw [beq_eq_false_iff_ne];omega
  cases neg with
  | true =>
   have SV:sgn true n = -1:=by simp [sgn,h0]
   clear hp h0
   go_enter func41,ntmps41
   go_wp2_with fail
   go_at_call 105
   refine (Mv true A n den c m _ (by simp;omega) (H.out.below b0 hm) HL.out OK.out).mono ?_
   exact AhI
  | false =>
   have SV:sgn false n=1:=by simp [sgn,h0]
   clear hp h0
   go_enter func41,ntmps41
   go_wp2_with fail
   go_at_call 105
   refine (Mv false A n den c m _ (by simp;omega) (H.out.below b0 hm) HL.out OK.out).mono ?_
   exact AhI
theorem Adb (A:Option Addr) (a:List Nat) (c n m:Nat) (w:World) (hm:m≤w.heap.size) (h1:An w m A (w32 a)) (ha:Ar a) (l1:a.length≤100000) (hn:n≤1000000) :
    Calls prog 106 #[.slice A a.length c,.int .i64 (n:Int)] w fun e w' =>
      ∃ G g,e=.returned (.slice G (Ab (Az a*2 ^ n)).length g)∧(G=none→g=0)∧(Ab (Az a*2 ^ n)).length≤g∧An w' w'.heap.size G (w32 (Ab (Az a*2 ^ n)))∧Below w.heap.size w w':=by
  rw [MZ n]
  obtain ⟨q,hq⟩:∃ q,q=n / 32:=⟨_,rfl⟩
  obtain ⟨p,hp⟩:∃ p,p=2 ^ (n % 32):=⟨_,rfl⟩
  have hp0:0<p:=by rw [hp];exact ax _
  have hp32:p≤2147483648:=by
    rw [hp]
    exact ap (n := 2) (by decide) (show n % 32 ≤ 31 by omega)
  rw [←hq,←hp]
  have HP:=li hp
  have H1:=li h1
  have HA:=li ha
  have hqi:(n:Int) / 32=(q:Int):=by omega
  have hq6:q≤31250:=by omega
  clear h1 ha hp hq
  obtain ⟨i0,hi,hz0,hz1,hz2⟩:=info_parts Qe
  go_enter func106,ntmps106
  go_wp2_with (with_reducible refine wpList_make_full _ rfl (.tmp 10) (.tmp 10) 41 rfl w.heap.size 126 i0 (.int .u32 0) 1 HH hi hz0 hz1 .i64 .i64 _ _ q rfl rfl rfl rfl (by rw [hz2];omega) (by unfold maxLen;omega) (aa _) ?_;intro w2 hown hg)
  have hst:=(ab w.heap.size w).grown hg (aa _) (fun k h=>by simp at h)
  have hown2:Dw w2 w.heap.size (.slice (some ⟨w.heap.size,0,none⟩) q q) (List.replicate q 0):=by
    have e1:w32 (List.replicate q 0)=(madeCells (Value.int .u32 0).cells (q*1)).toList:=by
      rw [cr]
      have:=toList_madeCells_one (Value.int .u32 0) q
      simp only [w32,List.map_replicate]
      exact this.symm
    unfold Dw
    rw [e1,gg]
    exact hown
  have hsz:=hst.size
  clear hown hg hi hz0 hz1 hz2
  go_loopw [5,6,14] (fun v cv i wr=>Aom w a q p v cv i wr) (fun _ _ i _=>a.length - (intOf i).toNat)
  case atStart=>exact ⟨0,List.replicate q 0,0,ad _,rfl,rfl,hown2,by simp,MY q,hp0,by simp [Eq,Az],hst⟩
  case round =>
    as_aux_lemma =>
    obtain ⟨k,os,cy,hk,rfl,rfl,hown,hol,hok,hcy,hv,hb⟩:=hrel
    have HO:=li hown
    have HOL:=li hol
    have HOK:=li hok
    have HV:=li hv
    clear hown hol hok hv hown2 hst
    have hsz:=hb.size
    by_cases hlt:k<a.length
    · as_aux_lemma =>
      obtain ⟨b1,o1,x,rfl,q1,_,hx,g1'⟩:=H1.out.w32_ hlt
      have g1:=(hb.cell (p:=⟨b1,o1+k,none⟩) (aj q1 hm)).trans g1'
      have bx:=HA.out x (gM hx)
      have HX := li (show a[k]?.getD 0 = x by rw [hx]; rfl)
      have ka':(k:Int)<(a.length:Int):=by omega
      clear hx g1'
      obtain ⟨s,hs⟩:∃ s:Nat,s=cy+x*p:=⟨_,rfl⟩
      have hor:bits .or .u64 (cy:Int) (IntKind.u64.wrap ((x:Int)*2 ^ (n % 32)))=(s:Int):=by
        rw [hs]
        exact Aol HP.out hcy bx (by omega)
      have HC:=li (Yu hcy bx)
      rw [←hs] at HC
      obtain ⟨z,hz⟩:∃ z:Nat,(s:Int) % 4294967296=(z:Int):=⟨(s % 4294967296:Nat),by omega⟩
      obtain ⟨c',hc'⟩:∃ c':Nat,(s:Int) / 4294967296=(c':Int):=⟨(s / 4294967296:Nat),by omega⟩
      have HZ := li (show z + 4294967296 * c' = cy + x * p by rw [← hs]; omega)
      have hzb:z<4294967296:=by omega
      have HC2 := li (show c' < p by have h := HC.out; omega)
      clear hs HC
      go_wp2_with (at_builtin;refine LL rfl _ _ rfl w.heap.size _ os z wr.heap.size rfl (HO.out.alloc _) rfl (by simp [go_sem]) (by have:=HOL.out;omega) (by simp;omega) ?_;intro v' w3 hown3 hg3 hb3)
      exact ⟨⟨k+1,os++[z],c',by omega,by go_num,rfl,hown3,by rw [ak,HOL.out];rfl,Cb HOK.out hzb,HC2.out,Yv HOL.out HX.out HV.out HZ.out,hb.trans ((((ab _ wr).alloc (aa _) _).mono hb.size).trans hb3)⟩,by simp [intOf];omega⟩
    · as_aux_lemma =>
      have hle:¬ (k:Int)<(a.length:Int):=by omega
      have hka:a.length≤k:=by omega
      have hcy32:cy<4294967296:=by omega
      have hcym:(cy:Int) % 4294967296=(cy:Int):=by omega
      obtain ⟨ws,hws⟩:∃ ws,ws=os++[cy]:=⟨_,rfl⟩
      have hwok:Ar ws:=by rw [hws];exact Cb HOK.out hcy32
      have hwl:ws.length=q+k+1:=by rw [hws,ak,HOL.out];rfl
      have hwv:Az ws=Az a*(4294967296 ^ q*p):=by
        have hv:=HV.out
        rw [al hka] at hv
        rw [hws,BM,HOL.out,←hv]
        simp only [Az,Nat.mul_zero,bz]
      have hl6:ws.length≤1000000:=by omega
      have HWS:=li hws
      have HWO:=li hwok
      have HWV:=li hwv
      clear hws hwok hwv hka hwl hlt
      go_wp2_with (first
        | (go_at_call 206;refine (IK G ws g w3.heap.size w3 hGc hgc hl6).mono ?_;rintro e w4 ⟨rfl,rfl⟩)
        | (at_builtin;refine LL rfl _ _ rfl w.heap.size _ os cy wr.heap.size rfl (HO.out.alloc _) rfl (by simp [go_sem]) (by have:=HOL.out;omega) (by simp;omega) ?_;intro v' w3 hown3 hg3 hb3;rw [←HWS.out] at hown3;obtain ⟨G,g,rfl,hGn,hGc⟩:=hown3.view;obtain ⟨_,hgc,_,_⟩:=hown3.cap_))
      go_ret
      have hcan:=Cz HWO.out
      rw [HWV.out] at hcan
      refine ⟨G,g,by rw [hcan];rfl,hGn,?_,?_,hb.trans ((((ab _ wr).alloc (aa _) _).mono hb.size).trans hb3)⟩
      · rw [←hcan,Cd]
        have:=Ea ws ws.length
        omega
      · rw [←hcan]
        exact hGc.takeW _
theorem Ali (h:p:=by
 clear hzn
 have HZB:=li (show z<4294967296 by rw [HZ.out];exact eh _ (by decide))
 have hj2:q+(j+1)≤a.length:=by have:=HIJ.out;omega
 go_wp2_with (at_builtin;refine LL rfl _ _ rfl w.heap.size _ os z wr.heap.size rfl (HO.out.alloc _) rfl (by simp [go_sem]) (by have:=HOL.out;omega) (by simp;omega) ?_;intro v' w3 hown3 hg3 hb3)
 exact ⟨⟨j+1,os++[z],hj2,by rw [←HIJ.out],hown3,by rw [ak,HOL.out];rfl,Cb HOK.out HZB.out,Yx HA.out HOL.out HV.out HZ.out,hb.trans ((((ab _ wr).alloc (aa _) _).mono hb.size).trans hb3)⟩,by simp [intOf];try omega⟩):p:=h
theorem Alj (h:p:=by
 rw [e] at hl
 rw [fk (aj hl (ap (by decide) (by omega))),AF]):p:=h
theorem NK (A:Option Addr) (a:List Nat) (c n m:Nat) (w:World) (hm:m≤w.heap.size) (h1:An w m A (w32 a)) (ha:Ar a) (l1:a.length≤100000) (hn:n≤1000000) :
  Calls prog 207 #[.slice A a.length c,.int .i64 (n:Int)] w fun e w' =>
   ∃ G g,e=.returned (.tuple #[.slice G (Ab (Az a / 2 ^ n)).length g,.bool (Ml (Az a) n)])∧(G=none→g=0)∧(Ab (Az a / 2 ^ n)).length≤g∧An w' w'.heap.size G (w32 (Ab (Az a / 2 ^ n)))∧Below w.heap.size w w':=by
 have H1:=li h1
 have HA:=li ha
 clear h1 ha
 go_enter func207,ntmps207
 go_wp2_with fail
 go_loopw [6,7] (fun cv i wr=>Aoo a n w cv i wr) (fun _ i _=>n - (intOf i).toNat)
 case atStart=>exact ⟨0,ad _,ad _,rfl,by rw [Yw],rfl⟩
 case round =>
  obtain ⟨k,hk,hkl,rfl,rfl,rfl⟩:=hrel
  by_cases hlt:k<n
  ·by_cases hlt2:k<32*a.length
   ·obtain ⟨q,hq⟩:∃ q,q=k / 32:=⟨_,rfl⟩
    have hka:q<a.length:=by omega
    obtain ⟨b1,o1,x,rfl,q1,_,hx,g1⟩:=H1.out.w32_ hka
    have bx:=HA.out x (gM hx)
    have HX:=li (show a[k / 32]?.getD 0=x by rw [←hq,hx];rfl)
    have i1:(k:Int)<(n:Int):=by omega
    have i2:(k:Int)<32*(a.length:Int):=by omega
    have i3:(k:Int) / 32=(q:Int):=by omega
    have i4:(q:Int)<(a.length:Int):=by omega
    clear hq
    clear hx
    obtain ⟨cb,hcb⟩:∃ cb,cb=Ml (Az a) k:=⟨_,rfl⟩
    rw [←hcb]
    have HC:=li hcb
    clear hcb
    cases cb with
    | true =>
     go_wp2_with fail
     have e:=RH (Az a) k
     rw [←HC.out] at e
     exact ⟨⟨k+1,by omega,by omega,by go_num,by rw [e];rfl,rfl⟩,by simp [intOf];omega⟩
    | false =>
     go_wp2_with fail
     have e:=RH (Az a) k
     rw [←HC.out,←AeP HA.out bx HX.out] at e
     exact ⟨⟨k+1,by omega,by omega,by go_num,by rw [e];rfl,rfl⟩,by simp [intOf];omega⟩
   ·as_aux_lemma =>
    have hc:Ml (Az a) k=Ml (Az a) n:=by
     have hl:=BE HA.out
     have e:(4294967296:Nat) ^ a.length=2 ^ (32*a.length):=by
      rw [dp]
     rw [e,show 32*a.length=k by omega] at hl
     exact (Acq hl hk).symm
    have hz:Ab (Az a / 2 ^ n)=[]:=by
     have hl:=BE HA.out
     have e:(4294967296:Nat) ^ a.length=2 ^ (32*a.length):=by
      rw [dp]
     exact Alj
    have i1:(k:Int)<(n:Int):=by omega
    have i2:¬ (k:Int)<32*(a.length:Int):=by omega
    have i3:32*(a.length:Int)≤(n:Int):=by omega
    rw [hc]
    have HZ:=li hz
    clear hc hz
    go_wp2_with fail
    exact bodyPost_ret (v:=.tuple #[.slice none 0 0,.bool (Ml (Az a) n)]) (by simp [results,results207,go_sem]) rfl ⟨none,0,by rw [HZ.out];rfl,fun _=>rfl,by rw [HZ.out];exact aa _,by rw [HZ.out];exact An.nil_,ab _ _⟩
  ·have hkn:k=n:=by omega
   subst hkn
   have i1:¬ (k:Int)<(k:Int):=by omega
   by_cases hlt2:k<32*a.length
   ·as_aux_lemma =>
    obtain ⟨q,hq⟩:∃ q,q=k / 32:=⟨_,rfl⟩
    have hql:q<a.length:=by omega
    have i3:¬ 32*(a.length:Int)≤(k:Int):=by omega
    have i4:(k:Int) / 32=(q:Int):=by omega
    have HQ:=li hq
    clear hlt hlt2 hq hkl hk
    go_wp2_with fail
    go_loopw [8,9] (fun v i wr=>AjY w a k q v i wr) (fun _ i _=>a.length - (intOf i).toNat)
    case atStart=>exact ⟨0,[],by omega,by simp,Dw.nil_ _ _,rfl,by simp [Ar],by simp [Az,Nat.mod_one],ab _ _⟩
    case round =>
     as_aux_lemma =>
     obtain ⟨j,os,hj,rfl,hown,hol,hok,hv,hb⟩:=hrel
     have HO:=li hown
     have HOL:=li hol
     have HOK:=li hok
     have HV:=li hv
     clear hown hol hok hv
     have hsz:=hb.size
     obtain ⟨i,hi⟩:∃ i,i=q+j:=⟨_,rfl⟩
     rw [←hi]
     have hij:(i:Int)+1=((q+(j+1):Nat):Int):=by omega
     have HIJ:=li hij
     have HI:=li hi
     have hjl:j<1000000:=by omega
     clear hi hij hj
     by_cases hlt:i<a.length
     ·obtain ⟨b1,o1,x,rfl,q1,_,hx,g1'⟩:=H1.out.w32_ hlt
      have g1:=(hb.cell (p:=⟨b1,o1+i,none⟩) (aj q1 hm)).trans g1'
      have bx:=HA.out x (gM hx)
      have HX:=li (show a[k / 32+j]?.getD 0=x by rw [←HQ.out,←HI.out,hx];rfl)
      have ka':(i:Int)<(a.length:Int):=by omega
      clear hx g1'
      by_cases hlt2:i+1<a.length
      ·obtain ⟨b2,o2,y,hA2,q2,_,hy,g2'⟩:=H1.out.w32_ hlt2
       cases hA2
       have g2:=(hb.cell (p:=⟨b1,o1+(i+1),none⟩) (aj q1 hm)).trans g2'
       have by':=HA.out y (gM hy)
       have HY:=li (show a[k / 32+j+1]?.getD 0=y by rw [←HQ.out,←HI.out,hy];rfl)
       have kb':(i:Int)+1<(a.length:Int):=by omega
       clear hy g2'
       obtain ⟨z,hzn⟩:∃ z:Nat,z=(x+y*4294967296) / 2 ^ (k % 32) % 4294967296:=⟨_,rfl⟩
       have hz:(bits .or .u64 (x:Int) ((y:Int)*4294967296) / 2 ^ (k % 32) % 4294967296)=(z:Int):=by rw [hzn,Aon bx by'];simp
       have HZ:=li (show z=(a[k / 32+j]?.getD 0+a[k / 32+j+1]?.getD 0*4294967296) / 2 ^ (k % 32) % 4294967296 by rw [HX.out,HY.out];exact hzn)
       exact Ali
      ·have HY:=li (show a[k / 32+j+1]?.getD 0=0 by rw [←HQ.out,←HI.out,dn (by omega)];rfl)
       have kb':¬ (i:Int)+1<(a.length:Int):=by omega
       obtain ⟨z,hzn⟩:∃ z:Nat,z=x / 2 ^ (k % 32) % 4294967296:=⟨_,rfl⟩
       have hz:((x:Int) / 2 ^ (k % 32) % 4294967296)=(z:Int):=by rw [hzn];simp
       have HZ:=li (show z=(a[k / 32+j]?.getD 0+a[k / 32+j+1]?.getD 0*4294967296) / 2 ^ (k % 32) % 4294967296 by rw [HX.out,HY.out,fc,bz];exact hzn)
       exact Ali
     ·as_aux_lemma =>
      have hle:¬ (i:Int)<(a.length:Int):=by omega
      have hl6:os.length≤1000000:=by have:=HOL.out;omega
      have HWV:=li (AeO (k:=j) HA.out (by have:=HI.out;have:=HQ.out;omega) HV.out)
      obtain ⟨G,g,rfl,hGn,hGc⟩:=HO.out.view
      obtain ⟨_,hgc,_,_⟩:=HO.out.cap_
      have HGC:=li hGc
      clear hGc
      go_wp2_with (go_at_call 206;refine (IK G os g wr.heap.size wr HGC.out hgc hl6).mono ?_;rintro e w3 ⟨rfl,rfl⟩)
      have hcan:=Cz HOK.out
      rw [HWV.out] at hcan
      refine bodyPost_ret (v:=.tuple #[.slice G (HG os).length g,.bool (Ml (Az a) k)]) (by simp [results,results207,go_sem]) rfl ⟨G,g,by rw [hcan],hGn,?_,?_,hb⟩
      ·rw [←hcan,Cd]
       have:=Ea os os.length
       omega
      ·rw [←hcan]
       exact HGC.out.takeW _
   ·as_aux_lemma =>
    have hz:Ab (Az a / 2 ^ k)=[]:=by
     have hl:=BE HA.out
     have e:(4294967296:Nat) ^ a.length=2 ^ (32*a.length):=by
      rw [dp]
     exact Alj
    have i3:32*(a.length:Int)≤(k:Int):=by omega
    have HZ:=li hz
    clear hz
    go_wp2_with fail
    exact bodyPost_ret (v:=.tuple #[.slice none 0 0,.bool (Ml (Az a) k)]) (by simp [results,results207,go_sem]) rfl ⟨none,0,by rw [HZ.out];rfl,fun _=>rfl,by rw [HZ.out];exact aa _,by rw [HZ.out];exact An.nil_,ab _ _⟩
theorem Ps (h2:tmps.getD 6 undef=.pointer (some ⟨b,0,none⟩)) (hB:Bz w b [v0,v1,v2] 43) :
  (results Tryz.f107 tmps).run prog w=.ok (.agg #[v0,v1,v2]) w:=by
 have k0:=hB.cell 0
 have k1:=hB.cell 1
 have k2:=hB.cell 2
 simp at k0 k1 k2
 simp at h2
 simp [results,results107,go_sem,h2,k0,k1,k2]
theorem Alk (h:p:=by
  obtain ⟨y,hy⟩:∃ y,y=n / 2 ^ k:=⟨_,rfl⟩
  rw [←hy] at hodd hy0
  have HRES := li (show nf (sg neg n) den = (sg neg y, den - k) by rw [HNF.out, ← hy]; exact Fb (fun h => by have := hodd h; unfold sg; split <;> omega))
  have HY:=li hy
  have HODD:=li hodd
  have HY0:=li hy0
  have hp:=Cj hy0
  have e0:(((Ab y).length:Int) == 0)=false:=by rw [beq_eq_false_iff_ne];omega
  have hyl:(Ab y).length≤100000:=by
    refine lT (AJ ?_) l2
    rw [hy]
    exact ik _ _
  clear hy hodd hy0 hp
  go_wp2_with (first
    | (go_at_call 207
       refine (NK _ (Ab n) c k m _ (by simp;omega) (HCT.out.below b0 hm) (Ay n) l2 (by omega)).mono ?_
       rintro e w2 ⟨G,g,rfl,hG,hg,hcG,hb2⟩
       rw [Am,←HY.out] at hg hcG ⊢
       have hsz2:=hb2.size
       simp at hsz2
       have hszl:w.heap.size<w2.heap.size:=by omega)
    | (at_builtin
       refine AjU rfl _ _ rfl w2.heap.size _ [] (Ab y) G g w2.heap.size rfl (Dw.lit0 (aa _)) rfl hG (hcG.below ((ab w2.heap.size w2).alloc (aa _) _) (aa _)) (by simp;omega) (by simp) ?_
       intro v' w4 hown4 hg4 hb4
       rw [dz] at hown4
       obtain ⟨A',c',rfl,_,_⟩:=hown4.view
       have hall:Below (w.heap.size+1) (w.alloc (.cells #[.bool false,.slice none 0 0,.int .i64 0] 43)) w4:=(hb2.mono (by simp)).trans ((((ab (w.heap.size+1) w2).alloc (by omega) _)).trans (hb4.mono (by omega)))
       have hsz4:=hb4.size
       simp at hsz4
       have hsz5:w.heap.size<w4.heap.size:=by omega
       have r4:=r0.below hall (by simp)
       have bb4:=b0.trans (hall.mono (by simp))
       clear hb2 hb4 hg4
       obtain ⟨qc,qf,qs,qz⟩:=Hi (m:=w.heap.size+1) hall (by simp) (by simp)))
  have hown5:Dw (((w4.setCell ⟨w.heap.size,0,none⟩ (.bool neg)).setCell ⟨w.heap.size,1,none⟩ (.slice A' (Ab y).length c')).setCell ⟨w.heap.size,2,none⟩ (.int .i64 ((den:Int) - (k:Int)))) w2.heap.size (.slice A' (Ab y).length c') (Ab y):=ownsRow_setCell_below (ownsRow_setCell_below (ownsRow_setCell_below hown4 (by simp;omega) _) (by simp;omega) _) (by simp;omega) _
  refine bodyPost_ret (Ps rfl (((r4.set_ 0 _).set_ 1 _).set_ 2 _)) rfl ⟨_,rfl,?_,((bb4.setCell (by simp) _).setCell (by simp) _).setCell (by simp) _⟩
  rw [HRES.out]
  obtain ⟨_,hcl,hn',hc'⟩:=hown5.cap_
  refine ⟨A',c',?_,hn',?_,?_,?_,by show den - k≤65536;omega,?_⟩
  · rw [Hk,Yz HY0.out]
    have:(den:Int) - (k:Int)=((den - k:Nat):Int):=by omega
    rw [this]
  · rw [Hk];exact hcl
  · rw [Hk];exact hc'
  · intro a ha
    have:=(World.ownsRow.lt hown5 a.block (by rw [ha];rfl)).1
    omega
  · intro h
    have:=HODD.out h
    show sg neg y % 2=1
    unfold sg
    split <;> omega):p:=h
theorem All (h:p:=by
  go_wp2_with (go_at_call 207
               refine (NK _ [] c 0 m _ (by simp;omega) (HCT.out.below b0 hm) (by simp [Ar]) (by simp) (by omega)).mono ?_
               rintro e w2 ⟨G,g,rfl,hG,hg,hcG,hb2⟩
               rw [show Az [] / 2 ^ 0=0 by rfl,AF]
               have hsz2:=hb2.size
               simp at hsz2
               have hszl:w.heap.size<w2.heap.size:=by omega
               obtain ⟨qc,qf,qs,qz⟩:=Hi (m:=w.heap.size+1) hb2 (by simp) (by simp)
               have r4:=r0.below hb2 (by simp)
               have bb4:=b0.trans (hb2.mono (by simp)))
  refine bodyPost_ret (Ps rfl (((r4.set_ 0 _).set_ 1 _).set_ 2 _)) rfl ⟨_,rfl,?_,((bb4.setCell (by simp) _).setCell (by simp) _).setCell (by simp) _⟩
  rw [HR.out]
  exact DyR.zero_ _ _ _):p:=h
theorem GW (neg:Bool) (A:Option Addr) (ws:List Nat) (c den m:Nat) (w:World) (hm:m≤w.heap.size) (h1:An w m A (w32 ws)) (hc:ws.length≤c) (ha:Ar ws) (l1:ws.length≤100000) (hd:den≤65536) :
  Calls prog 107 #[.bool neg,.slice A ws.length c,.int .i64 (den:Int)] w fun e w' =>
   ∃ v,e=.returned v∧DyR w' w.heap.size w'.heap.size v (nf (sg neg (Az ws)) den).1 (nf (sg neg (Az ws)) den).2∧Below w.heap.size w w':=by
 have hcan:=Cz ha
 have hlen:(Ab (Az ws)).length≤ws.length:=by
  rw [←hcan,Cd]
  exact Ea _ _
 have HCAN:=li hcan
 have H1:=li h1
 have hct:=h1.takeW (Dt ws ws.length)
 rw [show ws.take (Dt ws ws.length)=Ab (Az ws) from hcan] at hct
 have HCT:=li hct
 obtain ⟨n,hn⟩:∃ n,n=Az ws:=⟨_,rfl⟩
 rw [←hn] at HCT HCAN hlen ⊢
 have l2:(Ab n).length≤100000:=by omega
 have l3:(Ab n).length≤c:=by omega
 have l4:ws.length≤1000000:=by omega
 clear h1 ha hcan hct hn
 have b0:Below w.heap.size w (w.alloc (.cells #[.bool false,.slice none 0 0,.int .i64 0] 43)):=Ao (ab _ _) _
 have r0:=Bz.new_ w [.bool false,.slice none 0 0,.int .i64 0] 43
 go_enter func107,ntmps107
 go_wp2_with (go_at_call 206;refine (IK A ws c m _ (H1.out.below b0 hm) hc l4).mono ?_;rintro e w3 ⟨rfl,rfl⟩)
 rw [HCAN.out]
 by_cases hn0:n=0
 ·subst hn0
  have hr:nf (sg neg 0) den=(0,0):=by
   rw [show sg neg 0=0 by unfold sg;split <;> rfl]
   exact TK den
  have HR:=li hr
  clear hr
  rw [AF] at HCT ⊢
  clear l2 l3 hlen
  go_loopw [7] (fun i wr=>Aop (w.alloc (.cells #[.bool false,.slice none 0 0,.int .i64 0] 43)) i wr) (fun i _=>0)
  case atStart=>exact ⟨rfl,rfl⟩
  case round =>
   obtain ⟨rfl,rfl⟩:=hrel
   have i9:¬ (65536:Int)<(den:Int):=by omega
   by_cases hlt:den=0
   ·subst hlt
    exact All
   ·have i1:0<den:=by omega
    have i2:(0:Int)<(den:Int):=by omega
    clear hlt
    exact All
 ·have HN0:=li hn0
  have hn1:=Cj hn0
  clear hn0
  go_loopw [7] (fun i wr=>Aoq n den neg (w.alloc (.cells #[.bool false,.slice none 0 0,.int .i64 0] 43)) i wr) (fun i _=>den - (intOf i).toNat)
  case atStart=>exact ⟨0,ad _,ad _,rfl,Nat.mod_one _,by simp,rfl⟩
  case round =>
   skip
   obtain ⟨k,hk,hkl,rfl,hmod,hnf,rfl⟩:=hrel
   have HNF:=li hnf
   have HMOD:=li hmod
   clear hnf hmod
   have i9:¬ (65536:Int)<(den:Int) - (k:Int):=by omega
   by_cases hlt:k<den
   ·have i1:(k:Int)<(den:Int):=by omega
    have hlt2:k<32*(Ab n).length:=by
     rcases cn k (32*(Ab n).length) with h|h
     ·exact h
     ·exfalso
      have h2:=BE (Ay n)
      rw [Am,show (4294967296:Nat)=2 ^ 32 by decide,←dp,show 32*(Ab n).length=k by omega] at h2
      have h3:=HMOD.out
      rw [dw h2] at h3
      exact HN0.out h3
    obtain ⟨q,hq⟩:∃ q,q=k / 32:=⟨_,rfl⟩
    have hka:q<(Ab n).length:=by omega
    obtain ⟨b1,o1,x,rfl,q1,_,hx,g1'⟩:=HCT.out.w32_ hka
    have g1:=(b0.cell (p:=⟨b1,o1+q,none⟩) (aj q1 hm)).trans g1'
    have bx:=Ay n x (gM hx)
    have hbit:=AeP (Ay n) bx (show (Ab n)[k / 32]?.getD 0=x by rw [←hq,hx];rfl)
    have hbit0:=AjZ (Ay n) bx (show (Ab n)[k / 32]?.getD 0=x by rw [←hq,hx];rfl)
    rw [Am] at hbit hbit0
    have i2:(k:Int)<32*((Ab n).length:Int):=by omega
    have i3:(k:Int) / 32=(q:Int):=by omega
    have i4:(q:Int)<((Ab n).length:Int):=by omega
    clear hq hx g1' hbit
    by_cases hz:n / 2 ^ k % 2=0
    ·have hb0:(bits .and .u32 ((x:Int) / 2 ^ (k % 32)) 1 == 0)=true:=by rw [hbit0,hz];rfl
     have HZ:=li hz
     clear hbit0 hz
     go_wp2_with fail
     refine ⟨⟨k+1,by omega,by omega,by go_num,Aka HMOD.out HZ.out,HNF.out.trans (YA hlt HZ.out),rfl⟩,by simp [intOf];omega⟩
    ·have hb0:(bits .and .u32 ((x:Int) / 2 ^ (k % 32)) 1 == 0)=false:=by rw [hbit0];simp;omega
     have hodd:den - k≠0→n / 2 ^ k % 2=1:=fun _=>by omega
     have hy0:n / 2 ^ k≠0:=fun h=>by rw [h] at hz;exact hz rfl
     clear hbit0 hz
     exact Alk
   ·have hkd:k=den:=by omega
    have i1:¬ (k:Int)<(den:Int):=by omega
    have hodd:den - k≠0→n / 2 ^ k % 2=1:=fun h=>by omega
    have hy0:n / 2 ^ k≠0:=fun h=>by
     have h2:=dh n (2 ^ k)
     rw [h,HMOD.out] at h2
     exact HN0.out (by omega)
    clear hkd
    exact Alk
theorem IL {v:Value} {x:Int} (D:DyR w lo m v x d) (hm:m≤w.heap.size) (hl:(Ab x.natAbs).length≤100000) :
  Calls prog 105 #[v] w fun e w'=>e=.returned v∧Below w.heap.size w w':=by
 obtain ⟨A,c,rfl,h1,h2,h3,h4,h5,h6⟩:=D
 exact Mv _ A _ d c m w hm h3 hl (AgS h5 h6)
theorem Alm {v:Value} {x:Int} (D:DyR w lo m v x d) (hm:m≤w.heap.size) (hl:(Ab x.natAbs).length≤100000) :
  Calls prog 41 #[v] w fun e w'=>e=.returned (.int .i64 (sgI x))∧Below w.heap.size w w':=by
 obtain ⟨A,c,rfl,h1,h2,h3,h4,h5,h6⟩:=D
 refine (Ada _ A _ d c m w hm h3 hl (AgS h5 h6)).mono ?_
 rintro e w' ⟨rfl,hb⟩
 refine ⟨?_,hb⟩
 have:sgn (decide (x<0)) x.natAbs=sgI x:=by
  unfold sgn sgI
  by_cases h0:x=0
  ·subst h0;rfl
  ·rw [if_neg (by omega),if_neg h0]
   by_cases h1:x<0
   ·simp [h1]
   ·simp [h1]
 rw [this]
theorem QD {neg:Bool} {A:Option Addr} {L:Nat} (hL:L=(Ab n).length) (hc:An w m A (w32 (Ab n))) (hcap:L≤c) (hm:m≤w.heap.size) (hl:(Ab n).length≤100000) (hd:d≤65536) :
  Calls prog 107 #[.bool neg,.slice A L c,.int .i64 (d:Int)] w fun e w' =>
   ∃ v,e=.returned v∧DyR w' w.heap.size w'.heap.size v (nf (sg neg n) d).1 (nf (sg neg n) d).2∧Below w.heap.size w w':=by
 subst hL
 have h:=GW neg A (Ab n) c d m w hm hc hcap (Ay n) hl hd
 rw [Am] at h
 exact h
theorem AhJ (h2:tmps.getD 2 undef=.pointer (some ⟨b,0,none⟩)) (hB:Bz w b [v0,v1,v2] 43) :
  (results Tryz.f112 tmps).run prog w=.ok (.agg #[v0,v1,v2]) w:=by
 have k0:=hB.cell 0
 have k1:=hB.cell 1
 have k2:=hB.cell 2
 simp at k0 k1 k2
 simp at h2
 simp [results,results112,go_sem,h2,k0,k1,k2]
theorem ZD (h:p:=by
 exact ((((D3'.out.set_ (by omega) 0 _).set_ (by omega) 1 _).set_ (by omega) 2 _).low (by omega)).more (by simp)):p:=h
theorem Aln {v:Value} {x:Int} (D:DyR w lo m v x d) (hm:m≤w.heap.size) (hl:(Ab x.natAbs).length≤100000) :
  Calls prog 112 #[v] w fun e w'=>∃ v',e=.returned v'∧DyR w' w.heap.size w'.heap.size v' (-x) d∧Below w.heap.size w w':=by
 obtain ⟨nb,A,L,c,rfl,HD⟩:=D.form
 have D':=li D
 clear D
 have b0:Below w.heap.size w ((w.alloc (.cells #[.bool nb,.slice A L c,.int .i64 (d:Int)] 43)).alloc (.cells #[.bool false,.slice none 0 0,.int .i64 0] 43)):=Ao (Ao (ab _ _) _) _
 have r0:=(Bz.new_ (w.alloc (.cells #[.bool nb,.slice A L c,.int .i64 (d:Int)] 43)) [.bool false,.slice none 0 0,.int .i64 0] 43)
 rw [show (w.alloc (.cells #[.bool nb,.slice A L c,.int .i64 (d:Int)] 43)).heap.size=w.heap.size+1 by simp] at r0
 go_enter func112,ntmps112
 go_wp2_with fail
 go_at_call 105
 refine (IL (D'.out.below b0 hm) (by simp;omega) hl).mono ?_
 rintro e w1 ⟨rfl,hb⟩
 obtain ⟨qc,qf,qs,qz⟩:=Hi (m:=w.heap.size+2) hb (by simp) (by simp)
 have r1:=r0.below hb (by simp)
 have b1:=b0.trans (hb.mono (by simp;omega))
 clear hb r0 b0
 go_wp2_with fail
 go_at_call 107
 obtain ⟨W,hW⟩:∃ W,W=((w1.setCell ⟨w.heap.size,0,none⟩ (.bool nb)).setCell ⟨w.heap.size,1,none⟩ (.slice A L c)).setCell ⟨w.heap.size,2,none⟩ (.int .i64 (d:Int)):=⟨_,rfl⟩
 have hWs:w.heap.size+2≤W.heap.size:=by rw [hW];simp;omega
 have b2:Below w.heap.size w W:=by rw [hW];exact ((b1.setCell (by simp) _).setCell (by simp) _).setCell (by simp) _
 have r2:Bz W (w.heap.size+1) [.bool false,.slice none 0 0,.int .i64 0] 43:=by
  rw [hW]
  exact ((r1.other_ (by omega) _ _).other_ (by omega) _ _).other_ (by omega) _ _
 rw [←hW]
 clear hW qc qf qs qz r1 b1
 refine (QD (n:=x.natAbs) (m:=m) HD.out.2.1 (HD.out.2.2.2.2.1.below b2 hm) HD.out.2.2.2.1 (by omega) hl HD.out.2.2.2.2.2.1).mono ?_
 rintro e w3 ⟨v',rfl,D3,hb3⟩
 obtain ⟨tc,tf,ts,tz⟩:=Hi (m:=w.heap.size+2) hb3 hWs hWs
 have r3:=r2.below hb3 (by omega)
 have b3:=b2.trans (hb3.mono (by omega))
 have hval:nf (sg (!nb) x.natAbs) d=(-x,d):=by
  have e:sg (!nb) x.natAbs = -x:=by
   rw [HD.out.1]
   unfold sg
   by_cases h:x<0
   ·simp [h];omega
   ·simp [h];omega
  rw [e]
  exact Akb (fun h=>by have:=HD.out.2.2.2.2.2.2 h;omega)
 rw [hval] at D3
 obtain ⟨nb3,A3,L3,c3,rfl,_⟩:=D3.form
 have D3':=li D3
 have k0:w3.cell? ⟨w.heap.size+1,0,none⟩=some (.bool false):=r3.cell 0
 have k1:w3.cell? ⟨w.heap.size+1,1,none⟩=some (.slice none 0 0):=r3.cell 1
 have k2:w3.cell? ⟨w.heap.size+1,2,none⟩=some (.int .i64 0):=r3.cell 2
 have kf:=r3.free
 clear D3 hb3 r2 b2 hval tc tf
 go_wp2_with fail
 refine bodyPost_ret (AhJ rfl (((r3.set_ 0 _).set_ 1 _).set_ 2 _)) rfl ⟨_,rfl,?_,((b3.setCell (by simp) _).setCell (by simp) _).setCell (by simp) _⟩
 exact ZD
theorem AhK (h2:tmps.getD 2 undef=.pointer (some ⟨b,0,none⟩)) (hB:Bz w b [v0,v1,v2] 43) :
  (results Tryz.f101 tmps).run prog w=.ok (.agg #[v0,v1,v2]) w:=by
 have k0:=hB.cell 0
 have k1:=hB.cell 1
 have k2:=hB.cell 2
 simp at k0 k1 k2
 simp at h2
 simp [results,results101,go_sem,h2,k0,k1,k2]
theorem AoP {v:Value} {x:Int} (D:DyR w lo m v x d) (hm:m≤w.heap.size) (hl:(Ab x.natAbs).length≤100000) :
  Calls prog 101 #[v] w fun e w'=>∃ v',e=.returned v'∧DyR w' w.heap.size w'.heap.size v' (((x.natAbs:Nat):Int)) d∧Below w.heap.size w w':=by
 obtain ⟨nb,A,L,c,rfl,HD⟩:=D.form
 have D':=li D
 clear D
 have b0:Below w.heap.size w ((w.alloc (.cells #[.bool nb,.slice A L c,.int .i64 (d:Int)] 43)).alloc (.cells #[.bool false,.slice none 0 0,.int .i64 0] 43)):=Ao (Ao (ab _ _) _) _
 have r0:=(Bz.new_ (w.alloc (.cells #[.bool nb,.slice A L c,.int .i64 (d:Int)] 43)) [.bool false,.slice none 0 0,.int .i64 0] 43)
 rw [show (w.alloc (.cells #[.bool nb,.slice A L c,.int .i64 (d:Int)] 43)).heap.size=w.heap.size+1 by simp] at r0
 go_enter func101,ntmps101
 go_wp2_with fail
 go_at_call 105
 refine (IL (D'.out.below b0 hm) (by simp;omega) hl).mono ?_
 rintro e w1 ⟨rfl,hb⟩
 obtain ⟨qc,qf,qs,qz⟩:=Hi (m:=w.heap.size+2) hb (by simp) (by simp)
 have r1:=r0.below hb (by simp)
 have b1:=b0.trans (hb.mono (by simp;omega))
 clear hb r0 b0
 go_wp2_with fail
 go_at_call 107
 obtain ⟨W,hW⟩:∃ W,W=((w1.setCell ⟨w.heap.size,0,none⟩ (.bool nb)).setCell ⟨w.heap.size,1,none⟩ (.slice A L c)).setCell ⟨w.heap.size,2,none⟩ (.int .i64 (d:Int)):=⟨_,rfl⟩
 have hWs:w.heap.size+2≤W.heap.size:=by rw [hW];simp;omega
 have b2:Below w.heap.size w W:=by rw [hW];exact ((b1.setCell (by simp) _).setCell (by simp) _).setCell (by simp) _
 have r2:Bz W (w.heap.size+1) [.bool false,.slice none 0 0,.int .i64 0] 43:=by
  rw [hW]
  exact ((r1.other_ (by omega) _ _).other_ (by omega) _ _).other_ (by omega) _ _
 rw [←hW]
 clear hW qc qf qs qz r1 b1
 refine (QD (n:=x.natAbs) (m:=m) HD.out.2.1 (HD.out.2.2.2.2.1.below b2 hm) HD.out.2.2.2.1 (by omega) hl HD.out.2.2.2.2.2.1).mono ?_
 rintro e w3 ⟨v',rfl,D3,hb3⟩
 obtain ⟨tc,tf,ts,tz⟩:=Hi (m:=w.heap.size+2) hb3 hWs hWs
 have r3:=r2.below hb3 (by omega)
 have b3:=b2.trans (hb3.mono (by omega))
 have hval:nf (sg false x.natAbs) d=(((x.natAbs:Nat):Int),d):=by
  exact Akb (fun h=>by have:=HD.out.2.2.2.2.2.2 h;unfold sg;simp;omega)
 rw [hval] at D3
 obtain ⟨nb3,A3,L3,c3,rfl,_⟩:=D3.form
 have D3':=li D3
 have k0:w3.cell? ⟨w.heap.size+1,0,none⟩=some (.bool false):=r3.cell 0
 have k1:w3.cell? ⟨w.heap.size+1,1,none⟩=some (.slice none 0 0):=r3.cell 1
 have k2:w3.cell? ⟨w.heap.size+1,2,none⟩=some (.int .i64 0):=r3.cell 2
 have kf:=r3.free
 clear D3 hb3 r2 b2 hval tc tf
 go_wp2_with fail
 refine bodyPost_ret (AhK rfl (((r3.set_ 0 _).set_ 1 _).set_ 2 _)) rfl ⟨_,rfl,?_,((b3.setCell (by simp) _).setCell (by simp) _).setCell (by simp) _⟩
 exact ZD
theorem Afd (h2:tmps.getD 2 undef=.pointer (some ⟨b,0,none⟩)) (hB:Bz w b [v0,v1,v2] 43) :
  (results Tryz.f39 tmps).run prog w=.ok (.agg #[v0,v1,v2]) w:=by
 have k0:=hB.cell 0
 have k1:=hB.cell 1
 have k2:=hB.cell 2
 simp at k0 k1 k2
 simp at h2
 simp [results,results39,go_sem,h2,k0,k1,k2]
theorem Alo (h:p:=by
 rw [show (w.alloc (.cells #[.bool false,.slice none 0 0,.int .i64 0] 43)).heap.size=w.heap.size+1 by simp] at h
 exact h.cells_ (by omega)):p:=h
theorem Afe (n:Int) (h1 : -9223372036854775808≤n) (h2:n<9223372036854775808) (w:World) :
  Calls prog 39 #[.int .i64 n] w fun e w'=>∃ v',e=.returned v'∧DyR w' w.heap.size w'.heap.size v' n 0∧Below w.heap.size w w':=by
 by_cases h:n<0
 ·as_aux_lemma =>
  obtain ⟨p,hp⟩:∃ p:Nat,-(n+1)=(p:Int):=⟨(-(n+1)).toNat,by omega⟩
  obtain ⟨a,ha⟩:∃ a:Nat,(p:Int)+1=(a:Int):=⟨p+1,by omega⟩
  have hsg:sg true a=n:=by unfold sg;simp;omega
  have hpb:p<9223372036854775808:=by omega
  obtain ⟨lo,hlo⟩:∃ lo:Nat,(a:Int) % 4294967296=(lo:Int):=⟨(a % 4294967296:Nat),by omega⟩
  obtain ⟨hi,hhi⟩:∃ hi:Nat,(a:Int) / 4294967296=(hi:Int):=⟨(a / 4294967296:Nat),by omega⟩
  have hib:hi<4294967296:=by omega
  have lob:lo<4294967296:=by omega
  have hval:Az [lo,hi]=a:=by rw [Qg];omega
  have HSG:=li hsg
  have HV:=li hval
  clear hsg hval
  have b0:Below w.heap.size w ((w.alloc (.cells #[.bool false,.slice none 0 0,.int .i64 0] 43)).alloc (.cells #[.int .u32 (lo:Int),.int .u32 (hi:Int)] 126)):=Ao (Ao (ab _ _) _) _
  have r0:=(Bz.new_ w [.bool false,.slice none 0 0,.int .i64 0] 43).below ((ab (w.heap.size+1) _).alloc (by simp) (.cells #[.int .u32 (lo:Int),.int .u32 (hi:Int)] 126)) (by omega)
  have c0:An ((w.alloc (.cells #[.bool false,.slice none 0 0,.int .i64 0] 43)).alloc (.cells #[.int .u32 (lo:Int),.int .u32 (hi:Int)] 126)) (w.heap.size+2) (some ⟨w.heap.size+1,0,none⟩) (w32 [lo,hi]):=by
   have h:=Bz.new_ (w.alloc (.cells #[.bool false,.slice none 0 0,.int .i64 0] 43)) (w32 [lo,hi]) 126
   exact Alo
  go_enter func39,ntmps39
  go_wp2_with fail
  go_at_call 107
  refine (GW true (some ⟨w.heap.size+1,0,none⟩) [lo,hi] 2 0 (w.heap.size+2) _ (by simp) c0 (by simp) (AgT lob hib) (by simp) (by omega)).mono ?_
  rintro e w3 ⟨v',rfl,D3,hb3⟩
  obtain ⟨tc,tf,ts,tz⟩:=Hi (m:=w.heap.size+2) hb3 (by simp) (by simp)
  have r3:=r0.below hb3 (by simp;omega)
  have b3:=b0.trans (hb3.mono (by simp;omega))
  rw [HV.out,HSG.out] at D3
  have D3:DyR w3 (w.heap.size+2) w3.heap.size v' n 0:=D3.low (by simp)
  obtain ⟨nb3,A3,L3,c3,rfl,_⟩:=D3.form
  have D3':=li D3
  have k0:w3.cell? ⟨w.heap.size,0,none⟩=some (.bool false):=r3.cell 0
  have k1:w3.cell? ⟨w.heap.size,1,none⟩=some (.slice none 0 0):=r3.cell 1
  have k2:w3.cell? ⟨w.heap.size,2,none⟩=some (.int .i64 0):=r3.cell 2
  have kf:=r3.free
  clear D3 hb3 r0 b0 c0 tc tf
  go_wp2_with fail
  refine bodyPost_ret (Afd rfl (((r3.set_ 0 _).set_ 1 _).set_ 2 _)) rfl ⟨_,rfl,?_,((b3.setCell (by simp) _).setCell (by simp) _).setCell (by simp) _⟩
  exact ZD
 ·as_aux_lemma =>
  obtain ⟨a,rfl⟩:∃ a:Nat,n=(a:Int):=⟨n.toNat,by omega⟩
  have hsg:sg false a=(a:Int):=by unfold sg;simp
  obtain ⟨lo,hlo⟩:∃ lo:Nat,(a:Int) % 4294967296=(lo:Int):=⟨(a % 4294967296:Nat),by omega⟩
  obtain ⟨hi,hhi⟩:∃ hi:Nat,(a:Int) / 4294967296=(hi:Int):=⟨(a / 4294967296:Nat),by omega⟩
  have hib:hi<4294967296:=by omega
  have lob:lo<4294967296:=by omega
  have hval:Az [lo,hi]=a:=by rw [Qg];omega
  have HSG:=li hsg
  have HV:=li hval
  clear hsg hval
  have b0:Below w.heap.size w ((w.alloc (.cells #[.bool false,.slice none 0 0,.int .i64 0] 43)).alloc (.cells #[.int .u32 (lo:Int),.int .u32 (hi:Int)] 126)):=Ao (Ao (ab _ _) _) _
  have r0:=(Bz.new_ w [.bool false,.slice none 0 0,.int .i64 0] 43).below ((ab (w.heap.size+1) _).alloc (by simp) (.cells #[.int .u32 (lo:Int),.int .u32 (hi:Int)] 126)) (by omega)
  have c0:An ((w.alloc (.cells #[.bool false,.slice none 0 0,.int .i64 0] 43)).alloc (.cells #[.int .u32 (lo:Int),.int .u32 (hi:Int)] 126)) (w.heap.size+2) (some ⟨w.heap.size+1,0,none⟩) (w32 [lo,hi]):=by
   have h:=Bz.new_ (w.alloc (.cells #[.bool false,.slice none 0 0,.int .i64 0] 43)) (w32 [lo,hi]) 126
   exact Alo
  go_enter func39,ntmps39
  go_wp2_with fail
  go_at_call 107
  refine (GW false (some ⟨w.heap.size+1,0,none⟩) [lo,hi] 2 0 (w.heap.size+2) _ (by simp) c0 (by simp) (AgT lob hib) (by simp) (by omega)).mono ?_
  rintro e w3 ⟨v',rfl,D3,hb3⟩
  obtain ⟨tc,tf,ts,tz⟩:=Hi (m:=w.heap.size+2) hb3 (by simp) (by simp)
  have r3:=r0.below hb3 (by simp;omega)
  have b3:=b0.trans (hb3.mono (by simp;omega))
  rw [HV.out,HSG.out] at D3
  have D3:DyR w3 (w.heap.size+2) w3.heap.size v' (a:Int) 0:=D3.low (by simp)
  obtain ⟨nb3,A3,L3,c3,rfl,_⟩:=D3.form
  have D3':=li D3
  have k0:w3.cell? ⟨w.heap.size,0,none⟩=some (.bool false):=r3.cell 0
  have k1:w3.cell? ⟨w.heap.size,1,none⟩=some (.slice none 0 0):=r3.cell 1
  have k2:w3.cell? ⟨w.heap.size,2,none⟩=some (.int .i64 0):=r3.cell 2
  have kf:=r3.free
  clear D3 hb3 r0 b0 c0 tc tf
  go_wp2_with fail
  refine bodyPost_ret (Afd rfl (((r3.set_ 0 _).set_ 1 _).set_ 2 _)) rfl ⟨_,rfl,?_,((b3.setCell (by simp) _).setCell (by simp) _).setCell (by simp) _⟩
  exact ZD
theorem Adc (h:p:=by
 exact ⟨_,rfl,⟨G,g,rfl,g1,g2,g3⟩,hb⟩):p:=h
theorem ZE {v:Value} {k:Nat} (h:WdR w m v n) (hm:m≤w.heap.size) (hl:(Ab n).length≤100000) (hk:k≤1000000) :
  Calls prog 106 #[v,.int .i64 (k:Int)] w fun e w'=>∃ v',e=.returned v'∧WdR w' w'.heap.size v' (n*2 ^ k)∧Below w.heap.size w w':=by
 obtain ⟨A,c,rfl,h1,h2,h3⟩:=h
 refine (Adb A (Ab n) c k m w hm h3 (Ay n) hl hk).mono ?_
 rintro e w' ⟨G,g,rfl,g1,g2,g3,hb⟩
 rw [Am] at g2 g3 ⊢
 exact Adc
theorem Aff {v:Value} {a:Nat} (h:WdR w m v a) (h2:WdR w m2 v2 b) (hm:m≤w.heap.size) (hm2:m2≤w.heap.size) (hl:(Ab a).length≤100000) (hl2:(Ab b).length≤100000) :
  Calls prog 108 #[v,v2] w fun e w'=>∃ v',e=.returned v'∧WdR w' w'.heap.size v' (a+b)∧Below w.heap.size w w':=by
 obtain ⟨A,c,rfl,h1,h1',h3⟩:=h
 obtain ⟨A2,c2,rfl,k1,k1',k3⟩:=h2
 refine (AcX A A2 (Ab a) (Ab b) c c2 w.heap.size w (aa _) (h3.more hm) (k3.more hm2) (Ay a) (Ay b) hl hl2).mono ?_
 rintro e w' ⟨G,g,rfl,g1,g2,g3,hb⟩
 rw [Am,Am] at g2 g3 ⊢
 exact Adc
theorem ZF {v:Value} {a:Nat} (h:WdR w m v a) (h2:WdR w m2 v2 b) (hm:m≤w.heap.size) (hm2:m2≤w.heap.size) (hl:(Ab a).length≤100000) (hle:b≤a) :
  Calls prog 110 #[v,v2] w fun e w'=>∃ v',e=.returned v'∧WdR w' w'.heap.size v' (a - b)∧Below w.heap.size w w':=by
 obtain ⟨A,c,rfl,h1,h1',h3⟩:=h
 obtain ⟨A2,c2,rfl,k1,k1',k3⟩:=h2
 refine (ZB A A2 (Ab a) (Ab b) c c2 w.heap.size w (aa _) (h3.more hm) (k3.more hm2) (Ay a) (Ay b) hl (AJ hle) (by rw [Am,Am];exact hle)).mono ?_
 rintro e w' ⟨G,g,rfl,g1,g2,g3,hb⟩
 rw [Am,Am] at g2 g3 ⊢
 exact Adc
theorem Alp {v:Value} {a:Nat} (h:WdR w m v a) (h2:WdR w m2 v2 b) (hl:(Ab a).length≤100000) (hl2:(Ab b).length≤100000) :
  Calls prog 109 #[v,v2] w fun e w'=>e=.returned (.bool (decide (a<b)))∧Below w.heap.size w w':=by
 obtain ⟨A,c,rfl,h1,h1',h3⟩:=h
 obtain ⟨A2,c2,rfl,k1,k1',k3⟩:=h2
 have:=AcY A A2 (Ab a) (Ab b) c c2 (max m m2) w (h3.more (by omega)) (k3.more (by omega)) (Ay a) (Ay b) hl hl2
 rw [TL] at this
 exact this
theorem Eo {neg:Bool} {v:Value} (h:WdR w m v n) (hm:m≤w.heap.size) (hl:(Ab n).length≤100000) (hd:d≤65536) :
  Calls prog 107 #[.bool neg,v,.int .i64 (d:Int)] w fun e w' =>
   ∃ v',e=.returned v'∧DyR w' w.heap.size w'.heap.size v' (nf (sg neg n) d).1 (nf (sg neg n) d).2∧Below w.heap.size w w':=by
 obtain ⟨A,c,rfl,h1,h1',h3⟩:=h
 exact QD rfl h3 h1' hm hl hd
theorem AhL (h2:tmps.getD 4 undef=.pointer (some ⟨b,0,none⟩)) (hB:Bz w b [v0,v1,v2] 43) :
  (results Tryz.f37 tmps).run prog w=.ok (.agg #[v0,v1,v2]) w:=by
 have k0:=hB.cell 0
 have k1:=hB.cell 1
 have k2:=hB.cell 2
 simp at k0 k1 k2
 simp at h2
 simp [results,results37,go_sem,h2,k0,k1,k2]
theorem AhM (h:p:=by
 go_wp2_with fail
 refine bodyPost_ret (AhL rfl (((rz.set_ 0 _).set_ 1 _).set_ 2 _)) rfl ⟨_,rfl,?_,(((b0.trans (hk6.is.mono (by omega))).setCell (by simp;omega) _).setCell (by simp;omega) _).setCell (by simp;omega) _⟩
 exact ((((D6.set_ (by omega) 0 _).set_ (by omega) 1 _).set_ (by omega) 2 _).low (by omega)).more (by simp)):p:=h
theorem AjN (h:p:=by first|exact hk|exact hk.drew|assumption):p:=h
theorem AoQ (h:p:=by first|exact hkv.drew|assumption):p:=h
theorem Lu {v:Value} {x y:Int} (D1:DyR w lo1 m v x dx) (D2:DyR w lo2 m2 v2 y dy) (hm:m≤w.heap.size) (hm2:m2≤w.heap.size) (l1:(Ab x.natAbs).length≤50000) (l2:(Ab y.natAbs).length≤50000) :
    Calls prog 37 #[v,v2] w fun e w'=>∃ v',e=.returned v'∧DyR w' w.heap.size w'.heap.size v' (Ci x dx y dy).1 (Ci x dx y dy).2∧Below w.heap.size w w':=by
  replace D2:=D2.more (Nat.le_max_right m m2)
  replace D1:=D1.more (Nat.le_max_left m m2)
  replace hm:max m m2≤w.heap.size:=by omega
  generalize max m m2=m at D1 D2 hm
  obtain ⟨nb1,A1,L1,c1,rfl,HD1⟩:=D1.form
  obtain ⟨nb2,A2,L2,c2,rfl,HD2⟩:=D2.form
  have b0:Below w.heap.size w (((w.alloc (.cells #[.bool nb1,.slice A1 L1 c1,.int .i64 (dx:Int)] 43)).alloc (.cells #[.bool nb2,.slice A2 L2 c2,.int .i64 (dy:Int)] 43)).alloc (.cells #[.bool false,.slice none 0 0,.int .i64 0] 43)):=Ao (Ao (Ao (ab _ _) _) _) _
  have D1':=D1.below b0 hm
  have D2':=D2.below b0 hm
  clear D1 D2
  have r2:=Bz.new_ ((w.alloc (.cells #[.bool nb1,.slice A1 L1 c1,.int .i64 (dx:Int)] 43)).alloc (.cells #[.bool nb2,.slice A2 L2 c2,.int .i64 (dy:Int)] 43)) [.bool false,.slice none 0 0,.int .i64 0] 43
  have r1:=(Bz.new_ (w.alloc (.cells #[.bool nb1,.slice A1 L1 c1,.int .i64 (dx:Int)] 43)) [.bool nb2,.slice A2 L2 c2,.int .i64 (dy:Int)] 43).call ((ab _ _).alloc (aa _) (.cells #[.bool false,.slice none 0 0,.int .i64 0] 43))
  have r0:=((Bz.new_ w [.bool nb1,.slice A1 L1 c1,.int .i64 (dx:Int)] 43).call ((ab _ _).alloc (aa _) (.cells #[.bool nb2,.slice A2 L2 c2,.int .i64 (dy:Int)] 43))).call ((ab _ _).alloc (aa _) (.cells #[.bool false,.slice none 0 0,.int .i64 0] 43))
  rw [show ((w.alloc (.cells #[.bool nb1,.slice A1 L1 c1,.int .i64 (dx:Int)] 43)).alloc (.cells #[.bool nb2,.slice A2 L2 c2,.int .i64 (dy:Int)] 43)).heap.size=w.heap.size+2 by simp] at r2
  rw [show (w.alloc (.cells #[.bool nb1,.slice A1 L1 c1,.int .i64 (dx:Int)] 43)).heap.size=w.heap.size+1 by simp] at r1
  go_enter func37,ntmps37
  go_wp2_with fail
  obtain ⟨W,hW⟩:∃ W,W=(((w.alloc (.cells #[.bool nb1,.slice A1 L1 c1,.int .i64 (dx:Int)] 43)).alloc (.cells #[.bool nb2,.slice A2 L2 c2,.int .i64 (dy:Int)] 43)).alloc (.cells #[.bool false,.slice none 0 0,.int .i64 0] 43)):=⟨_,rfl⟩
  have hWs:W.heap.size=w.heap.size+3:=by rw [hW];simp
  rw [←hW]
  rw [←hW] at b0 D1' D2' r0 r1 r2
  clear hW
  have a0:W.cell? ⟨w.heap.size,0,none⟩=some (.bool nb1):=r0.cell 0
  have a1:W.cell? ⟨w.heap.size,1,none⟩=some (.slice A1 L1 c1):=r0.cell 1
  have a2:W.cell? ⟨w.heap.size,2,none⟩=some (.int .i64 (dx:Int)):=r0.cell 2
  have e0:W.cell? ⟨w.heap.size+1,0,none⟩=some (.bool nb2):=r1.cell 0
  have e1:W.cell? ⟨w.heap.size+1,1,none⟩=some (.slice A2 L2 c2):=r1.cell 1
  have e2:W.cell? ⟨w.heap.size+1,2,none⟩=some (.int .i64 (dy:Int)):=r1.cell 2
  have hle:m≤w.heap.size+3:=by omega
  have hle2:m≤w.heap.size+2:=by omega
  have hz:w.heap.size+3≤W.heap.size:=by omega
  refine MV 4 (w.heap.size+3) hz (by kernel_rfl) (by kernel_rfl) ?_
  intro _
  simp only [List.take_succ_cons,jr,List.drop_succ_cons,im]
  repeat (go_big_quiet_step ((first
    | (go_at_call 105;exact Iu (IL (D1'.below (OV.is _) hle) (lT hle (OV.fits _)) (lT l1 (by omega))))
    | (go_at_call 105;exact Iu (IL (D2'.below (OV.is _) hle) (lT hle (OV.fits _)) (lT l2 (by omega)))))))
  refine wpQuiet_nil ?_
  intro w2 hw'
  obtain ⟨⟨_,hb2,hz2⟩,rfl⟩:=hw'
  have s0:=r0.below hb2 (by omega)
  have s1:=r1.below hb2 (by omega)
  have s2:=r2.below hb2 (by omega)
  have b2:=b0.trans (hb2.mono (by omega))
  replace D1':=D1'.below hb2 hle
  replace D2':=D2'.below hb2 hle
  clear r0 r1 r2 b0 a0 a1 a2 e0 e1 e2 hWs hz hb2
  have a0:w2.cell? ⟨w.heap.size,0,none⟩=some (.bool nb1):=s0.cell 0
  have a1:w2.cell? ⟨w.heap.size,1,none⟩=some (.slice A1 L1 c1):=s0.cell 1
  have a2:w2.cell? ⟨w.heap.size,2,none⟩=some (.int .i64 (dx:Int)):=s0.cell 2
  have e0:w2.cell? ⟨w.heap.size+1,0,none⟩=some (.bool nb2):=s1.cell 0
  have e1:w2.cell? ⟨w.heap.size+1,1,none⟩=some (.slice A2 L2 c2):=s1.cell 1
  have e2:w2.cell? ⟨w.heap.size+1,2,none⟩=some (.int .i64 (dy:Int)):=s1.cell 2
  have f0:=s0.free
  have f1:=s1.free
  have hd1:=HD1.out.2.2.2.2.2.1
  have hd2:=HD2.out.2.2.2.2.2.1
  obtain ⟨D,hD⟩:∃ D:Nat,D=max dx dy:=⟨_,rfl⟩
  have hDD:max (dx:Int) (dy:Int)=(D:Int):=by omega
  have hD6:D≤65536:=by omega
  obtain ⟨p,hp⟩:∃ p:Nat,p=D - dx:=⟨_,rfl⟩
  obtain ⟨q,hq⟩:∃ q:Nat,q=D - dy:=⟨_,rfl⟩
  have hpp:IntKind.i64.wrap ((D:Int) - (dx:Int))=(p:Int):=by rw [gh];omega
  have hqq:IntKind.i64.wrap ((D:Int) - (dy:Int))=(q:Int):=by rw [gh];omega
  have hp6:p≤65536:=by omega
  have hq6:q≤65536:=by omega
  have HV := li (show Ci x dx y dy = nf (x * 2 ^ p + y * 2 ^ q) D by unfold Ci; rw [← hD, ← hp, ← hq])
  have hp6':p≤1000000:=by omega
  have hq6':q≤1000000:=by omega
  clear hD hp hq
  go_wp2_with fail
  obtain ⟨W,hW⟩:∃ W,W=(((((w2.setCell ⟨w.heap.size,0,none⟩ (.bool nb1)).setCell ⟨w.heap.size,1,none⟩ (.slice A1 L1 c1)).setCell ⟨w.heap.size,2,none⟩ (.int .i64 (dx:Int))).setCell ⟨w.heap.size+1,0,none⟩ (.bool nb2)).setCell ⟨w.heap.size+1,1,none⟩ (.slice A2 L2 c2)).setCell ⟨w.heap.size+1,2,none⟩ (.int .i64 (dy:Int)):=⟨_,rfl⟩
  rw [←hW]
  have t0:Bz W w.heap.size [.bool nb1,.slice A1 L1 c1,.int .i64 (dx:Int)] 43:=by
    rw [hW]
    exact ((((((s0.set_ 0 _).set_ 1 _).set_ 2 _).other_ (by omega) _ _).other_ (by omega) _ _).other_ (by omega) _ _)
  have t1:Bz W (w.heap.size+1) [.bool nb2,.slice A2 L2 c2,.int .i64 (dy:Int)] 43:=by
    rw [hW]
    exact ((((((s1.other_ (by omega) _ _).other_ (by omega) _ _).other_ (by omega) _ _).set_ 0 _).set_ 1 _).set_ 2 _)
  have t2:Bz W (w.heap.size+2) [.bool false,.slice none 0 0,.int .i64 0] 43:=by
    rw [hW]
    exact ((((((s2.other_ (by omega) _ _).other_ (by omega) _ _).other_ (by omega) _ _).other_ (by omega) _ _).other_ (by omega) _ _).other_ (by omega) _ _)
  have b0:Below w.heap.size w W:=by
    rw [hW]
    exact (((((b2.setCell (by simp) _).setCell (by simp) _).setCell (by simp) _).setCell (by simp) _).setCell (by simp) _).setCell (by simp) _
  have hWs:w.heap.size+3≤W.heap.size:=by rw [hW];simpa using hz2
  have bW:Below w.heap.size w2 W:=by
    rw [hW]
    exact ((((((ab _ w2).setCell (by simp) _).setCell (by simp) _).setCell (by simp) _).setCell (by simp) _).setCell (by simp) _).setCell (by simp) _
  have X1:WdR W m (.slice A1 L1 c1) x.natAbs:=D1'.words.below bW hm
  have X2:WdR W m (.slice A2 L2 c2) y.natAbs:=D2'.words.below bW hm
  clear hW bW s0 s1 s2 b2 a0 a1 a2 e0 e1 e2 f0 f1 D1' D2'
  have a0:W.cell? ⟨w.heap.size,0,none⟩=some (.bool nb1):=t0.cell 0
  have a1:W.cell? ⟨w.heap.size,1,none⟩=some (.slice A1 L1 c1):=t0.cell 1
  have a2:W.cell? ⟨w.heap.size,2,none⟩=some (.int .i64 (dx:Int)):=t0.cell 2
  have e0:W.cell? ⟨w.heap.size+1,0,none⟩=some (.bool nb2):=t1.cell 0
  have e1:W.cell? ⟨w.heap.size+1,1,none⟩=some (.slice A2 L2 c2):=t1.cell 1
  have e2:W.cell? ⟨w.heap.size+1,2,none⟩=some (.int .i64 (dy:Int)):=t1.cell 2
  have hk:SK W (w.heap.size+2) (w.heap.size+2) W:=SK.refl (by omega) ⟨_,_,_,t2⟩
  go_cut [6,7] (fun s6 s7 wx=>∃ A6 L6 c6 A7 L7 c7,s6=.slice A6 L6 c6∧s7=.slice A7 L7 c7∧WdR wx wx.heap.size (.slice A6 L6 c6) (x.natAbs*2 ^ p)∧WdR wx wx.heap.size (.slice A7 L7 c7) (y.natAbs*2 ^ q)∧SK W (w.heap.size+2) (w.heap.size+2) wx)
  case first =>
    go_region_held3 (fun w'=>(∀ b o,b<w.heap.size+2→w'.cell? ⟨b,o,none⟩=W.cell? ⟨b,o,none⟩)∧SK W (w.heap.size+2) (w.heap.size+2) w')
      (first
      | (refine SK.all ?_
         first
           | assumption
           | exact hk
           | exact hk.drew
           | exact ((SK.set (by assumption) (by omega) _ _).set (by omega) _ _).set (by omega) _ _))
      (first
        | (go_at_call_of 106 (Value.slice A1 L1 c1);refine (ZE (X1.below (SK.is (m:=w.heap.size+2) (r:=w.heap.size+2) AjN) hle2) ?_ ?_ hp6').mono ?_;exact (lT hle2 (SK.fits (m:=w.heap.size+2) (r:=w.heap.size+2) AjN));exact (by omega);(rintro e w5 ⟨v5,rfl,Y1,hb5⟩;have hk5:=SK.call (W:=W) (m:=w.heap.size+2) (r:=w.heap.size+2) AjN hb5;obtain ⟨A5,L5,c5,rfl⟩:=Y1.form))
        | (go_at_call_of 106 (Value.slice A2 L2 c2);refine (ZE (X2.below (SK.is (m:=w.heap.size+2) (r:=w.heap.size+2) AjN) hle2) ?_ ?_ hq6').mono ?_;exact (lT hle2 (SK.fits (m:=w.heap.size+2) (r:=w.heap.size+2) AjN));exact (by omega);(rintro e w4 ⟨v4,rfl,Y2,hb4⟩;have hk4:=SK.call (W:=W) (m:=w.heap.size+2) (r:=w.heap.size+2) AjN hb4;obtain ⟨A4,L4,c4,rfl⟩:=Y2.form)))
    all_goals (go_wp2_with fail;go_meet;exact ⟨A5,L5,c5,A4,L4,c4,rfl,rfl,(Y1.below hb4 (aa _)).more hb4.size,Y2,hk4⟩)
  case rest =>
    obtain ⟨A6,L6,c6,A7,L7,c7,rfl,rfl,Y1,Y2,hkx⟩:=hcut
    have g0:wc.cell? ⟨w.heap.size,0,none⟩=some (.bool nb1):=(hkx.all.1 _ _ (by omega)).trans a0
    have g1:wc.cell? ⟨w.heap.size+1,0,none⟩=some (.bool nb2):=(hkx.all.1 _ _ (by omega)).trans e0
    obtain ⟨a,ha⟩:∃ a,a=x.natAbs*2 ^ p:=⟨_,rfl⟩
    obtain ⟨b,hb⟩:∃ b,b=y.natAbs*2 ^ q:=⟨_,rfl⟩
    have hx:=Vc x p
    have hy:=Vc y q
    rw [←HD1.out.1,←ha] at hx
    rw [←HD2.out.1,←hb] at hy
    have hla:(Ab a).length≤60000:=by
      have:=Bo x.natAbs p
      rw [←ha] at this
      omega
    have hlb:(Ab b).length≤60000:=by
      have:=Bo y.natAbs q
      rw [←hb] at this
      omega
    rw [←ha] at Y1
    rw [←hb] at Y2
    have HX:=li hx
    have HY:=li hy
    clear ha hb hx hy X1 X2 hle hle2
    by_cases hn:nb1=nb2
    · as_aux_lemma =>
      subst hn
      have hlen:(Ab (a+b)).length≤100000:=by have:=Dx a b;omega
      have hval:nf (sg nb1 (a+b)) D=Ci x dx y dy:=by rw [AgU,HX.out,HY.out,HV.out]
      have HVAL:=li hval
      clear hval
      go_wp2_with fail
      obtain ⟨wv,hwv⟩:∃ wv,wv=wc:=⟨_,rfl⟩
      rw [←hwv]
      rw [←hwv] at Y1 Y2 hkx g0 g1
      have hkv:=hkx
      clear hwv hkx
      go_region_held3 (fun w'=>(∀ b o,b<w.heap.size+2→w'.cell? ⟨b,o,none⟩=W.cell? ⟨b,o,none⟩)∧SK W (w.heap.size+2) (w.heap.size+2) w')
        (first
          | (refine SK.all ?_
             first
               | assumption
               | exact hkv
               | exact hkv.drew
               | exact ((SK.set (by assumption) (by omega) _ _).set (by omega) _ _).set (by omega) _ _))
        (first
          | (go_at_call 108;refine (Aff (Y1.below (ab _ wv).drew (aa _)) (Y2.below (ab _ wv).drew (aa _)) (aa _) (aa _) (by omega) (by omega)).mono ?_;(rintro e w5 ⟨v5,rfl,D5,hb5⟩;have hk5:=SK.call (W:=W) (m:=w.heap.size+2) (r:=w.heap.size+2) AoQ hb5;have hf5:=hk5.lt;obtain ⟨A5,L5,c5,rfl⟩:=D5.form))
          | (go_at_call 107;refine (Eo D5 (aa _) hlen hD6).mono ?_;(rintro e w6 ⟨v6,rfl,D6,hb6⟩;have hk6:=SK.call hk5 hb6;have hf6:=hk6.lt;rw [HVAL.out] at D6;obtain ⟨nb6,A9,L9,c9,rfl,_⟩:=D6.form;obtain ⟨z0,z1,z2,rz,k0,k1,k2,kf⟩:=SK.cells hk6)))
      exact AhM
    · have hne:(nb1 == nb2)=false:=by simpa using hn
      have HN:=li hn
      clear hn
      go_wp2_with fail
      go_at_call 109
      refine (Alp Y1 Y2 (by omega) (by omega)).mono ?_
      rintro e w4 ⟨rfl,hb4⟩
      have hkv:=hkx.call hb4
      have g0':w4.cell? ⟨w.heap.size,0,none⟩=some (.bool nb1):=(hkv.all.1 _ _ (by omega)).trans a0
      have g1':w4.cell? ⟨w.heap.size+1,0,none⟩=some (.bool nb2):=(hkv.all.1 _ _ (by omega)).trans e0
      replace Y1:=(Y1.below hb4 (aa _)).more hb4.size
      replace Y2:=(Y2.below hb4 (aa _)).more hb4.size
      clear hkx hb4 g0 g1
      obtain ⟨wv,hwv⟩:∃ wv,wv=w4:=⟨_,rfl⟩
      rw [←hwv]
      rw [←hwv] at Y1 Y2 hkv g0' g1'
      clear hwv
      by_cases hlt:a<b
      · as_aux_lemma =>
        have hlen:(Ab (b - a)).length≤100000:=lT (AJ (Nat.sub_le _ _)) (by omega)
        have hval:nf (sg nb2 (b - a)) D=Ci x dx y dy:=by rw [AgV HN.out hlt,HX.out,HY.out,HV.out]
        have HVAL:=li hval
        rw [decide_eq_true hlt]
        have hle:a≤b:=by omega
        clear hval hlt
        go_wp2_with fail
        go_region_held3 (fun w'=>(∀ b o,b<w.heap.size+2→w'.cell? ⟨b,o,none⟩=W.cell? ⟨b,o,none⟩)∧SK W (w.heap.size+2) (w.heap.size+2) w')
          (first
            | (refine SK.all ?_
               first
                 | assumption
                 | exact hkv
                 | exact hkv.drew
                 | exact ((SK.set (by assumption) (by omega) _ _).set (by omega) _ _).set (by omega) _ _))
          (first
            | (go_at_call 110;refine (ZF (Y2.below (ab _ wv).drew (aa _)) (Y1.below (ab _ wv).drew (aa _)) (aa _) (aa _) (by omega) hle).mono ?_;(rintro e w5 ⟨v5,rfl,D5,hb5⟩;have hk5:=SK.call (W:=W) (m:=w.heap.size+2) (r:=w.heap.size+2) AoQ hb5;have hf5:=hk5.lt;obtain ⟨A5,L5,c5,rfl⟩:=D5.form))
            | (go_at_call 107;refine (Eo D5 (aa _) hlen hD6).mono ?_;(rintro e w6 ⟨v6,rfl,D6,hb6⟩;have hk6:=SK.call hk5 hb6;have hf6:=hk6.lt;rw [HVAL.out] at D6;obtain ⟨nb6,A9,L9,c9,rfl,_⟩:=D6.form;obtain ⟨z0,z1,z2,rz,k0,k1,k2,kf⟩:=SK.cells hk6)))
        exact AhM
      · as_aux_lemma =>
        have hlen:(Ab (a - b)).length≤100000:=lT (AJ (Nat.sub_le _ _)) (by omega)
        have hval:nf (sg nb1 (a - b)) D=Ci x dx y dy:=by rw [AgW HN.out (by omega),HX.out,HY.out,HV.out]
        have HVAL:=li hval
        rw [decide_eq_false hlt]
        have hle:b≤a:=by omega
        clear hval hlt
        go_wp2_with fail
        go_region_held3 (fun w'=>(∀ b o,b<w.heap.size+2→w'.cell? ⟨b,o,none⟩=W.cell? ⟨b,o,none⟩)∧SK W (w.heap.size+2) (w.heap.size+2) w')
          (first
            | (refine SK.all ?_
               first
                 | assumption
                 | exact hkv
                 | exact hkv.drew
                 | exact ((SK.set (by assumption) (by omega) _ _).set (by omega) _ _).set (by omega) _ _))
          (first
            | (go_at_call 110;refine (ZF (Y1.below (ab _ wv).drew (aa _)) (Y2.below (ab _ wv).drew (aa _)) (aa _) (aa _) (by omega) hle).mono ?_;(rintro e w5 ⟨v5,rfl,D5,hb5⟩;have hk5:=SK.call (W:=W) (m:=w.heap.size+2) (r:=w.heap.size+2) AoQ hb5;have hf5:=hk5.lt;obtain ⟨A5,L5,c5,rfl⟩:=D5.form))
            | (go_at_call 107;refine (Eo D5 (aa _) hlen hD6).mono ?_;(rintro e w6 ⟨v6,rfl,D6,hb6⟩;have hk6:=SK.call hk5 hb6;have hf6:=hk6.lt;rw [HVAL.out] at D6;obtain ⟨nb6,A9,L9,c9,rfl,_⟩:=D6.form;obtain ⟨z0,z1,z2,rz,k0,k1,k2,kf⟩:=SK.cells hk6)))
        exact AhM
theorem AhN (h2:tmps.getD 4 undef=.pointer (some ⟨b,0,none⟩)) (hB:Bz w b [v0,v1,v2] 43) :
  (results Tryz.f42 tmps).run prog w=.ok (.agg #[v0,v1,v2]) w:=by
 have k0:=hB.cell 0
 have k1:=hB.cell 1
 have k2:=hB.cell 2
 simp at k0 k1 k2
 simp at h2
 simp [results,results42,go_sem,h2,k0,k1,k2]
theorem ZG {v:Value} {x y:Int} (D1:DyR w lo1 m v x dx) (D2:DyR w lo2 m v2 y dy) (hm:m≤w.heap.size) (l1:(Ab x.natAbs).length≤50000) (l2:(Ab y.natAbs).length≤50000) :
    Calls prog 42 #[v,v2] w fun e w'=>∃ v',e=.returned v'∧DyR w' w.heap.size w'.heap.size v' (Ci x dx (-y) dy).1 (Ci x dx (-y) dy).2∧Below w.heap.size w w':=by
  obtain ⟨nb1,A1,L1,c1,rfl,HD1⟩:=D1.form
  obtain ⟨nb2,A2,L2,c2,rfl,HD2⟩:=D2.form
  have b0:Below w.heap.size w (((w.alloc (.cells #[.bool nb1,.slice A1 L1 c1,.int .i64 (dx:Int)] 43)).alloc (.cells #[.bool nb2,.slice A2 L2 c2,.int .i64 (dy:Int)] 43)).alloc (.cells #[.bool false,.slice none 0 0,.int .i64 0] 43)):=Ao (Ao (Ao (ab _ _) _) _) _
  have D1':=D1.below b0 hm
  have D2':=D2.below b0 hm
  clear D1 D2
  have r2:=Bz.new_ ((w.alloc (.cells #[.bool nb1,.slice A1 L1 c1,.int .i64 (dx:Int)] 43)).alloc (.cells #[.bool nb2,.slice A2 L2 c2,.int .i64 (dy:Int)] 43)) [.bool false,.slice none 0 0,.int .i64 0] 43
  have r1:=(Bz.new_ (w.alloc (.cells #[.bool nb1,.slice A1 L1 c1,.int .i64 (dx:Int)] 43)) [.bool nb2,.slice A2 L2 c2,.int .i64 (dy:Int)] 43).call ((ab _ _).alloc (aa _) (.cells #[.bool false,.slice none 0 0,.int .i64 0] 43))
  have r0:=((Bz.new_ w [.bool nb1,.slice A1 L1 c1,.int .i64 (dx:Int)] 43).call ((ab _ _).alloc (aa _) (.cells #[.bool nb2,.slice A2 L2 c2,.int .i64 (dy:Int)] 43))).call ((ab _ _).alloc (aa _) (.cells #[.bool false,.slice none 0 0,.int .i64 0] 43))
  rw [show ((w.alloc (.cells #[.bool nb1,.slice A1 L1 c1,.int .i64 (dx:Int)] 43)).alloc (.cells #[.bool nb2,.slice A2 L2 c2,.int .i64 (dy:Int)] 43)).heap.size=w.heap.size+2 by simp] at r2
  rw [show (w.alloc (.cells #[.bool nb1,.slice A1 L1 c1,.int .i64 (dx:Int)] 43)).heap.size=w.heap.size+1 by simp] at r1
  go_enter func42,ntmps42
  go_wp2_with fail
  obtain ⟨W,hW⟩:∃ W,W=(((w.alloc (.cells #[.bool nb1,.slice A1 L1 c1,.int .i64 (dx:Int)] 43)).alloc (.cells #[.bool nb2,.slice A2 L2 c2,.int .i64 (dy:Int)] 43)).alloc (.cells #[.bool false,.slice none 0 0,.int .i64 0] 43)):=⟨_,rfl⟩
  have hWs:W.heap.size=w.heap.size+3:=by rw [hW];simp
  rw [←hW]
  rw [←hW] at b0 D1' D2' r0 r1 r2
  clear hW
  have a0:W.cell? ⟨w.heap.size,0,none⟩=some (.bool nb1):=r0.cell 0
  have a1:W.cell? ⟨w.heap.size,1,none⟩=some (.slice A1 L1 c1):=r0.cell 1
  have a2:W.cell? ⟨w.heap.size,2,none⟩=some (.int .i64 (dx:Int)):=r0.cell 2
  have e0:W.cell? ⟨w.heap.size+1,0,none⟩=some (.bool nb2):=r1.cell 0
  have e1:W.cell? ⟨w.heap.size+1,1,none⟩=some (.slice A2 L2 c2):=r1.cell 1
  have e2:W.cell? ⟨w.heap.size+1,2,none⟩=some (.int .i64 (dy:Int)):=r1.cell 2
  have hk:SK W (w.heap.size+2) (w.heap.size+2) W:=SK.refl (by omega) ⟨_,_,_,r2⟩
  have hle:m≤w.heap.size+2:=by omega
  go_region_held3 (fun w'=>(∀ b o,b<w.heap.size+2→w'.cell? ⟨b,o,none⟩=W.cell? ⟨b,o,none⟩)∧SK W (w.heap.size+2) (w.heap.size+2) w')
    (first
      | (refine SK.all ?_
         first
           | assumption
           | exact hk
           | exact hk.drew
           | exact ((SK.set (by assumption) (by omega) _ _).set (by omega) _ _).set (by omega) _ _))
    (first
      | (go_at_call 112; refine (Aln (D2'.below (SK.is (m := w.heap.size + 2) (r := w.heap.size + 2) (by first | exact hk.drew | assumption)) hle) ?_ ?_).mono ?_; (simp; omega); exact (by omega); (rintro e w5 ⟨v5, rfl, D5, hb5⟩; have hk5 := SK.call (W := W) (m := w.heap.size + 2) (r := w.heap.size + 2) (by first | exact hk.drew | assumption) hb5; have hf5 := hk5.lt; obtain ⟨nb5, A5, L5, c5, rfl, _⟩ := D5.form))
      | (go_at_call 37; refine (Lu (D1'.below (SK.is (m := w.heap.size + 2) (r := w.heap.size + 2) hk5) hle) D5 ?_ ?_ ?_ ?_).mono ?_; exact (by omega); exact (aa _); exact l1; (rw [ja]; exact l2); (rintro e w6 ⟨v6, rfl, D6, hb6⟩; have hk6 := SK.call hk5 hb6; have hf6 := hk6.lt; have hlo := hf5; obtain ⟨nb6, A6, L6, c6, rfl, _⟩ := D6.form; obtain ⟨z0, z1, z2, rz, k0, k1, k2, kf⟩ := SK.cells hk6)))
  go_wp2_with fail
  refine bodyPost_ret (AhN rfl (((rz.set_ 0 _).set_ 1 _).set_ 2 _)) rfl ⟨_,rfl,?_,(((b0.trans (hk6.is.mono (by omega))).setCell (by simp;omega) _).setCell (by simp;omega) _).setCell (by simp;omega) _⟩
  exact ((((D6.set_ (by omega) 0 _).set_ (by omega) 1 _).set_ (by omega) 2 _).low (by omega)).more (by simp)
theorem Ui {v:Value} {x y:Int} (D1:DyR w lo1 m v x dx) (D2:DyR w lo2 m v2 y dy) (hm:m≤w.heap.size) (l1:(Ab x.natAbs).length≤50000) (l2:(Ab y.natAbs).length≤50000) :
  Calls prog 29 #[v,v2] w fun e w'=>e=.returned (.int .i64 (BI x dx y dy))∧Below w.heap.size w w':=by
 have hlen:(Ab (Ci x dx (-y) dy).1.natAbs).length≤100000:=YB l1 (by rw [ja];exact l2) D1.bound.1 D2.bound.1
 obtain ⟨nb1,A1,L1,c1,rfl,HD1⟩:=D1.form
 obtain ⟨nb2,A2,L2,c2,rfl,HD2⟩:=D2.form
 have b0:Below w.heap.size w ((w.alloc (.cells #[.bool nb1,.slice A1 L1 c1,.int .i64 (dx:Int)] 43)).alloc (.cells #[.bool nb2,.slice A2 L2 c2,.int .i64 (dy:Int)] 43)):=Ao (Ao (ab _ _) _) _
 have D1':=li (D1.below b0 hm)
 have D2':=li (D2.below b0 hm)
 clear D1 D2
 go_enter func29,ntmps29
 go_wp2_with fail
 go_at_call 42
 refine (ZG D1'.out D2'.out (by simp;omega) l1 l2).mono ?_
 rintro e w5 ⟨v5,rfl,D5,hb5⟩
 have D5':=li D5
 obtain ⟨nb5,A5,L5,c5,rfl,_⟩:=D5.form
 have b5:=b0.trans (hb5.mono (by simp;omega))
 clear D5 hb5
 go_wp2_with fail
 go_at_call 41
 refine (Alm D5'.out (aa _) hlen).mono ?_
 rintro e w6 ⟨rfl,hb6⟩
 have b6:=b5.trans (hb6.mono (by have:=b5.size;omega))
 go_wp2_with fail
 go_ret
 exact ⟨rfl,b6⟩
theorem ZH (h2:tmps.getD 4 undef=.pointer (some ⟨b,0,none⟩)) (hB:Bz w b [v0,v1,v2] 43) :
  (results Tryz.f255 tmps).run prog w=.ok (.agg #[v0,v1,v2]) w:=by
 have k0:=hB.cell 0
 have k1:=hB.cell 1
 have k2:=hB.cell 2
 simp at k0 k1 k2
 simp at h2
 simp [results,results255,go_sem,h2,k0,k1,k2]
theorem AhO {v:Value} {x y:Int} (D1:DyR w lo1 m v x dx) (D2:DyR w lo2 m v2 y dy) (hm:m≤w.heap.size) (l1:(Ab x.natAbs).length≤50000) (l2:(Ab y.natAbs).length≤50000) :
  Calls prog 255 #[v,v2] w fun e w'=>∃ v',e=.returned v'∧DyR w' w.heap.size w'.heap.size v' (Gh x dx y dy).1 (Gh x dx y dy).2∧Below w.heap.size w w':=by
 have HB1:=D1.bound
 have HB2:=D2.bound
 obtain ⟨nb1,A1,L1,c1,rfl,HD1⟩:=D1.form
 obtain ⟨nb2,A2,L2,c2,rfl,HD2⟩:=D2.form
 have b0:Below w.heap.size w (((w.alloc (.cells #[.bool nb1,.slice A1 L1 c1,.int .i64 (dx:Int)] 43)).alloc (.cells #[.bool nb2,.slice A2 L2 c2,.int .i64 (dy:Int)] 43)).alloc (.cells #[.bool false,.slice none 0 0,.int .i64 0] 43)):=Ao (Ao (Ao (ab _ _) _) _) _
 have D1':=D1.below b0 hm
 have D2':=D2.below b0 hm
 clear D1 D2
 have r2:=Bz.new_ ((w.alloc (.cells #[.bool nb1,.slice A1 L1 c1,.int .i64 (dx:Int)] 43)).alloc (.cells #[.bool nb2,.slice A2 L2 c2,.int .i64 (dy:Int)] 43)) [.bool false,.slice none 0 0,.int .i64 0] 43
 have r1:=(Bz.new_ (w.alloc (.cells #[.bool nb1,.slice A1 L1 c1,.int .i64 (dx:Int)] 43)) [.bool nb2,.slice A2 L2 c2,.int .i64 (dy:Int)] 43).call ((ab _ _).alloc (aa _) (.cells #[.bool false,.slice none 0 0,.int .i64 0] 43))
 have r0:=((Bz.new_ w [.bool nb1,.slice A1 L1 c1,.int .i64 (dx:Int)] 43).call ((ab _ _).alloc (aa _) (.cells #[.bool nb2,.slice A2 L2 c2,.int .i64 (dy:Int)] 43))).call ((ab _ _).alloc (aa _) (.cells #[.bool false,.slice none 0 0,.int .i64 0] 43))
 rw [show ((w.alloc (.cells #[.bool nb1,.slice A1 L1 c1,.int .i64 (dx:Int)] 43)).alloc (.cells #[.bool nb2,.slice A2 L2 c2,.int .i64 (dy:Int)] 43)).heap.size=w.heap.size+2 by simp] at r2
 rw [show (w.alloc (.cells #[.bool nb1,.slice A1 L1 c1,.int .i64 (dx:Int)] 43)).heap.size=w.heap.size+1 by simp] at r1
 go_enter func255,ntmps255
 go_wp2_with fail
 obtain ⟨W,hW⟩:∃ W,W=(((w.alloc (.cells #[.bool nb1,.slice A1 L1 c1,.int .i64 (dx:Int)] 43)).alloc (.cells #[.bool nb2,.slice A2 L2 c2,.int .i64 (dy:Int)] 43)).alloc (.cells #[.bool false,.slice none 0 0,.int .i64 0] 43)):=⟨_,rfl⟩
 have hWs:W.heap.size=w.heap.size+3:=by rw [hW];simp
 rw [←hW]
 rw [←hW] at b0 D1' D2' r0 r1 r2
 clear hW
 have a0:W.cell? ⟨w.heap.size,0,none⟩=some (.bool nb1):=r0.cell 0
 have a1:W.cell? ⟨w.heap.size,1,none⟩=some (.slice A1 L1 c1):=r0.cell 1
 have a2:W.cell? ⟨w.heap.size,2,none⟩=some (.int .i64 (dx:Int)):=r0.cell 2
 have e0:W.cell? ⟨w.heap.size+1,0,none⟩=some (.bool nb2):=r1.cell 0
 have e1:W.cell? ⟨w.heap.size+1,1,none⟩=some (.slice A2 L2 c2):=r1.cell 1
 have e2:W.cell? ⟨w.heap.size+1,2,none⟩=some (.int .i64 (dy:Int)):=r1.cell 2
 go_at_call 29
 refine (Ui D1' D2' (by omega) l1 l2).mono ?_
 rintro e w2 ⟨rfl,hb2⟩
 have s0:=r0.call hb2
 have s1:=r1.call hb2
 have s2:=r2.call hb2
 have b2:=b0.trans (hb2.mono (by omega))
 replace D1':=D1'.below hb2 (by omega)
 replace D2':=D2'.below hb2 (by omega)
 have hz2:w.heap.size+3≤w2.heap.size:=by have:=hb2.size;omega
 clear r0 r1 r2 b0 a0 a1 a2 e0 e1 e2 hWs hb2
 have a0:w2.cell? ⟨w.heap.size,0,none⟩=some (.bool nb1):=s0.cell 0
 have a1:w2.cell? ⟨w.heap.size,1,none⟩=some (.slice A1 L1 c1):=s0.cell 1
 have a2:w2.cell? ⟨w.heap.size,2,none⟩=some (.int .i64 (dx:Int)):=s0.cell 2
 have e0:w2.cell? ⟨w.heap.size+1,0,none⟩=some (.bool nb2):=s1.cell 0
 have e1:w2.cell? ⟨w.heap.size+1,1,none⟩=some (.slice A2 L2 c2):=s1.cell 1
 have e2:w2.cell? ⟨w.heap.size+1,2,none⟩=some (.int .i64 (dy:Int)):=s1.cell 2
 have f0:=s0.free
 by_cases hc:0<BI x dx y dy
 ·as_aux_lemma =>
  have HC:=li hc
  have hodd:=HB2.2
  obtain ⟨cv,hcv⟩:∃ cv,cv=BI x dx y dy:=⟨_,rfl⟩
  rw [←hcv] at hc
  rw [←hcv]
  have hcb:decide (0<cv)=true:=decide_eq_true hc
  clear hcv HB1 HB2
  go_wp2_with fail
  go_at_call 37
  obtain ⟨W,hW⟩:∃ W,W=((w2.setCell ⟨w.heap.size,0,none⟩ (.bool nb2)).setCell ⟨w.heap.size,1,none⟩ (.slice A2 L2 c2)).setCell ⟨w.heap.size,2,none⟩ (.int .i64 (dy:Int)):=⟨_,rfl⟩
  have rz:Bz W (w.heap.size+2) [.bool false,.slice none 0 0,.int .i64 0] 43:=by
   rw [hW]
   exact ((s2.other_ (by omega) _ _).other_ (by omega) _ _).other_ (by omega) _ _
  have bW:Below w.heap.size w W:=by
   rw [hW]
   exact ((b2.setCell (by simp) _).setCell (by simp) _).setCell (by simp) _
  have bX:Below w.heap.size w2 W:=by
   rw [hW]
   exact (((ab _ w2).setCell (by simp) _).setCell (by simp) _).setCell (by simp) _
  have hWs:w.heap.size+3≤W.heap.size:=by rw [hW];simpa using hz2
  rw [←hW]
  clear hW s0 s1 s2 a0 a1 a2 e0 e1 e2 f0 b2
  have D0:DyR W 0 0 (.agg #[.bool false,.slice none 0 0,.int .i64 0]) 0 0:=DyR.zero_ _ _ _
  have hk:SK W (w.heap.size+2) (w.heap.size+2) W:=SK.refl (by omega) ⟨_,_,_,rz⟩
  refine (Lu (D2'.below bX hm) D0 (by omega) (by omega) l2 (by simp [AF])).mono ?_
  rintro e w6 ⟨v6,rfl,D6,hb6⟩
  have hk6:=SK.call hk hb6
  rw [Fh hodd] at D6
  have D6':=li D6
  obtain ⟨nb6,A6,L6,c6,rfl,_⟩:=D6.form
  have hf6:=hk6.lt
  obtain ⟨z0,z1,z2,rw6,k0,k1,k2,kf⟩:=SK.cells hk6
  have b6:=bW.trans (hb6.mono (by omega))
  clear D6 hb6 hk6 hk rz bW
  go_wp2_with fail
  refine bodyPost_ret (ZH rfl (((rw6.set_ 0 _).set_ 1 _).set_ 2 _)) rfl ⟨_,rfl,?_,((b6.setCell (by simp;omega) _).setCell (by simp;omega) _).setCell (by simp;omega) _⟩
  have HE:=((((D6'.out.set_ (b:=w.heap.size+2) (by omega) 0 (.bool nb6)).set_ (b:=w.heap.size+2) (by omega) 1 (.slice A6 L6 c6)).set_ (b:=w.heap.size+2) (by omega) 2 (.int .i64 (dy:Int))).low (show w.heap.size≤W.heap.size by omega))
  have hv:Gh x dx y dy=(y,dy):=by
   unfold Gh
   exact if_pos (by have:=HC.out;omega)
  rw [hv]
  exact HE.more (by simp)
 ·as_aux_lemma =>
  have HC:=li hc
  have hodd:=HB1.2
  obtain ⟨cv,hcv⟩:∃ cv,cv=BI x dx y dy:=⟨_,rfl⟩
  rw [←hcv] at hc
  rw [←hcv]
  have hcb:decide (0<cv)=false:=decide_eq_false hc
  clear hcv HB1 HB2
  go_wp2_with fail
  go_at_call 37
  obtain ⟨W,hW⟩:∃ W,W=w2:=⟨_,rfl⟩
  have rz:=s2
  have bW:=b2
  have hWs:=hz2
  rw [←hW]
  rw [←hW] at rz bW hWs D1' D2'
  clear hW s0 s1 s2 a0 a1 a2 e0 e1 e2 f0 b2
  have D0:DyR W 0 0 (.agg #[.bool false,.slice none 0 0,.int .i64 0]) 0 0:=DyR.zero_ _ _ _
  have hk:SK W (w.heap.size+2) (w.heap.size+2) W:=SK.refl (by omega) ⟨_,_,_,rz⟩
  refine (Lu D1' D0 (by omega) (by omega) l1 (by simp [AF])).mono ?_
  rintro e w6 ⟨v6,rfl,D6,hb6⟩
  have hk6:=SK.call hk hb6
  rw [Fh hodd] at D6
  have D6':=li D6
  obtain ⟨nb6,A6,L6,c6,rfl,_⟩:=D6.form
  have hf6:=hk6.lt
  obtain ⟨z0,z1,z2,rw6,k0,k1,k2,kf⟩:=SK.cells hk6
  have b6:=bW.trans (hb6.mono (by omega))
  clear D6 hb6 hk6 hk rz bW
  go_wp2_with fail
  refine bodyPost_ret (ZH rfl (((rw6.set_ 0 _).set_ 1 _).set_ 2 _)) rfl ⟨_,rfl,?_,((b6.setCell (by simp;omega) _).setCell (by simp;omega) _).setCell (by simp;omega) _⟩
  have HE:=((((D6'.out.set_ (b:=w.heap.size+2) (by omega) 0 (.bool nb6)).set_ (b:=w.heap.size+2) (by omega) 1 (.slice A6 L6 c6)).set_ (b:=w.heap.size+2) (by omega) 2 (.int .i64 (dx:Int))).low (show w.heap.size≤W.heap.size by omega))
  have hv:Gh x dx y dy=(x,dx):=by
   unfold Gh
   exact if_neg (by have:=HC.out;omega)
  rw [hv]
  exact HE.more (by simp)
theorem ZI (h2:tmps.getD 4 undef=.pointer (some ⟨b,0,none⟩)) (hB:Bz w b [v0,v1,v2] 43) :
  (results Tryz.f100 tmps).run prog w=.ok (.agg #[v0,v1,v2]) w:=by
 have k0:=hB.cell 0
 have k1:=hB.cell 1
 have k2:=hB.cell 2
 simp at k0 k1 k2
 simp at h2
 simp [results,results100,go_sem,h2,k0,k1,k2]
theorem AhP {v:Value} {x y:Int} (D1:DyR w lo1 m v x dx) (D2:DyR w lo2 m v2 y dy) (hm:m≤w.heap.size) (l1:(Ab x.natAbs).length≤50000) (l2:(Ab y.natAbs).length≤50000) :
  Calls prog 100 #[v,v2] w fun e w'=>∃ v',e=.returned v'∧DyR w' w.heap.size w'.heap.size v' (FJ x dx y dy).1 (FJ x dx y dy).2∧Below w.heap.size w w':=by
 have HB1:=D1.bound
 have HB2:=D2.bound
 obtain ⟨nb1,A1,L1,c1,rfl,HD1⟩:=D1.form
 obtain ⟨nb2,A2,L2,c2,rfl,HD2⟩:=D2.form
 have b0:Below w.heap.size w (((w.alloc (.cells #[.bool nb1,.slice A1 L1 c1,.int .i64 (dx:Int)] 43)).alloc (.cells #[.bool nb2,.slice A2 L2 c2,.int .i64 (dy:Int)] 43)).alloc (.cells #[.bool false,.slice none 0 0,.int .i64 0] 43)):=Ao (Ao (Ao (ab _ _) _) _) _
 have D1':=D1.below b0 hm
 have D2':=D2.below b0 hm
 clear D1 D2
 have r2:=Bz.new_ ((w.alloc (.cells #[.bool nb1,.slice A1 L1 c1,.int .i64 (dx:Int)] 43)).alloc (.cells #[.bool nb2,.slice A2 L2 c2,.int .i64 (dy:Int)] 43)) [.bool false,.slice none 0 0,.int .i64 0] 43
 have r1:=(Bz.new_ (w.alloc (.cells #[.bool nb1,.slice A1 L1 c1,.int .i64 (dx:Int)] 43)) [.bool nb2,.slice A2 L2 c2,.int .i64 (dy:Int)] 43).call ((ab _ _).alloc (aa _) (.cells #[.bool false,.slice none 0 0,.int .i64 0] 43))
 have r0:=((Bz.new_ w [.bool nb1,.slice A1 L1 c1,.int .i64 (dx:Int)] 43).call ((ab _ _).alloc (aa _) (.cells #[.bool nb2,.slice A2 L2 c2,.int .i64 (dy:Int)] 43))).call ((ab _ _).alloc (aa _) (.cells #[.bool false,.slice none 0 0,.int .i64 0] 43))
 rw [show ((w.alloc (.cells #[.bool nb1,.slice A1 L1 c1,.int .i64 (dx:Int)] 43)).alloc (.cells #[.bool nb2,.slice A2 L2 c2,.int .i64 (dy:Int)] 43)).heap.size=w.heap.size+2 by simp] at r2
 rw [show (w.alloc (.cells #[.bool nb1,.slice A1 L1 c1,.int .i64 (dx:Int)] 43)).heap.size=w.heap.size+1 by simp] at r1
 go_enter func100,ntmps100
 go_wp2_with fail
 obtain ⟨W,hW⟩:∃ W,W=(((w.alloc (.cells #[.bool nb1,.slice A1 L1 c1,.int .i64 (dx:Int)] 43)).alloc (.cells #[.bool nb2,.slice A2 L2 c2,.int .i64 (dy:Int)] 43)).alloc (.cells #[.bool false,.slice none 0 0,.int .i64 0] 43)):=⟨_,rfl⟩
 have hWs:W.heap.size=w.heap.size+3:=by rw [hW];simp
 rw [←hW]
 rw [←hW] at b0 D1' D2' r0 r1 r2
 clear hW
 have a0:W.cell? ⟨w.heap.size,0,none⟩=some (.bool nb1):=r0.cell 0
 have a1:W.cell? ⟨w.heap.size,1,none⟩=some (.slice A1 L1 c1):=r0.cell 1
 have a2:W.cell? ⟨w.heap.size,2,none⟩=some (.int .i64 (dx:Int)):=r0.cell 2
 have e0:W.cell? ⟨w.heap.size+1,0,none⟩=some (.bool nb2):=r1.cell 0
 have e1:W.cell? ⟨w.heap.size+1,1,none⟩=some (.slice A2 L2 c2):=r1.cell 1
 have e2:W.cell? ⟨w.heap.size+1,2,none⟩=some (.int .i64 (dy:Int)):=r1.cell 2
 go_at_call 29
 refine (Ui D1' D2' (by omega) l1 l2).mono ?_
 rintro e w2 ⟨rfl,hb2⟩
 have s0:=r0.call hb2
 have s1:=r1.call hb2
 have s2:=r2.call hb2
 have b2:=b0.trans (hb2.mono (by omega))
 replace D1':=D1'.below hb2 (by omega)
 replace D2':=D2'.below hb2 (by omega)
 have hz2:w.heap.size+3≤w2.heap.size:=by have:=hb2.size;omega
 clear r0 r1 r2 b0 a0 a1 a2 e0 e1 e2 hWs hb2
 have a0:w2.cell? ⟨w.heap.size,0,none⟩=some (.bool nb1):=s0.cell 0
 have a1:w2.cell? ⟨w.heap.size,1,none⟩=some (.slice A1 L1 c1):=s0.cell 1
 have a2:w2.cell? ⟨w.heap.size,2,none⟩=some (.int .i64 (dx:Int)):=s0.cell 2
 have e0:w2.cell? ⟨w.heap.size+1,0,none⟩=some (.bool nb2):=s1.cell 0
 have e1:w2.cell? ⟨w.heap.size+1,1,none⟩=some (.slice A2 L2 c2):=s1.cell 1
 have e2:w2.cell? ⟨w.heap.size+1,2,none⟩=some (.int .i64 (dy:Int)):=s1.cell 2
 have f0:=s0.free
 by_cases hc:BI x dx y dy<0
 ·as_aux_lemma =>
  have HC:=li hc
  have hodd:=HB2.2
  obtain ⟨cv,hcv⟩:∃ cv,cv=BI x dx y dy:=⟨_,rfl⟩
  rw [←hcv] at hc
  rw [←hcv]
  have hcb:decide (cv<0)=true:=decide_eq_true hc
  clear hcv HB1 HB2
  go_wp2_with fail
  go_at_call 37
  obtain ⟨W,hW⟩:∃ W,W=((w2.setCell ⟨w.heap.size,0,none⟩ (.bool nb2)).setCell ⟨w.heap.size,1,none⟩ (.slice A2 L2 c2)).setCell ⟨w.heap.size,2,none⟩ (.int .i64 (dy:Int)):=⟨_,rfl⟩
  have rz:Bz W (w.heap.size+2) [.bool false,.slice none 0 0,.int .i64 0] 43:=by
   rw [hW]
   exact ((s2.other_ (by omega) _ _).other_ (by omega) _ _).other_ (by omega) _ _
  have bW:Below w.heap.size w W:=by
   rw [hW]
   exact ((b2.setCell (by simp) _).setCell (by simp) _).setCell (by simp) _
  have bX:Below w.heap.size w2 W:=by
   rw [hW]
   exact (((ab _ w2).setCell (by simp) _).setCell (by simp) _).setCell (by simp) _
  have hWs:w.heap.size+3≤W.heap.size:=by rw [hW];simpa using hz2
  rw [←hW]
  clear hW s0 s1 s2 a0 a1 a2 e0 e1 e2 f0 b2
  have D0:DyR W 0 0 (.agg #[.bool false,.slice none 0 0,.int .i64 0]) 0 0:=DyR.zero_ _ _ _
  have hk:SK W (w.heap.size+2) (w.heap.size+2) W:=SK.refl (by omega) ⟨_,_,_,rz⟩
  refine (Lu (D2'.below bX hm) D0 (by omega) (by omega) l2 (by simp [AF])).mono ?_
  rintro e w6 ⟨v6,rfl,D6,hb6⟩
  have hk6:=SK.call hk hb6
  rw [Fh hodd] at D6
  have D6':=li D6
  obtain ⟨nb6,A6,L6,c6,rfl,_⟩:=D6.form
  have hf6:=hk6.lt
  obtain ⟨z0,z1,z2,rw6,k0,k1,k2,kf⟩:=SK.cells hk6
  have b6:=bW.trans (hb6.mono (by omega))
  clear D6 hb6 hk6 hk rz bW
  go_wp2_with fail
  refine bodyPost_ret (ZI rfl (((rw6.set_ 0 _).set_ 1 _).set_ 2 _)) rfl ⟨_,rfl,?_,((b6.setCell (by simp;omega) _).setCell (by simp;omega) _).setCell (by simp;omega) _⟩
  have HE:=((((D6'.out.set_ (b:=w.heap.size+2) (by omega) 0 (.bool nb6)).set_ (b:=w.heap.size+2) (by omega) 1 (.slice A6 L6 c6)).set_ (b:=w.heap.size+2) (by omega) 2 (.int .i64 (dy:Int))).low (show w.heap.size≤W.heap.size by omega))
  have hv:FJ x dx y dy=(y,dy):=by
   unfold FJ
   exact if_pos (by have:=HC.out;omega)
  rw [hv]
  exact HE.more (by simp)
 ·as_aux_lemma =>
  have HC:=li hc
  have hodd:=HB1.2
  obtain ⟨cv,hcv⟩:∃ cv,cv=BI x dx y dy:=⟨_,rfl⟩
  rw [←hcv] at hc
  rw [←hcv]
  have hcb:decide (cv<0)=false:=decide_eq_false hc
  clear hcv HB1 HB2
  go_wp2_with fail
  go_at_call 37
  obtain ⟨W,hW⟩:∃ W,W=w2:=⟨_,rfl⟩
  have rz:=s2
  have bW:=b2
  have hWs:=hz2
  rw [←hW]
  rw [←hW] at rz bW hWs D1' D2'
  clear hW s0 s1 s2 a0 a1 a2 e0 e1 e2 f0 b2
  have D0:DyR W 0 0 (.agg #[.bool false,.slice none 0 0,.int .i64 0]) 0 0:=DyR.zero_ _ _ _
  have hk:SK W (w.heap.size+2) (w.heap.size+2) W:=SK.refl (by omega) ⟨_,_,_,rz⟩
  refine (Lu D1' D0 (by omega) (by omega) l1 (by simp [AF])).mono ?_
  rintro e w6 ⟨v6,rfl,D6,hb6⟩
  have hk6:=SK.call hk hb6
  rw [Fh hodd] at D6
  have D6':=li D6
  obtain ⟨nb6,A6,L6,c6,rfl,_⟩:=D6.form
  have hf6:=hk6.lt
  obtain ⟨z0,z1,z2,rw6,k0,k1,k2,kf⟩:=SK.cells hk6
  have b6:=bW.trans (hb6.mono (by omega))
  clear D6 hb6 hk6 hk rz bW
  go_wp2_with fail
  refine bodyPost_ret (ZI rfl (((rw6.set_ 0 _).set_ 1 _).set_ 2 _)) rfl ⟨_,rfl,?_,((b6.setCell (by simp;omega) _).setCell (by simp;omega) _).setCell (by simp;omega) _⟩
  have HE:=((((D6'.out.set_ (b:=w.heap.size+2) (by omega) 0 (.bool nb6)).set_ (b:=w.heap.size+2) (by omega) 1 (.slice A6 L6 c6)).set_ (b:=w.heap.size+2) (by omega) 2 (.int .i64 (dx:Int))).low (show w.heap.size≤W.heap.size by omega))
  have hv:FJ x dx y dy=(x,dx):=by
   unfold FJ
   exact if_neg (by have:=HC.out;omega)
  rw [hv]
  exact HE.more (by simp)
theorem Sw (h2:tmps.getD 4 undef=.pointer (some ⟨b,0,none⟩)) (hB:Bz w b [v0,v1,v2] 43) :
  (results Tryz.f38 tmps).run prog w=.ok (.agg #[v0,v1,v2]) w:=by
 have k0:=hB.cell 0
 have k1:=hB.cell 1
 have k2:=hB.cell 2
 simp at k0 k1 k2
 simp at h2
 simp [results,results38,go_sem,h2,k0,k1,k2]
theorem Add (h:p:=by
 rw [hW]
 exact ((s1.other_ (by omega) _ _).other_ (by omega) _ _).other_ (by omega) _ _):p:=h
theorem Ade (h:p:=by
 rw [hW]
 exact ((s0.set_ 0 _).set_ 1 _).set_ 2 _):p:=h
theorem Pt {v:Value} {x:Int} {n:Int} (D:DyR w lo m v x d) (hm:m≤w.heap.size) (hl:(Ab x.natAbs).length≤50000) (hd:(d:Int) - max (-65536) (min n 65536)≤65536) :
    Calls prog 38 #[v,.int .i64 n] w fun e w'=>∃ v',e=.returned v'∧DyR w' w.heap.size w'.heap.size v' (Ae x d n).1 (Ae x d n).2∧Below w.heap.size w w':=by
  obtain ⟨nn,hnn⟩:∃ nn:Int,max (-65536) (min n 65536)=nn:=⟨_,rfl⟩
  have hb1 : -65536≤nn:=by omega
  have hb2:nn≤65536:=by omega
  rw [hnn] at hd
  by_cases hneg:nn<0
  · as_aux_lemma =>
    obtain ⟨p,hp⟩:∃ p:Nat,p=d+(-nn).toNat:=⟨_,rfl⟩
    have HV := li (show Ae x d n = nf x p by unfold Ae; rw [hnn, if_pos hneg, ← hp])
    have hpp:(d:Int) - nn=(p:Int):=by omega
    have hp6:p≤65536:=by omega
    clear hp
    obtain ⟨nb,A,L,c,rfl,HD⟩:=D.form
    have D':=li D
    clear D
    have b0:Below w.heap.size w ((w.alloc (.cells #[.bool nb,.slice A L c,.int .i64 (d:Int)] 43)).alloc (.cells #[.bool false,.slice none 0 0,.int .i64 0] 43)):=Ao (Ao (ab _ _) _) _
    have r0:=(Bz.new_ w [.bool nb,.slice A L c,.int .i64 (d:Int)] 43).call ((ab _ _).alloc (aa _) (.cells #[.bool false,.slice none 0 0,.int .i64 0] 43))
    have r1:=(Bz.new_ (w.alloc (.cells #[.bool nb,.slice A L c,.int .i64 (d:Int)] 43)) [.bool false,.slice none 0 0,.int .i64 0] 43)
    rw [show (w.alloc (.cells #[.bool nb,.slice A L c,.int .i64 (d:Int)] 43)).heap.size=w.heap.size+1 by simp] at r1
    go_enter func38,ntmps38
    go_wp2_with fail
    go_at_call 105
    refine (IL (D'.out.below b0 hm) (by simp;omega) (by omega)).mono ?_
    rintro e w1 ⟨rfl,hb⟩
    have s0:=r0.below hb (by simp;omega)
    have s1:=r1.below hb (by simp)
    have b1:=b0.trans (hb.mono (by simp;omega))
    have D1:=li (D'.out.below b1 hm)
    have hz1:w.heap.size+2≤w1.heap.size:=by simpa using hb.size
    clear hb r0 r1 b0
    have k0:w1.cell? ⟨w.heap.size,0,none⟩=some (.bool nb):=s0.cell 0
    have k1:w1.cell? ⟨w.heap.size,1,none⟩=some (.slice A L c):=s0.cell 1
    have k2:w1.cell? ⟨w.heap.size,2,none⟩=some (.int .i64 (d:Int)):=s0.cell 2
    have kf:=s0.free
    go_wp2_with fail
    go_at_call 107
    obtain ⟨W,hW⟩:∃ W,W=((w1.setCell ⟨w.heap.size,0,none⟩ (.bool nb)).setCell ⟨w.heap.size,1,none⟩ (.slice A L c)).setCell ⟨w.heap.size,2,none⟩ (.int .i64 (d:Int)):=⟨_,rfl⟩
    have hWs:w.heap.size+2≤W.heap.size:=by rw [hW];simpa using hz1
    have b2:Below w.heap.size w W:=by rw [hW];exact ((b1.setCell (by simp) _).setCell (by simp) _).setCell (by simp) _
    have t0:Bz W w.heap.size [.bool nb,.slice A L c,.int .i64 (d:Int)] 43:=by
      exact Ade
    have t1:Bz W (w.heap.size+1) [.bool false,.slice none 0 0,.int .i64 0] 43:=by
      exact Add
    have X:WdR W m (.slice A L c) x.natAbs:=(D'.out.below b2 hm).words
    rw [←hW]
    clear hW s0 s1 b1 k0 k1 k2 kf hz1 D1
    have k0:W.cell? ⟨w.heap.size,0,none⟩=some (.bool nb):=t0.cell 0
    have k1:W.cell? ⟨w.heap.size,1,none⟩=some (.slice A L c):=t0.cell 1
    have k2:W.cell? ⟨w.heap.size,2,none⟩=some (.int .i64 (d:Int)):=t0.cell 2
    refine (Eo X (by omega) (by omega) hp6).mono ?_
    rintro e w3 ⟨v',rfl,D3,hb3⟩
    rw [HD.out.1,Qf,←HV.out] at D3
    have b3:=b2.trans (hb3.mono (by omega))
    have u1:=t1.call hb3
    have hu1:=u1.lt
    obtain ⟨nb3,A3,L3,c3,rfl,_⟩:=D3.form
    have D3':=li D3
    have q0:w3.cell? ⟨w.heap.size+1,0,none⟩=some (.bool false):=u1.cell 0
    have q1:w3.cell? ⟨w.heap.size+1,1,none⟩=some (.slice none 0 0):=u1.cell 1
    have q2:w3.cell? ⟨w.heap.size+1,2,none⟩=some (.int .i64 0):=u1.cell 2
    have qf:=u1.free
    clear D3 hb3 t0 t1 b2 X
    go_wp2_with fail
    refine bodyPost_ret (Sw rfl (((u1.set_ 0 _).set_ 1 _).set_ 2 _)) rfl ⟨_,rfl,?_,((b3.setCell (by simp) _).setCell (by simp) _).setCell (by simp) _⟩
    exact ZD
  · as_aux_lemma =>
    obtain ⟨p,hp⟩:∃ p:Nat,nn=(p:Int):=⟨nn.toNat,by omega⟩
    subst hp
    have HV := li (show Ae x d n = nf (x * 2 ^ p) d by unfold Ae; rw [hnn, if_neg hneg]; rfl)
    have hneg':¬ (p:Int)<0:=by omega
    have hn2:decide ((p:Int)<0)=false:=decide_eq_false hneg'
    have hp6:p≤1000000:=by omega
    clear hneg
    obtain ⟨nb,A,L,c,rfl,HD⟩:=D.form
    have D':=li D
    clear D
    have b0:Below w.heap.size w ((w.alloc (.cells #[.bool nb,.slice A L c,.int .i64 (d:Int)] 43)).alloc (.cells #[.bool false,.slice none 0 0,.int .i64 0] 43)):=Ao (Ao (ab _ _) _) _
    have r0:=(Bz.new_ w [.bool nb,.slice A L c,.int .i64 (d:Int)] 43).call ((ab _ _).alloc (aa _) (.cells #[.bool false,.slice none 0 0,.int .i64 0] 43))
    have r1:=(Bz.new_ (w.alloc (.cells #[.bool nb,.slice A L c,.int .i64 (d:Int)] 43)) [.bool false,.slice none 0 0,.int .i64 0] 43)
    rw [show (w.alloc (.cells #[.bool nb,.slice A L c,.int .i64 (d:Int)] 43)).heap.size=w.heap.size+1 by simp] at r1
    go_enter func38,ntmps38
    go_wp2_with fail
    go_at_call 105
    refine (IL (D'.out.below b0 hm) (by simp;omega) (by omega)).mono ?_
    rintro e w1 ⟨rfl,hb⟩
    have s0:=r0.below hb (by simp;omega)
    have s1:=r1.below hb (by simp)
    have b1:=b0.trans (hb.mono (by simp;omega))
    have D1:=li (D'.out.below b1 hm)
    have hz1:w.heap.size+2≤w1.heap.size:=by simpa using hb.size
    clear hb r0 r1 b0
    have k0:w1.cell? ⟨w.heap.size,0,none⟩=some (.bool nb):=s0.cell 0
    have k1:w1.cell? ⟨w.heap.size,1,none⟩=some (.slice A L c):=s0.cell 1
    have k2:w1.cell? ⟨w.heap.size,2,none⟩=some (.int .i64 (d:Int)):=s0.cell 2
    have kf:=s0.free
    have hd6:=HD.out.2.2.2.2.2.1
    have hval:nf (sg nb (x.natAbs*2 ^ p)) d=Ae x d n:=by rw [HD.out.1,Vc,HV.out]
    have HVAL:=li hval
    have hlen:(Ab (x.natAbs*2 ^ p)).length≤100000:=by
      have:=Bo x.natAbs p
      omega
    clear hval
    go_wp2_with fail
    obtain ⟨W,hW⟩:∃ W,W=((w1.setCell ⟨w.heap.size,0,none⟩ (.bool nb)).setCell ⟨w.heap.size,1,none⟩ (.slice A L c)).setCell ⟨w.heap.size,2,none⟩ (.int .i64 (d:Int)):=⟨_,rfl⟩
    have hWs:w.heap.size+2≤W.heap.size:=by rw [hW];simpa using hz1
    have b2:Below w.heap.size w W:=by rw [hW];exact ((b1.setCell (by simp) _).setCell (by simp) _).setCell (by simp) _
    have t0:Bz W w.heap.size [.bool nb,.slice A L c,.int .i64 (d:Int)] 43:=by
      exact Ade
    have t1:Bz W (w.heap.size+1) [.bool false,.slice none 0 0,.int .i64 0] 43:=by
      exact Add
    have X:WdR W m (.slice A L c) x.natAbs:=(D'.out.below b2 hm).words
    rw [←hW]
    clear hW s0 s1 b1 k0 k1 k2 kf hz1 D1
    have k0:W.cell? ⟨w.heap.size,0,none⟩=some (.bool nb):=t0.cell 0
    have k1:W.cell? ⟨w.heap.size,1,none⟩=some (.slice A L c):=t0.cell 1
    have k2:W.cell? ⟨w.heap.size,2,none⟩=some (.int .i64 (d:Int)):=t0.cell 2
    have hle:m≤w.heap.size+1:=by omega
    have hk:SK W (w.heap.size+1) (w.heap.size+1) W:=SK.refl (by omega) ⟨_,_,_,t1⟩
    go_region_held3 (fun w'=>(∀ b o,b<w.heap.size+1→w'.cell? ⟨b,o,none⟩=W.cell? ⟨b,o,none⟩)∧SK W (w.heap.size+1) (w.heap.size+1) w')
      (first
      | (refine SK.all ?_
         first
           | assumption
           | exact hk
           | exact hk.drew
           | exact ((SK.set (by assumption) (by omega) _ _).set (by omega) _ _).set (by omega) _ _))
      (first
        | (go_at_call 106;refine (ZE (X.below (ab m W).drew (aa _)) (by simp;omega) (by omega) hp6).mono ?_;(rintro e w5 ⟨v5,rfl,D5,hb5⟩;have hk5:=SK.call hk.drew hb5;have hf5:=hk5.lt;obtain ⟨A5,L5,c5,rfl⟩:=D5.form))
        | (go_at_call 107;refine (Eo D5 (aa _) hlen hd6).mono ?_;(rintro e w6 ⟨v6,rfl,D6,hb6⟩;have hk6:=SK.call hk5 hb6;have hf6:=hk6.lt;rw [HVAL.out] at D6;obtain ⟨nb6,A9,L9,c9,rfl,_⟩:=D6.form;obtain ⟨z0,z1,z2,rz,k0,k1,k2,kf⟩:=SK.cells hk6)))
    go_wp2_with fail
    refine bodyPost_ret (Sw rfl (((rz.set_ 0 _).set_ 1 _).set_ 2 _)) rfl ⟨_,rfl,?_,(((b2.trans (hk6.is.mono (by omega))).setCell (by simp) _).setCell (by simp) _).setCell (by simp) _⟩
    exact ((((D6.set_ (by omega) 0 _).set_ (by omega) 1 _).set_ (by omega) 2 _).low (by omega)).more (by simp)
theorem ZJ {v5:Value} (h2:tmps.getD 4 undef=.pointer (some ⟨b,0,none⟩)) (h5:tmps.getD 5 undef=v5) (hB:Bz w b [v0,v1,v2] 43) :
  (results Tryz.f173 tmps).run prog w=.ok (.tuple #[.agg #[v0,v1,v2],v5]) w:=by
 have k0:=hB.cell 0
 have k1:=hB.cell 1
 have k2:=hB.cell 2
 simp at k0 k1 k2
 simp at h2 h5
 simp [results,results173,go_sem,h2,h5,k0,k1,k2]
theorem AhQ {v:Value} {k:Nat} (h:WdR w m v n) (hm:m≤w.heap.size) (hl:(Ab n).length≤100000) (hk:k≤1000000) :
  Calls prog 207 #[v,.int .i64 (k:Int)] w fun e w'=>∃ v',e=.returned (.tuple #[v',.bool (Ml n k)])∧WdR w' w'.heap.size v' (n / 2 ^ k)∧Below w.heap.size w w':=by
 obtain ⟨A,c,rfl,h1,h2,h3⟩:=h
 refine (NK A (Ab n) c k m w hm h3 (Ay n) hl hk).mono ?_
 rintro e w' ⟨G,g,rfl,g1,g2,g3,hb⟩
 rw [Am] at g2 g3 ⊢
 exact Adc
theorem Adf (h:p:=by
 obtain ⟨nb3,A3,L3,c3,rfl,_⟩:=D3.form
 have D3':=li D3
 have q0:w3.cell? ⟨w.heap.size+1,0,none⟩=some (.bool false):=u1.cell 0
 have q1:w3.cell? ⟨w.heap.size+1,1,none⟩=some (.slice none 0 0):=u1.cell 1
 have q2:w3.cell? ⟨w.heap.size+1,2,none⟩=some (.int .i64 0):=u1.cell 2
 have qf:=u1.free
 clear D3 hb3
 go_wp2_with fail
 refine bodyPost_ret (ZJ rfl  rfl (((u1.set_ 0 _).set_ 1 _).set_ 2 _)) rfl ⟨_,rfl,?_,((b3.setCell (by simp) _).setCell (by simp) _).setCell (by simp) _⟩
 exact ((((D3'.out.set_ (by omega) 0 _).set_ (by omega) 1 _).set_ (by omega) 2 _).low (by omega)).more (by simp)):p:=h
theorem ZK {v:Value} {x:Int} {den:Nat} (D:DyR w lo m v x d) (hm:m≤w.heap.size) (hl:(Ab x.natAbs).length≤50000) (hden:den≤65536) :
  Calls prog 173 #[v,.int .i64 (den:Int)] w fun e w'=>∃ v',e=.returned (.tuple #[v',.int .i64 0])∧DyR w' w.heap.size w'.heap.size v' (Bg x d den).1 (Bg x d den).2∧Below w.heap.size w w':=by
 have n1:decide ((den:Int)<0)=false:=decide_eq_false (by omega)
 have n2:decide ((65536:Int)<(den:Int))=false:=decide_eq_false (by omega)
 have n3:¬ (den:Int)<0:=by omega
 have n4:¬ (65536:Int)<(den:Int):=by omega
 have hdr:=D.bound
 by_cases hle:d≤den
 ·as_aux_lemma =>
  have HV:=li (show Bg x d den=(x,d) from if_pos hle)
  have n5:(d:Int)≤(den:Int):=by omega
  obtain ⟨nb,A,L,c,rfl,HD⟩:=D.form
  have D':=li D
  clear D
  have b0:Below w.heap.size w ((w.alloc (.cells #[.bool nb,.slice A L c,.int .i64 (d:Int)] 43)).alloc (.cells #[.bool false,.slice none 0 0,.int .i64 0] 43)):=Ao (Ao (ab _ _) _) _
  have r0:=(Bz.new_ w [.bool nb,.slice A L c,.int .i64 (d:Int)] 43).call ((ab _ _).alloc (aa _) (.cells #[.bool false,.slice none 0 0,.int .i64 0] 43))
  have r1:=(Bz.new_ (w.alloc (.cells #[.bool nb,.slice A L c,.int .i64 (d:Int)] 43)) [.bool false,.slice none 0 0,.int .i64 0] 43)
  rw [show (w.alloc (.cells #[.bool nb,.slice A L c,.int .i64 (d:Int)] 43)).heap.size=w.heap.size+1 by simp] at r1
  go_enter func173,ntmps173
  go_wp2_with fail
  go_at_call 105
  refine (IL (D'.out.below b0 hm) (by simp;omega) (by omega)).mono ?_
  rintro e w1 ⟨rfl,hb⟩
  have s0:=r0.below hb (by simp;omega)
  have s1:=r1.below hb (by simp)
  have b1:=b0.trans (hb.mono (by simp;omega))
  have D1:=li (D'.out.below b1 hm)
  have hz1:w.heap.size+2≤w1.heap.size:=by simpa using hb.size
  clear hb r0 r1 b0
  have k0:w1.cell? ⟨w.heap.size,0,none⟩=some (.bool nb):=s0.cell 0
  have k1:w1.cell? ⟨w.heap.size,1,none⟩=some (.slice A L c):=s0.cell 1
  have k2:w1.cell? ⟨w.heap.size,2,none⟩=some (.int .i64 (d:Int)):=s0.cell 2
  have kf:=s0.free
  go_wp2_with fail
  go_at_call 107
  obtain ⟨W,hW⟩:∃ W,W=((w1.setCell ⟨w.heap.size,0,none⟩ (.bool nb)).setCell ⟨w.heap.size,1,none⟩ (.slice A L c)).setCell ⟨w.heap.size,2,none⟩ (.int .i64 (d:Int)):=⟨_,rfl⟩
  have hWs:w.heap.size+2≤W.heap.size:=by rw [hW];simpa using hz1
  have b2:Below w.heap.size w W:=by rw [hW];exact ((b1.setCell (by simp) _).setCell (by simp) _).setCell (by simp) _
  have t0:Bz W w.heap.size [.bool nb,.slice A L c,.int .i64 (d:Int)] 43:=by
   exact Ade
  have t1:Bz W (w.heap.size+1) [.bool false,.slice none 0 0,.int .i64 0] 43:=by
   exact Add
  have X:WdR W m (.slice A L c) x.natAbs:=(D'.out.below b2 hm).words
  rw [←hW]
  clear hW s0 s1 b1 k0 k1 k2 kf hz1 D1
  have k0:W.cell? ⟨w.heap.size,0,none⟩=some (.bool nb):=t0.cell 0
  have k1:W.cell? ⟨w.heap.size,1,none⟩=some (.slice A L c):=t0.cell 1
  have k2:W.cell? ⟨w.heap.size,2,none⟩=some (.int .i64 (d:Int)):=t0.cell 2
  refine (Eo X (by omega) (by omega) hdr.1).mono ?_
  rintro e w3 ⟨v',rfl,D3,hb3⟩
  rw [HD.out.1,Qf,Fb hdr.2,←HV.out] at D3
  have b3:=b2.trans (hb3.mono (by omega))
  have u1:=t1.call hb3
  have hu1:=u1.lt
  exact Adf
 ·as_aux_lemma =>
  have n5:¬ (d:Int)≤(den:Int):=by omega
  obtain ⟨k,hk⟩:∃ k:Nat,k=d - den:=⟨_,rfl⟩
  have HV:=li (show Bg x d den=nf (x / 2 ^ k) den by rw [hk];exact if_neg hle)
  have n6:(d:Int) - (den:Int)=(k:Int):=by omega
  have hk6:k≤1000000:=by omega
  have hln:(Ab (x.natAbs / 2 ^ k)).length≤50000:=lT (AJ (ik _ _)) hl
  clear hk
  obtain ⟨nb,A,L,c,rfl,HD⟩:=D.form
  have D':=li D
  clear D
  have b0:Below w.heap.size w ((w.alloc (.cells #[.bool nb,.slice A L c,.int .i64 (d:Int)] 43)).alloc (.cells #[.bool false,.slice none 0 0,.int .i64 0] 43)):=Ao (Ao (ab _ _) _) _
  have r0:=(Bz.new_ w [.bool nb,.slice A L c,.int .i64 (d:Int)] 43).call ((ab _ _).alloc (aa _) (.cells #[.bool false,.slice none 0 0,.int .i64 0] 43))
  have r1:=(Bz.new_ (w.alloc (.cells #[.bool nb,.slice A L c,.int .i64 (d:Int)] 43)) [.bool false,.slice none 0 0,.int .i64 0] 43)
  rw [show (w.alloc (.cells #[.bool nb,.slice A L c,.int .i64 (d:Int)] 43)).heap.size=w.heap.size+1 by simp] at r1
  go_enter func173,ntmps173
  go_wp2_with fail
  go_at_call 105
  refine (IL (D'.out.below b0 hm) (by simp;omega) (by omega)).mono ?_
  rintro e w1 ⟨rfl,hb⟩
  have s0:=r0.below hb (by simp;omega)
  have s1:=r1.below hb (by simp)
  have b1:=b0.trans (hb.mono (by simp;omega))
  have D1:=li (D'.out.below b1 hm)
  have hz1:w.heap.size+2≤w1.heap.size:=by simpa using hb.size
  clear hb r0 r1 b0
  have k0:w1.cell? ⟨w.heap.size,0,none⟩=some (.bool nb):=s0.cell 0
  have k1:w1.cell? ⟨w.heap.size,1,none⟩=some (.slice A L c):=s0.cell 1
  have k2:w1.cell? ⟨w.heap.size,2,none⟩=some (.int .i64 (d:Int)):=s0.cell 2
  have kf:=s0.free
  go_wp2_with fail
  go_at_call 207
  obtain ⟨W,hW⟩:∃ W,W=((w1.setCell ⟨w.heap.size,0,none⟩ (.bool nb)).setCell ⟨w.heap.size,1,none⟩ (.slice A L c)).setCell ⟨w.heap.size,2,none⟩ (.int .i64 (d:Int)):=⟨_,rfl⟩
  have hWs:w.heap.size+2≤W.heap.size:=by rw [hW];simpa using hz1
  have b2:Below w.heap.size w W:=by rw [hW];exact ((b1.setCell (by simp) _).setCell (by simp) _).setCell (by simp) _
  have t0:Bz W w.heap.size [.bool nb,.slice A L c,.int .i64 (d:Int)] 43:=by
   exact Ade
  have t1:Bz W (w.heap.size+1) [.bool false,.slice none 0 0,.int .i64 0] 43:=by
   exact Add
  have X:WdR W m (.slice A L c) x.natAbs:=(D'.out.below b2 hm).words
  rw [←hW]
  clear hW s0 s1 b1 k0 k1 k2 kf hz1 D1
  have k0:W.cell? ⟨w.heap.size,0,none⟩=some (.bool nb):=t0.cell 0
  have k1:W.cell? ⟨w.heap.size,1,none⟩=some (.slice A L c):=t0.cell 1
  have k2:W.cell? ⟨w.heap.size,2,none⟩=some (.int .i64 (d:Int)):=t0.cell 2
  refine (AhQ X (by omega) (by omega) hk6).mono ?_
  rintro e w4 ⟨v4,rfl,Y,hb4⟩
  obtain ⟨A4,L4,c4,rfl⟩:=Y.form
  have t1':=t1.call hb4
  have t0':=t0.call hb4
  have hz4:w.heap.size+2≤w4.heap.size:=by have:=hb4.size;omega
  have b4:=b2.trans (hb4.mono (by omega))
  clear t0 t1 b2 k0 k1 k2 hb4
  have k0:w4.cell? ⟨w.heap.size,0,none⟩=some (.bool nb):=t0'.cell 0
  obtain ⟨cb,hcb⟩:∃ cb,cb=Ml x.natAbs k:=⟨_,rfl⟩
  rw [←hcb]
  have HC:=li hcb
  clear hcb
  have hnb:=HD.out.1
  cases nb with
  | false =>
   as_aux_lemma =>
   have hx:0≤x:=by simpa using hnb.symm
   have HX:=li hx
   clear hnb hx
   have t1:=t1'
   have b2:=b4
   have hWs:=hz4
   clear t1' t0' b4 hz4
   go_wp2_with fail
   go_at_call 107
   refine (Eo Y (by omega) (by omega) hden).mono ?_
   rintro e w3 ⟨v',rfl,D3,hb3⟩
   rw [AeQ HX.out,←HV.out] at D3
   have b3:=b2.trans (hb3.mono (by omega))
   have u1:=t1.call hb3
   have hu1:=u1.lt
   exact Adf
  | true =>
   have hx:x<0:=by simpa using hnb.symm
   have HX:=li hx
   clear hnb hx
   cases cb with
   | false =>
    as_aux_lemma =>
    have t1:=t1'
    have b2:=b4
    have hWs:=hz4
    clear t1' t0' b4 hz4
    go_wp2_with fail
    go_at_call 107
    refine (Eo Y (by omega) (by omega) hden).mono ?_
    rintro e w3 ⟨v',rfl,D3,hb3⟩
    rw [Akc HX.out HC.out.symm,←HV.out] at D3
    have b3:=b2.trans (hb3.mono (by omega))
    have u1:=t1.call hb3
    have hu1:=u1.lt
    exact Adf
   | true =>
    as_aux_lemma =>
    have hln2:(Ab (x.natAbs / 2 ^ k+1)).length≤100000:=by
     have:=Dx (x.natAbs / 2 ^ k) 1
     have e1:(Ab 1).length=1:=by rw [CG (by decide),show 1 / 4294967296=0 by decide,AF];rfl
     omega
    go_wp2_with fail
    go_at_call 108
    have c1:WdR (w4.alloc (.cells #[.int .u32 1] 126)) (w4.heap.size+1) (.slice (some ⟨w4.heap.size,0,none⟩) 1 1) 1:=by
     have e1:Ab 1=[1]:=by rw [CG (by decide),show 1 / 4294967296=0 by decide,AF]
     refine ⟨some ⟨w4.heap.size,0,none⟩,1,by rw [e1];rfl,by simp,by rw [e1];exact aa _,?_⟩
     rw [e1]
     exact (Bz.new_ w4 (w32 [1]) 126).cells_ (by omega)
    refine (Aff (Y.below ((ab _ w4).alloc (aa _) _) (aa _)) c1 (by simp) (by simp) (by omega) (by rw [CG (by decide),show 1 / 4294967296=0 by decide,AF];simp)).mono ?_
    rintro e w5 ⟨v5,rfl,Z,hb5⟩
    obtain ⟨A5,L5,c5,rfl⟩:=Z.form
    have ba:=(ab w4.heap.size w4).alloc (aa _) (.cells #[.int .u32 1] 126)
    have bb:=ba.trans (hb5.mono (by simp))
    have t1:=t1'.call bb
    have t0:=t0'.call bb
    have b2:=b4.trans (bb.mono (by omega))
    have hWs:w.heap.size+2≤w5.heap.size:=by have:=bb.size;omega
    have m0:w5.cell? ⟨w.heap.size,0,none⟩=some (.bool true):=t0.cell 0
    clear t1' t0' b4 hz4 ba bb hb5 k0
    go_wp2_with fail
    go_at_call 107
    refine (Eo Z (by omega) hln2 hden).mono ?_
    rintro e w3 ⟨v',rfl,D3,hb3⟩
    rw [OZ HX.out HC.out.symm,←HV.out] at D3
    have b3:=b2.trans (hb3.mono (by omega))
    have u1:=t1.call hb3
    have hu1:=u1.lt
    exact Adf
def Afg (vs:List Value):Prop:=∀ u∈vs,∀ z,u≠.int .u32 z
theorem Bz.notwd {t:Nat} {vs:List Value} {A:Option Addr} (h:Bz w g vs t) (hn:Afg vs) (hc:An w m A (w32 ws)) (j:Nat) (u:Value):An (w.setCell ⟨g,j,none⟩ u) m A (w32 ws):=fun hx=>by
 obtain ⟨b,off,hA,hbm,hbs,hcc⟩:=hc hx
 have hne:b≠g:=fun he=>by
  have hp:0<ws.length:=by
   have:=TG ws
   rcases df ws.length with h0|h0
   ·exact absurd (cj (this.trans h0)) hx
   ·exact h0
  have h1:=hcc 0 (.int .u32 (ws[0]:Int)) (by simp [w32,hp])
  rw [he,h.cell] at h1
  exact hn _ (gM h1) _ rfl
 refine ⟨b,off,hA,hbm,by simpa using hbs,fun i v hv=>?_⟩
 rw [World.cell?_setCell_other _ _ _ _ (fun e=>hne (by cases e;rfl))]
 exact hcc i v hv
theorem DyR.setH {hi t:Nat} {v:Value} {x:Int} {vs:List Value} (h:DyR w lo hi v x d) (hg:Bz w g vs t) (hn:Afg vs) (j:Nat) (u:Value):DyR (w.setCell ⟨g,j,none⟩ u) lo hi v x d:=by
 obtain ⟨A,c,e,h1,h2,h3,h4,h5,h6⟩:=h
 exact ⟨A,c,e,h1,h2,hg.notwd hn h3 j u,h4,h5,h6⟩
theorem Afg.set {vs:List Value} (h:Afg vs) (j:Nat) {u:Value} (hu:∀ z,u≠.int .u32 z):Afg (vs.set j u):=fun v hv z=>by
 rcases gy hv with h1|rfl
 ·exact h v h1 z
 ·exact hu z
theorem Adg {b1:Bool} {A1:Option Addr} {L1 c1:Nat} {d1:Int}:Afg [.bool b1,.slice A1 L1 c1,.int .i64 d1]:=by
 intro u hu z
 simp only [dk,dm,or_false] at hu
 rcases hu with rfl|rfl|rfl <;> simp
theorem Bz.set3d {t:Nat} (h:Bz w b [v0,v1,v2] t) (a0 a1 a2:Value):Bz (((w.setCell ⟨b,0,none⟩ a0).setCell ⟨b,1,none⟩ a1).setCell ⟨b,2,none⟩ a2) b [a0,a1,a2] t:=((h.set_ 0 a0).set_ 1 a1).set_ 2 a2
theorem DyR.set3H {hi t:Nat} {v:Value} {x:Int} {a0 a1 a2:Value} (h:DyR w lo hi v x d) (hg:Bz w g [v0,v1,v2] t) (hn:Afg [v0,v1,v2]) (ha:Afg [a0,a1,a2]) :
  DyR (((w.setCell ⟨g,0,none⟩ a0).setCell ⟨g,1,none⟩ a1).setCell ⟨g,2,none⟩ a2) lo hi v x d:=by
 have k0:=hn.set 0 (ha a0 (by simp))
 have k1:=k0.set 1 (ha a1 (by simp))
 exact ((h.setH hg hn 0 a0).setH (hg.set_ 0 a0) k0 1 a1).setH ((hg.set_ 0 a0).set_ 1 a1) k1 2 a2
theorem Afh (w:World) (g:Nat) (a0 a1 a2:Value):(((w.setCell ⟨g,0,none⟩ a0).setCell ⟨g,1,none⟩ a1).setCell ⟨g,2,none⟩ a2).heap.size=w.heap.size:=by simp
theorem NL {W:World} (h:Below m W w) (hg:m≤g) (a0 a1 a2:Value):Below m W (((w.setCell ⟨g,0,none⟩ a0).setCell ⟨g,1,none⟩ a1).setCell ⟨g,2,none⟩ a2) :=
 ((h.setCell hg a0).setCell hg a1).setCell hg a2
def shE (x k:Int):Int:=if k<0 then x / 2 ^ (-k).toNat else x*2 ^ k.toNat
theorem Adh (x:Int) (p:Nat):(nf x p).1 / 2 ^ (nf x p).2=x / 2 ^ p:=by
 induction p generalizing x with
 | zero=>rfl
 | succ p ih =>
  unfold nf
  split
  ·rename_i h
   rw [ih]
   have e:x=2*(x / 2):=by omega
   rw [il,eg (2 ^ p) 2,←Int.ediv_ediv_of_nonneg (by omega)]
  ·rfl
theorem Sy (x:Int) (d:Nat):Bg x d 0=(x / 2 ^ d,0):=by
 unfold Bg
 by_cases h:d≤0
 ·have:d=0:=by omega
  subst this
  simp
 ·rw [if_neg h]
  rfl
theorem Alq {x k:Int} (h1 : -65536≤k) (h2:k≤65536):Bg (Ae x 0 k).1 (Ae x 0 k).2 0=(shE x k,0):=by
 rw [Sy]
 congr 1
 unfold Ae shE
 rw [show max (-65536) (min k 65536)=k by omega]
 by_cases h:k<0
 ·rw [if_pos h,if_pos h,bo]
  exact Adh _ _
 ·rw [if_neg h,if_neg h]
  show x*2 ^ k.toNat / 2 ^ 0=_
  simp
def Lv (n e f:Int):Prop := -2147483648<n∧n<2147483648 ∧ -62≤e∧e≤30∧0≤f∧f≤30
instance (n e f:Int):Decidable (Lv n e f):=by unfold Lv;infer_instance
def ED (n e f:Int):Int:=if Lv n e f then (if -2147483648≤shE n (e+f)∧shE n (e+f)<2147483648 then 0 else 13) else 3
def Acm (n e f:Int):Int:=if ED n e f=0 then shE n (e+f) else 0
theorem Alr {n:Int} (h:¬ Lv n e f):ED n e f=3∧Acm n e f=0:=by
 have h1:ED n e f=3:=if_neg h
 exact ⟨h1,by unfold Acm;rw [h1];rfl⟩
theorem Uj {n:Int} (h:Lv n e f) (h2:¬ (-2147483648≤shE n (e+f)∧shE n (e+f)<2147483648)):ED n e f=13∧Acm n e f=0:=by
 have h1:ED n e f=13:=by unfold ED;rw [if_pos h,if_neg h2]
 exact ⟨h1,by unfold Acm;rw [h1];rfl⟩
theorem AhR {n:Int} (h:Lv n e f) (h2 : -2147483648≤shE n (e+f)∧shE n (e+f)<2147483648):ED n e f=0∧Acm n e f=shE n (e+f):=by
 have h1:ED n e f=0:=by unfold ED;rw [if_pos h,if_pos h2]
 exact ⟨h1,by unfold Acm;rw [h1];rfl⟩
theorem Pu {x:Int} {k:Nat} (hx:x.natAbs≤2147483648) (hk:k≤100):(x*2 ^ k).natAbs≤2147483648*2 ^ 100:=by
 rw [gf,fm]
 exact ep hx (ap (by decide) hk)
theorem Xr {x:Int} (k:Nat):(x / 2 ^ k).natAbs≤x.natAbs:=by
 have hp:(0:Int)<2 ^ k:=gq (by decide)
 have h1:=Int.mul_ediv_add_emod x (2 ^ k)
 have h2:=Int.emod_nonneg x (jb hp)
 have h3:=Int.emod_lt_of_pos x hp
 have hle:(0:Int)≤x→0≤x / 2 ^ k:=fun h=>Int.ediv_nonneg h (bf hp)
 by_cases h:0≤x
 ·have h4:=hle h
  have h5:=Int.ediv_le_self (2 ^ k) h
  omega
 ·have h4:x≤x / 2 ^ k:=by
   rw [Int.le_ediv_iff_mul_le hp]
   have h6:(1:Int)≤2 ^ k:=hp
   have h7:=gu (a := -x) (b:=2 ^ k - 1) (by omega) (by omega)
   rw [dq,Int.mul_sub,Int.mul_one] at h7
   omega
  have h5:x / 2 ^ k<0:=Int.ediv_neg_of_neg_of_pos (by omega) hp
  omega
theorem Als {x k:Int} (hx:x.natAbs≤2147483648) (h1 : -100≤k) (h2:k≤100):(Ab (Ae x 0 k).1.natAbs).length≤5:=by
 refine AC (gd (m:=2147483648*2 ^ 100) ?_ (by decide))
 unfold Ae
 rw [show max (-65536) (min k 65536)=k by omega]
 by_cases h:k<0
 ·rw [if_pos h]
  exact lT (Gn _ _) (lT hx (by decide))
 ·rw [if_neg h]
  exact lT (Gn _ _) (Pu hx (by omega))
theorem AhS {x k:Int} (hx:x.natAbs≤2147483648) (h2:k≤100):(Ab (shE x k).natAbs).length≤5:=by
 refine AC (gd (m:=2147483648*2 ^ 100) ?_ (by decide))
 unfold shE
 by_cases h:k<0
 ·rw [if_pos h]
  exact lT (Xr _) (lT hx (by decide))
 ·rw [if_neg h]
  exact Pu hx (by omega)
theorem Uk {n:Int} (h:Lv n e f):¬ n ≤ -2147483648∧¬ 2147483648≤n∧¬ e < -62∧¬ 30<e∧¬ f<0∧¬ 30<f:=by
 unfold Lv at h
 omega
theorem ZL {n:Int} (h:¬ Lv n e f):n ≤ -2147483648∨(¬ n ≤ -2147483648∧2147483648≤n)∨(¬ n ≤ -2147483648∧¬ 2147483648≤n∧e < -62)∨(¬ n ≤ -2147483648∧¬ 2147483648≤n∧¬ e < -62∧30<e) ∨
  (¬ n ≤ -2147483648∧¬ 2147483648≤n∧¬ e < -62∧¬ 30<e∧f<0)∨(¬ n ≤ -2147483648∧¬ 2147483648≤n∧¬ e < -62∧¬ 30<e∧¬ f<0∧30<f):=by
 unfold Lv at h
 omega
theorem Xs (h:p:=by
 go_enter func117,ntmps117
 go_wp2_with fail
 exact bodyPost_ret (v:=.tuple #[.int .i64 0,.iface 109 (.int .i64 3)]) (by simp [results,results117,go_sem]) rfl ⟨by rw [HV.out.1,HV.out.2];rfl,b0⟩):p:=h
theorem AhT (n e f:Int) (w:World) (h:¬ Lv n e f) :
  Calls prog 117 #[.agg #[.int .i64 n,.int .i64 e],.int .i64 f] w fun r w'=>r=.returned (.tuple #[.int .i64 (Acm n e f),Rr (ED n e f)])∧Below w.heap.size w w':=by
 have HV:=li (Alr h)
 have b0:=al_ w (.cells #[.int .i64 n,.int .i64 e] 61)
 have r0:=Bz.new_ w [.int .i64 n,.int .i64 e] 61
 have h':=ZL h
 clear h
 rcases h' with g0|⟨g0,g1⟩|⟨g0,g1,g2⟩|⟨g0,g1,g2,g3⟩|⟨g0,g1,g2,g3,g4⟩|⟨g0,g1,g2,g3,g4,g5⟩
 ·have d0:decide (n ≤ -2147483648)=true:=decide_eq_true g0
  clear g0
  exact Xs
 ·have d0:decide (n ≤ -2147483648)=false:=decide_eq_false g0
  have d1:decide (2147483648≤n)=true:=decide_eq_true g1
  clear g0 g1
  exact Xs
 ·have d0:decide (n ≤ -2147483648)=false:=decide_eq_false g0
  have d1:decide (2147483648≤n)=false:=decide_eq_false g1
  have d2:decide (e < -62)=true:=decide_eq_true g2
  clear g0 g1 g2
  exact Xs
 ·have d0:decide (n ≤ -2147483648)=false:=decide_eq_false g0
  have d1:decide (2147483648≤n)=false:=decide_eq_false g1
  have d2:decide (e < -62)=false:=decide_eq_false g2
  have d3:decide (30<e)=true:=decide_eq_true g3
  clear g0 g1 g2 g3
  exact Xs
 ·have d0:decide (n ≤ -2147483648)=false:=decide_eq_false g0
  have d1:decide (2147483648≤n)=false:=decide_eq_false g1
  have d2:decide (e < -62)=false:=decide_eq_false g2
  have d3:decide (30<e)=false:=decide_eq_false g3
  have d4:decide (f<0)=true:=decide_eq_true g4
  clear g0 g1 g2 g3 g4
  exact Xs
 ·have d0:decide (n ≤ -2147483648)=false:=decide_eq_false g0
  have d1:decide (2147483648≤n)=false:=decide_eq_false g1
  have d2:decide (e < -62)=false:=decide_eq_false g2
  have d3:decide (30<e)=false:=decide_eq_false g3
  have d4:decide (f<0)=false:=decide_eq_false g4
  have d5:decide (30<f)=true:=decide_eq_true g5
  clear g0 g1 g2 g3 g4 g5
  exact Xs
theorem AhU (h:p:=by
 clear h32
 go_wp2_with fail
 exact bodyPost_ret (v:=.tuple #[.int .i64 0,.iface 109 (.int .i64 13)]) (by simp [results,results117,go_sem]) rfl ⟨by rw [HV.out.1,HV.out.2];rfl,HF.out⟩):p:=h
theorem Alt (h:p:=by
 intro w2 hx
 have e0:w2.cell? ⟨w.heap.size,0,none⟩=some (.int .i64 n):=((hS.trans (hx.more0.mono hS.size)).cell (p:=⟨w.heap.size,0,none⟩) hA).trans a0
 go_simp
 try rfl):p:=h
theorem Alu (h:p:=by
 intro w2 hx
 have e1:w2.cell? ⟨w.heap.size,1,none⟩=some (.int .i64 e):=((hS.trans (hx.more0.mono hS.size)).cell (p:=⟨w.heap.size,1,none⟩) hA).trans a1
 go_simp
 try rfl):p:=h
theorem AhV (n e f:Int) (w:World) (h:Lv n e f) (ht:Ah w) :
  Calls prog 117 #[.agg #[.int .i64 n,.int .i64 e],.int .i64 f] w fun r w'=>r=.returned (.tuple #[.int .i64 (Acm n e f),Rr (ED n e f)])∧Below w.heap.size w w':=by
 have hp:=Uk h
 have hn:n.natAbs≤2147483648:=by have:=hp.1;have:=hp.2.1;omega
 have hk : -62≤e+f∧e+f≤60:=by obtain ⟨_,_,_,_,_,_⟩:=hp;omega
 have HOK:=li h
 have HT:=li ht
 obtain ⟨g0,g1,g2,g3,g4,g5⟩:=hp
 have d0:decide (n ≤ -2147483648)=false:=decide_eq_false g0
 have d1:decide (2147483648≤n)=false:=decide_eq_false g1
 have d2:decide (e < -62)=false:=decide_eq_false g2
 have d3:decide (30<e)=false:=decide_eq_false g3
 have d4:decide (f<0)=false:=decide_eq_false g4
 have d5:decide (30<f)=false:=decide_eq_false g5
 have hi1 : -9223372036854775808≤n:=by omega
 have hi2:n<9223372036854775808:=by omega
 have l5:(Ab n.natAbs).length≤50000:=lT (AC (k:=1) (by omega)) (by decide)
 have l6:(Ab (Ae n 0 (e+f)).1.natAbs).length≤50000:=lT (Als hn (by omega) (by omega)) (by decide)
 have l7:(Ab (shE n (e+f)).natAbs).length≤50000:=lT (AhS hn (by omega)) (by decide)
 have hsv:=li (Alq (x:=n) (k:=e+f) (by omega) (by omega))
 obtain ⟨k,hkk⟩:∃ k,k=e+f:=⟨_,rfl⟩
 have hw1:IntKind.i64.wrap (e+f)=k:=by rw [hkk];exact fq _ (by omega)
 rw [←hkk] at l6 l7 hsv hk
 have HKK:=li hkk
 obtain ⟨x,hx⟩:∃ x,x=shE n k:=⟨_,rfl⟩
 rw [←hx] at l7 hsv
 have HX:=li hx
 clear h ht g0 g1 g2 g3 g4 g5 hkk hx
 go_enter func117,ntmps117
 go_wp2_with fail
 obtain ⟨W,hW⟩:∃ q,q=w.alloc (.cells #[.int .i64 n,.int .i64 e] 61):=⟨_,rfl⟩
 have rX:Bz W w.heap.size [.int .i64 n,.int .i64 e] 61:=by rw [hW];exact Bz.new_ _ _ _
 have bW:Below w.heap.size w W:=by rw [hW];exact al_ _ _
 rw [←hW]
 clear hW
 have hA:=rX.lt
 have a0:W.cell? ⟨w.heap.size,0,none⟩=some (.int .i64 n):=rX.cell 0
 have a1:W.cell? ⟨w.heap.size,1,none⟩=some (.int .i64 e):=rX.cell 1
 have HTW:=li (HT.out.below bW HT.out.1)
 have hWs:=bW.size
 refine Sd 13 13 11 (by kernel_rfl) (by kernel_rfl) (by kernel_rfl) (by decide) ?_
 dsimp only [List.take,List.drop]
 obtain ⟨u0,hu0⟩:∃ q,q=W.drew:=⟨_,rfl⟩
 have hS:Below W.heap.size W u0:=by rw [hu0];exact (ab _ _).drew
 rw [←hu0]
 clear hu0
 refine Lp 0 ?v0 rfl (by kernel_rfl) (by intro _ _ _ h;exact h) (by rfl) ?h0 ?r0
 case h0 =>
  intro w2 hx
  go_simp
  try rfl
 case' r0=>try simp only [Act.put,ce,bk,bl]
 refine Lp 1 ?v1 rfl (by kernel_rfl) (by intro _ _ _ h;exact h) (by rfl) ?h1 ?r1
 case h1 =>
  exact Alt
 case' r1=>try simp only [Act.put,ce,bk,bl]
 refine Lp 3 ?v3 rfl (by kernel_rfl) (by intro _ _ _ h;exact h) (by rfl) ?h3 ?r3
 case h3 =>
  intro w2 hx
  go_simp
  try rfl
 case' r3=>try simp only [Act.put,ce,bk,bl]
 refine Lp 4 ?v4 rfl (by kernel_rfl) (by intro _ _ _ h;exact h) (by rfl) ?h4 ?r4
 case h4 =>
  exact Alu
 case' r4=>try simp only [Act.put,ce,bk,bl]
 refine Lp 5 ?v5 rfl (by kernel_rfl) (by intro _ _ _ h;exact h) (by rfl) ?h5 ?r5
 case h5 =>
  intro w2 hx
  go_simp
  try rfl
 case' r5=>try simp only [Act.put,ce,bk,bl]
 refine Lp 6 ?v6 rfl (by kernel_rfl) (by intro _ _ _ h;exact h) (by rfl) ?h6 ?r6
 case h6 =>
  intro w2 hx
  have hw2:=hw1
  go_simp
  try rfl
 case' r6=>try simp only [Act.put,ce,bk,bl]
 refine AoB 12 (fun g=>.pointer (some ⟨g,0,none⟩)) (.cells #[.bool false,.slice none 0 0,.int .i64 0] 43) W.heap.size rfl (by kernel_rfl) (by intro _ _ _ _ h;exact h) (by rfl) (by intro w2;go_simp;try rfl) hS.size (by intro b h;exact h.elim) ?_
 refine Zf 2 rfl (by kernel_rfl) (by rfl) ?_
 intro x1 hx K hK
 have hS1:=hS.trans (hx.mono hS.size)
 clear hS
 go_simp
 refine (YN n hi1 hi2 x1 (HTW.out.below hS1 HTW.out.1)).mono ?_
 rintro e u1 ⟨v5,rfl,D5,hb⟩
 have hS:=hS1.trans (hb.mono hS1.size)
 obtain ⟨nb5,A5,L5,c5,rfl,_⟩:=D5.form
 refine hK.out _ _ (Du.growU hb) ?_
 clear hK K hx hS1 hb
 try simp only [Act.put,ce,bk,bl]
 refine Zf 7 rfl (by kernel_rfl) (by rfl) ?_
 intro x2 hx K hK
 have hS1:=hS.trans (hx.mono hS.size)
 clear hS
 replace D5:=(D5.below hx (aa _)).more hx.size
 go_simp
 refine (Pb (n:=k) D5 (aa _) l5 (by omega) (HTW.out.below hS1 HTW.out.1)).mono ?_
 rintro e u2 ⟨v6,rfl,D6,hb⟩
 have hS:=hS1.trans (hb.mono hS1.size)
 replace D5:=(D5.below hb (aa _)).more hb.size
 obtain ⟨nb6,A6,L6,c6,rfl,_⟩:=D6.form
 clear D5
 refine hK.out _ _ (Du.growU hb) ?_
 clear hK K hx hS1 hb
 try simp only [Act.put,ce,bk,bl]
 refine Zf 8 rfl (by kernel_rfl) (by rfl) ?_
 intro x3 hx K hK
 have hS1:=hS.trans (hx.mono hS.size)
 clear hS
 replace D6:=(D6.below hx (aa _)).more hx.size
 go_simp
 refine (Pc (den:=0) D6 (aa _) l6 (by omega) (HTW.out.below hS1 HTW.out.1)).mono ?_
 rintro e u3 ⟨v7,rfl,D7,hb⟩
 have hS:=hS1.trans (hb.mono hS1.size)
 replace D6:=(D6.below hb (aa _)).more hb.size
 rw [hsv.out] at D7
 obtain ⟨nb7,A7,L7,c7,rfl,_⟩:=D7.form
 clear D6
 refine hK.out _ _ (Du.growU hb) ?_
 clear hK K hx hS1 hb
 try simp only [Act.put,ce,bk,bl]
 refine Lp 9 ?v9 rfl (by kernel_rfl) (by intro _ _ _ h;exact h) (by rfl) ?h9 ?r9
 case h9 =>
  intro w2 hx
  go_simp
  try rfl
 case' r9=>try simp only [Act.put,ce,bk,bl]
 refine Lp 10 ?v10 rfl (by kernel_rfl) (by intro _ _ _ h;exact h) (by rfl) ?h10 ?r10
 case h10 =>
  intro w2 hx
  go_simp
  try rfl
 case' r10=>try simp only [Act.put,ce,bk,bl]
 refine Lp 11 ?v11 rfl (by kernel_rfl) (by intro _ _ _ h;exact h) (by rfl) ?h11 ?r11
 case h11 =>
  intro w2 hx
  go_simp
  try rfl
 case' r11=>try simp only [Act.put,ce,bk,bl]
 refine endE (by kernel_rfl) ?_
 intro u4 hx g hg hU hgo
 dsimp only [Mb]
 have rg:Bz u4 g [.bool false,.slice none 0 0,.int .i64 0] 43:=hgo
 have hS4:=hS.trans (hx.mono hS.size)
 replace D7:=(D7.below hx (aa _)).more hx.size
 clear hx hS hU hgo
 have RG:=li rg
 have HD7:=li D7
 have HS4:=li hS4
 have c0:u4.cell? ⟨g,0,none⟩=some (.bool false):=rg.cell 0
 have c1:u4.cell? ⟨g,1,none⟩=some (.slice none 0 0):=rg.cell 1
 have c2:u4.cell? ⟨g,2,none⟩=some (.int .i64 0):=rg.cell 2
 have cf:=rg.free
 have cg:=rg.lt
 clear rg D7 hS4 a0 a1
 go_wp2_with fail
 refine NoPanic.normal ?_
 go_wp2_with fail
 go_at_call 210
 obtain ⟨y,hy⟩:∃ q,q=(((u4.setCell ⟨g,0,none⟩ (.bool nb7)).setCell ⟨g,1,none⟩ (.slice A7 L7 c7)).setCell ⟨g,2,none⟩ (.int .i64 0)):=⟨_,rfl⟩
 have Dy:DyR y x3.heap.size y.heap.size (.agg #[.bool nb7,.slice A7 L7 c7,.int .i64 ((0:Nat):Int)]) x 0:=by rw [hy,Afh];exact HD7.out.set3H RG.out Adg Adg
 have hSy:Below W.heap.size W y:=by rw [hy];exact NL HS4.out hg _ _ _
 try rw [←hy]
 clear hy
 refine (Acw (m:=y.heap.size) Dy rfl (aa _) l7).mono ?_
 rintro e8 u8 ⟨rfl,hb8⟩
 have HF:=li (bW.trans ((hSy.trans (hb8.mono hSy.size)).mono hWs))
 clear hb8 hSy Dy HS4 RG HD7 cf cg c0 c1 c2 hg
 by_cases h32 : -2147483648≤x∧x<2147483648
 ·have HV:=li (AhR HOK.out (by rw [←HKK.out,←HX.out];exact h32))
  have h64:=Nc (x:=x) (by omega)
  rw [h64.1,h64.2]
  have f1:decide (x < -2147483648)=false:=decide_eq_false (by omega)
  have f2:decide (2147483648≤x)=false:=decide_eq_false (by omega)
  clear h64
  clear h32
  go_wp2_with fail
  exact bodyPost_ret (v:=.tuple #[.int .i64 x,.nilIface]) (by simp [results,results117,go_sem]) rfl ⟨by rw [HV.out.1,HV.out.2,←HKK.out,←HX.out];rfl,HF.out⟩
 ·by_cases h64 : -9223372036854775808≤x∧x<9223372036854775808
  ·by_cases h7:x < -2147483648
   ·have HV:=li (Uj HOK.out (by rw [←HKK.out,←HX.out];exact h32))
    have h6:=Nc h64
    rw [h6.1,h6.2]
    have f1:decide (x < -2147483648)=true:=decide_eq_true h7
    clear h6 h64 h7
    exact AhU
   ·have HV:=li (Uj HOK.out (by rw [←HKK.out,←HX.out];exact h32))
    have h6:=Nc h64
    rw [h6.1,h6.2]
    have f1:decide (x < -2147483648)=false:=decide_eq_false h7
    have f2:decide (2147483648≤x)=true:=decide_eq_true (by omega)
    clear h6 h64 h7
    exact AhU
  ·have HV:=li (Uj HOK.out (by rw [←HKK.out,←HX.out];exact h32))
   have h6:=Vf h64
   rw [h6.1,h6.2]
   clear h6 h64
   exact AhU
theorem Adi (n e f:Int) (w:World) (ht:Ah w) :
  Calls prog 117 #[.agg #[.int .i64 n,.int .i64 e],.int .i64 f] w fun r w'=>r=.returned (.tuple #[.int .i64 (Acm n e f),Rr (ED n e f)])∧Below w.heap.size w w':=by
 by_cases h:Lv n e f
 ·exact AhV n e f w h ht
 ·exact AhT n e f w h
theorem Xt (h2:tmps.getD 2 undef=.pointer (some ⟨b,0,none⟩)) (hB:Bz w b [v0,v1,v2] 43) :
  (results Tryz.f102 tmps).run prog w=.ok (.agg #[v0,v1,v2]) w:=by
 have k0:=hB.cell 0
 have k1:=hB.cell 1
 have k2:=hB.cell 2
 simp at k0 k1 k2
 simp at h2
 simp [results,results102,go_sem,h2,k0,k1,k2]
theorem Xu (n e:Int) (h1 : -9223372036854775808≤n) (h2:n<9223372036854775808) (w:World) :
  Calls prog 102 #[.agg #[.int .i64 n,.int .i64 e]] w fun r w'=>∃ v',r=.returned v'∧DyR w' w.heap.size w'.heap.size v' (Ae n 0 e).1 (Ae n 0 e).2∧Below w.heap.size w w':=by
 have l5:(Ab n.natAbs).length≤50000:=lT (AC (k:=2) (by omega)) (by decide)
 go_enter func102,ntmps102
 go_wp2_with fail
 obtain ⟨W,hW⟩:∃ q,q=(w.alloc (.cells #[.int .i64 n,.int .i64 e] 61)).alloc (.cells #[.bool false,.slice none 0 0,.int .i64 0] 43):=⟨_,rfl⟩
 have rX:Bz W w.heap.size [.int .i64 n,.int .i64 e] 61:=by rw [hW];exact (Bz.new_ _ _ _).call (al_ _ _)
 have rR:Bz W (w.heap.size+1) [.bool false,.slice none 0 0,.int .i64 0] 43:=by rw [hW];have h:=Bz.new_ (w.alloc (.cells #[.int .i64 n,.int .i64 e] 61)) [.bool false,.slice none 0 0,.int .i64 0] 43;rwa [show (w.alloc (.cells #[.int .i64 n,.int .i64 e] 61)).heap.size=w.heap.size+1 by simp] at h
 have bW:Below w.heap.size w W:=by rw [hW];exact Ao (Ao (ab _ _) _) _
 rw [←hW]
 clear hW
 have hA:=rX.lt
 have hA2:=rR.lt
 have a0:W.cell? ⟨w.heap.size,0,none⟩=some (.int .i64 n):=rX.cell 0
 have a1:W.cell? ⟨w.heap.size,1,none⟩=some (.int .i64 e):=rX.cell 1
 have hWs:=bW.size
 refine Ua 6 (by kernel_rfl) (by kernel_rfl) ?_
 dsimp only [List.take,List.drop]
 obtain ⟨u0,hu0⟩:∃ q,q=W.drew:=⟨_,rfl⟩
 have hS:Below W.heap.size W u0:=by rw [hu0];exact (ab _ _).drew
 rw [←hu0]
 clear hu0
 refine Lp 0 ?v0 rfl (by kernel_rfl) (by intro _ _ _ h;exact h) (by rfl) ?h0 ?r0
 case h0 =>
  intro w2 hx
  go_simp
  try rfl
 case' r0=>try simp only [Act.put,ce,bk,bl]
 refine Lp 1 ?v1 rfl (by kernel_rfl) (by intro _ _ _ h;exact h) (by rfl) ?h1 ?r1
 case h1 =>
  exact Alt
 case' r1=>try simp only [Act.put,ce,bk,bl]
 refine Lp 3 ?v3 rfl (by kernel_rfl) (by intro _ _ _ h;exact h) (by rfl) ?h3 ?r3
 case h3 =>
  intro w2 hx
  go_simp
  try rfl
 case' r3=>try simp only [Act.put,ce,bk,bl]
 refine Lp 4 ?v4 rfl (by kernel_rfl) (by intro _ _ _ h;exact h) (by rfl) ?h4 ?r4
 case h4 =>
  exact Alu
 case' r4=>try simp only [Act.put,ce,bk,bl]
 refine Zf 2 rfl (by kernel_rfl) (by rfl) ?_
 intro x1 hx K hK
 have hS1:=hS.trans (hx.mono hS.size)
 clear hS
 go_simp
 refine (Afe n h1 h2 x1).mono ?_
 rintro e u1 ⟨v5,rfl,D5,hb⟩
 have hS:=hS1.trans (hb.mono hS1.size)
 obtain ⟨nb5,A5,L5,c5,rfl,_⟩:=D5.form
 refine hK.out _ _ (Du.growU hb) ?_
 clear hK K hx hS1 hb
 try simp only [Act.put,ce,bk,bl]
 refine Zf 5 rfl (by kernel_rfl) (by rfl) ?_
 intro x2 hx K hK
 have hS1:=hS.trans (hx.mono hS.size)
 clear hS
 replace D5:=(D5.below hx (aa _)).more hx.size
 go_simp
 refine (Pt (n:=e) D5 (aa _) l5 (by omega)).mono ?_
 rintro e u2 ⟨v6,rfl,D6,hb⟩
 have hS:=hS1.trans (hb.mono hS1.size)
 replace D5:=(D5.below hb (aa _)).more hb.size
 have hx2:=hS1.size
 obtain ⟨nb6,A6,L6,c6,rfl,_⟩:=D6.form
 clear D5
 refine hK.out _ _ (Du.growU hb) ?_
 clear hK K hx hS1 hb
 try simp only [Act.put,ce,bk,bl]
 refine endE (by kernel_rfl) ?_
 intro u4 hx
 have hS4:=hS.trans (hx.mono hS.size)
 replace D6:=(D6.below hx (aa _)).more hx.size
 have r4:=rR.below hS4 hA2
 have HD6:=li D6
 have R4:=li r4
 have B4:=li (bW.trans (hS4.mono hWs))
 have q0:u4.cell? ⟨w.heap.size+1,0,none⟩=some (.bool false):=r4.cell 0
 have q1:u4.cell? ⟨w.heap.size+1,1,none⟩=some (.slice none 0 0):=r4.cell 1
 have q2:u4.cell? ⟨w.heap.size+1,2,none⟩=some (.int .i64 0):=r4.cell 2
 have qf:=r4.free
 have hu4:=r4.lt
 clear D6 r4 hS4 hS hx a0 a1 rX rR bW
 go_wp2_with fail
 refine bodyPost_ret (Xt rfl (R4.out.set3d _ _ _)) rfl ⟨_,rfl,?_,NL B4.out (by omega) _ _ _⟩
 rw [Afh]
 exact (HD6.out.set3H R4.out Adg Adg).low (by omega)
def wds (x:Int):List D:=(w32 (Ab x.natAbs)).map D.val
def dDy (t:Bool) (x:Int) (d:Nat):List D:=[.val (.bool (decide (x<0))),.row t 1 (Ab x.natAbs).length (wds x),.val (.int .i64 (d:Int))]
def aDy (t:Bool) (x:Int) (d:Nat):A:=.agg (dDy t x d)
def Nf (x:Int) (d:Nat):Prop:=d≤65536∧(d≠0→x % 2=1)
theorem Fq {t:Bool} {x:Int} {v:Value} (h:EM w S (aDy t x d) v) (hS:∀ t b,S t b→b<w.heap.size) (hn:Nf x d):DyR w 0 w.heap.size v x d:=by
 obtain ⟨xs,rfl,h1⟩:=h
 obtain ⟨a,l1,rfl,ha,h2⟩:=h1.uncons
 obtain ⟨b,l2,rfl,hb,h3⟩:=h2.uncons
 obtain ⟨c,l3,rfl,hc,h4⟩:=h3.uncons
 rw [h4.unnil]
 cases ha
 cases hc
 cases hb with
 | @row _ _ _ c cs A xs hc hA hl hx hm hr =>
  have hw:xs=w32 (Ab x.natAbs):=IJ (vs:=w32 (Ab x.natAbs)) ⟨hx,hr⟩
  subst hw
  refine ⟨A,c,rfl,hA,hc,fun hne=>?_,fun a _=>ad _,hn.1,hn.2⟩
  obtain ⟨b,off,rfl,hb,hcell⟩:=hm (fun h=>hne (List.map_eq_nil_iff.1 h))
  exact ⟨b,off,rfl,hS _ _ hb,hS _ _ hb,hcell⟩
theorem ZM {l:List Nat} {v:Value} (h:v∈w32 l):v.oneCell'=true:=by
 simp only [w32,List.mem_map] at h
 obtain ⟨n,_,rfl⟩:=h
 rfl
theorem EE {w':World} {v:Value} {x:Int} (h:DyR w' w.heap.size w'.heap.size v x d):EM w' (AkN w w') (aDy false x d) v:=by
 obtain ⟨A,c,rfl,h1,h2,h3,h4,h5,h6⟩:=h
 refine ⟨[.bool (decide (x<0)),.slice A (Ab x.natAbs).length c,.int .i64 (d:Int)],rfl,.cons_ (.val rfl) (.cons_ (.row (w32 (Ab x.natAbs)) h2 h1 ?_ ?_ ?_ ?_) (.cons_ (.val rfl) .nil_))⟩
 ·rw [wds,af,TG,cr]
 ·rw [wds,af]
 ·intro hne
  obtain ⟨b,off,rfl,h7,h8,h9⟩:=h3 (fun h=>hne (by rw [wds,h];rfl))
  exact ⟨b,off,rfl,⟨rfl,h4 _ rfl,h8⟩,h9⟩
 ·intro j u y hu hy
  rw [wds,ag,hy] at hu
  cases hu
  exact .val (ZM (gM hy))
theorem Nf.nf {m:Int} {p:Nat} (h:p≤65536):Nf (nf m p).1 (nf m p).2:=⟨lT (Acr m p) h,Yy m p⟩
section
variable {G:World→Prop}
theorem QE (n:Int) (h1 : -9223372036854775808≤n) (h2:n<9223372036854775808):CVF prog G 39 [aI n] [aDy false n 0]:=fun w S vs hg hlt ha=>by
 obtain ⟨u,hu,h3⟩:=BB ha
 subst hu
 cases h3
 exact (Afe n h1 h2 w).mono fun r w' ⟨v,he,hd,hb⟩=>⟨v,he,EE hd,hb⟩
theorem EF (t:Bool) (x:Int) (d:Nat) (n:Int) (hn:Nf x d) (hl:(Ab x.natAbs).length≤50000) (hd:(d:Int) - max (-65536) (min n 65536)≤65536):CVF prog G 38 [aDy t x d,aI n] [aDy false (Ae x d n).1 (Ae x d n).2]:=fun w S vs hg hlt ha=>by
 obtain ⟨v,vs',rfl,h1,ha⟩:=ha.uncons
 obtain ⟨u,hu,h2⟩:=BB ha
 subst hu
 cases h2
 exact (Pt (Fq h1 hlt hn) (aa _) hl hd).mono fun r w' ⟨v,he,hd,hb⟩=>⟨v,he,EE hd,hb⟩
theorem QF (t t':Bool) (x:Int) (dx:Nat) (y:Int) (dy:Nat) (hn:Nf x dx) (hm:Nf y dy) (l1:(Ab x.natAbs).length≤50000) (l2:(Ab y.natAbs).length≤50000):CVF prog G 29 [aDy t x dx,aDy t' y dy] [aI (BI x dx y dy)]:=fun w S vs hg hlt ha=>by
 obtain ⟨v,vs',rfl,h1,ha⟩:=ha.uncons
 obtain ⟨u,hu,h2⟩:=BB ha
 subst hu
 exact (Ui (Fq h1 hlt hn) (Fq h2 hlt hm) (aa _) l1 l2).mono fun r w' ⟨he,hb⟩=>⟨_,he,Br.val rfl,hb⟩
theorem Sz (n e:Int) (h1 : -9223372036854775808≤n) (h2:n<9223372036854775808):CVF prog G 102 [.agg [dI n,dI e]] [aDy false (Ae n 0 e).1 (Ae n 0 e).2]:=fun w S vs hg hlt ha=>by
 obtain ⟨u,hu,h3⟩:=BB ha
 subst hu
 obtain ⟨xs,rfl,h4⟩:=h3
 have h5:=IJ (vs:=[.int .i64 n,.int .i64 e]) h4
 subst h5
 exact (Xu n e h1 h2 w).mono fun r w' ⟨v,he,hd,hb⟩=>⟨v,he,EE hd,hb⟩
end
theorem ZN {a b:Int} {p q:Nat} (h:a*2 ^ p=b*2 ^ q):sgI a=sgI b:=by rw [←FP a p,h,FP b q]
theorem ZO {a b A B:Int} {da db q:Nat} (ha:a*2 ^ q=A*2 ^ da) (hb:b*2 ^ q=B*2 ^ db):BI a da b db=sgI (A - B):=by
 unfold BI Ci
 rw [ZN (Acs _ _)]
 refine ZN (p:=q) (q:=max da db) ?_
 have e1:a*2 ^ (max da db - da)*2 ^ q=A*2 ^ max da db:=by
  rw [jc,ha,ar,←av];congr 2;omega
 have e2:b*2 ^ (max da db - db)*2 ^ q=B*2 ^ max da db:=by
  rw [jc,hb,ar,←av];congr 2;omega
 rw [Int.add_mul,dq,dq,e1,e2,Int.sub_mul]
 omega
def dW (n:Nat):D:=.val (.int .u32 (n:Int))
def cW (ws:List Nat):List C:=ws.map fun n=>.d (dW n)
theorem Ul (ws:List Nat):(w32 ws).map D.val=ws.map dW:=by simp [w32,dW]
theorem AhW (n:Nat):Em (madeCells (Value.int .u32 0).cells (n*1)).toList=cW (List.replicate n 0):=by
 rw [cr,show (Value.int .u32 0).cells=#[Value.int .u32 0] from rfl,toList_madeCells_one]
 simp [Em,cW,dW]
theorem Afi {l:List Nat}:∀ c∈cW l,C.bel n c:=fun c hc=>by obtain ⟨z,_,rfl⟩:=List.mem_map.1 hc;trivial
theorem QG {k x:Nat} (h:ws[k]?=some x):((ws.map dW).drop (k*1)).take 1=[dW x]:=AeZ h
section
variable {P:Program} {G:World→Prop} {o:Oper} {F:Frm} {H:List Ob}
theorem IM {e:TypeId} {x:Operand} {by_:Nat} {k:IntKind} (ho:o.op=.makeSlice t x y) (hx:F.ev x=.one (.d (.val (.int k z)))) (hy:F.ev y=.one (.d (.val (.int k' z)))) (hz':z=(n:Int)) (ht:TyS P t e 1) (hz:TyZ P e (.int .u32 0) 1 by_) (hn:n≤1000000) (hby:by_≤1000) :
  AN P G o F H (.one (.own H.length n)) [.row e 1 n (cW (List.replicate n 0))]:=by
 subst hz'
 have:=Bs (P:=P) (G:=G) (H:=H) ho hx hy ht hz hn hby
 rwa [AhW] at this
theorem Afj {ty:TypeId} {x:Operand} {k:Nat} {xs:List Nat} {z:Nat} (ho:o.op=.load t x) (hx:F.ev x=.one (.ref id (i*1) (some n))) (hH:H[id]?=some (.row ty s n (cW xs))) (hz:xs[i]?=some z) (hk:TyK P t false k):AN P G o F H (.one (.d (.val (.int .u32 (z:Int))))) [] :=
 Mo ho hx (.row hH) (by simp [cW,hz,dW]) hk
theorem ZP {ty:TypeId} {x:Operand} {xs:List Nat} {b:Bool} (ho:o.op=.store t x y) (hx:F.ev x=.one (.ref id (i*1) (some n))) (hH:H[id]?=some (.row ty s n (cW xs))) (hy:F.ev y=.one (.d (.val (.int .u32 z)))) (hz:z=(u:Int)) (hty:TyK P t b 1) (hi:i<xs.length) {ys:List Nat} (hys:xs.set i u=ys):TOk P G o F H .any (H.set id (.row ty s n (cW ys))):=by
 subst hz
 have:=IB (P:=P) (G:=G) ho hx hH rfl hy hty (by simp [Ob.cs,cW,hi])
 have e:(cW xs).set (i*1) (.d (.val (.int .u32 (u:Int))))=cW ys:=by rw [←hys,cr];simp [cW,fo,dW]
 simp only [Ob.cs,Ob.setC,e] at this
 exact this
theorem CX {s:TypeId} {x:Operand} {k:IntKind} {p:Int} (ho:o.op=.convert s t x) (hs:P.underlying s=some (.int k)) (ht:P.underlying t=some (.int k')) (hx:F.ev x=.one (.d (.val (.int k p)))) (hr:k'.wrap p=r):AN P G o F H (.one (.d (.val (.int k' r)))) []:=hr ▸ Dz ho hs ht hx
theorem AhX {x:Operand} {k:IntKind} {p:Int} (ho:o.op=.binOp .mul t x y t') (hx:F.ev x=.one (.d (.val (.int k p)))) (hy:F.ev y=.one (.d (.val (.int k q)))) (hr:k.wrap (p*q)=r):AN P G o F H (.one (.d (.val (.int k r)))) []:=hr ▸ AeV ho hx hy
theorem QH {x:Operand} {k:IntKind} {p:Int} (ho:o.op=.binOp .add t x y t') (hx:F.ev x=.one (.d (.val (.int k p)))) (hy:F.ev y=.one (.d (.val (.int k q)))) (hr:k.wrap (p+q)=r):AN P G o F H (.one (.d (.val (.int k r)))) []:=hr ▸ AeU ho hx hy
theorem QI {x:Operand} {p:Nat} (ho:o.op=.binOp .shr t x (.const (.int k' 32)) t') (hx:F.ev x=.one (.d (.val (.int .u64 (p:Int))))) (hr:((p / 4294967296:Nat):Int)=r):AN P G o F H (.one (.d (.val (.int .u64 r)))) []:=by
 subst hr
 refine Da (y:=.const (.int k' 32)) (u':=.int k' 32) ho hx rfl (fun w=>?_) rfl
 have e:(p:Int).fdiv 4294967296=((p / 4294967296:Nat):Int):=by rw [Int.fdiv_eq_ediv_of_nonneg _ (by decide)];rfl
 simp [eqGuard,binOp,Op.shift,IntKind.bits,e]
theorem Um {x:Operand} {p q:Bool} (ho:o.op=.binOp .neq t x y t') (ht:P.underlying t=some .bool) (hx:F.ev x=.one (.d (.val (.bool p)))) (hy:F.ev y=.one (.d (.val (.bool q)))):AN P G o F H (.one (.d (.val (.bool (p != q))))) []:=by
 refine Da ho hx hy (fun w=>?_) rfl
 have h1:(Op.equal t (.bool p) (.bool q)).run P w=.ok (p == q) w:=by
  have key:∀ d:Nat,(Op.equalIn (d+1) t (.bool p) (.bool q)).run P w=.ok (p == q) w:=fun d=>by simp [Op.equalIn,run_underlying ht]
  exact key 9999
 simp [eqGuard,binOp,h1,bne]
end
theorem AhY {t:Bool} {c:C} {y:D} (hc:c=.own id n) (hH:H[id]?=some (.row ty 1 n (cW ws))) (hy:y=.row t 1 n (ws.map dW)):Fd t H c y :=
 Cg hc hH hy ⟨by simp [cW],fun j a b ha hb=>by
  simp only [cW,ag,ct] at ha hb
  obtain ⟨z,hz,rfl⟩:=ha
  obtain ⟨z',hz',rfl⟩:=hb
  rw [hz] at hz'
  cases hz'
  exact .d fun _=>.val _⟩
theorem EG (h0:0≤z) (h1:z<18446744073709551616):IntKind.wrap .u64 z=z:=by rw [et];omega
theorem Lw (n:Nat):IntKind.wrap .u32 (n:Int)=((n % 4294967296:Nat):Int):=by rw [jg];omega
theorem ZQ (G:World→Prop) (t neg:Bool) (ws:List Nat) (n den:Nat) (hn:n=ws.length) (ha:Ar ws) (l1:ws.length≤100000) (hd:den≤65536):CVF prog G 107 [aB neg,.one (.row t 1 n (ws.map dW)),aI (den:Int)] [aDy false (nf (sg neg (Az ws)) den).1 (nf (sg neg (Az ws)) den).2]:=fun w S vs hg hlt hv=>by
 subst hn
 obtain ⟨v,vs',rfl,q1,hv⟩:=hv.uncons
 obtain ⟨v2,vs',rfl,q2,hv⟩:=hv.uncons
 obtain ⟨u,hu,q3⟩:=BB hv
 subst hu
 cases q1
 cases q3
 have q2':Br w S (.row t 1 ws.length (ws.map dW)) v2:=q2
 cases q2' with
 | @row _ _ _ c cs A xs hc hA hl hx hm hr =>
  have hw:xs=w32 ws:=IJ (vs:=w32 ws) (by rw [Ul];exact ⟨hx,hr⟩)
  subst hw
  refine (GW neg A ws c den w.heap.size w (aa _) (fun hne=>?_) hc ha l1 hd).mono fun r w' ⟨v,he,hd,hb⟩=>⟨v,he,EE hd,hb⟩
  obtain ⟨b,off,rfl,hb,hcell⟩:=hm (fun h=>hne (by rw [List.map_eq_nil_iff.1 h];rfl))
  exact ⟨b,off,rfl,hlt _ _ hb,hlt _ _ hb,hcell⟩
theorem NN (G:World→Prop) (x:Int) (d:Nat) (hn:Nf x d) (hl:(Ab x.natAbs).length≤100000):CV prog G 105 [aDy false x d] [aDy false x d]:=fun w S vs hg hlt ha=>by
 obtain ⟨u,hu,h3⟩:=BB ha
 subst hu
 refine (IL (Fq h3 hlt hn) (aa _) hl).mono fun r w' ⟨he,hb⟩=>⟨_,he,?_,hb⟩
 obtain ⟨xs,hv,hl2⟩:=h3
 refine ⟨xs,hv,hl2.1,fun j a b ha hb'=>?_⟩
 have hf:DQ a:=by
  have hm:=gM ha
  simp only [dDy,dk,dm,or_false] at hm
  rcases hm with rfl|rfl|rfl
  ·exact .val _
  ·exact .row fun d hd=>by obtain ⟨v,_,rfl⟩:=List.mem_map.1 hd;exact .val _
  ·exact .val _
 have h5:Br w (fun t b=>t=false∧S false b) a b:=Br.free (fun b h=>⟨rfl,h⟩) (hl2.2 j a b ha hb') hf
 exact h5.mono (fun t b h=>⟨h.1,.inl h.2⟩) (fun t b h=>hb.block b (hlt _ _ h.2))
theorem Mw:∀ {j u v:Nat},o[j]?=some v→Az (o.set j u)+v*4294967296 ^ j=Az o+u*4294967296 ^ j:=by
 induction o with
 | nil=>intro j u v h;simp at h
 | cons y o ih =>
  intro j u v h
  cases j with
  | zero =>
   simp only [gk,Option.some.injEq] at h
   subst h
   simp only [bk,Az]
   omega
  | succ j =>
   simp only [ew] at h
   have:=ih (u:=u) h
   simp only [bl,Az,bg]
   rw [←ao,←ao]
   omega
theorem Ft {j:Nat} (h:Ar o) (hu:u<4294967296):Ar (o.set j u):=fun x hx=>by
 rcases gy hx with hx|rfl
 ·exact h x hx
 ·exact hu
structure QJ (b o0:List Nat) (i x k:Nat) (o:List Nat) (c:Nat):Prop where
 len:o.length=o0.length
 ok:Ar o
 car:c<4294967296
 val:Az o+c*4294967296 ^ (i+k)=Az o0+x*Az (b.take k)*4294967296 ^ i
 zero:∀ j,i+b.length≤j→j<o0.length→o[j]?=some 0
theorem QJ.fit {b:List Nat} {x k:Nat} {y:Nat} (h:QJ b o0 i x k o c) (hx:x<4294967296) (hy:y<4294967296) (hu:o[i+k]?=some u):x*y+u<18446744073709551616∧c+(x*y+u)<18446744073709551616:=by
 have h1:x*y≤4294967295*4294967295:=ep (by omega) (by omega)
 have h2:=h.ok u (gM hu)
 have h3:=h.car
 omega
theorem QJ.step {b:List Nat} {x k:Nat} {y:Nat} (h:QJ b o0 i x k o c) (hx:x<4294967296) (hb:Ar b) (hy:b[k]?=some y) (hu:o[i+k]?=some u):QJ b o0 i x (k+1) (o.set (i+k) ((c+(x*y+u)) % 4294967296)) ((c+(x*y+u)) / 4294967296):=by
 obtain ⟨f1,f2⟩:=h.fit hx (hb y (gM hy)) hu
 have hkb:=(gS.1 hy).1
 refine ⟨by rw [bt];exact h.len,Ft h.ok (by omega),by omega,?_,fun j h1 h2=>by rw [cq,if_neg (by omega)];exact h.zero j h1 h2⟩
 have hs:=Mw (u:=(c+(x*y+u)) % 4294967296) hu
 have hv:=h.val
 have ht:=AZ b k
 rw [hy,bh] at ht
 have hdm:=dh (c+(x*y+u)) 4294967296
 rw [ht,dg,bj,show i+(k+1)=(i+k)+1 by omega,bg]
 generalize hP:4294967296 ^ (i+k)=p at hs hv ⊢
 have e1:x*(4294967296 ^ k*y)*4294967296 ^ i=x*y*p:=by
  rw [←hP,bd]
  simp only [ao,aq,Nat.mul_left_comm]
 rw [e1]
 generalize (c+(x*y+u)) / 4294967296=q at hdm ⊢
 generalize (c+(x*y+u)) % 4294967296=r at hs hdm ⊢
 have e2:q*(p*4294967296)+r*p=(c+(x*y+u))*p:=by
  rw [←hdm,bj,aq p 4294967296,←ao,aq q 4294967296]
 rw [bj,bj] at e2
 omega
structure Gw (a b:List Nat) (i:Nat) (o:List Nat):Prop where
 len:o.length=a.length+b.length
 ok:Ar o
 val:Az o=Az (a.take i)*Az b
 zero:∀ j,i+b.length≤j→j<a.length+b.length→o[j]?=some 0
theorem Gw.start (a b:List Nat):Gw a b 0 (List.replicate (a.length+b.length) 0):=by
 refine ⟨by simp,fun x hx=>by rw [(List.mem_replicate.1 hx).2];decide,by rw [Eq];simp [Az],fun j _ h2=>by simp [h2]⟩
theorem Gw.enter {b:List Nat} {x:Nat} (h:Gw a b i o):QJ b o i x 0 o 0 :=
 ⟨rfl,h.ok,by decide,by simp [Az],fun j h1 h2=>h.zero j h1 (by rw [←h.len];exact h2)⟩
theorem Gw.leave {b:List Nat} {x:Nat} (h:Gw a b i o0) (hx:a[i]?=some x) (h2:QJ b o0 i x b.length o c):Gw a b (i+1) (o.set (i+b.length) c):=by
 have hi:=(gS.1 hx).1
 have hz:=h2.zero (i+b.length) (aa _) (by rw [h.len];omega)
 have hs:=Mw (u:=c) hz
 refine ⟨by rw [bt,h2.len];exact h.len,Ft h2.ok h2.car,?_,fun j h3 h4=>by rw [cq,if_neg (by omega)];exact h2.zero j (by omega) (by rw [h.len];exact h4)⟩
 have hv:=h2.val
 rw [bc] at hv
 have ht:=AZ a i
 rw [hx,bh] at ht
 rw [ht,bj,←h.val]
 have e:x*Az b*4294967296 ^ i=4294967296 ^ i*x*Az b:=by simp only [ao,aq,Nat.mul_left_comm]
 omega
theorem ZR (x y:Int):sg (decide (x<0) != decide (y<0)) (x.natAbs*y.natAbs)=x*y:=by
 unfold sg
 have hx:x=if x<0 then -(x.natAbs:Int) else x.natAbs:=by split <;> omega
 have hy:y=if y<0 then -(y.natAbs:Int) else y.natAbs:=by split <;> omega
 by_cases h1:x<0 <;> by_cases h2:y<0
 all_goals
  simp only [h1,h2,decide_true,decide_false,bne_self_eq_false,gn,if_true,if_false,Bool.true_bne,Bool.false_bne,dt] at hx hy ⊢
  conv=>rhs;rw [hx,hy]
  simp [dq,Int.mul_neg]
def NP (x:Int) (dx:Nat) (y:Int) (dy:Nat):Int × Nat:=nf (x*y) (dx+dy)
theorem Afk {x:Int} {k p:Nat} (h:(Ab x.natAbs)[k]?=some p):((wds x).drop (k*1)).take 1=[dW p]:=by
 unfold wds
 rw [Ul]
 exact QG h
theorem Alv (x:Int):DQ (.row false 1 (Ab x.natAbs).length (wds x)):=.row fun d hd=>by obtain ⟨v,_,rfl⟩:=List.mem_map.1 hd;exact .val _
theorem rvW {t:Tmp} {ty' k:Nat} {x:Int} (hk:TyK P ty true k) (hi:3=k) (hF:F t=.one (.ref id 0 none):=by with_unfolding_all exact rfl) (hH:H[id]?=some (.box ty' ((dDy false x d).map C.d)):=by with_unfolding_all exact rfl):RV P F H (.cell t ty) (aDy false x d) :=
 Afb hF hH hk hi rfl (.cons_ (AX rfl fun _=>.val _) (.cons_ (AX rfl fun _=>Alv x) (.cons_ (AX rfl fun _=>.val _) .nil_)))
theorem NQ (h:p:=by
 exact Ax rfl (.cons_ (rvW Aa rfl) .nil_)):p:=h
theorem zh3k (h:p:=by first|exact CX rfl underlying126 underlying159 rfl m1|exact Dz rfl underlying126 underlying159 rfl):p:=h
theorem zh4k (h:p:=by first|exact CX rfl underlying126 underlying159 rfl m2|exact Dz rfl underlying126 underlying159 rfl):p:=h
theorem zh5k (h:p:=by first|exact CX rfl underlying126 underlying159 rfl m4|exact Dz rfl underlying126 underlying159 rfl):p:=h
theorem zh6k (h:p:=by first|exact CX rfl underlying159 underlying126 rfl m7|exact Dz rfl underlying159 underlying126 rfl):p:=h
theorem zh7k (h:p:=by first|exact CX rfl underlying159 underlying126 rfl m8|exact Dz rfl underlying159 underlying126 rfl):p:=h
theorem AoR (h:p:=by first|exact xIr Bw (hr2)|exact LP (i:=i+k) rfl rfl rfl rfl (by omega) Bw (by omega) (by decide)):p:=h
theorem AjO (h:p:=by first|exact ZP rfl rfl rfl rfl rfl BV tl rfl|exact xS1 BV|exact xSk BV):p:=h
theorem Alw (h:p:=by first|exact AhX rfl rfl rfl m3|exact Iy rfl rfl rfl (by omega)):p:=h
theorem ZS (h:p:=by first|exact Afj rfl rfl rfl hu BV|exact xLd BV):p:=h
theorem Alx (h:p:=by first|exact xCl func105 (NX)|exact xCl func105 (NY)):p:=h
theorem Aly (h:p:=by first|exact Um rfl underlying4 rfl rfl|exact xNe):p:=h
theorem AhZ (x:Int) (dx:Nat) (y:Int) (dy:Nat) (hnx:Nf x dx) (hny:Nf y dy) (lx:(Ab x.natAbs).length≤40000) (ly:(Ab y.natAbs).length≤40000) (hd:dx+dy≤65536):CV prog Ah 204 [aDy false x dx,aDy false y dy] [aDy false (NP x dx y dy).1 (NP x dx y dy).2]:=by
 refine cvz func204 ntmps204 ?_
 have NX:=NN Ah x dx hnx (lT lx (by decide))
 have NY:=NN Ah y dy hny (lT ly (by decide))
 have hax:=Ay x.natAbs
 have hay:=Ay y.natAbs
 repeat' (with_reducible first|refine qq ?_|(refine Tx 0 ?_;refine gN xBo <| gN xBo <| gN (xAl Aj) ?_)|(refine AG (id:=1) 4 AV (by kernel_rfl) ?_;dsimp only [List.take,List.drop];refine gP xL <| gP Alx <| gP xL <| gP Alx ?_;refine Ke ?_;refine gZ (xSk Aa) <| gZ (xSk Aa) ?_)|(refine Tx 2 ?_;refine gO xF <| gO xD <| gO xN <| gO xF <| gO xD <| gO xN <| gO xAd <| gN (by first|exact IM (n:=(Ab x.natAbs).length+(Ab y.natAbs).length) rfl rfl rfl (by omega) Bw Dh (by omega) (by decide)|exact Bs rfl rfl rfl Bw Dh (by omega) (by decide)) <| gO xA ?_)|(refine Tx 3 ?_;refine gO xF <| gO xD <| gO xN <| gO xM ?_))
 refine AQ (Bu 4) (Aq (fun n Fr H=>∃ (i:Nat) (o:List Nat),i≤(Ab x.natAbs).length∧n=(Ab x.natAbs).length - i∧Gw (Ab x.natAbs) (Ab y.natAbs) i o∧Fr=ofL [(2,vr 0),(3,vr 1),(4,vr 2),(5,vo 3 (((Ab x.natAbs).length+(Ab y.natAbs).length))),(24,vd (.row false 1 (Ab x.natAbs).length (wds x))),(25,vi ((Ab x.natAbs).length)),(26,vi ((i:Nat)))]∧H=[.box 43 ((dDy false x dx).map C.d),.box 43 ((dDy false y dy).map C.d),.box 43 [.d (.val (.bool false)),.d (.val (.slice none 0 0)),.d (.val (.int .i64 0))],.row 126 1 ((Ab x.natAbs).length+(Ab y.natAbs).length) (cW o)]) (n0:=(Ab x.natAbs).length) ⟨0,(List.replicate ((Ab x.natAbs).length+(Ab y.natAbs).length) 0),ad _,rfl,Gw.start _ _,rfl,rfl⟩ ?_)
 rintro n Fr H ⟨i,o,hi,rfl,ho,rfl,rfl⟩
 by_cases hlt:i<(Ab x.natAbs).length
 case pos =>
  obtain ⟨p,hp⟩:∃ p,(Ab x.natAbs)[i]?=some p:=⟨_,gE hlt⟩
  have hpk:=hax p (gM hp)
  have hp2:=Afk hp
  repeat' (with_reducible first|refine qq ?_|(refine Tx 4 ?_;refine gO xLt ?_)|(refine Tx 5 ?_;refine gO xM <| gO (xIr Bw (hp2)) <| gO xD <| gO xA <| gO xA ?_)|(refine Tx 6 ?_;refine gO xA ?_)|(refine Tx 7 ?_;refine gO xF <| gO xD <| gO xN <| gO xM ?_))
  refine AQ (Bu 4) (Aq (fun n Fr H=>∃ (k:Nat) (q:List Nat) (c:Nat),k≤(Ab y.natAbs).length∧n=(Ab y.natAbs).length - k∧QJ (Ab y.natAbs) o i p k q c∧Fr=ofL [(2,vr 0),(3,vr 1),(4,vr 2),(5,vo 3 (((Ab x.natAbs).length+(Ab y.natAbs).length))),(6,vi i),(7,vd (dW p)),(24,vd (.row false 1 (Ab x.natAbs).length (wds x))),(25,vi ((Ab x.natAbs).length)),(26,vi ((i:Nat))),(8,vd (.val (.int .u64 ((c:Nat):Int)))),(32,vd (.row false 1 (Ab y.natAbs).length (wds y))),(33,vi ((Ab y.natAbs).length)),(34,vi ((k:Nat)))]∧H=[.box 43 ((dDy false x dx).map C.d),.box 43 ((dDy false y dy).map C.d),.box 43 [.d (.val (.bool false)),.d (.val (.slice none 0 0)),.d (.val (.int .i64 0))],.row 126 1 ((Ab x.natAbs).length+(Ab y.natAbs).length) (cW q)]) (n0:=(Ab y.natAbs).length) ⟨0,o,0,ad _,rfl,ho.enter,rfl,rfl⟩ ?_)
  rintro n Fr H ⟨k,q,c,hk,rfl,hq,rfl,rfl⟩
  by_cases hlt2:k<(Ab y.natAbs).length
  case pos =>
   obtain ⟨r,hr⟩:∃ r,(Ab y.natAbs)[k]?=some r:=⟨_,gE hlt2⟩
   have hrk:=hay r (gM hr)
   have hr2:=Afk hr
   have hql:=hq.len
   have hol:=ho.len
   obtain ⟨u,hu⟩:∃ u,q[i+k]?=some u:=⟨_,gE (by omega)⟩
   have hu2:=hq.ok u (gM hu)
   obtain ⟨f1,f2⟩:=hq.fit hpk hrk hu
   have hst:=hq.step hpk hay hr hu
   have m1:IntKind.wrap .u64 (p:Int)=(p:Int):=EG (by omega) (by omega)
   have m2:IntKind.wrap .u64 (r:Int)=(r:Int):=EG (by omega) (by omega)
   have m3:IntKind.wrap .u64 ((p:Int)*(r:Int))=((p*r:Nat):Int):=by rw [←iv];exact EG (by omega) (by omega)
   have m4:IntKind.wrap .u64 (u:Int)=(u:Int):=EG (by omega) (by omega)
   have m5:IntKind.wrap .u64 (((p*r:Nat):Int)+(u:Int))=((p*r+u:Nat):Int):=EG (by omega) (by omega)
   have m6:IntKind.wrap .u64 ((c:Int)+((p*r+u:Nat):Int))=((c+(p*r+u):Nat):Int):=EG (by omega) (by omega)
   have m7:=Lw (c+(p*r+u))
   have tl:i+k<q.length:=by omega
   generalize hm:p*r+u=m at *
   repeat' (with_reducible first|refine qq ?_|(refine Tx 8 ?_;refine gO xLt ?_)|(refine Tx 9 ?_;refine gO xM <| gO AoR <| gO ZS <| gO xA <| gO xA ?_)|(refine Tx 10 ?_;refine gO xM <| gO xM <| gO zh3k <| gO xM <| gO zh4k <| gO Alw <| gO xM <| gO xM <| gO xM <| gO xAd <| gO AoR <| gO ZS <| gO zh5k <| gO (by first|exact QH rfl rfl rfl m5|exact xAd) <| gO (by first|exact QH rfl rfl rfl m6|exact xAd) <| gO xA ?_)|(refine Tx 11 ?_;refine gO xM <| gO xM <| gO xM <| gO xAd <| gO xM <| gO zh6k <| gO AoR <| gZ AjO ?_)|(refine Tx 12 ?_;refine gO xM <| gO (by exact QI rfl rfl rfl) <| gO xA ?_)|(refine Tx 13 ?_;refine gO xAd <| gO xM ?_))
   refine ⟨_,_,Bu 4,_,by omega,k+1,_,_,by omega,rfl,hst,rfl,rfl⟩
  obtain rfl:k=(Ab y.natAbs).length:=by omega
  have hql:=hq.len
  have hol:=ho.len
  have hlv:=ho.leave hp hq
  have tl:i+(Ab y.natAbs).length<q.length:=by omega
  have hck:=hq.car
  have m8:IntKind.wrap .u32 (c:Int)=(c:Int):=by rw [Lw,dw hck]
  repeat' (with_reducible first|refine qq ?_|(refine Tx 8 ?_;refine gO xLt ?_)|(refine Tx 14 ?_;refine gO xM <| gO xM <| gO xF <| gO xD <| gO xN <| gO xAd <| gO xM <| gO zh7k <| gO (by exact LP (i:=i+(Ab y.natAbs).length) rfl rfl rfl rfl (by omega) Bw (by omega) (by decide)) <| gZ AjO ?_)|(refine Tx 15 ?_;refine gO xAd <| gO xM ?_))
  refine ⟨_,_,Bu 4,_,by omega,i+1,_,by omega,rfl,hlv,rfl,rfl⟩
 obtain rfl:i=(Ab x.natAbs).length:=by omega
 have hv:=ho.val
 rw [bc,Am,Am] at hv
 have hol:=ho.len
 have NB:=ZQ Ah true (decide (x<0) != decide (y<0)) o ((Ab x.natAbs).length+(Ab y.natAbs).length) (dx+dy) hol.symm ho.ok (by omega) hd
 rw [hv,ZR] at NB
 repeat' (with_reducible first|refine qq ?_|(refine Tx 4 ?_;refine gO xLt ?_)|(refine Tx 16 ?_;refine gO xF <| gO xD <| gO xF <| gO xD <| gO Aly <| gO xM <| gO xF <| gO xD <| gO xF <| gO xD <| gO xAd <| gO (xCl func107 (NB.cv) (ha:=.cons_ (DM rfl rfl (AX rfl fun h=>by cases h)) (.cons_ (DM rfl rfl (AhY rfl rfl rfl)) (.cons_ (DM rfl rfl (AX rfl fun h=>by cases h)) .nil_)))) <| gZ (xSk Aa) ?_))
 exact NQ
theorem Fu {N:Nat} {ds:List D} (t id:Nat) (h:F t=.one (.own id n)) (hH:H[id]?=some (.row ty s n (ds.map C.d))):Wk N F H (F.put (some t) (.one (.d (.row false s n ds)))) (H.set id .dead):=fun b0 w0 S0 a m hm hs=>by
 subst hm
 have hv:=hs.frame t
 rw [h] at hv
 obtain ⟨xs,hE,hat,hl⟩:=Iz hs.cx hv hH
 generalize hvv:a.tmps.getD t undef=v at hv hE hat
 have hidl:=(gS.1 hH).1
 have hset:∀ i ob,(m.H.set id .dead)[i]?=some ob→(i=id∧ob=.dead)∨(i≠id∧m.H[i]?=some ob):=fun i ob hi=>by
  rw [cq] at hi
  by_cases e:id=i
  ·rw [if_pos e,if_pos (by omega)] at hi
   exact .inl ⟨e.symm,(Option.some.inj hi).symm⟩
  ·rw [if_neg e] at hi
   exact .inr ⟨fun h=>e h.symm,hi⟩
 have hget:∀ i e,(if i=id then none else m.E i)=some e→i≠id∧m.E i=some e:=fun i e hi=>by
  by_cases q:i=id
  ·rw [if_pos q] at hi;cases hi
  ·rw [if_neg q] at hi;exact ⟨q,hi⟩
 have hle:Le m { m with S:=fun t b=>m.S t b∨(t=false∧v.ownBlock=some b),H:=m.H.set id .dead,E:=fun i=>if i=id then none else m.E i }:=by
  refine ⟨fun t b h=>.inl h,?_,fun _ _ _=>rfl,fun i ob hob=>?_⟩
  ·funext b
   simp
  ·by_cases q:i=id
   ·subst q
    exact ⟨.dead,by show (m.H.set i .dead)[i]?=_;rw [cq,if_pos rfl,if_pos hidl],fun k hk=>by cases hk⟩
   ·exact ⟨ob,by show (m.H.set id .dead)[i]?=_;rw [cq,if_neg (fun h=>q h.symm)];exact hob,Ll.same fun e he=>by show (if i=id then none else m.E i)=some e;rw [if_neg q];exact he⟩
 refine ⟨{ m with S:=fun t b=>m.S t b∨(t=false∧v.ownBlock=some b),H:=m.H.set id .dead,E:=fun i=>if i=id then none else m.E i },rfl,rfl,⟨⟨fun i e hi=>?_,fun i j e e' hij hi hj=>?_,fun i e g t' hi hg=>?_,fun t' b hb=>?_⟩,fun i ob hob hk=>?_,fun t'=>?_,hs.size,hs.defers,hs.below,hs.base,fun b hb=>?_,?_⟩⟩
 ·obtain ⟨q,hi⟩:=hget i e hi
  obtain ⟨h1,ob,h2,h3⟩:=hs.cx.each i e hi
  exact ⟨h1,ob,by show (m.H.set id .dead)[i]?=_;rw [cq,if_neg (fun h=>q h.symm)];exact h2,h3.le hle⟩
 ·exact hs.cx.apart i j e e' hij (hget i e hi).2 (hget j e' hj).2
 ·obtain ⟨q,hi⟩:=hget i e hi
  rintro (hb|⟨rfl,hb⟩)
  ·exact hs.cx.far i e g t' hi hg hb
  ·exact hs.cx.apart i id e _ q hi hE g hg hb
 ·rcases hb with hb|⟨_,hb⟩
  ·exact hs.cx.lt t' b hb
  ·exact (World.ownsRow.lt hat b hb).2
 ·rcases hset i ob hob with ⟨_,rfl⟩|⟨q,h1⟩
  ·cases hk
  ·show (if i=id then none else m.E i).isSome=true
   rw [if_neg q]
   exact hs.tot i ob h1 hk
 ·rw [Hl]
  split
  ·rename_i ht
   cases ht
   rw [hvv]
   have hld:AY (Br m.w m.S) ds xs:=⟨by have:=hl.1;simpa using this,fun j x y hx hy=>hl.2 j (.d x) y (by simp [hx]) hy⟩
   show Br _ _ (.row false s n ds) v
   rcases hat.2 with ⟨rfl,h0⟩|⟨g,cap,cur,rfl,hb,hg,hnc,_,hcur,hxs⟩
   ·subst h0
    have hx0:xs=[]:=cj (by have:=hat.1;simpa using this)
    subst hx0
    have hd0:ds=[]:=cj (by have:=hld.1;simpa using this)
    subst hd0
    exact .row [] (aa _) (fun _=>rfl) (by simp) rfl (fun h=>absurd rfl h) (fun j u x hu=>by simp at hu)
   ·refine .row xs hnc (by simp) (by rw [hld.1];exact hat.1) hld.1 (fun _=>⟨g,0,rfl,.inr ⟨rfl,rfl⟩,fun j x hj=>?_⟩) (fun j u x hu hx=>Br.le hle (hld.2 j u x hu hx))
    rw [bo,cell_of_row _ g j _ ty (0,0) hg]
    have hj':(cur.toList.take (n*s))[j]?=some x:=by rw [hxs];exact hj
    rw [ci] at hj'
    split at hj'
    ·simpa using hj'
    ·cases hj'
  ·exact (hs.frame t').le hle
 ·rcases hb with hb|⟨_,hb⟩
  ·exact hs.S b hb
  ·exact .inr (World.ownsRow.lt hat b hb).1
 ·exact hle.T.trans hs.T
def wdN (n:Nat):List D:=(w32 (Ab n)).map D.val
def GX (t:Bool) (n:Nat):D:=.row t 1 (Ab n).length (wdN n)
theorem ZT (n:Nat):wdN n=(Ab n).map dW:=Ul _
theorem Pv {k p:Nat} (h:(Ab n)[k]?=some p):((wdN n).drop (k*1)).take 1=[dW p]:=by
 rw [ZT]
 exact QG h
theorem AoS (ws:List Nat):cW ws=(ws.map dW).map C.d:=by simp [cW]
theorem Mx {t:Bool} {v:Value} (h:Br w S (.row t 1 n (ws.map dW)) v) (hS:∀ t b,S t b→b<w.heap.size) (hn:n=ws.length):∃ A c,v=.slice A ws.length c∧(A=none→c=0)∧ws.length≤c∧An w w.heap.size A (w32 ws)∧(ws≠[]→∃ b off,A=some ⟨b,off,none⟩∧S t b∧∀ (j:Nat) (x:Value),(w32 ws)[j]?=some x→w.cell? ⟨b,off+j,none⟩=some x):=by
 subst hn
 cases h with
 | @row _ _ _ c cs A xs hc hA hl hx hm hr =>
  have hw:xs=w32 ws:=IJ (vs:=w32 ws) (by rw [Ul];exact ⟨hx,hr⟩)
  subst hw
  refine ⟨A,c,rfl,hA,hc,fun hne=>?_,fun hne=>hm fun h=>hne (List.map_eq_nil_iff.1 h)⟩
  obtain ⟨b,off,rfl,hb,hcell⟩:=hm (fun h=>hne (by rw [List.map_eq_nil_iff.1 h];rfl))
  exact ⟨b,off,rfl,hS _ _ hb,hS _ _ hb,hcell⟩
theorem Aia {t:Bool} {v:Value} (h:Br w S (GX t n) v) (hS:∀ t b,S t b→b<w.heap.size):WdR w w.heap.size v n:=by
 unfold GX at h
 rw [ZT] at h
 obtain ⟨A,c,rfl,h1,h2,h3,_⟩:=Mx h hS rfl
 exact ⟨A,c,rfl,h1,h2,h3⟩
theorem ZU {t:Bool} {A:Option Addr} (hn:n=ws.length) (hc:n≤c) (hA:A=none→c=0) (hm:ws≠[]→∃ b off,A=some ⟨b,off,none⟩∧S t b∧∀ (j:Nat) (x:Value),(w32 ws)[j]?=some x→w.cell? ⟨b,off+j,none⟩=some x):Br w S (.row t 1 n (ws.map dW)) (.slice A n c):=by
 subst hn
 refine .row (w32 ws) hc hA (by simp) (by simp [w32]) (fun hne=>hm fun h=>hne (by rw [h];rfl)) (fun j u x hu hx=>?_)
 rw [←Ul,ag,hx] at hu
 cases hu
 exact .val (ZM (gM hx))
section
variable {G:World→Prop}
theorem My (ws:List Nat) (n:Nat) (hn:n=ws.length) (hw:Ar ws) (hl:ws.length≤1000000):CV prog G 161 [.one (.row false 1 n (ws.map dW))] [.one (GX false (Az ws))]:=fun w S vs hg hlt ha=>by
 obtain ⟨u,hu,h2⟩:=BB ha
 subst hu
 obtain ⟨A,c,rfl,h1,h3,h4,h5⟩:=Mx h2 hlt hn
 refine (Fi A ws c w.heap.size w h4 h3 hl).mono fun r w' ⟨he,hww⟩=>?_
 subst hww
 refine ⟨_,he,?_,ab _ _⟩
 show Br _ _ (GX false (Az ws)) _
 have hcan:=Cz hw
 have hle:(HG ws).length≤ws.length:=by rw [Cd];exact Ea _ _
 unfold GX
 rw [ZT,←hcan]
 refine ZU rfl (by omega) h1 fun hne=>?_
 obtain ⟨b,off,hA,hb,hc⟩:=h5 (fun h=>hne (by rw [h];rfl))
 refine ⟨b,off,hA,⟨rfl,.inl hb⟩,fun j x hj=>hc j x ?_⟩
 have:w32 (HG ws)=(w32 ws).take (Dt ws ws.length):=by unfold w32 HG;rw [List.map_take]
 rw [this,ci] at hj
 split at hj
 ·exact hj
 ·cases hj
theorem EX (x:Int) (d:Nat) (hn:Nf x d) (hl:(Ab x.natAbs).length≤100000):CV prog G 69 [aDy false x d] [aB (decide (x<0)),.one (GX false x.natAbs),aI (d:Int)]:=fun w S vs hg hlt ha=>by
 obtain ⟨u,hu,h3⟩:=BB ha
 subst hu
 have hD:=Fq h3 hlt hn
 obtain ⟨xs,rfl,h4⟩:=h3
 obtain ⟨a,l1,rfl,q0,h5⟩:=h4.uncons
 obtain ⟨b,l2,rfl,q1,h6⟩:=h5.uncons
 obtain ⟨c,l3,rfl,q2,h7⟩:=h6.uncons
 rw [h7.unnil] at hD ⊢
 refine (FK hD (aa _) hl).mono fun r w' ⟨nb,A,L,cc,e,he,hb⟩=>?_
 injection e with e
 have e2:=congrArg Array.toList e
 simp only [List.cons.injEq,and_true] at e2
 obtain ⟨rfl,rfl,rfl⟩:=e2
 refine ⟨_,he,⟨[_,_,_],rfl,.cons_ ?_ (.cons_ ?_ (.cons_ ?_ .nil_))⟩,hb⟩
 ·cases q0;exact Br.val rfl
 ·have h8:Br w (fun t b=>t=false∧S false b) (GX false x.natAbs) (.slice A L cc):=Br.free (fun b h=>⟨rfl,h⟩) q1 (.row fun d hd=>by obtain ⟨v,_,rfl⟩:=List.mem_map.1 hd;exact .val _)
  exact h8.mono (fun t b h=>⟨h.1,.inl h.2⟩) (fun t b h=>hb.block b (hlt _ _ h.2))
 ·exact Br.val rfl
theorem Un (t t':Bool) (a b:Nat) (l1:(Ab a).length≤100000) (l2:(Ab b).length≤100000):CVF prog G 57 [.one (GX t a),.one (GX t' b)] [aI (sgI ((a:Int) - (b:Int)))]:=fun w S vs hg hlt ha=>by
 obtain ⟨v,vs',rfl,h1,ha⟩:=ha.uncons
 obtain ⟨u,hu,h2⟩:=BB ha
 subst hu
 exact (Lg (Aia h1 hlt) (Aia h2 hlt) l1 l2).mono fun r w' ⟨he,hb⟩=>⟨_,he,Br.val rfl,hb⟩
end
theorem Eu (t neg:Bool) (n d:Nat) (hl:(Ab n).length≤100000) (hd:d≤65536):CVF prog Ah 71 [aB neg,.one (GX t n),aI (d:Int)] [aDy false (nf (sg neg n) d).1 (nf (sg neg n) d).2]:=fun w S vs hg hlt hv=>by
 obtain ⟨v,vs',rfl,q1,hv⟩:=hv.uncons
 obtain ⟨v2,vs',rfl,q2,hv⟩:=hv.uncons
 obtain ⟨u,hu,q3⟩:=BB hv
 subst hu
 cases q1
 cases q3
 exact (Ec (neg:=neg) (Aia q2 hlt) (aa _) hl hd hg).mono fun r w' ⟨v,he,hd,hb⟩=>⟨v,he,EE hd,hb⟩
theorem Uo (t:Bool) (ws:List Nat) (n i:Nat) (hn:n=ws.length) (hi:i≤1000000) (hl:ws.length≤1000000):CVF prog Ah 163 [.one (.row t 1 n (ws.map dW)),aI (i:Int)] [.one (dW (ws[i]?.getD 0))]:=fun w S vs hg hlt hv=>by
 obtain ⟨v,vs',rfl,q1,hv⟩:=hv.uncons
 obtain ⟨u,hu,q3⟩:=BB hv
 subst hu
 cases q3
 obtain ⟨A,c,rfl,h1,h3,h4,h5⟩:=Mx q1 hlt hn
 refine (Vd A ws c i w.heap.size w h4 hi hl).mono fun r w' ⟨he,hb⟩=>?_
 subst hb
 exact ⟨_,he,Br.val rfl,ab _ _⟩
theorem Adj (x y c:Nat) (hx:x<4294967296) (hy:y<4294967296) (hc:c≤1):CVF prog Ah 164 [.one (dW x),.one (dW y),.one (dW c)] [.one (dW ((x+y+c) % 4294967296)),.one (dW ((x+y+c) / 4294967296))]:=fun w S vs hg hlt hv=>by
 obtain ⟨v,vs',rfl,q1,hv⟩:=hv.uncons
 obtain ⟨v2,vs',rfl,q2,hv⟩:=hv.uncons
 obtain ⟨u,hu,q3⟩:=BB hv
 subst hu
 cases q1
 cases q2
 cases q3
 refine (RK x y c w hx hy hc).mono fun r w' ⟨he,hw⟩=>?_
 subst hw
 exact ⟨_,he,NI (Br.val rfl) (Br.val rfl),ab _ _⟩
theorem VU (n:Nat):DQ (GX false n):=.row fun d hd=>by obtain ⟨v,_,rfl⟩:=List.mem_map.1 hd;exact .val _
theorem AH:TyS prog 112 126 1:=⟨underlying112,by kernel_rfl⟩
theorem Adk (h:p:=by
 exact Ax rfl (.cons_ (.tmp (.one (AX rfl fun _=>VU _))) .nil_)):p:=h
theorem Aib (h:p:=by
 refine ⟨_,_,Ls _ 1 ?_ ?_ ?_,_,by omega,k+1,_,_,by omega,rfl,hst,rfl,rfl⟩
 ·rfl
 ·exact mB rfl rfl
 ·exact ⟨Afi,trivial⟩):p:=h
theorem Adl (h:p:=by first|exact xIr AH (hp2)|exact xIr AH (hr2)|exact LP (i:=i+k) rfl rfl rfl rfl (by omega) AH (by omega) (by decide)):p:=h
theorem Aic (a b:Nat) (l1:(Ab a).length≤100000) (l2:(Ab b).length≤100000):CV prog Ah 230 [.one (GX false a),.one (GX false b)] [.one (GX false (a*b))]:=by
 refine cvz func230 ntmps230 ?_
 have hax:=Ay a
 have hay:=Ay b
 repeat' (with_reducible first|refine qq ?_|(refine Tx 0 ?_;refine gO xA ?_)|(refine Tx 1 ?_;refine gO xM <| gO xN <| gO xM <| gO xN <| gO xAd <| gN (by first|exact IM (n:=(Ab a).length+(Ab b).length) rfl rfl rfl (by omega) AH Dh (by omega) (by decide)|exact Bs rfl rfl rfl AH Dh (by omega) (by decide)) <| gO xA ?_)|(refine Tx 2 ?_;refine gO xM <| gO xN <| gO xM ?_))
 refine AQ (Bu 1) (Aq (fun n Fr H=>∃ (i:Nat) (o:List Nat),i≤(Ab a).length∧n=(Ab a).length - i∧Gw (Ab a) (Ab b) i o∧Fr=ofL [(0,vd (GX false a)),(1,vd (GX false b)),(5,vo 0 (((Ab a).length+(Ab b).length))),(17,vi ((Ab a).length)),(18,vi ((i:Nat)))]∧H=[.row 126 1 ((Ab a).length+(Ab b).length) (cW o)]) (n0:=(Ab a).length) ⟨0,(List.replicate ((Ab a).length+(Ab b).length) 0),ad _,rfl,Gw.start _ _,rfl,rfl⟩ ?_)
 rintro n Fr H ⟨i,o,hi,rfl,ho,rfl,rfl⟩
 by_cases hlt:i<(Ab a).length
 case pos =>
  obtain ⟨p,hp⟩:∃ p,(Ab a)[i]?=some p:=⟨_,gE hlt⟩
  have hpk:=hax p (gM hp)
  have hp2:=Pv hp
  repeat' (with_reducible first|refine qq ?_|(refine Tx 3 ?_;refine gO xLt ?_)|(refine Tx 4 ?_;refine gO xM <| gO xA ?_)|(refine Tx 5 ?_;refine gO xA ?_)|(refine Tx 6 ?_;refine gO xM <| gO xN <| gO xM ?_))
  refine AQ (Bu 1) (Aq (fun n Fr H=>∃ (k:Nat) (q:List Nat) (c:Nat),k≤(Ab b).length∧n=(Ab b).length - k∧QJ (Ab b) o i p k q c∧Fr=ofL [(0,vd (GX false a)),(1,vd (GX false b)),(5,vo 0 (((Ab a).length+(Ab b).length))),(6,vi i),(17,vi ((Ab a).length)),(18,vi ((i:Nat))),(7,vd (.val (.int .u64 ((c:Nat):Int)))),(22,vi ((Ab b).length)),(23,vi ((k:Nat)))]∧H=[.row 126 1 ((Ab a).length+(Ab b).length) (cW q)]) (n0:=(Ab b).length) ⟨0,o,0,ad _,rfl,ho.enter,rfl,rfl⟩ ?_)
  rintro n Fr H ⟨k,q,c,hk,rfl,hq,rfl,rfl⟩
  by_cases hlt2:k<(Ab b).length
  case pos =>
   obtain ⟨r,hr⟩:∃ r,(Ab b)[k]?=some r:=⟨_,gE hlt2⟩
   have hrk:=hay r (gM hr)
   have hr2:=Pv hr
   have hql:=hq.len
   have hol:=ho.len
   obtain ⟨u,hu⟩:∃ u,q[i+k]?=some u:=⟨_,gE (by omega)⟩
   have hu2:=hq.ok u (gM hu)
   obtain ⟨f1,f2⟩:=hq.fit hpk hrk hu
   have hst:=hq.step hpk hay hr hu
   have m1:IntKind.wrap .u64 (p:Int)=(p:Int):=EG (by omega) (by omega)
   have m2:IntKind.wrap .u64 (r:Int)=(r:Int):=EG (by omega) (by omega)
   have m3:IntKind.wrap .u64 ((p:Int)*(r:Int))=((p*r:Nat):Int):=by rw [←iv];exact EG (by omega) (by omega)
   have m4:IntKind.wrap .u64 (u:Int)=(u:Int):=EG (by omega) (by omega)
   have m5:IntKind.wrap .u64 (((p*r:Nat):Int)+(u:Int))=((p*r+u:Nat):Int):=EG (by omega) (by omega)
   have m6:IntKind.wrap .u64 (((p*r+u:Nat):Int)+(c:Int))=((c+(p*r+u):Nat):Int):=by rw [EG (by omega) (by omega)];omega
   have m7:=Lw (c+(p*r+u))
   have tl:i+k<q.length:=by omega
   generalize hm:p*r+u=m at *
   repeat' (with_reducible first|refine qq ?_|(refine Tx 7 ?_;refine gO xLt ?_)|(refine Tx 8 ?_;refine gO xM <| gO xA ?_)|(refine Ca (id:=9) AV (by kernel_rfl) ?_;refine gP xM <| gP xM <| gP Adl <| gP ZS <| gP zh3k <| gP xM <| gP xM <| gP Adl <| gP ZS <| gP zh4k <| gP Alw <| gP xM <| gP xM <| gP xM <| gP xAd <| gP Adl <| gP ZS <| gP zh5k <| gP (by first|exact QH rfl rfl rfl m5|exact xAd) <| gP xM <| gP (by first|exact QH rfl rfl rfl m6|exact xAd) <| gP xA ?_;refine Ke ?_)|(refine Tx 10 ?_;refine gO xM <| gO xM <| gO xM <| gO xAd <| gO xM <| gO zh6k <| gO Adl <| gZ AjO ?_)|(refine Tx 11 ?_;refine gO xM <| gO (by exact QI rfl rfl rfl) <| gO xA ?_)|(refine Tx 12 ?_;refine gO xAd <| gO xM ?_))
   exact Aib
  obtain rfl:k=(Ab b).length:=by omega
  have hql:=hq.len
  have hol:=ho.len
  have hlv:=ho.leave hp hq
  have tl:i+(Ab b).length<q.length:=by omega
  have hck:=hq.car
  have m8:IntKind.wrap .u32 (c:Int)=(c:Int):=by rw [Lw,dw hck]
  repeat' (with_reducible first|refine qq ?_|(refine Tx 7 ?_;refine gO xLt ?_)|(refine Tx 13 ?_;refine gO xM <| gO xM <| gO xM <| gO xN <| gO xAd <| gO xM <| gO zh7k <| gO (by exact LP (i:=i+(Ab b).length) rfl rfl rfl rfl (by omega) AH (by omega) (by decide)) <| gZ AjO ?_)|(refine Tx 14 ?_;refine gO xAd <| gO xM ?_))
  refine ⟨_,_,Bu 1,_,by omega,i+1,_,by omega,rfl,hlv,rfl,rfl⟩
 obtain rfl:i=(Ab a).length:=by omega
 have hv:=ho.val
 rw [bc,Am,Am] at hv
 have hol:=ho.len
 have TC:=My (G:=Ah) o ((Ab a).length+(Ab b).length) hol.symm ho.ok (by omega)
 rw [hv] at TC
 repeat' (with_reducible first|refine qq ?_|(refine Tx 3 ?_;refine gO xLt ?_))
 refine AQ (Fu (ds:=o.map dW) 5 0 rfl (by rw [←AoS];rfl)) ?_
 repeat' (with_reducible first|refine qq ?_|(refine Tx 15 ?_;refine gO xM <| gO (xCl func161 (TC)) <| gO xA ?_))
 exact Adk
theorem QK {a:Nat} (ha:(Ab a).length≤40000) (hb:(Ab b).length≤40000):(Ab (a*b)).length≤100000:=by
 have h1:=BE (Ay a)
 have h2:=BE (Ay b)
 rw [Am] at h1 h2
 refine lT (AC (k:=(Ab a).length+(Ab b).length) ?_) (by omega)
 rw [bd]
 exact Nat.mul_lt_mul'' h1 h2
theorem Adm (h:p:=by first|exact xCl func69 (PX)|exact xCl func69 (PY)):p:=h
theorem Gx (x:Int) (dx:Nat) (y:Int) (dy:Nat) (hnx:Nf x dx) (hny:Nf y dy) (lx:(Ab x.natAbs).length≤40000) (ly:(Ab y.natAbs).length≤40000) (hd:dx+dy≤65536):CV prog Ah 157 [aDy false x dx,aDy false y dy] [aDy false (NP x dx y dy).1 (NP x dx y dy).2]:=by
 refine cvz func157 ntmps157 ?_
 have PX:=EX (G:=Ah) x dx hnx (lT lx (by decide))
 have PY:=EX (G:=Ah) y dy hny (lT ly (by decide))
 have NM:=Aic x.natAbs y.natAbs (lT lx (by decide)) (lT ly (by decide))
 have hlm:(Ab (x.natAbs*y.natAbs)).length≤100000:=QK lx ly
 have RS:=Eu false (decide (x<0) != decide (y<0)) (x.natAbs*y.natAbs) (dx+dy) hlm hd
 rw [ZR] at RS
 have hdx:=hnx.1
 have hdy:=hny.1
 repeat' (with_reducible first|refine qq ?_|(refine Tx 0 ?_;refine gN xBo <| gN xBo <| gN (xAl Aj) ?_)|(refine Tx 1 ?_;refine gO xL <| gO Adm <| gO xMt <| gO xEx <| gO xEx <| gO xEx <| gO xA <| gO xA <| gO xA ?_)|(refine Tx 2 ?_;refine gO xL <| gO Adm <| gO xMt <| gO xEx <| gO xEx <| gO xEx <| gO xA <| gO xA <| gO xA ?_)|(refine Tx 3 ?_;refine gO xM <| gO xM <| gO Aly <| gO xM <| gO xM <| gO (xCl func230 (NM)) <| gO xM <| gO xM <| gO xAd <| gO (xCl func71 (RS.cv)) <| gZ (xSk Aa) ?_))
 exact NQ
theorem Up {k:Nat} (h:o[k]?=some 0):Az (o.set k u)=Az o+u*4294967296 ^ k:=by
 have:=Mw (u:=u) h
 omega
structure QL (a b:List Nat) (L k:Nat) (o:List Nat) (c:Nat):Prop where
 len:o.length=L
 ok:Ar o
 car:c≤1
 val:Az o+c*4294967296 ^ k=Az (a.take k)+Az (b.take k)
 zero:∀ j,k≤j→j<L→o[j]?=some 0
theorem Lx (h:Ar a) (k:Nat):a[k]?.getD 0<4294967296:=by
 cases hx:a[k]? with
 | none=>decide
 | some x=>exact h x (gM hx)
theorem Mz (L:Nat):∀ j,0≤j→j<L→(List.replicate L 0)[j]?=some 0:=fun j _ h=>by simp [h]
theorem QM (L:Nat):Ar (List.replicate L 0):=fun x hx=>by rw [(List.mem_replicate.1 hx).2];decide
theorem QL.start (a b:List Nat) (L:Nat):QL a b L 0 (List.replicate L 0) 0:=⟨by simp,QM L,by decide,by rw [Eq];simp [Az],Mz L⟩
theorem QL.step {b:List Nat} {L k:Nat} (h:QL a b L k o c) (ha:Ar a) (hb:Ar b) (hk:k<L):QL a b L (k+1) (o.set k ((a[k]?.getD 0+b[k]?.getD 0+c) % 4294967296)) ((a[k]?.getD 0+b[k]?.getD 0+c) / 4294967296):=by
 have x1:=Lx ha k
 have y1:=Lx hb k
 have hc:=h.car
 refine ⟨by rw [bt];exact h.len,Ft h.ok (by omega),by omega,?_,fun j h1 h2=>by rw [cq,if_neg (by omega)];exact h.zero j (by omega) h2⟩
 rw [Up (h.zero k (aa _) hk),AZ,AZ,bg]
 have hv:=h.val
 generalize a[k]?.getD 0=x at *
 generalize b[k]?.getD 0=y at *
 have hd:=dh (x+y+c) 4294967296
 generalize (x+y+c) / 4294967296=q at *
 generalize (x+y+c) % 4294967296=r at *
 generalize 4294967296 ^ k=P at *
 have e:q*(P*4294967296)+r*P=(x+y+c)*P:=by rw [←hd,bj,aq P 4294967296,←ao,aq q 4294967296]
 rw [bj,bj] at e
 rw [aq P x,aq P y]
 omega
theorem QL.done {b:List Nat} (h:QL a b (max a.length b.length+1) (max a.length b.length+1) o c) (ha:Ar a) (hb:Ar b):Az o=Az a+Az b:=by
 have hv:=h.val
 rw [al (by omega),al (by omega)] at hv
 have h1:=BE ha
 have h2:=BE hb
 have p1:4294967296 ^ a.length≤4294967296 ^ (max a.length b.length):=ap (by decide) (by omega)
 have p2:4294967296 ^ b.length≤4294967296 ^ (max a.length b.length):=ap (by decide) (by omega)
 have hc:=h.car
 rw [bg] at hv
 rcases (show c=0∨c=1 by omega) with rfl|rfl <;> omega
structure QN (a b:List Nat) (k:Nat) (o:List Nat) (c:Nat):Prop where
 len:o.length=a.length
 ok:Ar o
 car:c≤1
 val:Az o+Az (b.take k)=Az (a.take k)+c*4294967296 ^ k
 zero:∀ j,k≤j→j<a.length→o[j]?=some 0
theorem QN.start (a b:List Nat):QN a b 0 (List.replicate a.length 0) 0:=⟨by simp,QM _,by decide,by rw [Eq];simp [Az],Mz _⟩
def Yg (x y c:Nat):Nat:=if x<y+c then 1 else 0
theorem Aid (x y c:Nat):Yg x y c≤1:=by unfold Yg;split <;> omega
theorem QN.step {b:List Nat} {k:Nat} {x:Nat} (h:QN a b k o c) (ha:Ar a) (hb:Ar b) (hx:a[k]?=some x):QN a b (k+1) (o.set k ((x+4294967296 - b[k]?.getD 0 - c) % 4294967296)) (Yg x (b[k]?.getD 0) c):=by
 have hk:=(gS.1 hx).1
 have x1:=ha x (gM hx)
 have y1:=Lx hb k
 have hc:=h.car
 refine ⟨by rw [bt];exact h.len,Ft h.ok (by omega),Aid _ _ _,?_,fun j h1 h2=>by rw [cq,if_neg (by omega)];exact h.zero j (by omega) h2⟩
 rw [Up (h.zero k (aa _) hk),AZ,AZ,bg,hx,bh]
 have hv:=h.val
 generalize b[k]?.getD 0=y at *
 have hd:(x+4294967296 - y - c) % 4294967296+y+c=x+Yg x y c*4294967296:=by unfold Yg;split <;> omega
 generalize Yg x y c=q at *
 generalize (x+4294967296 - y - c) % 4294967296=r at *
 generalize 4294967296 ^ k=P at *
 have e:(r+y+c)*P=(x+q*4294967296)*P:=by rw [hd]
 rw [bj,bj,bj,ao q 4294967296 P,aq 4294967296 P] at e
 rw [aq P x,aq P y]
 omega
theorem QN.done {b:List Nat} (h:QN a b a.length o c) (ha:Ar a) (hle:Az b≤Az a) (hl:b.length≤a.length):Az o=Az a - Az b:=by
 have hv:=h.val
 rw [bc,al hl] at hv
 have h1:=BE h.ok
 rw [h.len] at h1
 have hc:=h.car
 rcases (show c=0∨c=1 by omega) with rfl|rfl <;> omega
structure Uq (a:List Nat) (q r k:Nat) (o:List Nat):Prop where
 len:o.length=a.length+q+1
 ok:Ar o
 val:Az o=Az (a.take k)*(2 ^ r*4294967296 ^ q)
 top:∃ cy,o[q+k]?=some cy∧cy<2 ^ r
 zero:∀ j,q+k<j→j<a.length+q+1→o[j]?=some 0
theorem Uq.start (a:List Nat) (q r:Nat):Uq a q r 0 (List.replicate (a.length+q+1) 0):=⟨by simp,QM _,by rw [Eq];simp [Az],⟨0,by rw [bz];exact Mz _ q (ad _) (by omega),ax r⟩,fun j _ h=>Mz _ j (ad _) h⟩
theorem Uq.step {q r k:Nat} {x cy:Nat} (h:Uq a q r k o) (ha:Ar a) (hr:r<32) (hx:a[k]?=some x) (hcy:o[q+k]?=some cy) (hlt:cy<2 ^ r) (hfit:cy+x*2 ^ r % 4294967296<4294967296) :
  Uq a q r (k+1) ((o.set (q+k) (cy+x*2 ^ r % 4294967296)).set (q+k+1) (x*2 ^ r / 4294967296)):=by
 have hk:=(gS.1 hx).1
 have x1:=ha x (gM hx)
 have hhi:x*2 ^ r / 4294967296<2 ^ r:=by
  rw [ij (by decide),aq (2 ^ r)]
  exact jh x1 (ax r)
 have h32:2 ^ r≤4294967296:=by rw [show (4294967296:Nat)=2 ^ 32 from rfl];exact ap (by decide) (by omega)
 refine ⟨by rw [bt,bt];exact h.len,Ft (Ft h.ok hfit) (by omega),?_,⟨_,by rw [show q+(k+1)=q+k+1 by omega,cq,if_pos rfl,if_pos (by rw [bt,h.len];omega)],hhi⟩,fun j h1 h2=>by rw [cq,if_neg (by omega),cq,if_neg (by omega)];exact h.zero j (by omega) h2⟩
 have e1:=Mw (u:=cy+x*2 ^ r % 4294967296) hcy
 have e2:Az ((o.set (q+k) (cy+x*2 ^ r % 4294967296)).set (q+k+1) (x*2 ^ r / 4294967296))=_:=Up (by rw [cq,if_neg (by omega)];exact h.zero _ (by omega) (by omega))
 rw [e2,AZ,hx,bh,bj,←h.val,bg]
 have hd:=dh (x*2 ^ r) 4294967296
 have e3:4294967296 ^ k*x*(2 ^ r*4294967296 ^ q)=(x*2 ^ r)*4294967296 ^ (q+k):=by rw [bd];simp only [ao,aq,Nat.mul_left_comm]
 rw [e3]
 generalize x*2 ^ r=t at *
 generalize t / 4294967296=u at *
 generalize t % 4294967296=l at *
 generalize 4294967296 ^ (q+k)=P at *
 have e4:u*(P*4294967296)+l*P=t*P:=by rw [←hd,bj,aq P 4294967296,←ao,aq u 4294967296]
 rw [bj] at e1
 omega
theorem Aie (v:BitVec 32):v.toNat / 2147483648=if v.msb=true then 1 else 0:=by
 have h:=kw v
 have hl:=v.isLt
 rw [h]
 by_cases hc:2147483648≤v.toNat
 ·rw [if_pos (decide_eq_true hc)];omega
 ·rw [if_neg (by rw [decide_eq_true_eq];exact hc)];omega
theorem ZV (X Y D:BitVec 32) (x y c:Nat) (hx:X.toNat=x) (hy:Y.toNat=y) (hd:D.toNat=(x+4294967296 - y - c) % 4294967296) (hc:c≤1):((~~~X &&& Y) ||| (~~~(X ^^^ Y) &&& D)).toNat / 2147483648=Yg x y c:=by
 rw [Aie]
 have hX:=kw X
 have hY:=kw Y
 have hD:=kw D
 rw [hx] at hX
 rw [hy] at hY
 rw [hd] at hD
 have lx:=X.isLt
 have ly:=Y.isLt
 rw [hx] at lx
 rw [hy] at ly
 simp only [BitVec.msb_or,BitVec.msb_and,BitVec.msb_not,BitVec.msb_xor,hX,hY,hD]
 unfold Yg
 by_cases h1:2 ^ 31≤x <;> by_cases h2:2 ^ 31≤y <;> by_cases h3:2 ^ 31≤(x+4294967296 - y - c) % 4294967296
 all_goals
  simp only [Nat.reduceSub,h1,h2,h3,decide_true,decide_false]
  by_cases h4:x<y+c
  ·simp [h4]
   try omega
  ·simp [h4]
   try omega
def nB (v:BitVec 32):Int:=(v.toNat:Int)
theorem Ly (v:BitVec 32):BitVec.ofInt 32 (nB v)=v:=by
 unfold nB
 rw [BitVec.ofInt_natCast]
 exact BitVec.eq_of_toNat_eq (by rw [jt];exact dw v.isLt)
theorem Ur (v:BitVec 32):IntKind.wrap .u32 ((v.toNat:Nat):Int)=nB v:=by
 have:=v.isLt
 rw [jg]
 unfold nB
 omega
theorem Afl (u v:BitVec 32):bits .and .u32 (nB u) (nB v)=nB (u &&& v):=by
 show IntKind.wrap .u32 (((BitVec.ofInt 32 (nB u) &&& BitVec.ofInt 32 (nB v)).toNat:Nat):Int)=_
 rw [Ly,Ly,Ur]
theorem AoT (u v:BitVec 32):bits .or .u32 (nB u) (nB v)=nB (u ||| v):=by
 show IntKind.wrap .u32 (((BitVec.ofInt 32 (nB u) ||| BitVec.ofInt 32 (nB v)).toNat:Nat):Int)=_
 rw [Ly,Ly,Ur]
theorem Afm (u v:BitVec 32):bits .xor .u32 (nB u) (nB v)=nB (u ^^^ v):=by
 show IntKind.wrap .u32 (((BitVec.ofInt 32 (nB u) ^^^ BitVec.ofInt 32 (nB v)).toNat:Nat):Int)=_
 rw [Ly,Ly,Ur]
theorem Afn (v:BitVec 32):bits .xor .u32 IntKind.u32.max (nB v)=nB (~~~v):=by
 rw [show IntKind.u32.max=nB (BitVec.allOnes 32) from rfl,Afm,BitVec.allOnes_xor]
theorem Aif {x:Nat} (h:x<4294967296):((x:Nat):Int)=nB (BitVec.ofNat 32 x):=by
 unfold nB
 rw [jt,dw h]
theorem ZW (x y c:Nat) (w:World) (hx:x<4294967296) (hy:y<4294967296) (hc:c≤1) :
  Calls prog 254 #[.int .u32 (x:Int),.int .u32 (y:Int),.int .u32 (c:Int)] w fun e w'=>e=.returned (.tuple #[.int .u32 (((x+4294967296 - y - c) % 4294967296:Nat):Int),.int .u32 ((Yg x y c:Nat):Int)])∧w=w':=by
 go_enter func254,ntmps254
 go_wp2_with fail
 refine bodyPost_ret (v:=.tuple #[.int .u32 (((x+4294967296 - y - c) % 4294967296:Nat):Int),.int .u32 ((Yg x y c:Nat):Int)]) ?_ rfl ⟨rfl,rfl⟩
 simp [results,results254,go_sem]
 refine ⟨by omega,?_⟩
 have hd:((x:Int) - (y:Int) - (c:Int)) % 4294967296=(((x+4294967296 - y - c) % 4294967296:Nat):Int):=by omega
 rw [hd,Aif hx,Aif hy,Aif (x:=(x+4294967296 - y - c) % 4294967296) (by omega),Afn,Afl,Afm,Afn,Afl,AoT]
 have key:=ZV (BitVec.ofNat 32 x) (BitVec.ofNat 32 y) (BitVec.ofNat 32 ((x+4294967296 - y - c) % 4294967296)) x y c (by rw [jt,dw hx]) (by rw [jt,dw hy]) (by rw [jt];omega) hc
 rw [←key]
 rfl
theorem Adn (x y c:Nat) (hx:x<4294967296) (hy:y<4294967296) (hc:c≤1):CVF prog Ah 254 [.one (dW x),.one (dW y),.one (dW c)] [.one (dW ((x+4294967296 - y - c) % 4294967296)),.one (dW (Yg x y c))]:=fun w S vs hg hlt hv=>by
 obtain ⟨v,vs',rfl,q1,hv⟩:=hv.uncons
 obtain ⟨v2,vs',rfl,q2,hv⟩:=hv.uncons
 obtain ⟨u,hu,q3⟩:=BB hv
 subst hu
 cases q1
 cases q2
 cases q3
 refine (ZW x y c w hx hy hc).mono fun r w' ⟨he,hw⟩=>?_
 subst hw
 exact ⟨_,he,NI (Br.val rfl) (Br.val rfl),ab _ _⟩
section
variable {P:Program} {G:World→Prop} {o:Oper} {F:Frm} {H:List Ob}
theorem Aig {x:Operand} {p:Int} (ho:o.op=.binOp .or t x y t') (hx:F.ev x=.one (.d (.val (.int .u32 p)))) (hy:F.ev y=.one (.d (.val (.int .u32 q)))) (hr:bits .or .u32 p q=r):AN P G o F H (.one (.d (.val (.int .u32 r)))) []:=by
 subst hr
 refine Da ho hx hy (fun w=>?_) rfl
 simp [eqGuard,binOp,intBits_or]
theorem Aih {x:Operand} {k:IntKind} {p:Int} (ho:o.op=.binOp .shl t x y t') (hx:F.ev x=.one (.d (.val (.int k p)))) (hy:F.ev y=.one (.d (.val (.int k' (n:Int))))) (hn:n≤k.bits) (hr:k.wrap (p*2 ^ n)=r):AN P G o F H (.one (.d (.val (.int k r)))) []:=by
 subst hr
 refine Da ho hx hy (fun w=>?_) rfl
 have h1:¬ ((n:Int)<0):=by omega
 simp [eqGuard,binOp,Op.shift,h1,eo hn]
theorem ZX {x:Operand} {k:IntKind} {p:Int} (ho:o.op=.binOp .quo t x y t') (hx:F.ev x=.one (.d (.val (.int k p)))) (hy:F.ev y=.one (.d (.val (.int k q)))) (h0:q≠0) (hr:k.wrap (p.tdiv q)=r):AN P G o F H (.one (.d (.val (.int k r)))) []:=hr ▸ YZ ho hx hy h0
theorem QO {x:Operand} {k:IntKind} {p:Int} (ho:o.op=.binOp .rem t x y t') (hx:F.ev x=.one (.d (.val (.int k p)))) (hy:F.ev y=.one (.d (.val (.int k q)))) (h0:q≠0) (hr:p.tmod q=r):AN P G o F H (.one (.d (.val (.int k r)))) []:=hr ▸ RQ ho hx hy h0
end
theorem Alz (h:p:=by
 rw [hv] at TC
 repeat' (with_reducible first|refine qq ?_|(refine Tx 4 ?_;refine gO xLt ?_))
 refine AQ (Fu (ds:=o.map dW) 5 0 rfl (by rw [←AoS];rfl)) ?_
 repeat' (with_reducible first|refine qq ?_|(refine Tx 8 ?_;refine gO xM <| gO (xCl func161 (TC)) <| gO xA ?_))
 exact Ax rfl (.cons_ (.tmp (.one (AX rfl fun _=>VU _))) .nil_)):p:=h
theorem AlA (h:p:=by first|exact xCl func163 (A1.cv)|exact xCl func163 (A2.cv)):p:=h
theorem Aii (a b:Nat) (l1:(Ab a).length≤200000) (l2:(Ab b).length≤200000):CV prog Ah 73 [.one (GX false a),.one (GX false b)] [.one (GX false (a+b))]:=by
 refine cvz func73 ntmps73 ?_
 have ha:=Ay a
 have hb:=Ay b
 repeat' (with_reducible first|refine qq ?_|(refine Tx 0 ?_;refine gO xA ?_)|(refine Tx 1 ?_;refine gO xM <| gO xN <| gO xM <| gO xN <| gO (by exact HW rfl rfl rfl) <| gO xAd <| gN (by first|exact IM (n:=(max (Ab a).length (Ab b).length+1)) rfl rfl rfl (by omega) AH Dh (by omega) (by decide)|exact Bs rfl rfl rfl AH Dh (by omega) (by decide)) <| gO xA ?_)|(refine Tx 2 ?_;refine gO xA ?_)|(refine Tx 3 ?_;refine gO xM <| gO xN <| gO xM ?_))
 refine AQ (Bu 1) (Aq (fun n Fr H=>∃ (k:Nat) (o:List Nat) (c:Nat),k≤(max (Ab a).length (Ab b).length+1)∧n=(max (Ab a).length (Ab b).length+1) - k∧QL (Ab a) (Ab b) (max (Ab a).length (Ab b).length+1) k o c∧Fr=ofL [(0,vd (GX false a)),(1,vd (GX false b)),(5,vo 0 ((max (Ab a).length (Ab b).length+1))),(6,vd (dW c)),(16,vi ((max (Ab a).length (Ab b).length+1))),(17,vi ((k:Nat)))]∧H=[.row 126 1 (max (Ab a).length (Ab b).length+1) (cW o)]) (n0:=(max (Ab a).length (Ab b).length+1)) ⟨0,(List.replicate (max (Ab a).length (Ab b).length+1) 0),0,ad _,rfl,QL.start _ _ _,rfl,rfl⟩ ?_)
 rintro n Fr H ⟨k,o,c,hk,rfl,ho,rfl,rfl⟩
 by_cases hlt:k<(max (Ab a).length (Ab b).length+1)
 case pos =>
  have hst:=ho.step ha hb hlt
  have hol:=ho.len
  have A1:=Uo false (Ab a) (Ab a).length k rfl (by omega) (by omega)
  have A2:=Uo false (Ab b) (Ab b).length k rfl (by omega) (by omega)
  rw [←ZT] at A1 A2
  have AD:=Adj ((Ab a)[k]?.getD 0) ((Ab b)[k]?.getD 0) c (Lx ha k) (Lx hb k) ho.car
  have tl:k<o.length:=by omega
  generalize (Ab a)[k]?.getD 0=x at *
  generalize (Ab b)[k]?.getD 0=y at *
  generalize (x+y+c) % 4294967296=r at *
  generalize (x+y+c) / 4294967296=q at *
  repeat' (with_reducible first|refine qq ?_|(refine Tx 4 ?_;refine gO xLt ?_)|(refine Tx 5 ?_;refine gO xM <| gO xA ?_)|(refine Tx 6 ?_;refine gO xM <| gO xM <| gO xM <| gO xM <| gO AlA <| gO xM <| gO xM <| gO AlA <| gO xM <| gO (xCl func164 (AD.cv)) <| gO xMt <| gO xEx <| gO xEx <| gO (xIo (i:=k) AH) <| gZ AjO <| gO xA ?_)|(refine Tx 7 ?_;refine gO xAd <| gO xM ?_))
  exact Aib
 obtain rfl:k=(max (Ab a).length (Ab b).length+1):=by omega
 have hv:=ho.done ha hb
 rw [Am,Am] at hv
 have hol:=ho.len
 have TC:=My (G:=Ah) o (max (Ab a).length (Ab b).length+1) hol.symm ho.ok (by omega)
 exact Alz
theorem AlB (h:p:=by first|exact xIr AH (hx2)|exact xIo (i:=k) AH):p:=h
theorem ZY (a b:Nat) (hle:b≤a) (l1:(Ab a).length≤200000):CV prog Ah 229 [.one (GX false a),.one (GX false b)] [.one (GX false (a - b))]:=by
 refine cvz func229 ntmps229 ?_
 have ha:=Ay a
 have hb:=Ay b
 have hlb:(Ab b).length≤(Ab a).length:=AJ hle
 repeat' (with_reducible first|refine qq ?_|(refine Tx 0 ?_;refine gO xA ?_)|(refine Tx 1 ?_;refine gO xM <| gO xN <| gN (by first|exact IM (n:=(Ab a).length) rfl rfl rfl rfl AH Dh (by omega) (by decide)|exact Bs rfl rfl rfl AH Dh (by omega) (by decide)) <| gO xA ?_)|(refine Tx 2 ?_;refine gO xA ?_)|(refine Tx 3 ?_;refine gO xM <| gO xN <| gO xM ?_))
 refine AQ (Bu 1) (Aq (fun n Fr H=>∃ (k:Nat) (o:List Nat) (c:Nat),k≤(Ab a).length∧n=(Ab a).length - k∧QN (Ab a) (Ab b) k o c∧Fr=ofL [(0,vd (GX false a)),(1,vd (GX false b)),(5,vo 0 ((Ab a).length)),(6,vd (dW c)),(12,vi ((Ab a).length)),(13,vi ((k:Nat)))]∧H=[.row 126 1 (Ab a).length (cW o)]) (n0:=(Ab a).length) ⟨0,(List.replicate (Ab a).length 0),0,ad _,rfl,QN.start _ _,rfl,rfl⟩ ?_)
 rintro n Fr H ⟨k,o,c,hk,rfl,ho,rfl,rfl⟩
 by_cases hlt:k<(Ab a).length
 case pos =>
  obtain ⟨x,hx⟩:∃ x,(Ab a)[k]?=some x:=⟨_,gE hlt⟩
  have hx1:=ha x (gM hx)
  have hx2:=Pv hx
  have hst:=ho.step ha hb hx
  have hol:=ho.len
  have A2:=Uo false (Ab b) (Ab b).length k rfl (by omega) (by omega)
  rw [←ZT] at A2
  have SB:=Adn x ((Ab b)[k]?.getD 0) c hx1 (Lx hb k) ho.car
  have tl:k<o.length:=by omega
  generalize (Ab b)[k]?.getD 0=y at *
  generalize (x+4294967296 - y - c) % 4294967296=r at *
  generalize Yg x y c=q at *
  repeat' (with_reducible first|refine qq ?_|(refine Tx 4 ?_;refine gO xLt ?_)|(refine Tx 5 ?_;refine gO xM <| gO xA ?_)|(refine Mp (id:=6) 15 [(15,13)] AV (by kernel_rfl) ?_;dsimp only [List.take,List.drop];refine gP xM <| gP xM <| gP xM <| gP xM <| gP AlB <| gP xD <| gP xM <| gP xM <| gP (xCl func163 (A2.cv)) <| gP xM <| gP (xCl func254 (SB.cv)) <| gP xMt <| gP xEx <| gP xEx <| gP AlB ?_;refine Ke ?_;refine gZ AjO <| gO xA ?_)|(refine Tx 7 ?_;refine gO xAd <| gO xM ?_))
  exact Aib
 obtain rfl:k=(Ab a).length:=by omega
 have hv:=ho.done ha (by rw [Am,Am];exact hle) hlb
 rw [Am,Am] at hv
 have hol:=ho.len
 have TC:=My (G:=Ah) o (Ab a).length hol.symm ho.ok (by omega)
 exact Alz
theorem Aij {p':Prop} (k:p') (h:Hd9 p'→p:=by with_reducible first|(intro Z9;refine Tx 0 ?_;refine gO xA ?_;exact Z9.o)|(intro Z9;refine Tx 1 ?_;refine gO xM <| gO xEq <| gO xM ?_;(first|iterate 3 refine Jd ?_|(refine Jy xM1 ?_;refine Jy (xLn AH) ?_;refine Jy xEq ?_));refine gO xPk ?_;exact Z9.o)|fail):p:=h ⟨k⟩
theorem Ado (h:p:=by first|exact xIr AH (hx2)|exact LP (i:=q+k) rfl rfl rfl rfl (by omega) AH (by omega) (by decide)|exact LP (i:=q+k+1) rfl rfl rfl rfl (by omega) AH (by omega) (by decide)):p:=h
theorem AlC (h:p:=by first|exact ZP rfl rfl rfl rfl rfl BV tl rfl|exact ZP rfl rfl rfl rfl rfl BV tl2 rfl|exact xS1 BV|exact xSk BV):p:=h
theorem AlD (h:p:=by first|exact Afj rfl rfl rfl hcy BV|exact xLd BV):p:=h
theorem VV (a n:Nat) (l1:(Ab a).length≤200000) (ln:n≤1000000):CV prog Ah 70 [.one (GX false a),aI (n:Int)] [.one (GX false (a*2 ^ n))]:=by
 refine cvz func70 ntmps70 ?_
 have ha:=Ay a
 by_cases h0:n=0
 case pos =>
  subst h0
  rw [Nat.pow_zero,cr]
  repeat' (with_reducible first|refine qq ?_|refine Aij ?_|(refine Tx 2 ?_;refine gO xM <| gO xA ?_))
  exact Adk
 by_cases h1:(Ab a).length=0
 case pos =>
  have ha0:a=0:=cm fun h=>by have:=Cj h;omega
  subst ha0
  rw [fc]
  have h1i:((Ab 0).length:Int)=0:=by omega
  repeat' (with_reducible first|refine qq ?_|refine Aij ?_|(refine Tx 2 ?_;refine gO xM <| gO xA ?_))
  exact Adk
 obtain ⟨q,r,hn,hr⟩:∃ q r,n=32*q+r∧r<32:=⟨n / 32,n % 32,by omega,by omega⟩
 have hq:IntKind.wrap .i64 ((n:Int).tdiv 32)=(q:Int):=by rw [Int.tdiv_eq_ediv_of_nonneg (by omega)];rw [show (n:Int) / 32=(q:Int) by omega];rw [gh];omega
 have hm:(n:Int).tmod 32=(r:Int):=by rw [ld (by omega)];omega
 have hmw:IntKind.wrap .u64 (r:Int)=(r:Int):=EG (by omega) (by omega)
 repeat' (with_reducible first|refine qq ?_|refine Aij ?_|(refine Tx 3 ?_;refine gO xM <| gO (by first|exact ZX rfl rfl rfl (by decide) hq|exact YZ rfl rfl rfl (by omega)) <| gO xM <| gO (by first|exact QO rfl rfl rfl (by decide) hm|exact RQ rfl rfl rfl (by omega)) <| gO (by first|exact CX rfl underlying3 underlying160 rfl hmw|exact Dz rfl underlying3 underlying160 rfl) <| gO xA <| gO xA ?_)|(refine Tx 4 ?_;refine gO xM <| gO xN <| gO xM <| gO xAd <| gO xAd <| gN (by first|exact IM (n:=((Ab a).length+q+1)) rfl rfl rfl (by omega) AH Dh (by omega) (by decide)|exact Bs rfl rfl rfl AH Dh (by omega) (by decide)) <| gO xA ?_)|(refine Tx 5 ?_;refine gO xM <| gO xN <| gO xM ?_))
 refine AQ (Bu 1) (Aq (fun n Fr H=>∃ (k:Nat) (o:List Nat),k≤(Ab a).length∧n=(Ab a).length - k∧Uq (Ab a) q r k o∧Fr=ofL [(5,vi q),(6,vd (.val (.int .u64 (r:Int)))),(7,vo 0 (((Ab a).length+q+1))),(30,vd (GX false a)),(31,vi ((Ab a).length)),(32,vi ((k:Nat)))]∧H=[.row 126 1 ((Ab a).length+q+1) (cW o)]) (n0:=(Ab a).length) ⟨0,(List.replicate ((Ab a).length+q+1) 0),ad _,rfl,Uq.start _ _ _,rfl,rfl⟩ ?_)
 rintro nn Fr H ⟨k,o,hk,rfl,ho,rfl,rfl⟩
 by_cases hlt:k<(Ab a).length
 case pos =>
  obtain ⟨x,hx⟩:∃ x,(Ab a)[k]?=some x:=⟨_,gE hlt⟩
  have hx1:=ha x (gM hx)
  have hx2:=Pv hx
  obtain ⟨cy,hcy,hcl⟩:=ho.top
  have hol:=ho.len
  obtain ⟨hor,hfit⟩:=Ve (l:=x*2 ^ r % 4294967296) hcl (eh _ (by decide)) (Nat.le_of_lt hr) (AeS (Nat.le_of_lt hr))
  have hst:=ho.step ha hr hx hcy hcl hfit
  have h32:2 ^ r≤2147483648:=by rw [show (2147483648:Nat)=2 ^ 31 from rfl];exact ap (by decide) (by omega)
  have hxm:x*2 ^ r≤4294967295*2147483648:=ep (by omega) h32
  have w1:IntKind.wrap .u64 (x:Int)=(x:Int):=EG (by omega) (by omega)
  have w2:IntKind.wrap .u64 ((x:Int)*2 ^ r)=((x*2 ^ r:Nat):Int):=by rw [show ((x:Int)*2 ^ r)=((x*2 ^ r:Nat):Int) by push_cast;rfl];exact EG (by omega) (by omega)
  have w3:=Lw (x*2 ^ r)
  have w4:IntKind.wrap .u32 ((x*2 ^ r / 4294967296:Nat):Int)=((x*2 ^ r / 4294967296:Nat):Int):=by rw [Lw,dw (by omega)]
  have tl:q+k<o.length:=by omega
  have tl2:q+k+1<(o.set (q+k) (cy+x*2 ^ r % 4294967296)).length:=by rw [bt];omega
  generalize x*2 ^ r=t at *
  repeat' (with_reducible first|refine qq ?_|(refine Tx 6 ?_;refine gO xLt ?_)|(refine Tx 7 ?_;refine gO xM <| gO Ado <| gO AlD <| gO xA <| gO xA ?_)|(refine Tx 8 ?_;refine gO xM <| gO (by first|exact CX rfl underlying126 underlying159 rfl w1|exact Dz rfl underlying126 underlying159 rfl) <| gO xM <| gO (by exact Aih rfl rfl rfl (lT (Nat.le_of_lt hr) (by decide)) w2) <| gO xA ?_)|(refine Tx 9 ?_;refine gO xM <| gO xM <| gO xM <| gO xAd <| gO Ado <| gO AlD <| gO xM <| gO (by first|exact CX rfl underlying159 underlying126 rfl w3|exact Dz rfl underlying159 underlying126 rfl) <| gO (by exact Aig rfl rfl rfl hor) <| gO Ado <| gZ AlC ?_)|(refine Tx 10 ?_;refine gO xM <| gO xM <| gO xM <| gO xAd <| gO xAd <| gO xM <| gO (by exact QI rfl rfl rfl) <| gO (by first|exact CX rfl underlying159 underlying126 rfl w4|exact Dz rfl underlying159 underlying126 rfl) <| gO Ado <| gZ AlC ?_)|(refine Tx 11 ?_;refine gO xAd <| gO xM ?_))
  refine ⟨_,_,Bu 1,_,by omega,k+1,_,by omega,rfl,hst,rfl,rfl⟩
 obtain rfl:k=(Ab a).length:=by omega
 have hv:=ho.val
 rw [bc,Am] at hv
 have hv2:Az o=a*2 ^ n:=by rw [hv,hn,bd,dp,aq (2 ^ r)]
 have hol:=ho.len
 have TC:=My (G:=Ah) o ((Ab a).length+q+1) hol.symm ho.ok (by omega)
 rw [hv2] at TC
 repeat' (with_reducible first|refine qq ?_|(refine Tx 6 ?_;refine gO xLt ?_))
 refine AQ (Fu (ds:=o.map dW) 7 0 rfl (by rw [←AoS];rfl)) ?_
 repeat' (with_reducible first|refine qq ?_|(refine Tx 12 ?_;refine gO xM <| gO (xCl func161 (TC)) <| gO xA ?_))
 exact Adk
theorem ZZ {o:Oper} {x:Operand} {k:IntKind} {p:Int} (ho:o.op=.call { callee:=.builtin .max,args:=#[x,y],argTypes:=ts }) (hx:F.ev x=.one (.d (.val (.int k p)))) (hy:F.ev y=.one (.d (.val (.int k q)))) (hr:max p q=r):AN P G o F H (.one (.d (.val (.int k r)))) []:=hr ▸ HW ho hx hy
theorem Adp {o:Oper} {x:Operand} {p q r:Bool} (ho:o.op=.binOp .eql t x y t') (ht:P.underlying t=some .bool) (hx:F.ev x=.one (.d (.val (.bool p)))) (hy:F.ev y=.one (.d (.val (.bool q)))) (hr:(p == q)=r):AN P G o F H (.one (.d (.val (.bool r)))) []:=by
 subst hr
 refine Da ho hx hy (fun w=>?_) rfl
 have h1:(Op.equal t (.bool p) (.bool q)).run P w=.ok (p == q) w:=by
  have key:∀ d:Nat,(Op.equalIn (d+1) t (.bool p) (.bool q)).run P w=.ok (p == q) w:=fun d=>by simp [Op.equalIn,run_underlying ht]
  exact key 9999
 simp [eqGuard,binOp,h1]
theorem AlE (x:Int):sg (!decide (x<0)) x.natAbs = -x:=by
 unfold sg
 by_cases h:x<0
 ·simp only [h,decide_true,dr,gn,if_false];omega
 ·simp only [h,decide_false,dt,if_true];omega
theorem Aik (x:Int):sg (decide (x<0)) x.natAbs=x:=by
 unfold sg
 by_cases h:x<0
 ·simp only [h,decide_true,if_true];omega
 ·simp only [h,decide_false,gn,if_false];omega
theorem Afo (x:Int) (k:Nat):sg (decide (x<0)) (x.natAbs*2 ^ k)=x*2 ^ k:=by
 have h1:=Aik x
 unfold sg at *
 by_cases h:x<0
 ·simp only [h,decide_true,if_true] at *
  conv=>rhs;rw [←h1]
  rw [iv,dq,Int.natCast_pow]
  rfl
 ·simp only [h,decide_false,gn,if_false] at *
  conv=>rhs;rw [←h1]
  rw [iv,Int.natCast_pow]
  rfl
theorem AlF (h:p:=by
 unfold sg
 cases hx:decide (x<0) <;> cases hy:decide (y<0) <;> simp only [hx,hy] at h ⊢ <;> simp at h ⊢ <;> omega):p:=h
theorem Adq (x:Int) (dx:Nat) (y:Int) (dy:Nat) :
  (decide (x<0)=decide (y<0)→Ci x dx y dy=nf (sg (decide (x<0)) (x.natAbs*2 ^ (max dx dy - dx)+y.natAbs*2 ^ (max dx dy - dy))) (max dx dy)) ∧
  (¬ decide (x<0)=decide (y<0)→y.natAbs*2 ^ (max dx dy - dy)≤x.natAbs*2 ^ (max dx dy - dx)→Ci x dx y dy=nf (sg (decide (x<0)) (x.natAbs*2 ^ (max dx dy - dx) - y.natAbs*2 ^ (max dx dy - dy))) (max dx dy)) ∧
  (¬ decide (x<0)=decide (y<0)→¬ y.natAbs*2 ^ (max dx dy - dy)≤x.natAbs*2 ^ (max dx dy - dx)→Ci x dx y dy=nf (sg (decide (y<0)) (y.natAbs*2 ^ (max dx dy - dy) - x.natAbs*2 ^ (max dx dy - dx))) (max dx dy)):=by
 have h1:=Afo x (max dx dy - dx)
 have h2:=Afo y (max dx dy - dy)
 unfold Ci
 rw [←h1,←h2]
 generalize x.natAbs*2 ^ (max dx dy - dx)=p
 generalize y.natAbs*2 ^ (max dx dy - dy)=q
 refine ⟨fun h=>?_,fun h hle=>?_,fun h hle=>?_⟩
 ·rw [←h]
  congr 1
  unfold sg
  split <;> omega
 ·congr 1
  exact AlF
 ·congr 1
  exact AlF
theorem Fv {x:Int} (h:Nf x d):Ae x d 0=(x,d):=by
 unfold Ae
 rw [if_neg (by decide)]
 show nf (x*2 ^ 0) d=_
 rw [Int.pow_zero,Int.mul_one]
 exact Fb h.2
theorem Ff (n:Int) (h1 : -9223372036854775808≤n) (h2:n<9223372036854775808):CV prog Ah 68 [aI n] [aDy false n 0]:=CVF.cv fun w S vs hg hlt ha=>by
 obtain ⟨u,hu,h3⟩:=BB ha
 subst hu
 cases h3
 exact (YN n h1 h2 w hg).mono fun r w' ⟨v,he,hd,hb⟩=>⟨v,he,EE hd,hb⟩
theorem BH (x:Int) (d:Nat) (n:Int) (hn:Nf x d) (hl:(Ab x.natAbs).length≤50000) (hd:(d:Int) - max (-65536) (min n 65536)≤65536):CV prog Ah 21 [aDy false x d,aI n] [aDy false (Ae x d n).1 (Ae x d n).2]:=CVF.cv fun w S vs hg hlt ha=>by
 obtain ⟨v,vs',rfl,h1,ha⟩:=ha.uncons
 obtain ⟨u,hu,h2⟩:=BB ha
 subst hu
 cases h2
 exact (Pb (Fq h1 hlt hn) (aa _) hl hd hg).mono fun r w' ⟨v,he,hd,hb⟩=>⟨v,he,EE hd,hb⟩
theorem Aaa (x:Int) (dx:Nat) (y:Int) (dy:Nat):BI x dx y dy=Yf x dx y dy:=by
 unfold BI Yf Ci
 rw [ZN (Acs _ _),dq]
 rfl
theorem BZ (x:Int) (dx:Nat) (y:Int) (dy:Nat) (hnx:Nf x dx) (hny:Nf y dy) (lx:(Ab x.natAbs).length≤40000) (ly:(Ab y.natAbs).length≤40000):CV prog Ah 15 [aDy false x dx,aDy false y dy] [aI (BI x dx y dy)]:=CVF.cv fun w S vs hg hlt ha=>by
 obtain ⟨v,vs',rfl,h1,ha⟩:=ha.uncons
 obtain ⟨u,hu,h2⟩:=BB ha
 subst hu
 exact (AcO (Fq h1 hlt hnx) (Fq h2 hlt hny) (aa _) (lT lx (by decide)) (lT ly (by decide))).mono fun r w' ⟨he,hb⟩=>⟨_,he.trans (by rw [Aaa]),Br.val rfl,hb⟩
theorem AlG (h:p:=by first|exact xCl func70 (LX)|exact xCl func70 (LY)):p:=h
theorem Adr (x:Int) (dx:Nat) (y:Int) (dy:Nat) (hnx:Nf x dx) (hny:Nf y dy) (lx:(Ab x.natAbs).length≤40000) (ly:(Ab y.natAbs).length≤40000):CV prog Ah 56 [aDy false x dx,aDy false y dy] [aB (decide (x<0)),.one (GX false (x.natAbs*2 ^ ((max dx dy) - dx))),aB (decide (y<0)),.one (GX false (y.natAbs*2 ^ ((max dx dy) - dy))),aI ((max dx dy):Nat)]:=by
 refine cvz func56 ntmps56 ?_
 have PX:=EX (G:=Ah) x dx hnx (lT lx (by decide))
 have PY:=EX (G:=Ah) y dy hny (lT ly (by decide))
 have hdx:=hnx.1
 have hdy:=hny.1
 have hm:(max (dx:Int) (dy:Int))=(((max dx dy):Nat):Int):=by omega
 have LX:=VV x.natAbs ((max dx dy) - dx) (lT lx (by decide)) (by omega)
 have LY:=VV y.natAbs ((max dx dy) - dy) (lT ly (by decide)) (by omega)
 have e1:(((max dx dy) - dx:Nat):Int)=(((max dx dy):Nat):Int) - (dx:Int):=by omega
 have e2:(((max dx dy) - dy:Nat):Int)=(((max dx dy):Nat):Int) - (dy:Int):=by omega
 rw [e1] at LX
 rw [e2] at LY
 repeat' (with_reducible first|refine qq ?_|(refine Tx 0 ?_;refine gN xBo <| gN xBo <| gO xA <| gO xA <| gO xA <| gO xA <| gO xA ?_)|(refine Tx 1 ?_;refine gO xL <| gO Adm <| gO xMt <| gO xEx <| gO xEx <| gO xEx <| gO xA <| gO xA <| gO xA ?_)|(refine Tx 2 ?_;refine gO xL <| gO Adm <| gO xMt <| gO xEx <| gO xEx <| gO xEx <| gO xA <| gO xA <| gO xA ?_)|(refine Tx 3 ?_;refine gO xM <| gO xM <| gO (by first|exact ZZ rfl rfl rfl hm|exact HW rfl rfl rfl) <| gO xA ?_)|(refine Tx 4 ?_;refine gO xM <| gO xM <| gO xM <| gO xM <| gO xSb <| gO AlG <| gO xM <| gO xM <| gO xM <| gO xM <| gO xSb <| gO AlG <| gO xM <| gO xA <| gO xA <| gO xA <| gO xA <| gO xA ?_))
 exact Ax rfl (.cons_ (DD rfl rfl) (.cons_ (.tmp (.one (AX rfl fun _=>VU _))) (.cons_ (DD rfl rfl) (.cons_ (.tmp (.one (AX rfl fun _=>VU _))) (.cons_ (Qu rfl rfl) .nil_)))))
theorem Ail {p':Prop} (k:p') (h:Hd9 p'→p:=by with_reducible first|(intro Z9;refine qq ?_;exact Z9.o)|(intro Z9;refine Tx 0 ?_;refine gN xBo <| gN xBo <| gN (xAl Aj) ?_;exact Z9.o)|(intro Z9;refine Tx 1 ?_;refine gO xL <| gO xL <| gO (xCl func56 (AL)) <| gO xMt <| gO xEx <| gO xEx <| gO xEx <| gO xEx <| gO xEx <| gO xA <| gO xA <| gO xA <| gO xA <| gO xA ?_;exact Z9.o)|(intro Z9;refine Tx 2 ?_;refine gO xM <| gO xM <| gO (xCl func57 (CP.cv)) <| gO xA ?_;exact Z9.o)|(intro Z9;refine Tx 3 ?_;refine gO xM <| gO xM <| gO (by first|exact Adp rfl underlying4 rfl rfl hsb|exact xEq) <| gO xA ?_;exact Z9.o)|fail):p:=h ⟨k⟩
theorem DF (x:Int) (dx:Nat) (y:Int) (dy:Nat) (hnx:Nf x dx) (hny:Nf y dy) (lx:(Ab x.natAbs).length≤40000) (ly:(Ab y.natAbs).length≤40000):CV prog Ah 152 [aDy false x dx,aDy false y dy] [aDy false (Ci x dx y dy).1 (Ci x dx y dy).2]:=by
 refine cvz func152 ntmps152 ?_
 have AL:=Adr x dx y dy hnx hny lx ly
 have hdx:=hnx.1
 have hdy:=hny.1
 have hX:(Ab (x.natAbs*2 ^ ((max dx dy) - dx))).length≤50000:=lT (Bo x.natAbs ((max dx dy) - dx)) (by omega)
 have hY:(Ab (y.natAbs*2 ^ ((max dx dy) - dy))).length≤50000:=lT (Bo y.natAbs ((max dx dy) - dy)) (by omega)
 have CP:=Un (G:=Ah) false false (x.natAbs*2 ^ ((max dx dy) - dx)) (y.natAbs*2 ^ ((max dx dy) - dy)) (by omega) (by omega)
 have SU:=Adq x dx y dy
 generalize (x.natAbs*2 ^ ((max dx dy) - dx))=p at *
 generalize (y.natAbs*2 ^ ((max dx dy) - dy))=q at *
 obtain ⟨S1,S2,S3⟩:=SU
 have hpq:=Dx p q
 by_cases hs:decide (x<0)=decide (y<0)
 case pos =>
  have NA:=Aii p q (by omega) (by omega)
  have RS:=Eu false (decide (x<0)) (p+q) (max dx dy) (by omega) (by omega)
  rw [←S1 hs] at RS
  have hsb:=beq_iff_eq.2 hs
  repeat' (with_reducible first|refine Ail ?_|(refine Tx 4 ?_;refine gO xM <| gO xM <| gO xM <| gO (xCl func73 (NA)) <| gO xM <| gO (xCl func71 (RS.cv)) <| gZ (xSk Aa) ?_))
  exact NQ
 have hsb:(decide (x<0) == decide (y<0))=false:=beq_eq_false_iff_ne.2 hs
 by_cases hc:q≤p
 case pos =>
  have NS:=ZY p q hc (by omega)
  have RS:=Eu false (decide (x<0)) (p - q) (max dx dy) (lT (AJ (Nat.sub_le p q)) (by omega)) (by omega)
  rw [←S2 hs hc] at RS
  have hge:0≤sgI ((p:Int) - (q:Int)):=by rw [Cw];(repeat' split) <;> omega
  repeat' (with_reducible first|refine Ail ?_|(refine Tx 5 ?_;refine gO xM <| gO xGe <| gO xA ?_)|(refine Tx 6 ?_;refine gO xM <| gO xM <| gO xM <| gO (xCl func229 (NS)) <| gO xM <| gO (xCl func71 (RS.cv)) <| gZ (xSk Aa) ?_))
  exact NQ
 have NS:=ZY q p (by omega) (by omega)
 have RS:=Eu false (decide (y<0)) (q - p) (max dx dy) (lT (AJ (Nat.sub_le q p)) (by omega)) (by omega)
 rw [←S3 hs hc] at RS
 have hge:¬ 0≤sgI ((p:Int) - (q:Int)):=by rw [Cw];(repeat' split) <;> omega
 repeat' (with_reducible first|refine Ail ?_|(refine Tx 5 ?_;refine gO xM <| gO xGe <| gO xA ?_)|(refine Tx 7 ?_;refine gO xM <| gO xM <| gO xM <| gO (xCl func229 (NS)) <| gO xM <| gO (xCl func71 (RS.cv)) <| gZ (xSk Aa) ?_))
 exact NQ
theorem FS (x:Int) (dx:Nat) (hnx:Nf x dx) (lx:(Ab x.natAbs).length≤40000):CV prog Ah 176 [aDy false x dx] [aDy false (-x) dx]:=by
 refine cvz func176 ntmps176 ?_
 have PX:=EX (G:=Ah) x dx hnx (lT lx (by decide))
 have hdx:=hnx.1
 have RS:=Eu false (!decide (x<0)) x.natAbs dx (lT lx (by decide)) hdx
 rw [show nf (sg (!decide (x<0)) x.natAbs) dx=(-x,dx) by rw [AlE];exact Fb fun h=>by have:=hnx.2 h;omega] at RS
 repeat' (with_reducible first|refine qq ?_|(refine Tx 0 ?_;refine gN xBo <| gN (xAl Aj) ?_)|(refine Tx 1 ?_;refine gO xL <| gO (xCl func69 (PX)) <| gO xMt <| gO xEx <| gO xEx <| gO xEx <| gO xA <| gO xA <| gO xA ?_)|(refine Tx 2 ?_;refine gO xM <| gO (by first|exact xNt|exact xNg) <| gO xM <| gO xM <| gO (xCl func71 (RS.cv)) <| gZ (xSk Aa) ?_))
 exact NQ
theorem QP (x:Int) (dx:Nat) (hnx:Nf x dx) (lx:(Ab x.natAbs).length≤40000):CV prog Ah 158 [aDy false x dx] [aDy false ((x.natAbs:Nat):Int) dx]:=by
 refine cvz func158 ntmps158 ?_
 have PX:=EX (G:=Ah) x dx hnx (lT lx (by decide))
 have hdx:=hnx.1
 have RS:=Eu false false x.natAbs dx (lT lx (by decide)) hdx
 rw [show nf (sg false x.natAbs) dx=(((x.natAbs:Nat):Int),dx) from Fb fun h=>by have:=hnx.2 h;show ((x.natAbs:Nat):Int) % 2=1;omega] at RS
 repeat' (with_reducible first|refine qq ?_|(refine Tx 0 ?_;refine gN xBo <| gN (xAl Aj) ?_)|(refine Tx 1 ?_;refine gO xL <| gO (xCl func69 (PX)) <| gO xMt <| gO xEx <| gO xEx <| gO xEx <| gO xA <| gO xA <| gO xA ?_)|(refine Tx 2 ?_;refine gO xM <| gO xM <| gO (xCl func71 (RS.cv)) <| gZ (xSk Aa) ?_))
 exact NQ
theorem QQ (x:Int) (dx:Nat) (y:Int) (dy:Nat) (hnx:Nf x dx) (hny:Nf y dy) (lx:(Ab x.natAbs).length≤40000) (ly:(Ab y.natAbs).length≤40000):CV prog Ah 225 [aDy false x dx,aDy false y dy] [aDy false (Gh x dx y dy).1 (Gh x dx y dy).2]:=by
 refine cvz func225 ntmps225 ?_
 have CM:=BZ x dx y dy hnx hny lx ly
 have SX:=BH x dx 0 hnx (lT lx (by decide)) (by have:=hnx.1;omega)
 have SY:=BH y dy 0 hny (lT ly (by decide)) (by have:=hny.1;omega)
 rw [Fv hnx] at SX
 rw [Fv hny] at SY
 by_cases h:BI x dx y dy≤0
 case pos =>
  rw [show Gh x dx y dy=(x,dx) from if_neg (by omega)]
  repeat' (with_reducible first|refine qq ?_|(refine Tx 0 ?_;refine gN xBo <| gN xBo <| gN (xAl Aj) ?_)|(refine Tx 1 ?_;refine gO xL <| gO xL <| gO (xCl func15 (CM)) <| gO xLe ?_)|(refine Tx 2 ?_;refine gO xL <| gO (xCl func21 (SX)) <| gZ (xSk Aa) ?_))
  exact NQ
 case neg =>
  rw [show Gh x dx y dy=(y,dy) from if_pos (by omega)]
  repeat' (with_reducible first|refine qq ?_|(refine Tx 0 ?_;refine gN xBo <| gN xBo <| gN (xAl Aj) ?_)|(refine Tx 1 ?_;refine gO xL <| gO xL <| gO (xCl func15 (CM)) <| gO xLe ?_)|(refine Tx 3 ?_;refine gO xL <| gO (xCl func21 (SY)) <| gZ (xSk Aa) ?_))
  exact NQ
theorem EY (x:Int) (dx:Nat) (y:Int) (dy:Nat) (hnx:Nf x dx) (hny:Nf y dy) (lx:(Ab x.natAbs).length≤40000) (ly:(Ab y.natAbs).length≤40000):CV prog Ah 156 [aDy false x dx,aDy false y dy] [aDy false (FJ x dx y dy).1 (FJ x dx y dy).2]:=by
 refine cvz func156 ntmps156 ?_
 have CM:=BZ x dx y dy hnx hny lx ly
 have SX:=BH x dx 0 hnx (lT lx (by decide)) (by have:=hnx.1;omega)
 have SY:=BH y dy 0 hny (lT ly (by decide)) (by have:=hny.1;omega)
 rw [Fv hnx] at SX
 rw [Fv hny] at SY
 by_cases h:0≤BI x dx y dy
 case pos =>
  rw [show FJ x dx y dy=(x,dx) from if_neg (by omega)]
  repeat' (with_reducible first|refine qq ?_|(refine Tx 0 ?_;refine gN xBo <| gN xBo <| gN (xAl Aj) ?_)|(refine Tx 1 ?_;refine gO xL <| gO xL <| gO (xCl func15 (CM)) <| gO xGe ?_)|(refine Tx 2 ?_;refine gO xL <| gO (xCl func21 (SX)) <| gZ (xSk Aa) ?_))
  exact NQ
 case neg =>
  rw [show FJ x dx y dy=(y,dy) from if_pos (by omega)]
  repeat' (with_reducible first|refine qq ?_|(refine Tx 0 ?_;refine gN xBo <| gN xBo <| gN (xAl Aj) ?_)|(refine Tx 1 ?_;refine gO xL <| gO xL <| gO (xCl func15 (CM)) <| gO xGe ?_)|(refine Tx 3 ?_;refine gO xL <| gO (xCl func21 (SY)) <| gZ (xSk Aa) ?_))
  exact NQ
theorem Aab {o:Oper} {e:TypeId} {x l:Operand} {tg:Bool} {k:IntKind} {cs:List D} (ho:o.op=.slice t x (some l) none none) (hx:F.ev x=.one (.d (.row tg s n cs))) (hl:F.ev l=.one (.d (.val (.int k z)))) (hz:z=(lo:Int)) (ht:TyS P t e s) (h1:lo≤n) :
  AN P G o F H (.one (.d (.row tg s (n - lo) (cs.drop (lo*s))))) []:=BN fun b0 m a hp hcx hor=>by
 subst hz
 have hv:=Ba hor (x:=x) (by rw [ho];simp [Op.operands])
 have el:=Dg (m:=m) (v:=a.eval l) (by rw [←hl];exact Ba hor (by rw [ho];simp [Op.operands]))
 rw [hx] at hv
 have hv':Br m.w m.S (.row tg s n cs) (a.eval x):=hv
 generalize hxe:a.eval x=u at hv'
 cases hv' with
 | @row _ _ _ cap _ A xs hc hA hln hxl hm hr =>
  obtain ⟨ie,hi1,hi2⟩:=Option.map_eq_some_iff.1 ht.s
  have hls:lo*s≤n*s:=Nat.mul_le_mul_right _ h1
  have e3:(n:Int)≤(cap:Int):=by omega
  have e4:(lo:Int)≤(n:Int):=by omega
  have e6:(0:Int)≤(lo:Int):=by omega
  refine ⟨.slice (if cap=lo then A else A.map (·.add (lo*s))) (n - lo) (cap - lo),?_,Br.row (xs.drop (lo*s)) (by omega) (fun h0=>?_) ?_ ?_ (fun hne=>?_) (fun j u x hu hj=>?_)⟩
  ·unfold execOp
   simp [ho,hxe,el,Instr.sliceAt,Instr.slice,run_underlying ht.h,Instr.sliceBounds,Instr.sliceBound,asIntOf,sizeOf,typeInfo,hi1,hi2,h1,hc]
  ·split at h0
   ·omega
   ·cases A with
    | none=>have:=hA rfl;omega
    | some p=>simp at h0
  ·rw [iq,hln,Nat.sub_mul]
  ·simp [hxl]
  ·have hcne:cs≠[]:=fun h0=>hne (by rw [h0];simp)
   obtain ⟨b,off,rfl,hb,hcells⟩:=hm hcne
   have hcl:cap≠lo:=fun h0=>hne (by
    refine cj ?_
    rw [iq,hln,show n=lo by omega,ei])
   rw [if_neg hcl]
   refine ⟨b,off+lo*s,by simp [lj],hb,fun j x hj=>?_⟩
   rw [bq] at hj
   rw [ga]
   exact hcells _ x hj
  ·rw [bq] at hu hj
   exact hr _ u x hu hj
theorem Aac (G:World→Prop) (t:Bool) (x:Int) (dx:Nat) (hn:Nf x dx) (l1:(Ab x.natAbs).length≤50000):CVF prog G 112 [aDy t x dx] [aDy false (-x) dx]:=fun w S vs hg hlt ha=>by
 obtain ⟨u,hu,h2⟩:=BB ha
 subst hu
 exact (Aln (Fq h2 hlt hn) (aa _) (lT l1 (by decide))).mono fun r w' ⟨v,he,hd,hb⟩=>⟨v,he,EE hd,hb⟩
theorem Us (G:World→Prop) (t:Bool) (x:Int) (dx:Nat) (hn:Nf x dx) (l1:(Ab x.natAbs).length≤50000):CVF prog G 101 [aDy t x dx] [aDy false (((x.natAbs:Nat):Int)) dx]:=fun w S vs hg hlt ha=>by
 obtain ⟨u,hu,h2⟩:=BB ha
 subst hu
 exact (AoP (Fq h2 hlt hn) (aa _) (lT l1 (by decide))).mono fun r w' ⟨v,he,hd,hb⟩=>⟨v,he,EE hd,hb⟩
theorem QR (G:World→Prop) (t t':Bool) (x:Int) (dx:Nat) (y:Int) (dy:Nat) (hn:Nf x dx) (hm:Nf y dy) (l1:(Ab x.natAbs).length≤50000) (l2:(Ab y.natAbs).length≤50000):CVF prog G 37 [aDy t x dx,aDy t' y dy] [aDy false (Ci x dx y dy).1 (Ci x dx y dy).2]:=fun w S vs hg hlt ha=>by
 obtain ⟨v,vs',rfl,h1,ha⟩:=ha.uncons
 obtain ⟨u,hu,h2⟩:=BB ha
 subst hu
 exact (Lu (Fq h1 hlt hn) (Fq h2 hlt hm) (aa _) (aa _) l1 l2).mono fun r w' ⟨v,he,hd,hb⟩=>⟨v,he,EE hd,hb⟩
theorem Aim (G:World→Prop) (t t':Bool) (x:Int) (dx:Nat) (y:Int) (dy:Nat) (hn:Nf x dx) (hm:Nf y dy) (l1:(Ab x.natAbs).length≤50000) (l2:(Ab y.natAbs).length≤50000):CVF prog G 42 [aDy t x dx,aDy t' y dy] [aDy false (Ci x dx (-y) dy).1 (Ci x dx (-y) dy).2]:=fun w S vs hg hlt ha=>by
 obtain ⟨v,vs',rfl,h1,ha⟩:=ha.uncons
 obtain ⟨u,hu,h2⟩:=BB ha
 subst hu
 exact (ZG (Fq h1 hlt hn) (Fq h2 hlt hm) (aa _) l1 l2).mono fun r w' ⟨v,he,hd,hb⟩=>⟨v,he,EE hd,hb⟩
theorem Ain (G:World→Prop) (t t':Bool) (x:Int) (dx:Nat) (y:Int) (dy:Nat) (hn:Nf x dx) (hm:Nf y dy) (l1:(Ab x.natAbs).length≤50000) (l2:(Ab y.natAbs).length≤50000):CVF prog G 255 [aDy t x dx,aDy t' y dy] [aDy false (Gh x dx y dy).1 (Gh x dx y dy).2]:=fun w S vs hg hlt ha=>by
 obtain ⟨v,vs',rfl,h1,ha⟩:=ha.uncons
 obtain ⟨u,hu,h2⟩:=BB ha
 subst hu
 exact (AhO (Fq h1 hlt hn) (Fq h2 hlt hm) (aa _) l1 l2).mono fun r w' ⟨v,he,hd,hb⟩=>⟨v,he,EE hd,hb⟩
theorem NR (G:World→Prop) (t t':Bool) (x:Int) (dx:Nat) (y:Int) (dy:Nat) (hn:Nf x dx) (hm:Nf y dy) (l1:(Ab x.natAbs).length≤50000) (l2:(Ab y.natAbs).length≤50000):CVF prog G 100 [aDy t x dx,aDy t' y dy] [aDy false (FJ x dx y dy).1 (FJ x dx y dy).2]:=fun w S vs hg hlt ha=>by
 obtain ⟨v,vs',rfl,h1,ha⟩:=ha.uncons
 obtain ⟨u,hu,h2⟩:=BB ha
 subst hu
 exact (AhP (Fq h1 hlt hn) (Fq h2 hlt hm) (aa _) l1 l2).mono fun r w' ⟨v,he,hd,hb⟩=>⟨v,he,EE hd,hb⟩
structure Sm (p:Int × Nat) (n d:Nat):Prop where
 ok:Nf p.1 p.2
 n:p.1.natAbs<2 ^ n
 d:p.2≤d
theorem Aad (k:Nat) (h:n≤32*k):2 ^ n≤4294967296 ^ k:=by
 rw [show (4294967296:Nat)=2 ^ 32 from rfl,←dp]
 exact ap (by decide) h
theorem Sm.lenN {p:Int × Nat} (h:Sm p n d) (k:Nat) (hn:n≤32*k):(Ab p.1.natAbs).length≤k:=AC (aj h.n (Aad k hn))
theorem Sm.l4 {p:Int × Nat} (h:Sm p n d) (hn:n≤32*625:=by decide):(Ab p.1.natAbs).length≤40000:=lT (h.lenN 625 hn) (by decide)
theorem Sm.lz {p:Int × Nat} {k:Nat} (h:Sm p n d) (hn:n≤32*k:=by decide):(Ab p.1.natAbs).length≤k:=h.lenN k hn
theorem Sm.more {p:Int × Nat} {n' d':Nat} (h:Sm p n d) (h1:n≤n') (h2:d≤d'):Sm p n' d':=⟨h.ok,aj h.n (ap (by decide) h1),lT h.d h2⟩
theorem Sm.mk_nf {m:Int} {p:Nat} (hd:p≤d) (h:p≤65536) (hm:m.natAbs<2 ^ n):Sm (nf m p) n d:=⟨Nf.nf h,gd (Gn m p) hm,lT (Acr m p) hd⟩
theorem Sm.shift {x k:Int} (h1 : -200≤k) (h2:k≤200) (hx:x.natAbs<2 ^ n):Sm (Ae x 0 k) (n+200) 200:=by
 unfold Ae
 rw [show max (-65536) (min k 65536)=k by omega]
 split
 ·exact (Sm.mk_nf (by omega) (by omega) hx).more (by omega) (aa _)
 ·refine Sm.mk_nf (by omega) (by omega) ?_
  rw [gf,fm,bd]
  exact gd (gb _ (ap (by decide) (show k.toNat≤200 by omega))) (jh hx (Nat.pow_pos (by decide)))
section
variable {p q:Int × Nat} {X Y Z:Int} {n m d:Nat}
theorem Sm.neg (h:Sm p n d):Sm (-p.1,p.2) n d:=⟨⟨h.ok.1,fun h0=>by have:=h.ok.2 h0;show (-p.1) % 2=1;omega⟩,by show (-p.1).natAbs<_;rw [ja];exact h.n,h.d⟩
theorem Sm.abs (h:Sm p n d):Sm (((p.1.natAbs:Nat):Int),p.2) n d:=⟨⟨h.ok.1,fun h0=>by have:=h.ok.2 h0;show ((p.1.natAbs:Nat):Int) % 2=1;omega⟩,h.n,h.d⟩
theorem Sm.sum (h:Sm p n d) (h2:Sm q n d) (hd:d≤65536):Sm (Ci p.1 p.2 q.1 q.2) (n+d+1) d:=by
 have e:∀ r:Int × Nat,Sm r n d→(r.1*2 ^ (Max.max p.2 q.2 - r.2)).natAbs<2 ^ (n+d):=fun r hr=>by
  rw [gf,fm,bd]
  have hpd:=h.d
  have hqd:=h2.d
  exact gd (gb _ (ap (by decide) (show Max.max p.2 q.2 - r.2≤d by omega))) (jh hr.n (Nat.pow_pos (by decide)))
 have hpd:=h.d
 have hqd:=h2.d
 refine Sm.mk_nf (by omega) (by omega) ?_
 have h3:=e p h
 have h4:=e q h2
 have h5:=Int.natAbs_add_le (p.1*2 ^ (Max.max p.2 q.2 - p.2)) (q.1*2 ^ (Max.max p.2 q.2 - q.2))
 rw [bg]
 omega
theorem Sm.mul (h:Sm p n d) (h2:Sm q n d) (hd:d≤30000):Sm (NP p.1 p.2 q.1 q.2) (n+n) (d+d):=by
 have hpd:=h.d
 have hqd:=h2.d
 refine Sm.mk_nf (by omega) (by omega) ?_
 rw [gf,bd]
 exact Nat.mul_lt_mul'' h.n h2.n
theorem Sm.min (h:Sm p n d) (h2:Sm q n d):Sm (Gh p.1 p.2 q.1 q.2) n d:=by
 unfold Gh
 split
 ·exact h2
 ·exact h
theorem Sm.max (h:Sm p n d) (h2:Sm q n d):Sm (FJ p.1 p.2 q.1 q.2) n d:=by
 unfold FJ
 split
 ·exact h2
 ·exact h
end
def dyP (p:Int × Nat):List D:=dDy false p.1 p.2
theorem Aio {l:List (Int × Nat)} {k:Nat} {p:Int × Nat} (h:l[k]?=some p):((Av dyP l).drop (k*3)).take 3=dyP p:=FO (f:=dyP) (s:=3) (fun _=>rfl) h
theorem SA {bs:List Bk}:∀ (f:Nat) (out:List Nat),(∀ l1 j l2,out=l1++j::l2→rdy bs l1 j=true)→∀ l1 j l2,Vx bs f out=l1++j::l2→rdy bs l1 j=true
 | 0,out,h,l1,j,l2,e=>h l1 j l2 e
 | f+1,out,h,l1,j,l2,e=>by
  unfold Vx at e
  cases hn:nxt bs out with
  | none=>rw [hn] at e;exact h l1 j l2 e
  | some i =>
   rw [hn] at e
   refine SA f (out++[i]) (fun m1 q m2 he=>?_) l1 j l2 e
   rcases List.eq_nil_or_concat m2 with rfl|⟨m3,q',rfl⟩
   ·have h1:=List.append_inj' he rfl
    obtain ⟨rfl,h2⟩:=h1
    cases h2
    exact (Qv hn).2
   ·have h1:out++[i]=(m1++q::m3)++[q']:=by rw [he];simp
    exact h m1 q m3 (List.append_inj' h1 rfl).1
theorem Ads {bs:List Bk} {l1 l2:List Nat} {j:Nat} (h:Dd bs=l1++j::l2) {a:Int} (ha:a∈Md bs j):CO bs a.toNat=2∨a.toNat∈l1:=by
 have h1:=SA bs.length [] (fun m1 q m2 he=>by simp at he) l1 j l2 h
 unfold rdy at h1
 rw [ai] at h1
 have h2:=List.all_eq_true.1 h1.2 a ha
 unfold En at h2
 simpa using h2
theorem Aip {bs:List Bk} (h:Fo bs=0) {j:Nat} (hj:j<bs.length) (hk:CO bs j≠2):j∈Dd bs:=cm fun hn=>by
 have hlen:(Dd bs).length=Db bs:=by
  unfold Fo at h
  exact cm fun hx=>by rw [if_neg hx] at h;cases h
 have ho:=Nz bs.length (Gj.nil bs)
 have:=Gj.le (bs:=bs) (out:=j::Dd bs) ⟨List.nodup_cons.2 ⟨hn,ho.nodup⟩,fun i hi=>by
  rcases List.mem_cons.1 hi with rfl|hi
  ·exact ⟨hj,hk⟩
  ·exact ho.mem i hi⟩
 rw [bw] at this
 omega
end Go.Proofs.YtmdfjbpggbhgnaaGreatDoor
