/- What the proofs of this claim share, part 11. No conditions. -/
import Derived.Test.YtjlkgfeepocjfaaGreatDoorMk9
import Derived.Test.YtjlkgfeepocjfaaGreatDoorMk10
import Derived.Test.YtjlkgfeepocjfaaGreatDoorMk6
import Derived.Test.YtjlkgfeepocjfaaGreatDoorMk8
import Derived.Laws.StructEq
set_option maxHeartbeats 8000000
set_option maxRecDepth 100000
set_option linter.all false
open Go.Proofs.Tryz
namespace Go.Proofs.YtjlkgfeepocjfaaGreatDoor
open Go.RowKit
variable {b c d dx dy g i id lo lo1 lo2 m m2 n s ty u:Nat} {z:Bool} {t t':TypeId} {y:Operand} {k':IntKind} {P:Program} {F:Frm} {H:List Ob} {G:World→Prop} {ts:Array TypeId} {p:Prop} {tmps:Array Value} {w:World} {v0 v1 v2:Value} {a o o0 ws:List Nat} {e f q r:Int} {S:EN}
def cBl (l:List Bool):List C:=l.map fun b=>.d (.val (.bool b))
theorem Afy (n:Nat):ET (madeCells (Value.bool false).cells (n*1)).toList=cBl (List.replicate n false):=by
 rw [de,show (Value.bool false).cells=#[Value.bool false] from rfl,toList_madeCells_one]
 simp [ET,cBl]
theorem AbO {l:List Bool}:∀ c∈cBl l,C.bel n c:=fun c hc=>by obtain ⟨z,_,rfl⟩:=List.mem_map.1 hc;trivial
theorem AnW {l:List Bool} {k:Nat} (h:l[k]?=some z):((cBl l).drop (k*1))[0]?=some (.d (.val (.bool z))):=by
 simp [cBl,h]
section
variable {P:Program} {G:World→Prop} {o:Oper} {F:Frm} {H:List Ob}
theorem AbP {e:TypeId} {x:Operand} {by_:Nat} {k:IntKind} (ho:o.op=.makeSlice t x y) (hx:F.ev x=.one (.d (.val (.int k (n:Int))))) (hy:F.ev y=.one (.d (.val (.int k' (n:Int))))) (ht:TyS P t e 1) (hz:TyZ P e (.bool false) 1 by_) (hn:n≤1000000) (hby:by_≤1000) :
  AZ P G o F H (.one (.own H.length n)) [.row e 1 n (cBl (List.replicate n false))]:=by
 have:=BG (P:=P) (G:=G) (H:=H) ho hx hy ht hz hn hby
 rwa [Afy] at this
theorem AbQ {ty:TypeId} {x:Operand} {k:Nat} {xs:List Bool} (ho:o.op=.load t x) (hx:F.ev x=.one (.ref id (i*1) (some n))) (hH:H[id]?=some (.row ty s n (cBl xs))) (hz:xs[i]?=some z) (hk:TyK P t false k):AZ P G o F H (.one (.d (.val (.bool z)))) [] :=
 Oa ho hx (.row hH) (AnW hz) hk
theorem AkL {ty:TypeId} {x:Operand} {xs:List Bool} {b:Bool} (ho:o.op=.store t x y) (hx:F.ev x=.one (.ref id (i*1) (some n))) (hH:H[id]?=some (.row ty s n (cBl xs))) (hy:F.ev y=.one (.d (.val (.bool z)))) (hty:TyK P t b 1) (hi:i<xs.length) {ys:List Bool} (hys:xs.set i z=ys):TOk P G o F H .any (H.set id (.row ty s n (cBl ys))):=by
 have:=Mf (P:=P) (G:=G) ho hx hH rfl hy hty (by simp [Ob.cs,cBl,hi])
 have e:(cBl xs).set (i*1) (.d (.val (.bool z)))=cBl ys:=by rw [←hys,de];simp [cBl,fg]
 simp only [Ob.cs,Ob.setC,e] at this
 exact this
end
theorem XK {t:Nat} {xs:List Int} (hF:F t=.one (.own id n)) (hH:H[id]?=some (.row ty 1 n (cI xs))) (hn:n=xs.length):RV P F H (.tmp t) (.one (AU false xs)):=.tmp (by
 rw [hF]
 refine .one (Dc rfl hH (by rw [hn];rfl) (Ba.map_l.2 ⟨by rw [af],fun j a b ha hb=>?_⟩))
 rw [ag,ha] at hb
 cases hb
 exact .d fun _=>.val _)
theorem CV.cv {f:FuncId} {args res:List A} (h:CV P G f args res):CV P G f args res:=h
def AnX (S:EN) (w w':World):EN:=fun t b=>S t b∨(t=false∧w.heap.size≤b∧b<w'.heap.size)
def CVB (P:Program) (G:World→Prop) (f:FuncId) (args:List A) (d:D):Prop :=
 ∀ (w:World) (S:EN) (vs:List Value),G w→(∀ t b,S t b→b<w.heap.size)→Ba (Ft w S) args vs →
  Calls P f vs.toArray w fun e w'=>∃ v,e=.returned v∧Bx w' (AnX S w w') d v∧Below w.heap.size w w'
theorem AhB (hG:∀ w w',Below w.heap.size w w'→G w→G w') {f:FuncId} {fn:Func} {c:Code} {N:Nat} {args:List A} {d:D} (hf:P.funcs[f]?=some fn) (hN:fn.ntmps=N) (ha:args.length≤N) (hb:fn.body=some c)
  (h:CW P G N c (F0 args) [] (fun e F _=>(e=.ret∨e=.normal)∧∃ t d',fn.results=#[.tmp t]∧F t=.one (.d d')∧∀ (w:World) (S:EN) (v:Value),Bx w S d' v→Bx w S d v)):CVB P G f args d:=by
 intro w S vs hg hlt hargs
 refine calls_of_wp hf hb ?_
 refine wp_mono (h w.heap.size w ⟨S,[]⟩ _ ⟨w,S,[],fun _=>none⟩ (fun w' hb'=>hG w w' hb' hg) rfl (RF hN ha hlt hargs)) fun e a' w' ⟨F',m',hw,hs,hret⟩=>?_
 subst hw
 obtain ⟨he,t,d',hr,hF,hdd⟩:=hret
 have hx:=hs.frame t
 rw [hF] at hx
 have hx:=hdd _ _ _ hx
 have hd:Bx m'.w (AnX S w m'.w) d (a'.tmps.getD t undef):=Bx.mono (fun t b hb'=>by
  cases t with
  | true=>exact .inl (by rw [hs.T] at hb';exact hb')
  | false=>exact (hs.S b hb').elim .inl fun h=>.inr ⟨rfl,h,hs.cx.lt _ _ hb'⟩) (fun _ _ _=>rfl) hx
 have hrun:(results fn a'.tmps).run P m'.w=.ok (a'.tmps.getD t undef) m'.w:=by
  have h1:(fn.results.mapM (VH a'.tmps)).run P m'.w=.ok #[a'.tmps.getD t undef] m'.w:=by
   rw [hr,←jq (xs:=#[ResultVar.tmp t]),jr,map_eq_pure_bind,ah]
   simp [jp,VH,ah]
  have hb':∀ (s:Sem (Array Value)) (k:Array Value→Sem Value),(s.bind k).run P m'.w=(s.run P m'.w).andThen fun a w=>(k a).run P w:=fun s k=>ah (x:=s) (f:=k) ..
  rw [Ik,hb',h1]
  rfl
 rcases he with rfl|rfl
 ·exact ⟨hs.defers,_,hrun,_,rfl,hd,hs.below⟩
 ·exact ⟨hs.defers,_,hrun,_,rfl,hd,hs.below⟩
theorem RR {t:Bool} (w:World) (S:EN) (v:Value) (h:Bx w S (.val (.slice none 0 0)) v):Bx w S (.row t s 0 []) v:=by
 cases h
 exact .row [] (aa _) (fun _=>rfl) (by simp) rfl (fun h=>absurd rfl h) (fun j u x h=>by simp at h)
theorem XL {t:Bool} {c:C} {y:D} {xs:List Int} (hc:c=.own id n) (hH:H[id]?=some (.row ty 1 n (cI xs))) (hn:n=xs.length) (hy:y=AU t xs):FB t H c y :=
 Dc hc hH (by rw [hy,hn];rfl) (Ba.map_l.2 ⟨by rw [af],fun j a b ha hb=>by
  rw [ag,ha] at hb
  cases hb
  exact .d fun _=>.val _⟩)
theorem A.rel_x {m:Mm} {y:A} {v:Value} (h:FU m y.x v):Ft m.w m.S y v:=by
 cases y with
 | one d=>exact h
 | agg ds =>
  obtain ⟨xs,h1,h2⟩:=h
  exact ⟨xs,h1,(Ba.map_l (f:=C.d)).1 h2⟩
section
variable {P:Program} {G:World→Prop} {o:Oper} {F:Frm} {H:List Ob}
theorem Afz {f:FuncId} {fn:Func} {c:Code} {xs:Array Operand} (ho:o.op=.call { callee:=.value (.func f),args:=xs,argTypes:=ts })
  (hf : P.funcs[f]? = some fn) (hn : (fn.name == "runtime.NumGoroutine") = false) (hb : fn.body = some c) {args : List A} {d : D} (h : CVB P G f args d) (ha : Ba (fun x (y : A) => F.ev x = y.x) xs.toList args) :
  AZ P G o F H (.one (.d d)) []:=by
 intro b0 m a hp hx hg hb0 _ hor K Q hK
 have hxs:∀ x∈xs.toList,FU m (F.ev x) (a.eval x):=fun x hm=>Bc hor (by
  rw [ho]
  simp only [Op.operands,Call.operands,iu,iv]
  exact .inr hm)
 have hcalls:=h m.w m.S (xs.toList.map a.eval) hg hx.lt ⟨by rw [af];exact ha.1.symm,fun j y v hy hv=>by
   simp only [ag,dj] at hv
   obtain ⟨x,hxj,rfl⟩:=hv
   have h1:=hxs x (gM hxj)
   rw [ha.2 j x y hxj hy] at h1
   exact A.rel_x h1⟩
 unfold Oper.wp execOp
 simp only [ho,resolve,Act.eval,Deferred.ofValue,ah,bq,az,invoke]
 rw [Ff hf hn hb]
 rw [gx]
 have he:((#[]:Array Value)++xs.map a.eval++#[])=(xs.toList.map a.eval).toArray:=fy (by simp)
 simp only [he]
 refine hcalls.mono fun e w' ⟨v,hev,hres,hbel⟩=>?_
 subst hev
 refine hK v w' [] ⟨rfl,hbel,fun k e hk=>by simp at hk,List.Pairwise.nil⟩ ?_
 exact Bx.mono (fun t b hb=>by
  rcases hb with hb|⟨rfl,h1,h2⟩
  ·exact .inl hb
  ·exact .inr ⟨rfl,h1,h2,fun e he=>by simp at he⟩) (fun _ _ _=>rfl) hres
end
theorem xCb {G : World → Prop} {o : Oper} {f : FuncId} {fn : Func} {cd : Code} {xs : Array Operand} {args : List A} {d : D} (h1 : P.funcs[f]? = some fn) (h : CVB P G f args d) (h2 : (fn.name == "runtime.NumGoroutine") = false := by kernel_rfl) (h3 : fn.body = some cd := by with_unfolding_all exact rfl) (ho : o.op = .call { callee := .value (.func f), args := xs, argTypes := ts } := by with_unfolding_all exact rfl) (ha : Ba (fun x (y : A) => F.ev x = y.x) xs.toList args := by with_unfolding_all first | ((repeat' first | exact Br rfl rfl | refine AO rfl rfl rfl ?_) <;> fail) | fail) : AZ P G o F H (.one (.d d)) [] := Afz ho h1 h2 h3 h ha
theorem ZC (a b c d:Int) (w:World):(Op.equalIn 10000 63 (.agg #[.int .i64 a,.int .i64 b]) (.agg #[.int .i64 c,.int .i64 d])).run prog w=.ok (a == c && b == d) w:=by
 have hS:prog.underlying 63=some (.struct (prog.fieldsOf 63)):=by kernel_rfl
 have hp:prog.stoodInHeld 63=false:=by kernel_rfl
 have hi:prog.underlying 3=some (.int .i64):=by kernel_rfl
 rw [show (10000:Nat)=9999+1 from rfl,run_equalIn_agg w 9999 63 _ _ hS hp]
 simp only [Program.fieldsOf,underlying63]
 go_simp
 cases h1:(a == c) <;> cases h2:(b == d) <;> simp_all
section
variable {P:Program} {G:World→Prop} {o:Oper} {F:Frm} {H:List Ob}
theorem AbR {m:Mm}:∀ {vs:List Value} {v:Value},FU m (.agg (vs.map fun u=>.d (.val u))) v→v=.agg vs.toArray:=fun {vs v} h=>by
 obtain ⟨xs,rfl,hl⟩:=h
 have:xs=vs:=by
  have e:Ba (fun (u:Value) x=>x=u) vs xs:=Ba.map_l.1 (hl.imp fun c x h=>h) |>.imp fun u x h=>by
   have h2:Bx m.w m.S (.val u) x:=h
   cases h2
   rfl
  refine ef fun j=>?_
  rcases hv:vs[j]? with _|u
  ·rw [List.getElem?_eq_none_iff] at hv ⊢
   have:=e.1
   omega
  ·obtain ⟨x,hx,rfl⟩:=e.at_ hv
   exact hx
 rw [this]
theorem RT {x:Operand} {a b c d:Int} {r:Bool} (ho:o.op=.binOp .neq 63 x y t') (hx:F.ev x=.agg [.d (.val (.int .i64 a)),.d (.val (.int .i64 b))]) (hy:F.ev y=.agg [.d (.val (.int .i64 c)),.d (.val (.int .i64 d))]) (hr:(!(a == c && b == d))=r):AZ prog G o F H (.one (.d (.val (.bool r)))) []:=Ce fun b0 m ac _ _ hor=>by
 have ex:=AbR (m:=m) (vs:=[.int .i64 a,.int .i64 b]) (v:=ac.eval x) (by rw [show ([.int .i64 a,.int .i64 b]:List Value).map (fun u=>C.d (.val u))=[.d (.val (.int .i64 a)),.d (.val (.int .i64 b))] from rfl,←hx];exact Bc hor (by rw [ho];simp [Op.operands]))
 have ey:=AbR (m:=m) (vs:=[.int .i64 c,.int .i64 d]) (v:=ac.eval y) (by rw [show ([.int .i64 c,.int .i64 d]:List Value).map (fun u=>C.d (.val u))=[.d (.val (.int .i64 c)),.d (.val (.int .i64 d))] from rfl,←hy];exact Bc hor (by rw [ho];simp [Op.operands]))
 refine ⟨.bool r,?_,Bx.val rfl⟩
 unfold execOp
 simp only [ho,ex,ey]
 rw [ah]
 have h:((do eqGuard .neq 63 x y (.agg #[.int .i64 a,.int .i64 b]) (.agg #[.int .i64 c,.int .i64 d]);binOp .neq 63 (.agg #[.int .i64 a,.int .i64 b]) (.agg #[.int .i64 c,.int .i64 d])):Sem Value).run prog m.w=.ok (.bool r) m.w:=by
  rw [ah,run_eqGuard_agg m.w .neq 63 x y _ _ (by kernel_rfl),az,run_neq_struct,ZC,az,hr]
 rw [h]
 rfl
end
theorem Mn (A:Option Addr) (ws:List Nat) (c m:Nat) (w:World) (h:Aq w m A (w32 ws)) (hc:ws.length≤c) (hl:ws.length≤1000000) :
  Calls prog 164 #[.slice A ws.length c] w fun e w'=>e=.returned (.slice A (Lm ws).length c)∧w=w':=by
 have H:=ll h
 clear h
 go_enter func164,ntmps164
 go_wp2_with fail
 go_loopw [3] (fun i wr=>AmN w ws i wr) (fun i _=>(intOf i).toNat)
 case atStart=>exact ⟨ws.length,aa _,rfl,rfl,rfl⟩
 case round =>
  obtain ⟨k,hk,rfl,ht,rfl⟩:=hrel
  have HT:=ll ht
  clear ht
  by_cases h0:k=0
  ·subst h0
   go_wp2_with fail
   go_ret
   refine ⟨?_,rfl⟩
   rw [Cp,←HT.out]
   rfl
  ·obtain ⟨j,rfl⟩:=io h0
   obtain ⟨b,off,z,rfl,hbm,hbs,hx,hcc⟩:=H.out.w32_ (k:=j) (by omega)
   have HX:=ll hx
   clear hx
   by_cases hz:z=0
   ·subst hz
    go_wp2_with fail
    have e1:DS ws j=DS ws ws.length:=by
     rw [←HT.out]
     show DS ws j=if ws[j]?.getD 0=0 then DS ws j else j+1
     rw [if_pos (by rw [HX.out];rfl)]
    exact ⟨⟨j,by omega,by go_num,e1,rfl⟩,by simp [intOf];try omega⟩
   ·have hz':((z:Int) == 0)=false:=by simp;omega
    go_wp2_with fail
    go_ret
    refine ⟨?_,rfl⟩
    have e1:j+1=DS ws ws.length:=by
     rw [←HT.out]
     show j+1=if ws[j]?.getD 0=0 then DS ws j else j+1
     rw [if_neg (by rw [HX.out];exact hz)]
    rw [Cp,←e1]
    rfl
theorem AnY (h:p:=by
 clear ka kb
 go_wp2_with (at_builtin;refine Nr rfl _ _ rfl w.heap.size _ os z wr.heap.size rfl (HO.out.alloc _) rfl (by simp [go_sem]) (by have:=HOL.out;omega) (by simp;omega) ?_;intro v' w2 hown2 hg2 hb2)
 exact ⟨⟨k+1,os++[z],c',by omega,by go_num,rfl,hown2,by rw [ao,HOL.out];rfl,Cn HOK.out hzb,hcb.out,(Vr HOL.out HX.out HY.out HV.out (by have:=HZ.out;omega)),hb.trans ((((ab _ wr).alloc (aa _) _).mono hb.size).trans hb2)⟩,by simp [intOf];omega⟩):p:=h
theorem AfA (A B:Option Addr) (a b:List Nat) (c1 c2 m:Nat) (w:World) (hm:m≤w.heap.size) (h1:Aq w m A (w32 a)) (h2:Aq w m B (w32 b)) (ha:Av a) (hb:Av b) (l1:a.length≤100000) (l2:b.length≤100000) :
    Calls prog 215 #[.slice A a.length c1,.slice B b.length c2] w fun e w' =>
      ∃ G g,e=.returned (.slice G (Ac (AH a+AH b)).length g)∧(G=none→g=0)∧(Ac (AH a+AH b)).length≤g∧Aq w' w'.heap.size G (w32 (Ac (AH a+AH b)))∧Below w.heap.size w w':=by
  have H1:=ll h1
  have H2:=ll h2
  have HA:=ll ha
  have HB:=ll hb
  clear h1 h2 ha hb
  go_enter func215,ntmps215
  go_wp2_with fail
  go_loopw [5,6,7] (fun v cv i wr=>AqV w a b v cv i wr) (fun _ _ i _=>max a.length b.length - (intOf i).toNat)
  case atStart=>exact ⟨0,[],0,ad _,rfl,rfl,DV.nil_ _ _,rfl,by simp [Av],by omega,by simp [AH],ab _ _⟩
  case round =>
    as_aux_lemma =>
    obtain ⟨k,os,cy,hk,rfl,rfl,hown,hol,hok,hcy,hv,hb⟩:=hrel
    have HO:=ll hown
    have HOL:=ll hol
    have HOK:=ll hok
    have HV:=ll hv
    clear hown hol hok hv
    have hmax:max (a.length:Int) (b.length:Int)=((max a.length b.length:Nat):Int):=by omega
    have hsz:=hb.size
    by_cases hlt:k<max a.length b.length
    · by_cases ka:k<a.length
      · by_cases kb:k<b.length
        · as_aux_lemma =>
          obtain ⟨b1,o1,x,rfl,q1,_,hx,g1'⟩:=H1.out.w32_ ka
          have g1:=(hb.cell (p:=⟨b1,o1+k,none⟩) (al q1 hm)).trans g1'
          have bx:=HA.out x (gM hx)
          have HX := ll (show a[k]?.getD 0 = x by rw [hx]; rfl)
          have ka':(k:Int)<(a.length:Int):=by omega
          clear hx g1'
          obtain ⟨b2,o2,y,rfl,q2,_,hy,g2'⟩:=H2.out.w32_ kb
          have g2:=(hb.cell (p:=⟨b2,o2+k,none⟩) (al q2 hm)).trans g2'
          have by':=HB.out y (gM hy)
          have HY := ll (show b[k]?.getD 0 = y by rw [hy]; rfl)
          have kb':(k:Int)<(b.length:Int):=by omega
          clear hy g2'
          obtain ⟨z,hz⟩:∃ z:Nat,((cy:Int)+(x:Int)+(y:Int)) % 4294967296=(z:Int):=⟨((cy+x+y) % 4294967296:Nat),by omega⟩
          obtain ⟨c',hc'⟩:∃ c':Nat,((cy:Int)+(x:Int)+(y:Int)) / 4294967296=(c':Int):=⟨((cy+x+y) / 4294967296:Nat),by omega⟩
          have HZ := ll (show z + 4294967296 * c' = cy + x + y by omega)
          have hzb:z<4294967296:=by omega
          have hcb := ll (show c' ≤ 1 by omega)
          clear ka kb
          go_wp2_with (at_builtin;refine Nr rfl _ _ rfl w.heap.size _ os z wr.heap.size rfl (HO.out.alloc _) rfl (by simp [go_sem]) (by have:=HOL.out;omega) (by simp;omega) ?_;intro v' w2 hown2 hg2 hb2)
          exact ⟨⟨k+1,os++[z],c',by omega,by go_num,rfl,hown2,by rw [ao,HOL.out];rfl,Cn HOK.out hzb,hcb.out,(Vr HOL.out HX.out HY.out HV.out HZ.out),hb.trans ((((ab _ wr).alloc (aa _) _).mono hb.size).trans hb2)⟩,by simp [intOf];omega⟩
        · as_aux_lemma =>
          obtain ⟨b1,o1,x,rfl,q1,_,hx,g1'⟩:=H1.out.w32_ ka
          have g1:=(hb.cell (p:=⟨b1,o1+k,none⟩) (al q1 hm)).trans g1'
          have bx:=HA.out x (gM hx)
          have HX := ll (show a[k]?.getD 0 = x by rw [hx]; rfl)
          have ka':(k:Int)<(a.length:Int):=by omega
          clear hx g1'
          have HY := ll (show b[k]?.getD 0 = 0 by rw [dr (by omega)]; rfl)
          have kb':¬ (k:Int)<(b.length:Int):=by omega
          have kb2:decide ((k:Int)<(b.length:Int))=false:=decide_eq_false kb'
          obtain ⟨z,hz⟩:∃ z:Nat,((cy:Int)+(x:Int)) % 4294967296=(z:Int):=⟨((cy+x) % 4294967296:Nat),by omega⟩
          obtain ⟨c',hc'⟩:∃ c':Nat,((cy:Int)+(x:Int)) / 4294967296=(c':Int):=⟨((cy+x) / 4294967296:Nat),by omega⟩
          have HZ := ll (show z + 4294967296 * c' = cy + x by omega)
          have hzb:z<4294967296:=by omega
          have hcb := ll (show c' ≤ 1 by omega)
          exact AnY
      · have kb:k<b.length:=by omega
        have HX := ll (show a[k]?.getD 0 = 0 by rw [dr (by omega)]; rfl)
        have ka':¬ (k:Int)<(a.length:Int):=by omega
        have ka2:decide ((k:Int)<(a.length:Int))=false:=decide_eq_false ka'
        obtain ⟨b2,o2,y,rfl,q2,_,hy,g2'⟩:=H2.out.w32_ kb
        have g2:=(hb.cell (p:=⟨b2,o2+k,none⟩) (al q2 hm)).trans g2'
        have by':=HB.out y (gM hy)
        have HY := ll (show b[k]?.getD 0 = y by rw [hy]; rfl)
        have kb':(k:Int)<(b.length:Int):=by omega
        clear hy g2'
        obtain ⟨z,hz⟩:∃ z:Nat,((cy:Int)+(y:Int)) % 4294967296=(z:Int):=⟨((cy+y) % 4294967296:Nat),by omega⟩
        obtain ⟨c',hc'⟩:∃ c':Nat,((cy:Int)+(y:Int)) / 4294967296=(c':Int):=⟨((cy+y) / 4294967296:Nat),by omega⟩
        have HZ := ll (show z + 4294967296 * c' = cy + y by omega)
        have hzb:z<4294967296:=by omega
        have hcb := ll (show c' ≤ 1 by omega)
        exact AnY
    · as_aux_lemma =>
      have hle:¬ (k:Int)<((max a.length b.length:Nat):Int):=by omega
      have hke:k=max a.length b.length:=by omega
      have hka:a.length≤k:=by omega
      have hkb:b.length≤k:=by omega
      have hcy32:cy<4294967296:=by omega
      obtain ⟨ws,hws⟩:∃ ws,ws=os++[cy]:=⟨_,rfl⟩
      have hwok:Av ws:=by rw [hws];exact Cn HOK.out hcy32
      have hwl:ws.length=k+1:=by rw [hws,ao,HOL.out];rfl
      have hwv:AH ws=AH a+AH b:=by
        have hv:=HV.out
        rw [aj hka,aj hkb] at hv
        rw [hws,Ca,HOL.out,←hv]
        simp only [AH,Nat.mul_zero,ce]
      have hl6:ws.length≤1000000:=by omega
      have HWS:=ll hws
      have HWO:=ll hwok
      have HWV:=ll hwv
      clear hws hwok hwv hmax hke hka hkb hwl hlt
      have hmax:max (a.length:Int) (b.length:Int)=((max a.length b.length:Nat):Int):=by omega
      go_wp2_with (first
        | (go_at_call 164;refine (Mn G ws g w2.heap.size w2 hGc hgc hl6).mono ?_;rintro e w3 ⟨rfl,rfl⟩)
        | (at_builtin;refine Nr rfl _ _ rfl w.heap.size _ os cy wr.heap.size rfl (HO.out.alloc _) rfl (by simp [go_sem]) (by have:=HOL.out;omega) (by simp;omega) ?_;intro v' w2 hown2 hg2 hb2;rw [←HWS.out] at hown2;obtain ⟨G,g,rfl,hGn,hGc⟩:=hown2.view;obtain ⟨_,hgc,_,_⟩:=hown2.cap_))
      go_ret
      have hcan:=Dh HWO.out
      rw [HWV.out] at hcan
      refine ⟨G,g,by rw [hcan];rfl,hGn,?_,?_,hb.trans ((((ab _ wr).alloc (aa _) _).mono hb.size).trans hb2)⟩
      · rw [←hcan,Cp]
        have:=Ey ws ws.length
        omega
      · rw [←hcan]
        exact hGc.takeW _
theorem AfB (A B:Option Addr) (a b:List Nat) (c1 c2 m:Nat) (w:World) (h1:Aq w m A (w32 a)) (h2:Aq w m B (w32 b)) (ha:Av a) (hb:Av b) (l1:a.length≤100000) (l2:b.length≤100000) :
  Calls prog 218 #[.slice A a.length c1,.slice B b.length c2] w fun e w'=>e=.returned (.bool (AaG a b))∧Below w.heap.size w w':=by
 have H1:=ll h1
 have H2:=ll h2
 have HA:=ll ha
 have HB:=ll hb
 clear h1 h2 ha hb
 by_cases hl:a.length=b.length
 ·have HL:=ll hl
  have e1:((a.length:Int) != (b.length:Int))=false:=by simp;omega
  have hlb:AaG a b=decide (AH a<AH b):=if_pos hl
  rw [hlb]
  clear hl hlb
  go_enter func218,ntmps218
  go_wp2_with fail
  go_loopw [5] (fun i wr=>AmP w a b i wr) (fun i _=>(intOf i+1).toNat)
  case atStart=>exact ⟨a.length,0,aa _,rfl,by rw [ew,HL.out,ew],rfl⟩
  case round =>
   as_aux_lemma =>
   obtain ⟨k,nq,hk,rfl,hd,rfl⟩:=hrel
   have HD:=ll hd
   clear hd
   by_cases h0:k=0
   ·subst h0
    go_wp2_with fail
    go_ret
    refine ⟨?_,below_drewN (ab _ _) _⟩
    have:=HD.out
    simp at this
    subst this
    simp
   ·obtain ⟨j,rfl⟩:=io h0
    obtain ⟨b1,o1,x,rfl,_,_,hx,g1⟩:=H1.out.w32_ (k:=j) (by omega)
    obtain ⟨b2,o2,y,rfl,_,_,hy,g2⟩:=H2.out.w32_ (k:=j) (by have:=HL.out;omega)
    have HX:=ll hx
    have HY:=ll hy
    have hj:((j.succ:Nat):Int) - 1=(j:Int):=by omega
    have hja:(j:Int)<(a.length:Int):=by omega
    have hjb:(j:Int)<(b.length:Int):=by have:=HL.out;omega
    rw [hj]
    clear hx hy h0
    by_cases hxy:x=y
    ·subst hxy
     have e2:((x:Int) != (x:Int))=false:=by simp
     go_wp2_with fail
     go_quiet (fail)
     go_wp2_with fail
     exact ⟨⟨j,_,by omega,by go_num,Tu HX.out HY.out HD.out,rfl⟩,by simp [intOf];try omega⟩
    ·have e2:((x:Int) != (y:Int))=true:=by simp;omega
     have HN:=ll hxy
     clear hxy
     go_wp2_with fail
     go_quiet (fail)
     go_wp2_with fail
     go_quiet (fail)
     go_wp2_with fail
     go_ret
     refine ⟨?_,by repeat (first|exact ab _ _|refine Tn ?_ _)⟩
     rw [AaF HA.out HB.out HX.out HY.out HD.out HN.out]
     simp
 ·have e1:((a.length:Int) != (b.length:Int))=true:=by simp;omega
  have hlb:AaG a b=decide (a.length<b.length):=if_neg hl
  rw [hlb]
  clear hl hlb
  go_enter func218,ntmps218
  go_wp2_with fail
  go_ret
  exact ⟨by simp,ab _ _⟩
theorem AnZ (h:p:=by
 clear hlt kb
 go_wp2_with (at_builtin;refine Nr rfl _ _ rfl w.heap.size _ os z wr.heap.size rfl (HO.out.alloc _) rfl (by simp [go_sem]) (by have:=HOL.out;omega) (by simp;omega) ?_;intro v' w2 hown2 hg2 hb2)
 exact ⟨⟨k+1,os++[z],1,by omega,by go_num,rfl,hown2,by rw [ao,HOL.out];rfl,Cn HOK.out hzb,by omega,AaH HOL.out HX.out HY.out HV.out HZ.out,hb.trans ((((ab _ wr).alloc (aa _) _).mono hb.size).trans hb2)⟩,by simp [intOf];omega⟩):p:=h
theorem Aoa (h:p:=by
 clear hlt kb
 go_wp2_with (at_builtin;refine Nr rfl _ _ rfl w.heap.size _ os z wr.heap.size rfl (HO.out.alloc _) rfl (by simp [go_sem]) (by have:=HOL.out;omega) (by simp;omega) ?_;intro v' w2 hown2 hg2 hb2)
 exact ⟨⟨k+1,os++[z],0,by omega,by go_num,rfl,hown2,by rw [ao,HOL.out];rfl,Cn HOK.out hzb,by omega,AaH HOL.out HX.out HY.out HV.out HZ.out,hb.trans ((((ab _ wr).alloc (aa _) _).mono hb.size).trans hb2)⟩,by simp [intOf];omega⟩):p:=h
theorem AbS (A B:Option Addr) (a b:List Nat) (c1 c2 m:Nat) (w:World) (hm:m≤w.heap.size) (h1:Aq w m A (w32 a)) (h2:Aq w m B (w32 b)) (ha:Av a) (hb:Av b) (l1:a.length≤100000) (l2:b.length≤a.length) (hle:AH b≤AH a) :
  Calls prog 219 #[.slice A a.length c1,.slice B b.length c2] w fun e w' =>
   ∃ G g,e=.returned (.slice G (Ac (AH a - AH b)).length g)∧(G=none→g=0)∧(Ac (AH a - AH b)).length≤g∧Aq w' w'.heap.size G (w32 (Ac (AH a - AH b)))∧Below w.heap.size w w':=by
 have H1:=ll h1
 have H2:=ll h2
 have HA:=ll ha
 have HB:=ll hb
 have HLE:=ll hle
 clear h1 h2 ha hb hle
 go_enter func219,ntmps219
 go_wp2_with fail
 go_loopw [5,6,11] (fun v cv i wr=>AqW w a b v cv i wr) (fun _ _ i _=>a.length - (intOf i).toNat)
 case atStart=>exact ⟨0,[],0,ad _,rfl,rfl,DV.nil_ _ _,rfl,by simp [Av],by omega,by simp [AH],ab _ _⟩
 case round =>
  as_aux_lemma =>
  obtain ⟨k,os,br,hk,rfl,rfl,hown,hol,hok,hcy,hv,hb⟩:=hrel
  have HO:=ll hown
  have HOL:=ll hol
  have HOK:=ll hok
  have HV:=ll hv
  clear hown hol hok hv
  have hsz:=hb.size
  by_cases hlt:k<a.length
  ·by_cases kb:k<b.length
   ·skip
    obtain ⟨b1,o1,x,rfl,q1,_,hx,g1'⟩:=H1.out.w32_ hlt
    have g1:=(hb.cell (p:=⟨b1,o1+k,none⟩) (al q1 hm)).trans g1'
    have bx:=HA.out x (gM hx)
    have HX:=ll (show a[k]?.getD 0=x by rw [hx];rfl)
    have ka':(k:Int)<(a.length:Int):=by omega
    clear hx g1'
    obtain ⟨b2,o2,y,rfl,q2,_,hy,g2'⟩:=H2.out.w32_ kb
    have g2:=(hb.cell (p:=⟨b2,o2+k,none⟩) (al q2 hm)).trans g2'
    have by':=HB.out y (gM hy)
    have HY:=ll (show b[k]?.getD 0=y by rw [hy];rfl)
    have kb':(k:Int)<(b.length:Int):=by omega
    clear hy g2'
    by_cases hneg:(x:Int) - (br:Int) - (y:Int)<0
    ·as_aux_lemma =>
     obtain ⟨z,hz⟩:∃ z:Nat,(x:Int) - (br:Int) - (y:Int)+4294967296=(z:Int):=⟨((x:Int) - (br:Int) - (y:Int)+4294967296).toNat,by omega⟩
     have HZ:=ll (show z+br+y=x+4294967296*1 by omega)
     have hzb:z<4294967296:=by omega
     have hzm:(z:Int) % 4294967296=(z:Int):=by omega
     exact AnZ
    ·as_aux_lemma =>
     obtain ⟨z,hz⟩:∃ z:Nat,(x:Int) - (br:Int) - (y:Int)=(z:Int):=⟨((x:Int) - (br:Int) - (y:Int)).toNat,by omega⟩
     have HZ:=ll (show z+br+y=x+4294967296*0 by omega)
     have hzb:z<4294967296:=by omega
     have hzm:(z:Int) % 4294967296=(z:Int):=by omega
     exact Aoa
   ·skip
    obtain ⟨b1,o1,x,rfl,q1,_,hx,g1'⟩:=H1.out.w32_ hlt
    have g1:=(hb.cell (p:=⟨b1,o1+k,none⟩) (al q1 hm)).trans g1'
    have bx:=HA.out x (gM hx)
    have HX:=ll (show a[k]?.getD 0=x by rw [hx];rfl)
    have ka':(k:Int)<(a.length:Int):=by omega
    clear hx g1'
    have HY:=ll (show b[k]?.getD 0=0 by rw [dr (by omega)];rfl)
    have kb':¬ (k:Int)<(b.length:Int):=by omega
    by_cases hneg:(x:Int) - (br:Int)<0
    ·as_aux_lemma =>
     obtain ⟨z,hz⟩:∃ z:Nat,(x:Int) - (br:Int)+4294967296=(z:Int):=⟨((x:Int) - (br:Int)+4294967296).toNat,by omega⟩
     have HZ:=ll (show z+br+0=x+4294967296*1 by omega)
     have hzb:z<4294967296:=by omega
     have hzm:(z:Int) % 4294967296=(z:Int):=by omega
     exact AnZ
    ·as_aux_lemma =>
     obtain ⟨z,hz⟩:∃ z:Nat,(x:Int) - (br:Int)=(z:Int):=⟨((x:Int) - (br:Int)).toNat,by omega⟩
     have HZ:=ll (show z+br+0=x+4294967296*0 by omega)
     have hzb:z<4294967296:=by omega
     have hzm:(z:Int) % 4294967296=(z:Int):=by omega
     exact Aoa
  ·as_aux_lemma =>
   have hka:a.length≤k:=by omega
   have hkb:b.length≤k:=by omega
   have hke:k=a.length:=by omega
   have hwv:AH os=AH a - AH b:=by
    have hv:=HV.out
    rw [aj hka,aj hkb,hke] at hv
    exact AmQ (HOL.out.trans hke) HOK.out hcy HLE.out hv
   have hl6:os.length≤1000000:=by have:=HOL.out;omega
   have HWV:=ll hwv
   obtain ⟨G,g,rfl,hGn,hGc⟩:=HO.out.view
   obtain ⟨_,hgc,_,_⟩:=HO.out.cap_
   have HGC:=ll hGc
   clear hwv hka hkb hke hGc
   go_wp2_with (go_at_call 164;refine (Mn G os g wr.heap.size wr HGC.out hgc hl6).mono ?_;rintro e w3 ⟨rfl,rfl⟩)
   go_ret
   have hcan:=Dh HOK.out
   rw [HWV.out] at hcan
   refine ⟨G,g,by rw [hcan];rfl,hGn,?_,?_,hb⟩
   ·rw [←hcan,Cp]
    have:=Ey os os.length
    omega
   ·rw [←hcan]
    exact HGC.out.takeW _
theorem AkM (h:p:=by
 go_enter func163,ntmps163
 go_wp2_with fail
 go_ret
 exact ⟨rfl,(ab _ w).alloc (aa _) _⟩):p:=h
theorem AbT (neg:Bool) (A:Option Addr) (n den c m:Nat) (w:World) (hm:m≤w.heap.size) (h:Aq w m A (w32 (Ac n))) (hl:(Ac n).length≤100000) (ok:AmR neg n den) :
  Calls prog 163 #[.agg #[.bool neg,.slice A (Ac n).length c,.int .i64 (den:Int)]] w fun e w'=>e=.returned (.bool true)∧Below w.heap.size w w':=by
 by_cases h0:n=0
 ·obtain ⟨rfl,rfl⟩:=ok.zero h0
  subst h0
  rw [AK]
  clear h hl ok
  exact AkM
 ·have hp:=Cy h0
  have ht:=Oz h0
  obtain ⟨b,off,z,rfl,q1,q2,hz,g1⟩:=h.w32_ (k:=(Ac n).length - 1) (by omega)
  have hz0:((z:Int) != 0)=true:=by
   rw [hz] at ht
   simp at ht
   simp
   omega
  have g0:w.cell? ⟨b,off,none⟩=some (.int .u32 ((n % 4294967296:Nat):Int)):=by
   obtain ⟨b',off',z',hA,_,_,hz',g'⟩:=h.w32_ (k:=0) hp
   cases hA
   rw [Qu h0] at hz'
   cases hz'
   exact g'
  obtain ⟨L,hL⟩:∃ L,L=(Ac n).length - 1:=⟨_,rfl⟩
  obtain ⟨x,hx⟩:∃ x:Nat,x=n % 4294967296:=⟨_,rfl⟩
  have hlen:(Ac n).length=L+1:=by omega
  have hd:=ok.fine
  have ho:=ok.odd
  rw [←hx] at g0
  rw [←hL] at g1
  rw [hlen]
  have hl':L≤100000:=by omega
  have e0:((L:Int)+1 == 0)=false:=by simp;omega
  have hodd:den≠0→(x:Int) % 2=1:=fun hne=>by have:=ho hne;omega
  clear h hl ok ho ht hz hL hx hlen hp h0
  by_cases hden:den=0
  ·subst hden
   clear hodd hd
   exact AkM
  ·have ho:=hodd hden
   have d0:((den:Int) == 0)=false:=by simp;omega
   have d1:decide ((den:Int)≤65536)=true:=decide_eq_true (by omega)
   clear hodd hden
   exact AkM
theorem AfC (h2:tmps.getD 2 undef=.pointer (some ⟨b,0,none⟩)) (hB:BI w b [v0,v1,v2] 43) :
  (results Tryz.f76 tmps).run prog w=.ok (.agg #[v0,v1,v2]) w:=by
 have k0:=hB.cell 0
 have k1:=hB.cell 1
 have k2:=hB.cell 2
 simp at k0 k1 k2
 simp at h2
 simp [results,results76,go_sem,h2,k0,k1,k2]
theorem Oi (neg:Bool) (A:Option Addr) (n den c m:Nat) (w:World) (hm:m≤w.heap.size) (h:Aq w m A (w32 (Ac n))) (hl:(Ac n).length≤100000) (ok:AmR neg n den) :
  Calls prog 76 #[.agg #[.bool neg,.slice A (Ac n).length c,.int .i64 (den:Int)]] w fun e w'=>e=.returned (.agg #[.bool neg,.slice A (Ac n).length c,.int .i64 (den:Int)])∧Below w.heap.size w w':=by
 have H:=ll h
 have OK:=ll ok
 have HL:=ll hl
 clear h ok hl
 have b0:Below w.heap.size w ((w.alloc (.cells #[.bool neg,.slice A (Ac n).length c,.int .i64 (den:Int)] 43)).alloc (.cells #[.bool false,.slice none 0 0,.int .i64 0] 43)):=Ap (Ap (ab _ _) _) _
 have r0:=BI.new_ (w.alloc (.cells #[.bool neg,.slice A (Ac n).length c,.int .i64 (den:Int)] 43)) [.bool false,.slice none 0 0,.int .i64 0] 43
 go_enter func76,ntmps76
 go_wp2_with fail
 go_at_call 163
 refine (AbT neg A n den c m _ (by simp;omega) (H.out.below b0 hm) HL.out OK.out).mono ?_
 rintro e w1 ⟨rfl,hb⟩
 obtain ⟨qc,qf,qs,qz⟩:=IM (m:=w.heap.size+2) hb (by simp) (by simp)
 have r1:=r0.below hb (by simp)
 have b1:=b0.trans (hb.mono (by simp;omega))
 have e1:(w.alloc (.cells #[.bool neg,.slice A (Ac n).length c,.int .i64 (den:Int)] 43)).heap.size=w.heap.size+1:=by simp
 rw [e1] at r1
 clear hb r0 b0 e1
 go_wp2_with fail
 refine bodyPost_ret (AfC rfl (((r1.set_ 0 _).set_ 1 _).set_ 2 _)) rfl ⟨rfl,((b1.setCell (by simp) _).setCell (by simp) _).setCell (by simp) _⟩
theorem AkN (h:p:=by
 rintro e w1 ⟨rfl,hb⟩
 obtain ⟨qc,qf,qs,qz⟩:=IM (m:=w.heap.size+1) hb (by simp) (by simp)
 have b1:=b0.trans (hb.mono (by simp))
 clear hb r0 b0
 go_wp2_with fail
 go_ret
 exact ⟨by rw [SV];rfl,((b1.setCell (by simp) _).setCell (by simp) _).setCell (by simp) _⟩):p:=h
theorem AfD (neg:Bool) (A:Option Addr) (n den c m:Nat) (w:World) (hm:m≤w.heap.size) (h:Aq w m A (w32 (Ac n))) (hl:(Ac n).length≤100000) (ok:AmR neg n den) :
  Calls prog 179 #[.agg #[.bool neg,.slice A (Ac n).length c,.int .i64 (den:Int)]] w fun e w'=>e=.returned (.int .i64 (sgn neg n))∧Below w.heap.size w w':=by
 have H:=ll h
 have OK:=ll ok
 have HL:=ll hl
 clear h ok hl
 have b0:Below w.heap.size w (w.alloc (.cells #[.bool neg,.slice A (Ac n).length c,.int .i64 (den:Int)] 43)):=Ap (ab _ _) _
 have r0:=BI.new_ w [.bool neg,.slice A (Ac n).length c,.int .i64 (den:Int)] 43
 by_cases h0:n=0
 ·have SV:sgn neg n=0:=by simp [sgn,h0]
  have ez:(((Ac n).length:Int) == 0)=true:=by rw [h0,AK];rfl
  clear h0
  go_enter func179,ntmps179
  go_wp2_with fail
  go_at_call 76
  refine (Oi neg A n den c m _ (by simp;omega) (H.out.below b0 hm) HL.out OK.out).mono ?_
  exact AkN
 ·have hp:=Cy h0
  have ez:(((Ac n).length:Int) == 0)=false:=by rw [beq_eq_false_iff_ne];omega
  cases neg with
  | true =>
   have SV:sgn true n = -1:=by simp [sgn,h0]
   clear hp h0
   go_enter func179,ntmps179
   go_wp2_with fail
   go_at_call 76
   refine (Oi true A n den c m _ (by simp;omega) (H.out.below b0 hm) HL.out OK.out).mono ?_
   exact AkN
  | false =>
   have SV:sgn false n=1:=by simp [sgn,h0]
   clear hp h0
   go_enter func179,ntmps179
   go_wp2_with fail
   go_at_call 76
   refine (Oi false A n den c m _ (by simp;omega) (H.out.below b0 hm) HL.out OK.out).mono ?_
   exact AkN
theorem AfE (A:Option Addr) (a:List Nat) (c n m:Nat) (w:World) (hm:m≤w.heap.size) (h1:Aq w m A (w32 a)) (ha:Av a) (l1:a.length≤100000) (hn:n≤1000000) :
    Calls prog 78 #[.slice A a.length c,.int .i64 (n:Int)] w fun e w' =>
      ∃ G g,e=.returned (.slice G (Ac (AH a*2 ^ n)).length g)∧(G=none→g=0)∧(Ac (AH a*2 ^ n)).length≤g∧Aq w' w'.heap.size G (w32 (Ac (AH a*2 ^ n)))∧Below w.heap.size w w':=by
  rw [OB n]
  obtain ⟨q,hq⟩:∃ q,q=n / 32:=⟨_,rfl⟩
  obtain ⟨p,hp⟩:∃ p,p=2 ^ (n % 32):=⟨_,rfl⟩
  have hp0:0<p:=by rw [hp];exact bd _
  have hp32:p≤2147483648:=by
    rw [hp]
    exact au (n := 2) (by decide) (show n % 32 ≤ 31 by omega)
  rw [←hq,←hp]
  have HP:=ll hp
  have H1:=ll h1
  have HA:=ll ha
  have hqi:(n:Int) / 32=(q:Int):=by omega
  have hq6:q≤31250:=by omega
  clear h1 ha hp hq
  obtain ⟨i0,hi,hz0,hz1,hz2⟩:=info_parts Rt
  go_enter func78,ntmps78
  go_wp2_with (with_reducible refine wpList_make_full _ rfl (.tmp 10) (.tmp 10) 41 rfl w.heap.size 143 i0 (.int .u32 0) 1 Ln hi hz0 hz1 .i64 .i64 _ _ q rfl rfl rfl rfl (by rw [hz2];omega) (by unfold maxLen;omega) (aa _) ?_;intro w2 hown hg)
  have hst:=(ab w.heap.size w).grown hg (aa _) (fun k h=>by simp at h)
  have hown2:DV w2 w.heap.size (.slice (some ⟨w.heap.size,0,none⟩) q q) (List.replicate q 0):=by
    have e1:w32 (List.replicate q 0)=(madeCells (Value.int .u32 0).cells (q*1)).toList:=by
      rw [de]
      have:=toList_madeCells_one (Value.int .u32 0) q
      simp only [w32,List.map_replicate]
      exact this.symm
    unfold DV
    rw [e1,ep]
    exact hown
  have hsz:=hst.size
  clear hown hg hi hz0 hz1 hz2
  go_loopw [5,6,14] (fun v cv i wr=>AqY w a q p v cv i wr) (fun _ _ i _=>a.length - (intOf i).toNat)
  case atStart=>exact ⟨0,List.replicate q 0,0,ad _,rfl,rfl,hown2,by simp,OA q,hp0,by simp [EY,AH],hst⟩
  case round =>
    as_aux_lemma =>
    obtain ⟨k,os,cy,hk,rfl,rfl,hown,hol,hok,hcy,hv,hb⟩:=hrel
    have HO:=ll hown
    have HOL:=ll hol
    have HOK:=ll hok
    have HV:=ll hv
    clear hown hol hok hv hown2 hst
    have hsz:=hb.size
    by_cases hlt:k<a.length
    · as_aux_lemma =>
      obtain ⟨b1,o1,x,rfl,q1,_,hx,g1'⟩:=H1.out.w32_ hlt
      have g1:=(hb.cell (p:=⟨b1,o1+k,none⟩) (al q1 hm)).trans g1'
      have bx:=HA.out x (gM hx)
      have HX := ll (show a[k]?.getD 0 = x by rw [hx]; rfl)
      have ka':(k:Int)<(a.length:Int):=by omega
      clear hx g1'
      obtain ⟨s,hs⟩:∃ s:Nat,s=cy+x*p:=⟨_,rfl⟩
      have hor:bits .or .u64 (cy:Int) (IntKind.u64.wrap ((x:Int)*2 ^ (n % 32)))=(s:Int):=by
        rw [hs]
        exact AqX HP.out hcy bx (by omega)
      have HC:=ll (AaJ hcy bx)
      rw [←hs] at HC
      obtain ⟨z,hz⟩:∃ z:Nat,(s:Int) % 4294967296=(z:Int):=⟨(s % 4294967296:Nat),by omega⟩
      obtain ⟨c',hc'⟩:∃ c':Nat,(s:Int) / 4294967296=(c':Int):=⟨(s / 4294967296:Nat),by omega⟩
      have HZ := ll (show z + 4294967296 * c' = cy + x * p by rw [← hs]; omega)
      have hzb:z<4294967296:=by omega
      have HC2 := ll (show c' < p by have h := HC.out; omega)
      clear hs HC
      go_wp2_with (at_builtin;refine Nr rfl _ _ rfl w.heap.size _ os z wr.heap.size rfl (HO.out.alloc _) rfl (by simp [go_sem]) (by have:=HOL.out;omega) (by simp;omega) ?_;intro v' w3 hown3 hg3 hb3)
      exact ⟨⟨k+1,os++[z],c',by omega,by go_num,rfl,hown3,by rw [ao,HOL.out];rfl,Cn HOK.out hzb,HC2.out,AaK HOL.out HX.out HV.out HZ.out,hb.trans ((((ab _ wr).alloc (aa _) _).mono hb.size).trans hb3)⟩,by simp [intOf];omega⟩
    · as_aux_lemma =>
      have hle:¬ (k:Int)<(a.length:Int):=by omega
      have hka:a.length≤k:=by omega
      have hcy32:cy<4294967296:=by omega
      have hcym:(cy:Int) % 4294967296=(cy:Int):=by omega
      obtain ⟨ws,hws⟩:∃ ws,ws=os++[cy]:=⟨_,rfl⟩
      have hwok:Av ws:=by rw [hws];exact Cn HOK.out hcy32
      have hwl:ws.length=q+k+1:=by rw [hws,ao,HOL.out];rfl
      have hwv:AH ws=AH a*(4294967296 ^ q*p):=by
        have hv:=HV.out
        rw [aj hka] at hv
        rw [hws,Ca,HOL.out,←hv]
        simp only [AH,Nat.mul_zero,ce]
      have hl6:ws.length≤1000000:=by omega
      have HWS:=ll hws
      have HWO:=ll hwok
      have HWV:=ll hwv
      clear hws hwok hwv hka hwl hlt
      go_wp2_with (first
        | (go_at_call 164;refine (Mn G ws g w3.heap.size w3 hGc hgc hl6).mono ?_;rintro e w4 ⟨rfl,rfl⟩)
        | (at_builtin;refine Nr rfl _ _ rfl w.heap.size _ os cy wr.heap.size rfl (HO.out.alloc _) rfl (by simp [go_sem]) (by have:=HOL.out;omega) (by simp;omega) ?_;intro v' w3 hown3 hg3 hb3;rw [←HWS.out] at hown3;obtain ⟨G,g,rfl,hGn,hGc⟩:=hown3.view;obtain ⟨_,hgc,_,_⟩:=hown3.cap_))
      go_ret
      have hcan:=Dh HWO.out
      rw [HWV.out] at hcan
      refine ⟨G,g,by rw [hcan];rfl,hGn,?_,?_,hb.trans ((((ab _ wr).alloc (aa _) _).mono hb.size).trans hb3)⟩
      · rw [←hcan,Cp]
        have:=Ey ws ws.length
        omega
      · rw [←hcan]
        exact hGc.takeW _
theorem Aob (h:p:=by
 clear hzn
 have HZB:=ll (show z<4294967296 by rw [HZ.out];exact eo _ (by decide))
 have hj2:q+(j+1)≤a.length:=by have:=HIJ.out;omega
 go_wp2_with (at_builtin;refine Nr rfl _ _ rfl w.heap.size _ os z wr.heap.size rfl (HO.out.alloc _) rfl (by simp [go_sem]) (by have:=HOL.out;omega) (by simp;omega) ?_;intro v' w3 hown3 hg3 hb3)
 exact ⟨⟨j+1,os++[z],hj2,by rw [←HIJ.out],hown3,by rw [ao,HOL.out];rfl,Cn HOK.out HZB.out,AaM HA.out HOL.out HV.out HZ.out,hb.trans ((((ab _ wr).alloc (aa _) _).mono hb.size).trans hb3)⟩,by simp [intOf];try omega⟩):p:=h
theorem Aoc (h:p:=by
 rw [e] at hl
 rw [fv (al hl (au (by decide) (by omega))),AK]):p:=h
theorem Pf (A:Option Addr) (a:List Nat) (c n m:Nat) (w:World) (hm:m≤w.heap.size) (h1:Aq w m A (w32 a)) (ha:Av a) (l1:a.length≤100000) (hn:n≤1000000) :
  Calls prog 165 #[.slice A a.length c,.int .i64 (n:Int)] w fun e w' =>
   ∃ G g,e=.returned (.tuple #[.slice G (Ac (AH a / 2 ^ n)).length g,.bool (NW (AH a) n)])∧(G=none→g=0)∧(Ac (AH a / 2 ^ n)).length≤g∧Aq w' w'.heap.size G (w32 (Ac (AH a / 2 ^ n)))∧Below w.heap.size w w':=by
 have H1:=ll h1
 have HA:=ll ha
 clear h1 ha
 go_enter func165,ntmps165
 go_wp2_with fail
 go_loopw [6,7] (fun cv i wr=>Ara a n w cv i wr) (fun _ i _=>n - (intOf i).toNat)
 case atStart=>exact ⟨0,ad _,ad _,rfl,by rw [AaL],rfl⟩
 case round =>
  obtain ⟨k,hk,hkl,rfl,rfl,rfl⟩:=hrel
  by_cases hlt:k<n
  ·by_cases hlt2:k<32*a.length
   ·obtain ⟨q,hq⟩:∃ q,q=k / 32:=⟨_,rfl⟩
    have hka:q<a.length:=by omega
    obtain ⟨b1,o1,x,rfl,q1,_,hx,g1⟩:=H1.out.w32_ hka
    have bx:=HA.out x (gM hx)
    have HX:=ll (show a[k / 32]?.getD 0=x by rw [←hq,hx];rfl)
    have i1:(k:Int)<(n:Int):=by omega
    have i2:(k:Int)<32*(a.length:Int):=by omega
    have i3:(k:Int) / 32=(q:Int):=by omega
    have i4:(q:Int)<(a.length:Int):=by omega
    clear hq
    clear hx
    obtain ⟨cb,hcb⟩:∃ cb,cb=NW (AH a) k:=⟨_,rfl⟩
    rw [←hcb]
    have HC:=ll hcb
    clear hcb
    cases cb with
    | true =>
     go_wp2_with fail
     have e:=Tv (AH a) k
     rw [←HC.out] at e
     exact ⟨⟨k+1,by omega,by omega,by go_num,by rw [e];rfl,rfl⟩,by simp [intOf];omega⟩
    | false =>
     go_wp2_with fail
     have e:=Tv (AH a) k
     rw [←HC.out,←Ahm HA.out bx HX.out] at e
     exact ⟨⟨k+1,by omega,by omega,by go_num,by rw [e];rfl,rfl⟩,by simp [intOf];omega⟩
   ·as_aux_lemma =>
    have hc:NW (AH a) k=NW (AH a) n:=by
     have hl:=BO HA.out
     have e:(4294967296:Nat) ^ a.length=2 ^ (32*a.length):=by
      rw [dt]
     rw [e,show 32*a.length=k by omega] at hl
     exact (AeX hl hk).symm
    have hz:Ac (AH a / 2 ^ n)=[]:=by
     have hl:=BO HA.out
     have e:(4294967296:Nat) ^ a.length=2 ^ (32*a.length):=by
      rw [dt]
     exact Aoc
    have i1:(k:Int)<(n:Int):=by omega
    have i2:¬ (k:Int)<32*(a.length:Int):=by omega
    have i3:32*(a.length:Int)≤(n:Int):=by omega
    rw [hc]
    have HZ:=ll hz
    clear hc hz
    go_wp2_with fail
    exact bodyPost_ret (v:=.tuple #[.slice none 0 0,.bool (NW (AH a) n)]) (by simp [results,results165,go_sem]) rfl ⟨none,0,by rw [HZ.out];rfl,fun _=>rfl,by rw [HZ.out];exact aa _,by rw [HZ.out];exact Aq.nil_,ab _ _⟩
  ·have hkn:k=n:=by omega
   subst hkn
   have i1:¬ (k:Int)<(k:Int):=by omega
   by_cases hlt2:k<32*a.length
   ·as_aux_lemma =>
    obtain ⟨q,hq⟩:∃ q,q=k / 32:=⟨_,rfl⟩
    have hql:q<a.length:=by omega
    have i3:¬ 32*(a.length:Int)≤(k:Int):=by omega
    have i4:(k:Int) / 32=(q:Int):=by omega
    have HQ:=ll hq
    clear hlt hlt2 hq hkl hk
    go_wp2_with fail
    go_loopw [8,9] (fun v i wr=>AmS w a k q v i wr) (fun _ i _=>a.length - (intOf i).toNat)
    case atStart=>exact ⟨0,[],by omega,by simp,DV.nil_ _ _,rfl,by simp [Av],by simp [AH,Nat.mod_one],ab _ _⟩
    case round =>
     as_aux_lemma =>
     obtain ⟨j,os,hj,rfl,hown,hol,hok,hv,hb⟩:=hrel
     have HO:=ll hown
     have HOL:=ll hol
     have HOK:=ll hok
     have HV:=ll hv
     clear hown hol hok hv
     have hsz:=hb.size
     obtain ⟨i,hi⟩:∃ i,i=q+j:=⟨_,rfl⟩
     rw [←hi]
     have hij:(i:Int)+1=((q+(j+1):Nat):Int):=by omega
     have HIJ:=ll hij
     have HI:=ll hi
     have hjl:j<1000000:=by omega
     clear hi hij hj
     by_cases hlt:i<a.length
     ·obtain ⟨b1,o1,x,rfl,q1,_,hx,g1'⟩:=H1.out.w32_ hlt
      have g1:=(hb.cell (p:=⟨b1,o1+i,none⟩) (al q1 hm)).trans g1'
      have bx:=HA.out x (gM hx)
      have HX:=ll (show a[k / 32+j]?.getD 0=x by rw [←HQ.out,←HI.out,hx];rfl)
      have ka':(i:Int)<(a.length:Int):=by omega
      clear hx g1'
      by_cases hlt2:i+1<a.length
      ·obtain ⟨b2,o2,y,hA2,q2,_,hy,g2'⟩:=H1.out.w32_ hlt2
       cases hA2
       have g2:=(hb.cell (p:=⟨b1,o1+(i+1),none⟩) (al q1 hm)).trans g2'
       have by':=HA.out y (gM hy)
       have HY:=ll (show a[k / 32+j+1]?.getD 0=y by rw [←HQ.out,←HI.out,hy];rfl)
       have kb':(i:Int)+1<(a.length:Int):=by omega
       clear hy g2'
       obtain ⟨z,hzn⟩:∃ z:Nat,z=(x+y*4294967296) / 2 ^ (k % 32) % 4294967296:=⟨_,rfl⟩
       have hz:(bits .or .u64 (x:Int) ((y:Int)*4294967296) / 2 ^ (k % 32) % 4294967296)=(z:Int):=by rw [hzn,AqZ bx by'];simp
       have HZ:=ll (show z=(a[k / 32+j]?.getD 0+a[k / 32+j+1]?.getD 0*4294967296) / 2 ^ (k % 32) % 4294967296 by rw [HX.out,HY.out];exact hzn)
       exact Aob
      ·have HY:=ll (show a[k / 32+j+1]?.getD 0=0 by rw [←HQ.out,←HI.out,dr (by omega)];rfl)
       have kb':¬ (i:Int)+1<(a.length:Int):=by omega
       obtain ⟨z,hzn⟩:∃ z:Nat,z=x / 2 ^ (k % 32) % 4294967296:=⟨_,rfl⟩
       have hz:((x:Int) / 2 ^ (k % 32) % 4294967296)=(z:Int):=by rw [hzn];simp
       have HZ:=ll (show z=(a[k / 32+j]?.getD 0+a[k / 32+j+1]?.getD 0*4294967296) / 2 ^ (k % 32) % 4294967296 by rw [HX.out,HY.out,fm,ce];exact hzn)
       exact Aob
     ·as_aux_lemma =>
      have hle:¬ (i:Int)<(a.length:Int):=by omega
      have hl6:os.length≤1000000:=by have:=HOL.out;omega
      have HWV:=ll (Ahl (k:=j) HA.out (by have:=HI.out;have:=HQ.out;omega) HV.out)
      obtain ⟨G,g,rfl,hGn,hGc⟩:=HO.out.view
      obtain ⟨_,hgc,_,_⟩:=HO.out.cap_
      have HGC:=ll hGc
      clear hGc
      go_wp2_with (go_at_call 164;refine (Mn G os g wr.heap.size wr HGC.out hgc hl6).mono ?_;rintro e w3 ⟨rfl,rfl⟩)
      have hcan:=Dh HOK.out
      rw [HWV.out] at hcan
      refine bodyPost_ret (v:=.tuple #[.slice G (Lm os).length g,.bool (NW (AH a) k)]) (by simp [results,results165,go_sem]) rfl ⟨G,g,by rw [hcan],hGn,?_,?_,hb⟩
      ·rw [←hcan,Cp]
       have:=Ey os os.length
       omega
      ·rw [←hcan]
       exact HGC.out.takeW _
   ·as_aux_lemma =>
    have hz:Ac (AH a / 2 ^ k)=[]:=by
     have hl:=BO HA.out
     have e:(4294967296:Nat) ^ a.length=2 ^ (32*a.length):=by
      rw [dt]
     exact Aoc
    have i3:32*(a.length:Int)≤(k:Int):=by omega
    have HZ:=ll hz
    clear hz
    go_wp2_with fail
    exact bodyPost_ret (v:=.tuple #[.slice none 0 0,.bool (NW (AH a) k)]) (by simp [results,results165,go_sem]) rfl ⟨none,0,by rw [HZ.out];rfl,fun _=>rfl,by rw [HZ.out];exact aa _,by rw [HZ.out];exact Aq.nil_,ab _ _⟩
theorem QM (h2:tmps.getD 6 undef=.pointer (some ⟨b,0,none⟩)) (hB:BI w b [v0,v1,v2] 43) :
  (results Tryz.f77 tmps).run prog w=.ok (.agg #[v0,v1,v2]) w:=by
 have k0:=hB.cell 0
 have k1:=hB.cell 1
 have k2:=hB.cell 2
 simp at k0 k1 k2
 simp at h2
 simp [results,results77,go_sem,h2,k0,k1,k2]
theorem Aod (h:p:=by
  obtain ⟨y,hy⟩:∃ y,y=n / 2 ^ k:=⟨_,rfl⟩
  rw [←hy] at hodd hy0
  have HRES := ll (show nf (sg neg n) den = (sg neg y, den - k) by rw [HNF.out, ← hy]; exact FO (fun h => by have := hodd h; unfold sg; split <;> omega))
  have HY:=ll hy
  have HODD:=ll hodd
  have HY0:=ll hy0
  have hp:=Cy hy0
  have e0:(((Ac y).length:Int) == 0)=false:=by rw [beq_eq_false_iff_ne];omega
  have hyl:(Ac y).length≤100000:=by
    refine lT (AQ ?_) l2
    rw [hy]
    exact im _ _
  clear hy hodd hy0 hp
  go_wp2_with (first
    | (go_at_call 165
       refine (Pf _ (Ac n) c k m _ (by simp;omega) (HCT.out.below b0 hm) (AE n) l2 (by omega)).mono ?_
       rintro e w2 ⟨G,g,rfl,hG,hg,hcG,hb2⟩
       rw [Ao,←HY.out] at hg hcG ⊢
       have hsz2:=hb2.size
       simp at hsz2
       have hszl:w.heap.size<w2.heap.size:=by omega)
    | (at_builtin
       refine AmO rfl _ _ rfl w2.heap.size _ [] (Ac y) G g w2.heap.size rfl (DV.lit0 (aa _)) rfl hG (hcG.below ((ab w2.heap.size w2).alloc (aa _) _) (aa _)) (by simp;omega) (by simp) ?_
       intro v' w4 hown4 hg4 hb4
       rw [dv] at hown4
       obtain ⟨A',c',rfl,_,_⟩:=hown4.view
       have hall:Below (w.heap.size+1) (w.alloc (.cells #[.bool false,.slice none 0 0,.int .i64 0] 43)) w4:=(hb2.mono (by simp)).trans ((((ab (w.heap.size+1) w2).alloc (by omega) _)).trans (hb4.mono (by omega)))
       have hsz4:=hb4.size
       simp at hsz4
       have hsz5:w.heap.size<w4.heap.size:=by omega
       have r4:=r0.below hall (by simp)
       have bb4:=b0.trans (hall.mono (by simp))
       clear hb2 hb4 hg4
       obtain ⟨qc,qf,qs,qz⟩:=IM (m:=w.heap.size+1) hall (by simp) (by simp)))
  have hown5:DV (((w4.setCell ⟨w.heap.size,0,none⟩ (.bool neg)).setCell ⟨w.heap.size,1,none⟩ (.slice A' (Ac y).length c')).setCell ⟨w.heap.size,2,none⟩ (.int .i64 ((den:Int) - (k:Int)))) w2.heap.size (.slice A' (Ac y).length c') (Ac y):=ownsRow_setCell_below (ownsRow_setCell_below (ownsRow_setCell_below hown4 (by simp;omega) _) (by simp;omega) _) (by simp;omega) _
  refine bodyPost_ret (QM rfl (((r4.set_ 0 _).set_ 1 _).set_ 2 _)) rfl ⟨_,rfl,?_,((bb4.setCell (by simp) _).setCell (by simp) _).setCell (by simp) _⟩
  rw [HRES.out]
  obtain ⟨_,hcl,hn',hc'⟩:=hown5.cap_
  refine ⟨A',c',?_,hn',?_,?_,?_,by show den - k≤65536;omega,?_⟩
  · rw [IP,AaO HY0.out]
    have:(den:Int) - (k:Int)=((den - k:Nat):Int):=by omega
    rw [this]
  · rw [IP];exact hcl
  · rw [IP];exact hc'
  · intro a ha
    have:=(World.ownsRow.lt hown5 a.block (by rw [ha];rfl)).1
    omega
  · intro h
    have:=HODD.out h
    show sg neg y % 2=1
    unfold sg
    split <;> omega):p:=h
theorem Aoe (h:p:=by
  go_wp2_with (go_at_call 165
               refine (Pf _ [] c 0 m _ (by simp;omega) (HCT.out.below b0 hm) (by simp [Av]) (by simp) (by omega)).mono ?_
               rintro e w2 ⟨G,g,rfl,hG,hg,hcG,hb2⟩
               rw [show AH [] / 2 ^ 0=0 by rfl,AK]
               have hsz2:=hb2.size
               simp at hsz2
               have hszl:w.heap.size<w2.heap.size:=by omega
               obtain ⟨qc,qf,qs,qz⟩:=IM (m:=w.heap.size+1) hb2 (by simp) (by simp)
               have r4:=r0.below hb2 (by simp)
               have bb4:=b0.trans (hb2.mono (by simp)))
  refine bodyPost_ret (QM rfl (((r4.set_ 0 _).set_ 1 _).set_ 2 _)) rfl ⟨_,rfl,?_,((bb4.setCell (by simp) _).setCell (by simp) _).setCell (by simp) _⟩
  rw [HR.out]
  exact DyR.zero_ _ _ _):p:=h
theorem It (neg:Bool) (A:Option Addr) (ws:List Nat) (c den m:Nat) (w:World) (hm:m≤w.heap.size) (h1:Aq w m A (w32 ws)) (hc:ws.length≤c) (ha:Av ws) (l1:ws.length≤100000) (hd:den≤65536) :
  Calls prog 77 #[.bool neg,.slice A ws.length c,.int .i64 (den:Int)] w fun e w' =>
   ∃ v,e=.returned v∧DyR w' w.heap.size w'.heap.size v (nf (sg neg (AH ws)) den).1 (nf (sg neg (AH ws)) den).2∧Below w.heap.size w w':=by
 have hcan:=Dh ha
 have hlen:(Ac (AH ws)).length≤ws.length:=by
  rw [←hcan,Cp]
  exact Ey _ _
 have HCAN:=ll hcan
 have H1:=ll h1
 have hct:=h1.takeW (DS ws ws.length)
 rw [show ws.take (DS ws ws.length)=Ac (AH ws) from hcan] at hct
 have HCT:=ll hct
 obtain ⟨n,hn⟩:∃ n,n=AH ws:=⟨_,rfl⟩
 rw [←hn] at HCT HCAN hlen ⊢
 have l2:(Ac n).length≤100000:=by omega
 have l3:(Ac n).length≤c:=by omega
 have l4:ws.length≤1000000:=by omega
 clear h1 ha hcan hct hn
 have b0:Below w.heap.size w (w.alloc (.cells #[.bool false,.slice none 0 0,.int .i64 0] 43)):=Ap (ab _ _) _
 have r0:=BI.new_ w [.bool false,.slice none 0 0,.int .i64 0] 43
 go_enter func77,ntmps77
 go_wp2_with (go_at_call 164;refine (Mn A ws c m _ (H1.out.below b0 hm) hc l4).mono ?_;rintro e w3 ⟨rfl,rfl⟩)
 rw [HCAN.out]
 by_cases hn0:n=0
 ·subst hn0
  have hr:nf (sg neg 0) den=(0,0):=by
   rw [show sg neg 0=0 by unfold sg;split <;> rfl]
   exact Vu den
  have HR:=ll hr
  clear hr
  rw [AK] at HCT ⊢
  clear l2 l3 hlen
  go_loopw [7] (fun i wr=>Arb (w.alloc (.cells #[.bool false,.slice none 0 0,.int .i64 0] 43)) i wr) (fun i _=>0)
  case atStart=>exact ⟨rfl,rfl⟩
  case round =>
   obtain ⟨rfl,rfl⟩:=hrel
   have i9:¬ (65536:Int)<(den:Int):=by omega
   by_cases hlt:den=0
   ·subst hlt
    exact Aoe
   ·have i1:0<den:=by omega
    have i2:(0:Int)<(den:Int):=by omega
    clear hlt
    exact Aoe
 ·have HN0:=ll hn0
  have hn1:=Cy hn0
  clear hn0
  go_loopw [7] (fun i wr=>Arc n den neg (w.alloc (.cells #[.bool false,.slice none 0 0,.int .i64 0] 43)) i wr) (fun i _=>den - (intOf i).toNat)
  case atStart=>exact ⟨0,ad _,ad _,rfl,Nat.mod_one _,by simp,rfl⟩
  case round =>
   skip
   obtain ⟨k,hk,hkl,rfl,hmod,hnf,rfl⟩:=hrel
   have HNF:=ll hnf
   have HMOD:=ll hmod
   clear hnf hmod
   have i9:¬ (65536:Int)<(den:Int) - (k:Int):=by omega
   by_cases hlt:k<den
   ·have i1:(k:Int)<(den:Int):=by omega
    have hlt2:k<32*(Ac n).length:=by
     rcases cw k (32*(Ac n).length) with h|h
     ·exact h
     ·exfalso
      have h2:=BO (AE n)
      rw [Ao,show (4294967296:Nat)=2 ^ 32 by decide,←dt,show 32*(Ac n).length=k by omega] at h2
      have h3:=HMOD.out
      rw [ed h2] at h3
      exact HN0.out h3
    obtain ⟨q,hq⟩:∃ q,q=k / 32:=⟨_,rfl⟩
    have hka:q<(Ac n).length:=by omega
    obtain ⟨b1,o1,x,rfl,q1,_,hx,g1'⟩:=HCT.out.w32_ hka
    have g1:=(b0.cell (p:=⟨b1,o1+q,none⟩) (al q1 hm)).trans g1'
    have bx:=AE n x (gM hx)
    have hbit:=Ahm (AE n) bx (show (Ac n)[k / 32]?.getD 0=x by rw [←hq,hx];rfl)
    have hbit0:=AmT (AE n) bx (show (Ac n)[k / 32]?.getD 0=x by rw [←hq,hx];rfl)
    rw [Ao] at hbit hbit0
    have i2:(k:Int)<32*((Ac n).length:Int):=by omega
    have i3:(k:Int) / 32=(q:Int):=by omega
    have i4:(q:Int)<((Ac n).length:Int):=by omega
    clear hq hx g1' hbit
    by_cases hz:n / 2 ^ k % 2=0
    ·have hb0:(bits .and .u32 ((x:Int) / 2 ^ (k % 32)) 1 == 0)=true:=by rw [hbit0,hz];rfl
     have HZ:=ll hz
     clear hbit0 hz
     go_wp2_with fail
     refine ⟨⟨k+1,by omega,by omega,by go_num,AmU HMOD.out HZ.out,HNF.out.trans (AaP hlt HZ.out),rfl⟩,by simp [intOf];omega⟩
    ·have hb0:(bits .and .u32 ((x:Int) / 2 ^ (k % 32)) 1 == 0)=false:=by rw [hbit0];simp;omega
     have hodd:den - k≠0→n / 2 ^ k % 2=1:=fun _=>by omega
     have hy0:n / 2 ^ k≠0:=fun h=>by rw [h] at hz;exact hz rfl
     clear hbit0 hz
     exact Aod
   ·have hkd:k=den:=by omega
    have i1:¬ (k:Int)<(den:Int):=by omega
    have hodd:den - k≠0→n / 2 ^ k % 2=1:=fun h=>by omega
    have hy0:n / 2 ^ k≠0:=fun h=>by
     have h2:=dn n (2 ^ k)
     rw [h,HMOD.out] at h2
     exact HN0.out (by omega)
    clear hkd
    exact Aod
theorem IW {v:Value} {x:Int} (D:DyR w lo m v x d) (hm:m≤w.heap.size) (hl:(Ac x.natAbs).length≤100000) :
  Calls prog 76 #[v] w fun e w'=>e=.returned v∧Below w.heap.size w w':=by
 obtain ⟨A,c,rfl,h1,h2,h3,h4,h5,h6⟩:=D
 exact Oi _ A _ d c m w hm h3 hl (AjX h5 h6)
theorem Aof {v:Value} {x:Int} (D:DyR w lo m v x d) (hm:m≤w.heap.size) (hl:(Ac x.natAbs).length≤100000) :
  Calls prog 179 #[v] w fun e w'=>e=.returned (.int .i64 (sgI x))∧Below w.heap.size w w':=by
 obtain ⟨A,c,rfl,h1,h2,h3,h4,h5,h6⟩:=D
 refine (AfD _ A _ d c m w hm h3 hl (AjX h5 h6)).mono ?_
 rintro e w' ⟨rfl,hb⟩
 refine ⟨?_,hb⟩
 have:sgn (decide (x<0)) x.natAbs=sgI x:=by
  unfold sgn sgI
  by_cases h0:x=0
  ·subst h0;rfl
  ·rw [if_neg (by omega),if_neg h0]
   by_cases h1:x<0
   ·simp [h1]
   ·simp [h1]
 rw [this]
theorem RX {neg:Bool} {A:Option Addr} {L:Nat} (hL:L=(Ac n).length) (hc:Aq w m A (w32 (Ac n))) (hcap:L≤c) (hm:m≤w.heap.size) (hl:(Ac n).length≤100000) (hd:d≤65536) :
  Calls prog 77 #[.bool neg,.slice A L c,.int .i64 (d:Int)] w fun e w' =>
   ∃ v,e=.returned v∧DyR w' w.heap.size w'.heap.size v (nf (sg neg n) d).1 (nf (sg neg n) d).2∧Below w.heap.size w w':=by
 subst hL
 have h:=It neg A (Ac n) c d m w hm hc hcap (AE n) hl hd
 rw [Ao] at h
 exact h
theorem AkO (h2:tmps.getD 2 undef=.pointer (some ⟨b,0,none⟩)) (hB:BI w b [v0,v1,v2] 43) :
  (results Tryz.f105 tmps).run prog w=.ok (.agg #[v0,v1,v2]) w:=by
 have k0:=hB.cell 0
 have k1:=hB.cell 1
 have k2:=hB.cell 2
 simp at k0 k1 k2
 simp at h2
 simp [results,results105,go_sem,h2,k0,k1,k2]
theorem AbU (h:p:=by
 exact ((((D3'.out.set_ (by omega) 0 _).set_ (by omega) 1 _).set_ (by omega) 2 _).low (by omega)).more (by simp)):p:=h
theorem Aog {v:Value} {x:Int} (D:DyR w lo m v x d) (hm:m≤w.heap.size) (hl:(Ac x.natAbs).length≤100000) :
  Calls prog 105 #[v] w fun e w'=>∃ v',e=.returned v'∧DyR w' w.heap.size w'.heap.size v' (-x) d∧Below w.heap.size w w':=by
 obtain ⟨nb,A,L,c,rfl,HD⟩:=D.form
 have D':=ll D
 clear D
 have b0:Below w.heap.size w ((w.alloc (.cells #[.bool nb,.slice A L c,.int .i64 (d:Int)] 43)).alloc (.cells #[.bool false,.slice none 0 0,.int .i64 0] 43)):=Ap (Ap (ab _ _) _) _
 have r0:=(BI.new_ (w.alloc (.cells #[.bool nb,.slice A L c,.int .i64 (d:Int)] 43)) [.bool false,.slice none 0 0,.int .i64 0] 43)
 rw [show (w.alloc (.cells #[.bool nb,.slice A L c,.int .i64 (d:Int)] 43)).heap.size=w.heap.size+1 by simp] at r0
 go_enter func105,ntmps105
 go_wp2_with fail
 go_at_call 76
 refine (IW (D'.out.below b0 hm) (by simp;omega) hl).mono ?_
 rintro e w1 ⟨rfl,hb⟩
 obtain ⟨qc,qf,qs,qz⟩:=IM (m:=w.heap.size+2) hb (by simp) (by simp)
 have r1:=r0.below hb (by simp)
 have b1:=b0.trans (hb.mono (by simp;omega))
 clear hb r0 b0
 go_wp2_with fail
 go_at_call 77
 obtain ⟨W,hW⟩:∃ W,W=((w1.setCell ⟨w.heap.size,0,none⟩ (.bool nb)).setCell ⟨w.heap.size,1,none⟩ (.slice A L c)).setCell ⟨w.heap.size,2,none⟩ (.int .i64 (d:Int)):=⟨_,rfl⟩
 have hWs:w.heap.size+2≤W.heap.size:=by rw [hW];simp;omega
 have b2:Below w.heap.size w W:=by rw [hW];exact ((b1.setCell (by simp) _).setCell (by simp) _).setCell (by simp) _
 have r2:BI W (w.heap.size+1) [.bool false,.slice none 0 0,.int .i64 0] 43:=by
  rw [hW]
  exact ((r1.other_ (by omega) _ _).other_ (by omega) _ _).other_ (by omega) _ _
 rw [←hW]
 clear hW qc qf qs qz r1 b1
 refine (RX (n:=x.natAbs) (m:=m) HD.out.2.1 (HD.out.2.2.2.2.1.below b2 hm) HD.out.2.2.2.1 (by omega) hl HD.out.2.2.2.2.2.1).mono ?_
 rintro e w3 ⟨v',rfl,D3,hb3⟩
 obtain ⟨tc,tf,ts,tz⟩:=IM (m:=w.heap.size+2) hb3 hWs hWs
 have r3:=r2.below hb3 (by omega)
 have b3:=b2.trans (hb3.mono (by omega))
 have hval:nf (sg (!nb) x.natAbs) d=(-x,d):=by
  have e:sg (!nb) x.natAbs = -x:=by
   rw [HD.out.1]
   unfold sg
   by_cases h:x<0
   ·simp [h];omega
   ·simp [h];omega
  rw [e]
  exact AmV (fun h=>by have:=HD.out.2.2.2.2.2.2 h;omega)
 rw [hval] at D3
 obtain ⟨nb3,A3,L3,c3,rfl,_⟩:=D3.form
 have D3':=ll D3
 have k0:w3.cell? ⟨w.heap.size+1,0,none⟩=some (.bool false):=r3.cell 0
 have k1:w3.cell? ⟨w.heap.size+1,1,none⟩=some (.slice none 0 0):=r3.cell 1
 have k2:w3.cell? ⟨w.heap.size+1,2,none⟩=some (.int .i64 0):=r3.cell 2
 have kf:=r3.free
 clear D3 hb3 r2 b2 hval tc tf
 go_wp2_with fail
 refine bodyPost_ret (AkO rfl (((r3.set_ 0 _).set_ 1 _).set_ 2 _)) rfl ⟨_,rfl,?_,((b3.setCell (by simp) _).setCell (by simp) _).setCell (by simp) _⟩
 exact AbU
theorem AkP (h2:tmps.getD 2 undef=.pointer (some ⟨b,0,none⟩)) (hB:BI w b [v0,v1,v2] 43) :
  (results Tryz.f194 tmps).run prog w=.ok (.agg #[v0,v1,v2]) w:=by
 have k0:=hB.cell 0
 have k1:=hB.cell 1
 have k2:=hB.cell 2
 simp at k0 k1 k2
 simp at h2
 simp [results,results194,go_sem,h2,k0,k1,k2]
theorem ArC {v:Value} {x:Int} (D:DyR w lo m v x d) (hm:m≤w.heap.size) (hl:(Ac x.natAbs).length≤100000) :
  Calls prog 194 #[v] w fun e w'=>∃ v',e=.returned v'∧DyR w' w.heap.size w'.heap.size v' (((x.natAbs:Nat):Int)) d∧Below w.heap.size w w':=by
 obtain ⟨nb,A,L,c,rfl,HD⟩:=D.form
 have D':=ll D
 clear D
 have b0:Below w.heap.size w ((w.alloc (.cells #[.bool nb,.slice A L c,.int .i64 (d:Int)] 43)).alloc (.cells #[.bool false,.slice none 0 0,.int .i64 0] 43)):=Ap (Ap (ab _ _) _) _
 have r0:=(BI.new_ (w.alloc (.cells #[.bool nb,.slice A L c,.int .i64 (d:Int)] 43)) [.bool false,.slice none 0 0,.int .i64 0] 43)
 rw [show (w.alloc (.cells #[.bool nb,.slice A L c,.int .i64 (d:Int)] 43)).heap.size=w.heap.size+1 by simp] at r0
 go_enter func194,ntmps194
 go_wp2_with fail
 go_at_call 76
 refine (IW (D'.out.below b0 hm) (by simp;omega) hl).mono ?_
 rintro e w1 ⟨rfl,hb⟩
 obtain ⟨qc,qf,qs,qz⟩:=IM (m:=w.heap.size+2) hb (by simp) (by simp)
 have r1:=r0.below hb (by simp)
 have b1:=b0.trans (hb.mono (by simp;omega))
 clear hb r0 b0
 go_wp2_with fail
 go_at_call 77
 obtain ⟨W,hW⟩:∃ W,W=((w1.setCell ⟨w.heap.size,0,none⟩ (.bool nb)).setCell ⟨w.heap.size,1,none⟩ (.slice A L c)).setCell ⟨w.heap.size,2,none⟩ (.int .i64 (d:Int)):=⟨_,rfl⟩
 have hWs:w.heap.size+2≤W.heap.size:=by rw [hW];simp;omega
 have b2:Below w.heap.size w W:=by rw [hW];exact ((b1.setCell (by simp) _).setCell (by simp) _).setCell (by simp) _
 have r2:BI W (w.heap.size+1) [.bool false,.slice none 0 0,.int .i64 0] 43:=by
  rw [hW]
  exact ((r1.other_ (by omega) _ _).other_ (by omega) _ _).other_ (by omega) _ _
 rw [←hW]
 clear hW qc qf qs qz r1 b1
 refine (RX (n:=x.natAbs) (m:=m) HD.out.2.1 (HD.out.2.2.2.2.1.below b2 hm) HD.out.2.2.2.1 (by omega) hl HD.out.2.2.2.2.2.1).mono ?_
 rintro e w3 ⟨v',rfl,D3,hb3⟩
 obtain ⟨tc,tf,ts,tz⟩:=IM (m:=w.heap.size+2) hb3 hWs hWs
 have r3:=r2.below hb3 (by omega)
 have b3:=b2.trans (hb3.mono (by omega))
 have hval:nf (sg false x.natAbs) d=(((x.natAbs:Nat):Int),d):=by
  exact AmV (fun h=>by have:=HD.out.2.2.2.2.2.2 h;unfold sg;simp;omega)
 rw [hval] at D3
 obtain ⟨nb3,A3,L3,c3,rfl,_⟩:=D3.form
 have D3':=ll D3
 have k0:w3.cell? ⟨w.heap.size+1,0,none⟩=some (.bool false):=r3.cell 0
 have k1:w3.cell? ⟨w.heap.size+1,1,none⟩=some (.slice none 0 0):=r3.cell 1
 have k2:w3.cell? ⟨w.heap.size+1,2,none⟩=some (.int .i64 0):=r3.cell 2
 have kf:=r3.free
 clear D3 hb3 r2 b2 hval tc tf
 go_wp2_with fail
 refine bodyPost_ret (AkP rfl (((r3.set_ 0 _).set_ 1 _).set_ 2 _)) rfl ⟨_,rfl,?_,((b3.setCell (by simp) _).setCell (by simp) _).setCell (by simp) _⟩
 exact AbU
theorem AhC (h2:tmps.getD 2 undef=.pointer (some ⟨b,0,none⟩)) (hB:BI w b [v0,v1,v2] 43) :
  (results Tryz.f34 tmps).run prog w=.ok (.agg #[v0,v1,v2]) w:=by
 have k0:=hB.cell 0
 have k1:=hB.cell 1
 have k2:=hB.cell 2
 simp at k0 k1 k2
 simp at h2
 simp [results,results34,go_sem,h2,k0,k1,k2]
theorem Aoh (h:p:=by
 rw [show (w.alloc (.cells #[.bool false,.slice none 0 0,.int .i64 0] 43)).heap.size=w.heap.size+1 by simp] at h
 exact h.cells_ (by omega)):p:=h
theorem Pg (n:Int) (h1 : -9223372036854775808≤n) (h2:n<9223372036854775808) (w:World) :
  Calls prog 34 #[.int .i64 n] w fun e w'=>∃ v',e=.returned v'∧DyR w' w.heap.size w'.heap.size v' n 0∧Below w.heap.size w w':=by
 by_cases h:n<0
 ·as_aux_lemma =>
  obtain ⟨p,hp⟩:∃ p:Nat,-(n+1)=(p:Int):=⟨(-(n+1)).toNat,by omega⟩
  obtain ⟨a,ha⟩:∃ a:Nat,(p:Int)+1=(a:Int):=⟨p+1,by omega⟩
  have hsg:sg true a=n:=by unfold sg;simp;omega
  have hpb:p<9223372036854775808:=by omega
  obtain ⟨lo,hlo⟩:∃ lo:Nat,(a:Int) % 4294967296=(lo:Int):=⟨(a % 4294967296:Nat),by omega⟩
  obtain ⟨hi,hhi⟩:∃ hi:Nat,(a:Int) / 4294967296=(hi:Int):=⟨(a / 4294967296:Nat),by omega⟩
  have hib:hi<4294967296:=by omega
  have lob:lo<4294967296:=by omega
  have hval:AH [lo,hi]=a:=by rw [Rx];omega
  have HSG:=ll hsg
  have HV:=ll hval
  clear hsg hval
  have b0:Below w.heap.size w ((w.alloc (.cells #[.bool false,.slice none 0 0,.int .i64 0] 43)).alloc (.cells #[.int .u32 (lo:Int),.int .u32 (hi:Int)] 143)):=Ap (Ap (ab _ _) _) _
  have r0:=(BI.new_ w [.bool false,.slice none 0 0,.int .i64 0] 43).below ((ab (w.heap.size+1) _).alloc (by simp) (.cells #[.int .u32 (lo:Int),.int .u32 (hi:Int)] 143)) (by omega)
  have c0:Aq ((w.alloc (.cells #[.bool false,.slice none 0 0,.int .i64 0] 43)).alloc (.cells #[.int .u32 (lo:Int),.int .u32 (hi:Int)] 143)) (w.heap.size+2) (some ⟨w.heap.size+1,0,none⟩) (w32 [lo,hi]):=by
   have h:=BI.new_ (w.alloc (.cells #[.bool false,.slice none 0 0,.int .i64 0] 43)) (w32 [lo,hi]) 143
   exact Aoh
  go_enter func34,ntmps34
  go_wp2_with fail
  go_at_call 77
  refine (It true (some ⟨w.heap.size+1,0,none⟩) [lo,hi] 2 0 (w.heap.size+2) _ (by simp) c0 (by simp) (AjY lob hib) (by simp) (by omega)).mono ?_
  rintro e w3 ⟨v',rfl,D3,hb3⟩
  obtain ⟨tc,tf,ts,tz⟩:=IM (m:=w.heap.size+2) hb3 (by simp) (by simp)
  have r3:=r0.below hb3 (by simp;omega)
  have b3:=b0.trans (hb3.mono (by simp;omega))
  rw [HV.out,HSG.out] at D3
  have D3:DyR w3 (w.heap.size+2) w3.heap.size v' n 0:=D3.low (by simp)
  obtain ⟨nb3,A3,L3,c3,rfl,_⟩:=D3.form
  have D3':=ll D3
  have k0:w3.cell? ⟨w.heap.size,0,none⟩=some (.bool false):=r3.cell 0
  have k1:w3.cell? ⟨w.heap.size,1,none⟩=some (.slice none 0 0):=r3.cell 1
  have k2:w3.cell? ⟨w.heap.size,2,none⟩=some (.int .i64 0):=r3.cell 2
  have kf:=r3.free
  clear D3 hb3 r0 b0 c0 tc tf
  go_wp2_with fail
  refine bodyPost_ret (AhC rfl (((r3.set_ 0 _).set_ 1 _).set_ 2 _)) rfl ⟨_,rfl,?_,((b3.setCell (by simp) _).setCell (by simp) _).setCell (by simp) _⟩
  exact AbU
 ·as_aux_lemma =>
  obtain ⟨a,rfl⟩:∃ a:Nat,n=(a:Int):=⟨n.toNat,by omega⟩
  have hsg:sg false a=(a:Int):=by unfold sg;simp
  obtain ⟨lo,hlo⟩:∃ lo:Nat,(a:Int) % 4294967296=(lo:Int):=⟨(a % 4294967296:Nat),by omega⟩
  obtain ⟨hi,hhi⟩:∃ hi:Nat,(a:Int) / 4294967296=(hi:Int):=⟨(a / 4294967296:Nat),by omega⟩
  have hib:hi<4294967296:=by omega
  have lob:lo<4294967296:=by omega
  have hval:AH [lo,hi]=a:=by rw [Rx];omega
  have HSG:=ll hsg
  have HV:=ll hval
  clear hsg hval
  have b0:Below w.heap.size w ((w.alloc (.cells #[.bool false,.slice none 0 0,.int .i64 0] 43)).alloc (.cells #[.int .u32 (lo:Int),.int .u32 (hi:Int)] 143)):=Ap (Ap (ab _ _) _) _
  have r0:=(BI.new_ w [.bool false,.slice none 0 0,.int .i64 0] 43).below ((ab (w.heap.size+1) _).alloc (by simp) (.cells #[.int .u32 (lo:Int),.int .u32 (hi:Int)] 143)) (by omega)
  have c0:Aq ((w.alloc (.cells #[.bool false,.slice none 0 0,.int .i64 0] 43)).alloc (.cells #[.int .u32 (lo:Int),.int .u32 (hi:Int)] 143)) (w.heap.size+2) (some ⟨w.heap.size+1,0,none⟩) (w32 [lo,hi]):=by
   have h:=BI.new_ (w.alloc (.cells #[.bool false,.slice none 0 0,.int .i64 0] 43)) (w32 [lo,hi]) 143
   exact Aoh
  go_enter func34,ntmps34
  go_wp2_with fail
  go_at_call 77
  refine (It false (some ⟨w.heap.size+1,0,none⟩) [lo,hi] 2 0 (w.heap.size+2) _ (by simp) c0 (by simp) (AjY lob hib) (by simp) (by omega)).mono ?_
  rintro e w3 ⟨v',rfl,D3,hb3⟩
  obtain ⟨tc,tf,ts,tz⟩:=IM (m:=w.heap.size+2) hb3 (by simp) (by simp)
  have r3:=r0.below hb3 (by simp;omega)
  have b3:=b0.trans (hb3.mono (by simp;omega))
  rw [HV.out,HSG.out] at D3
  have D3:DyR w3 (w.heap.size+2) w3.heap.size v' (a:Int) 0:=D3.low (by simp)
  obtain ⟨nb3,A3,L3,c3,rfl,_⟩:=D3.form
  have D3':=ll D3
  have k0:w3.cell? ⟨w.heap.size,0,none⟩=some (.bool false):=r3.cell 0
  have k1:w3.cell? ⟨w.heap.size,1,none⟩=some (.slice none 0 0):=r3.cell 1
  have k2:w3.cell? ⟨w.heap.size,2,none⟩=some (.int .i64 0):=r3.cell 2
  have kf:=r3.free
  clear D3 hb3 r0 b0 c0 tc tf
  go_wp2_with fail
  refine bodyPost_ret (AhC rfl (((r3.set_ 0 _).set_ 1 _).set_ 2 _)) rfl ⟨_,rfl,?_,((b3.setCell (by simp) _).setCell (by simp) _).setCell (by simp) _⟩
  exact AbU
theorem AfF (h:p:=by
 exact ⟨_,rfl,⟨G,g,rfl,g1,g2,g3⟩,hb⟩):p:=h
theorem AbV {v:Value} {k:Nat} (h:WdR w m v n) (hm:m≤w.heap.size) (hl:(Ac n).length≤100000) (hk:k≤1000000) :
  Calls prog 78 #[v,.int .i64 (k:Int)] w fun e w'=>∃ v',e=.returned v'∧WdR w' w'.heap.size v' (n*2 ^ k)∧Below w.heap.size w w':=by
 obtain ⟨A,c,rfl,h1,h2,h3⟩:=h
 refine (AfE A (Ac n) c k m w hm h3 (AE n) hl hk).mono ?_
 rintro e w' ⟨G,g,rfl,g1,g2,g3,hb⟩
 rw [Ao] at g2 g3 ⊢
 exact AfF
theorem AhD {v:Value} {a:Nat} (h:WdR w m v a) (h2:WdR w m2 v2 b) (hm:m≤w.heap.size) (hm2:m2≤w.heap.size) (hl:(Ac a).length≤100000) (hl2:(Ac b).length≤100000) :
  Calls prog 215 #[v,v2] w fun e w'=>∃ v',e=.returned v'∧WdR w' w'.heap.size v' (a+b)∧Below w.heap.size w w':=by
 obtain ⟨A,c,rfl,h1,h1',h3⟩:=h
 obtain ⟨A2,c2,rfl,k1,k1',k3⟩:=h2
 refine (AfA A A2 (Ac a) (Ac b) c c2 w.heap.size w (aa _) (h3.more hm) (k3.more hm2) (AE a) (AE b) hl hl2).mono ?_
 rintro e w' ⟨G,g,rfl,g1,g2,g3,hb⟩
 rw [Ao,Ao] at g2 g3 ⊢
 exact AfF
theorem AbW {v:Value} {a:Nat} (h:WdR w m v a) (h2:WdR w m2 v2 b) (hm:m≤w.heap.size) (hm2:m2≤w.heap.size) (hl:(Ac a).length≤100000) (hle:b≤a) :
  Calls prog 219 #[v,v2] w fun e w'=>∃ v',e=.returned v'∧WdR w' w'.heap.size v' (a - b)∧Below w.heap.size w w':=by
 obtain ⟨A,c,rfl,h1,h1',h3⟩:=h
 obtain ⟨A2,c2,rfl,k1,k1',k3⟩:=h2
 refine (AbS A A2 (Ac a) (Ac b) c c2 w.heap.size w (aa _) (h3.more hm) (k3.more hm2) (AE a) (AE b) hl (AQ hle) (by rw [Ao,Ao];exact hle)).mono ?_
 rintro e w' ⟨G,g,rfl,g1,g2,g3,hb⟩
 rw [Ao,Ao] at g2 g3 ⊢
 exact AfF
theorem Aoi {v:Value} {a:Nat} (h:WdR w m v a) (h2:WdR w m2 v2 b) (hl:(Ac a).length≤100000) (hl2:(Ac b).length≤100000) :
  Calls prog 218 #[v,v2] w fun e w'=>e=.returned (.bool (decide (a<b)))∧Below w.heap.size w w':=by
 obtain ⟨A,c,rfl,h1,h1',h3⟩:=h
 obtain ⟨A2,c2,rfl,k1,k1',k3⟩:=h2
 have:=AfB A A2 (Ac a) (Ac b) c c2 (max m m2) w (h3.more (by omega)) (k3.more (by omega)) (AE a) (AE b) hl hl2
 rw [Vw] at this
 exact this
theorem EW {neg:Bool} {v:Value} (h:WdR w m v n) (hm:m≤w.heap.size) (hl:(Ac n).length≤100000) (hd:d≤65536) :
  Calls prog 77 #[.bool neg,v,.int .i64 (d:Int)] w fun e w' =>
   ∃ v',e=.returned v'∧DyR w' w.heap.size w'.heap.size v' (nf (sg neg n) d).1 (nf (sg neg n) d).2∧Below w.heap.size w w':=by
 obtain ⟨A,c,rfl,h1,h1',h3⟩:=h
 exact RX rfl h3 h1' hm hl hd
theorem AkQ (h2:tmps.getD 4 undef=.pointer (some ⟨b,0,none⟩)) (hB:BI w b [v0,v1,v2] 43) :
  (results Tryz.f197 tmps).run prog w=.ok (.agg #[v0,v1,v2]) w:=by
 have k0:=hB.cell 0
 have k1:=hB.cell 1
 have k2:=hB.cell 2
 simp at k0 k1 k2
 simp at h2
 simp [results,results197,go_sem,h2,k0,k1,k2]
theorem AkR (h:p:=by
 go_wp2_with fail
 refine bodyPost_ret (AkQ rfl (((rz.set_ 0 _).set_ 1 _).set_ 2 _)) rfl ⟨_,rfl,?_,(((b0.trans (hk6.is.mono (by omega))).setCell (by simp;omega) _).setCell (by simp;omega) _).setCell (by simp;omega) _⟩
 exact ((((D6.set_ (by omega) 0 _).set_ (by omega) 1 _).set_ (by omega) 2 _).low (by omega)).more (by simp)):p:=h
theorem AmI (h:p:=by first|exact hk|exact hk.drew|assumption):p:=h
theorem ArD (h:p:=by first|exact hkv.drew|assumption):p:=h
theorem Nb {v:Value} {x y:Int} (D1:DyR w lo1 m v x dx) (D2:DyR w lo2 m2 v2 y dy) (hm:m≤w.heap.size) (hm2:m2≤w.heap.size) (l1:(Ac x.natAbs).length≤50000) (l2:(Ac y.natAbs).length≤50000) :
    Calls prog 197 #[v,v2] w fun e w'=>∃ v',e=.returned v'∧DyR w' w.heap.size w'.heap.size v' (CR x dx y dy).1 (CR x dx y dy).2∧Below w.heap.size w w':=by
  replace D2:=D2.more (Nat.le_max_right m m2)
  replace D1:=D1.more (Nat.le_max_left m m2)
  replace hm:max m m2≤w.heap.size:=by omega
  generalize max m m2=m at D1 D2 hm
  obtain ⟨nb1,A1,L1,c1,rfl,HD1⟩:=D1.form
  obtain ⟨nb2,A2,L2,c2,rfl,HD2⟩:=D2.form
  have b0:Below w.heap.size w (((w.alloc (.cells #[.bool nb1,.slice A1 L1 c1,.int .i64 (dx:Int)] 43)).alloc (.cells #[.bool nb2,.slice A2 L2 c2,.int .i64 (dy:Int)] 43)).alloc (.cells #[.bool false,.slice none 0 0,.int .i64 0] 43)):=Ap (Ap (Ap (ab _ _) _) _) _
  have D1':=D1.below b0 hm
  have D2':=D2.below b0 hm
  clear D1 D2
  have r2:=BI.new_ ((w.alloc (.cells #[.bool nb1,.slice A1 L1 c1,.int .i64 (dx:Int)] 43)).alloc (.cells #[.bool nb2,.slice A2 L2 c2,.int .i64 (dy:Int)] 43)) [.bool false,.slice none 0 0,.int .i64 0] 43
  have r1:=(BI.new_ (w.alloc (.cells #[.bool nb1,.slice A1 L1 c1,.int .i64 (dx:Int)] 43)) [.bool nb2,.slice A2 L2 c2,.int .i64 (dy:Int)] 43).call ((ab _ _).alloc (aa _) (.cells #[.bool false,.slice none 0 0,.int .i64 0] 43))
  have r0:=((BI.new_ w [.bool nb1,.slice A1 L1 c1,.int .i64 (dx:Int)] 43).call ((ab _ _).alloc (aa _) (.cells #[.bool nb2,.slice A2 L2 c2,.int .i64 (dy:Int)] 43))).call ((ab _ _).alloc (aa _) (.cells #[.bool false,.slice none 0 0,.int .i64 0] 43))
  rw [show ((w.alloc (.cells #[.bool nb1,.slice A1 L1 c1,.int .i64 (dx:Int)] 43)).alloc (.cells #[.bool nb2,.slice A2 L2 c2,.int .i64 (dy:Int)] 43)).heap.size=w.heap.size+2 by simp] at r2
  rw [show (w.alloc (.cells #[.bool nb1,.slice A1 L1 c1,.int .i64 (dx:Int)] 43)).heap.size=w.heap.size+1 by simp] at r1
  go_enter func197,ntmps197
  go_wp2_with fail
  obtain ⟨W,hW⟩:∃ W,W=(((w.alloc (.cells #[.bool nb1,.slice A1 L1 c1,.int .i64 (dx:Int)] 43)).alloc (.cells #[.bool nb2,.slice A2 L2 c2,.int .i64 (dy:Int)] 43)).alloc (.cells #[.bool false,.slice none 0 0,.int .i64 0] 43)):=⟨_,rfl⟩
  have hWs:W.heap.size=w.heap.size+3:=by rw [hW];simp
  rw [←hW]
  rw [←hW] at b0 D1' D2' r0 r1 r2
  clear hW
  have a0:W.cell? ⟨w.heap.size,0,none⟩=some (.bool nb1):=r0.cell 0
  have a1:W.cell? ⟨w.heap.size,1,none⟩=some (.slice A1 L1 c1):=r0.cell 1
  have a2:W.cell? ⟨w.heap.size,2,none⟩=some (.int .i64 (dx:Int)):=r0.cell 2
  have e0:W.cell? ⟨w.heap.size+1,0,none⟩=some (.bool nb2):=r1.cell 0
  have e1:W.cell? ⟨w.heap.size+1,1,none⟩=some (.slice A2 L2 c2):=r1.cell 1
  have e2:W.cell? ⟨w.heap.size+1,2,none⟩=some (.int .i64 (dy:Int)):=r1.cell 2
  have hle:m≤w.heap.size+3:=by omega
  have hle2:m≤w.heap.size+2:=by omega
  have hz:w.heap.size+3≤W.heap.size:=by omega
  refine Oy 4 (w.heap.size+3) hz (by kernel_rfl) (by kernel_rfl) ?_
  intro _
  simp only [List.take_succ_cons,jy,List.drop_succ_cons,gq]
  repeat (go_big_quiet_step ((first
    | (go_at_call 76;exact Mb (IW (D1'.below (Qr.is _) hle) (lT hle (Qr.fits _)) (lT l1 (by omega))))
    | (go_at_call 76;exact Mb (IW (D2'.below (Qr.is _) hle) (lT hle (Qr.fits _)) (lT l2 (by omega)))))))
  refine wpQuiet_nil ?_
  intro w2 hw'
  obtain ⟨⟨_,hb2,hz2⟩,rfl⟩:=hw'
  have s0:=r0.below hb2 (by omega)
  have s1:=r1.below hb2 (by omega)
  have s2:=r2.below hb2 (by omega)
  have b2:=b0.trans (hb2.mono (by omega))
  replace D1':=D1'.below hb2 hle
  replace D2':=D2'.below hb2 hle
  clear r0 r1 r2 b0 a0 a1 a2 e0 e1 e2 hWs hz hb2
  have a0:w2.cell? ⟨w.heap.size,0,none⟩=some (.bool nb1):=s0.cell 0
  have a1:w2.cell? ⟨w.heap.size,1,none⟩=some (.slice A1 L1 c1):=s0.cell 1
  have a2:w2.cell? ⟨w.heap.size,2,none⟩=some (.int .i64 (dx:Int)):=s0.cell 2
  have e0:w2.cell? ⟨w.heap.size+1,0,none⟩=some (.bool nb2):=s1.cell 0
  have e1:w2.cell? ⟨w.heap.size+1,1,none⟩=some (.slice A2 L2 c2):=s1.cell 1
  have e2:w2.cell? ⟨w.heap.size+1,2,none⟩=some (.int .i64 (dy:Int)):=s1.cell 2
  have f0:=s0.free
  have f1:=s1.free
  have hd1:=HD1.out.2.2.2.2.2.1
  have hd2:=HD2.out.2.2.2.2.2.1
  obtain ⟨D,hD⟩:∃ D:Nat,D=max dx dy:=⟨_,rfl⟩
  have hDD:max (dx:Int) (dy:Int)=(D:Int):=by omega
  have hD6:D≤65536:=by omega
  obtain ⟨p,hp⟩:∃ p:Nat,p=D - dx:=⟨_,rfl⟩
  obtain ⟨q,hq⟩:∃ q:Nat,q=D - dy:=⟨_,rfl⟩
  have hpp:IntKind.i64.wrap ((D:Int) - (dx:Int))=(p:Int):=by rw [gp];omega
  have hqq:IntKind.i64.wrap ((D:Int) - (dy:Int))=(q:Int):=by rw [gp];omega
  have hp6:p≤65536:=by omega
  have hq6:q≤65536:=by omega
  have HV := ll (show CR x dx y dy = nf (x * 2 ^ p + y * 2 ^ q) D by unfold CR; rw [← hD, ← hp, ← hq])
  have hp6':p≤1000000:=by omega
  have hq6':q≤1000000:=by omega
  clear hD hp hq
  go_wp2_with fail
  obtain ⟨W,hW⟩:∃ W,W=(((((w2.setCell ⟨w.heap.size,0,none⟩ (.bool nb1)).setCell ⟨w.heap.size,1,none⟩ (.slice A1 L1 c1)).setCell ⟨w.heap.size,2,none⟩ (.int .i64 (dx:Int))).setCell ⟨w.heap.size+1,0,none⟩ (.bool nb2)).setCell ⟨w.heap.size+1,1,none⟩ (.slice A2 L2 c2)).setCell ⟨w.heap.size+1,2,none⟩ (.int .i64 (dy:Int)):=⟨_,rfl⟩
  rw [←hW]
  have t0:BI W w.heap.size [.bool nb1,.slice A1 L1 c1,.int .i64 (dx:Int)] 43:=by
    rw [hW]
    exact ((((((s0.set_ 0 _).set_ 1 _).set_ 2 _).other_ (by omega) _ _).other_ (by omega) _ _).other_ (by omega) _ _)
  have t1:BI W (w.heap.size+1) [.bool nb2,.slice A2 L2 c2,.int .i64 (dy:Int)] 43:=by
    rw [hW]
    exact ((((((s1.other_ (by omega) _ _).other_ (by omega) _ _).other_ (by omega) _ _).set_ 0 _).set_ 1 _).set_ 2 _)
  have t2:BI W (w.heap.size+2) [.bool false,.slice none 0 0,.int .i64 0] 43:=by
    rw [hW]
    exact ((((((s2.other_ (by omega) _ _).other_ (by omega) _ _).other_ (by omega) _ _).other_ (by omega) _ _).other_ (by omega) _ _).other_ (by omega) _ _)
  have b0:Below w.heap.size w W:=by
    rw [hW]
    exact (((((b2.setCell (by simp) _).setCell (by simp) _).setCell (by simp) _).setCell (by simp) _).setCell (by simp) _).setCell (by simp) _
  have hWs:w.heap.size+3≤W.heap.size:=by rw [hW];simpa using hz2
  have bW:Below w.heap.size w2 W:=by
    rw [hW]
    exact ((((((ab _ w2).setCell (by simp) _).setCell (by simp) _).setCell (by simp) _).setCell (by simp) _).setCell (by simp) _).setCell (by simp) _
  have X1:WdR W m (.slice A1 L1 c1) x.natAbs:=D1'.words.below bW hm
  have X2:WdR W m (.slice A2 L2 c2) y.natAbs:=D2'.words.below bW hm
  clear hW bW s0 s1 s2 b2 a0 a1 a2 e0 e1 e2 f0 f1 D1' D2'
  have a0:W.cell? ⟨w.heap.size,0,none⟩=some (.bool nb1):=t0.cell 0
  have a1:W.cell? ⟨w.heap.size,1,none⟩=some (.slice A1 L1 c1):=t0.cell 1
  have a2:W.cell? ⟨w.heap.size,2,none⟩=some (.int .i64 (dx:Int)):=t0.cell 2
  have e0:W.cell? ⟨w.heap.size+1,0,none⟩=some (.bool nb2):=t1.cell 0
  have e1:W.cell? ⟨w.heap.size+1,1,none⟩=some (.slice A2 L2 c2):=t1.cell 1
  have e2:W.cell? ⟨w.heap.size+1,2,none⟩=some (.int .i64 (dy:Int)):=t1.cell 2
  have hk:SK W (w.heap.size+2) (w.heap.size+2) W:=SK.refl (by omega) ⟨_,_,_,t2⟩
  go_cut [6,7] (fun s6 s7 wx=>∃ A6 L6 c6 A7 L7 c7,s6=.slice A6 L6 c6∧s7=.slice A7 L7 c7∧WdR wx wx.heap.size (.slice A6 L6 c6) (x.natAbs*2 ^ p)∧WdR wx wx.heap.size (.slice A7 L7 c7) (y.natAbs*2 ^ q)∧SK W (w.heap.size+2) (w.heap.size+2) wx)
  case first =>
    go_region_held3 (fun w'=>(∀ b o,b<w.heap.size+2→w'.cell? ⟨b,o,none⟩=W.cell? ⟨b,o,none⟩)∧SK W (w.heap.size+2) (w.heap.size+2) w')
      (first
      | (refine SK.all ?_
         first
           | assumption
           | exact hk
           | exact hk.drew
           | exact ((SK.set (by assumption) (by omega) _ _).set (by omega) _ _).set (by omega) _ _))
      (first
        | (go_at_call_of 78 (Value.slice A1 L1 c1);refine (AbV (X1.below (SK.is (m:=w.heap.size+2) (r:=w.heap.size+2) AmI) hle2) ?_ ?_ hp6').mono ?_;exact (lT hle2 (SK.fits (m:=w.heap.size+2) (r:=w.heap.size+2) AmI));exact (by omega);(rintro e w5 ⟨v5,rfl,Y1,hb5⟩;have hk5:=SK.call (W:=W) (m:=w.heap.size+2) (r:=w.heap.size+2) AmI hb5;obtain ⟨A5,L5,c5,rfl⟩:=Y1.form))
        | (go_at_call_of 78 (Value.slice A2 L2 c2);refine (AbV (X2.below (SK.is (m:=w.heap.size+2) (r:=w.heap.size+2) AmI) hle2) ?_ ?_ hq6').mono ?_;exact (lT hle2 (SK.fits (m:=w.heap.size+2) (r:=w.heap.size+2) AmI));exact (by omega);(rintro e w4 ⟨v4,rfl,Y2,hb4⟩;have hk4:=SK.call (W:=W) (m:=w.heap.size+2) (r:=w.heap.size+2) AmI hb4;obtain ⟨A4,L4,c4,rfl⟩:=Y2.form)))
    all_goals (go_wp2_with fail;go_meet;exact ⟨A5,L5,c5,A4,L4,c4,rfl,rfl,(Y1.below hb4 (aa _)).more hb4.size,Y2,hk4⟩)
  case rest =>
    obtain ⟨A6,L6,c6,A7,L7,c7,rfl,rfl,Y1,Y2,hkx⟩:=hcut
    have g0:wc.cell? ⟨w.heap.size,0,none⟩=some (.bool nb1):=(hkx.all.1 _ _ (by omega)).trans a0
    have g1:wc.cell? ⟨w.heap.size+1,0,none⟩=some (.bool nb2):=(hkx.all.1 _ _ (by omega)).trans e0
    obtain ⟨a,ha⟩:∃ a,a=x.natAbs*2 ^ p:=⟨_,rfl⟩
    obtain ⟨b,hb⟩:∃ b,b=y.natAbs*2 ^ q:=⟨_,rfl⟩
    have hx:=Xa x p
    have hy:=Xa y q
    rw [←HD1.out.1,←ha] at hx
    rw [←HD2.out.1,←hb] at hy
    have hla:(Ac a).length≤60000:=by
      have:=Bz x.natAbs p
      rw [←ha] at this
      omega
    have hlb:(Ac b).length≤60000:=by
      have:=Bz y.natAbs q
      rw [←hb] at this
      omega
    rw [←ha] at Y1
    rw [←hb] at Y2
    have HX:=ll hx
    have HY:=ll hy
    clear ha hb hx hy X1 X2 hle hle2
    by_cases hn:nb1=nb2
    · as_aux_lemma =>
      subst hn
      have hlen:(Ac (a+b)).length≤100000:=by have:=DX a b;omega
      have hval:nf (sg nb1 (a+b)) D=CR x dx y dy:=by rw [AjZ,HX.out,HY.out,HV.out]
      have HVAL:=ll hval
      clear hval
      go_wp2_with fail
      obtain ⟨wv,hwv⟩:∃ wv,wv=wc:=⟨_,rfl⟩
      rw [←hwv]
      rw [←hwv] at Y1 Y2 hkx g0 g1
      have hkv:=hkx
      clear hwv hkx
      go_region_held3 (fun w'=>(∀ b o,b<w.heap.size+2→w'.cell? ⟨b,o,none⟩=W.cell? ⟨b,o,none⟩)∧SK W (w.heap.size+2) (w.heap.size+2) w')
        (first
          | (refine SK.all ?_
             first
               | assumption
               | exact hkv
               | exact hkv.drew
               | exact ((SK.set (by assumption) (by omega) _ _).set (by omega) _ _).set (by omega) _ _))
        (first
          | (go_at_call 215;refine (AhD (Y1.below (ab _ wv).drew (aa _)) (Y2.below (ab _ wv).drew (aa _)) (aa _) (aa _) (by omega) (by omega)).mono ?_;(rintro e w5 ⟨v5,rfl,D5,hb5⟩;have hk5:=SK.call (W:=W) (m:=w.heap.size+2) (r:=w.heap.size+2) ArD hb5;have hf5:=hk5.lt;obtain ⟨A5,L5,c5,rfl⟩:=D5.form))
          | (go_at_call 77;refine (EW D5 (aa _) hlen hD6).mono ?_;(rintro e w6 ⟨v6,rfl,D6,hb6⟩;have hk6:=SK.call hk5 hb6;have hf6:=hk6.lt;rw [HVAL.out] at D6;obtain ⟨nb6,A9,L9,c9,rfl,_⟩:=D6.form;obtain ⟨z0,z1,z2,rz,k0,k1,k2,kf⟩:=SK.cells hk6)))
      exact AkR
    · have hne:(nb1 == nb2)=false:=by simpa using hn
      have HN:=ll hn
      clear hn
      go_wp2_with fail
      go_at_call 218
      refine (Aoi Y1 Y2 (by omega) (by omega)).mono ?_
      rintro e w4 ⟨rfl,hb4⟩
      have hkv:=hkx.call hb4
      have g0':w4.cell? ⟨w.heap.size,0,none⟩=some (.bool nb1):=(hkv.all.1 _ _ (by omega)).trans a0
      have g1':w4.cell? ⟨w.heap.size+1,0,none⟩=some (.bool nb2):=(hkv.all.1 _ _ (by omega)).trans e0
      replace Y1:=(Y1.below hb4 (aa _)).more hb4.size
      replace Y2:=(Y2.below hb4 (aa _)).more hb4.size
      clear hkx hb4 g0 g1
      obtain ⟨wv,hwv⟩:∃ wv,wv=w4:=⟨_,rfl⟩
      rw [←hwv]
      rw [←hwv] at Y1 Y2 hkv g0' g1'
      clear hwv
      by_cases hlt:a<b
      · as_aux_lemma =>
        have hlen:(Ac (b - a)).length≤100000:=lT (AQ (Nat.sub_le _ _)) (by omega)
        have hval:nf (sg nb2 (b - a)) D=CR x dx y dy:=by rw [Aka HN.out hlt,HX.out,HY.out,HV.out]
        have HVAL:=ll hval
        rw [decide_eq_true hlt]
        have hle:a≤b:=by omega
        clear hval hlt
        go_wp2_with fail
        go_region_held3 (fun w'=>(∀ b o,b<w.heap.size+2→w'.cell? ⟨b,o,none⟩=W.cell? ⟨b,o,none⟩)∧SK W (w.heap.size+2) (w.heap.size+2) w')
          (first
            | (refine SK.all ?_
               first
                 | assumption
                 | exact hkv
                 | exact hkv.drew
                 | exact ((SK.set (by assumption) (by omega) _ _).set (by omega) _ _).set (by omega) _ _))
          (first
            | (go_at_call 219;refine (AbW (Y2.below (ab _ wv).drew (aa _)) (Y1.below (ab _ wv).drew (aa _)) (aa _) (aa _) (by omega) hle).mono ?_;(rintro e w5 ⟨v5,rfl,D5,hb5⟩;have hk5:=SK.call (W:=W) (m:=w.heap.size+2) (r:=w.heap.size+2) ArD hb5;have hf5:=hk5.lt;obtain ⟨A5,L5,c5,rfl⟩:=D5.form))
            | (go_at_call 77;refine (EW D5 (aa _) hlen hD6).mono ?_;(rintro e w6 ⟨v6,rfl,D6,hb6⟩;have hk6:=SK.call hk5 hb6;have hf6:=hk6.lt;rw [HVAL.out] at D6;obtain ⟨nb6,A9,L9,c9,rfl,_⟩:=D6.form;obtain ⟨z0,z1,z2,rz,k0,k1,k2,kf⟩:=SK.cells hk6)))
        exact AkR
      · as_aux_lemma =>
        have hlen:(Ac (a - b)).length≤100000:=lT (AQ (Nat.sub_le _ _)) (by omega)
        have hval:nf (sg nb1 (a - b)) D=CR x dx y dy:=by rw [Akb HN.out (by omega),HX.out,HY.out,HV.out]
        have HVAL:=ll hval
        rw [decide_eq_false hlt]
        have hle:b≤a:=by omega
        clear hval hlt
        go_wp2_with fail
        go_region_held3 (fun w'=>(∀ b o,b<w.heap.size+2→w'.cell? ⟨b,o,none⟩=W.cell? ⟨b,o,none⟩)∧SK W (w.heap.size+2) (w.heap.size+2) w')
          (first
            | (refine SK.all ?_
               first
                 | assumption
                 | exact hkv
                 | exact hkv.drew
                 | exact ((SK.set (by assumption) (by omega) _ _).set (by omega) _ _).set (by omega) _ _))
          (first
            | (go_at_call 219;refine (AbW (Y1.below (ab _ wv).drew (aa _)) (Y2.below (ab _ wv).drew (aa _)) (aa _) (aa _) (by omega) hle).mono ?_;(rintro e w5 ⟨v5,rfl,D5,hb5⟩;have hk5:=SK.call (W:=W) (m:=w.heap.size+2) (r:=w.heap.size+2) ArD hb5;have hf5:=hk5.lt;obtain ⟨A5,L5,c5,rfl⟩:=D5.form))
            | (go_at_call 77;refine (EW D5 (aa _) hlen hD6).mono ?_;(rintro e w6 ⟨v6,rfl,D6,hb6⟩;have hk6:=SK.call hk5 hb6;have hf6:=hk6.lt;rw [HVAL.out] at D6;obtain ⟨nb6,A9,L9,c9,rfl,_⟩:=D6.form;obtain ⟨z0,z1,z2,rz,k0,k1,k2,kf⟩:=SK.cells hk6)))
        exact AkR
theorem AkS (h2:tmps.getD 4 undef=.pointer (some ⟨b,0,none⟩)) (hB:BI w b [v0,v1,v2] 43) :
  (results Tryz.f196 tmps).run prog w=.ok (.agg #[v0,v1,v2]) w:=by
 have k0:=hB.cell 0
 have k1:=hB.cell 1
 have k2:=hB.cell 2
 simp at k0 k1 k2
 simp at h2
 simp [results,results196,go_sem,h2,k0,k1,k2]
theorem AkT {v:Value} {x y:Int} (D1:DyR w lo1 m v x dx) (D2:DyR w lo2 m v2 y dy) (hm:m≤w.heap.size) (l1:(Ac x.natAbs).length≤50000) (l2:(Ac y.natAbs).length≤50000) :
    Calls prog 196 #[v,v2] w fun e w'=>∃ v',e=.returned v'∧DyR w' w.heap.size w'.heap.size v' (CR x dx (-y) dy).1 (CR x dx (-y) dy).2∧Below w.heap.size w w':=by
  obtain ⟨nb1,A1,L1,c1,rfl,HD1⟩:=D1.form
  obtain ⟨nb2,A2,L2,c2,rfl,HD2⟩:=D2.form
  have b0:Below w.heap.size w (((w.alloc (.cells #[.bool nb1,.slice A1 L1 c1,.int .i64 (dx:Int)] 43)).alloc (.cells #[.bool nb2,.slice A2 L2 c2,.int .i64 (dy:Int)] 43)).alloc (.cells #[.bool false,.slice none 0 0,.int .i64 0] 43)):=Ap (Ap (Ap (ab _ _) _) _) _
  have D1':=D1.below b0 hm
  have D2':=D2.below b0 hm
  clear D1 D2
  have r2:=BI.new_ ((w.alloc (.cells #[.bool nb1,.slice A1 L1 c1,.int .i64 (dx:Int)] 43)).alloc (.cells #[.bool nb2,.slice A2 L2 c2,.int .i64 (dy:Int)] 43)) [.bool false,.slice none 0 0,.int .i64 0] 43
  have r1:=(BI.new_ (w.alloc (.cells #[.bool nb1,.slice A1 L1 c1,.int .i64 (dx:Int)] 43)) [.bool nb2,.slice A2 L2 c2,.int .i64 (dy:Int)] 43).call ((ab _ _).alloc (aa _) (.cells #[.bool false,.slice none 0 0,.int .i64 0] 43))
  have r0:=((BI.new_ w [.bool nb1,.slice A1 L1 c1,.int .i64 (dx:Int)] 43).call ((ab _ _).alloc (aa _) (.cells #[.bool nb2,.slice A2 L2 c2,.int .i64 (dy:Int)] 43))).call ((ab _ _).alloc (aa _) (.cells #[.bool false,.slice none 0 0,.int .i64 0] 43))
  rw [show ((w.alloc (.cells #[.bool nb1,.slice A1 L1 c1,.int .i64 (dx:Int)] 43)).alloc (.cells #[.bool nb2,.slice A2 L2 c2,.int .i64 (dy:Int)] 43)).heap.size=w.heap.size+2 by simp] at r2
  rw [show (w.alloc (.cells #[.bool nb1,.slice A1 L1 c1,.int .i64 (dx:Int)] 43)).heap.size=w.heap.size+1 by simp] at r1
  go_enter func196,ntmps196
  go_wp2_with fail
  obtain ⟨W,hW⟩:∃ W,W=(((w.alloc (.cells #[.bool nb1,.slice A1 L1 c1,.int .i64 (dx:Int)] 43)).alloc (.cells #[.bool nb2,.slice A2 L2 c2,.int .i64 (dy:Int)] 43)).alloc (.cells #[.bool false,.slice none 0 0,.int .i64 0] 43)):=⟨_,rfl⟩
  have hWs:W.heap.size=w.heap.size+3:=by rw [hW];simp
  rw [←hW]
  rw [←hW] at b0 D1' D2' r0 r1 r2
  clear hW
  have a0:W.cell? ⟨w.heap.size,0,none⟩=some (.bool nb1):=r0.cell 0
  have a1:W.cell? ⟨w.heap.size,1,none⟩=some (.slice A1 L1 c1):=r0.cell 1
  have a2:W.cell? ⟨w.heap.size,2,none⟩=some (.int .i64 (dx:Int)):=r0.cell 2
  have e0:W.cell? ⟨w.heap.size+1,0,none⟩=some (.bool nb2):=r1.cell 0
  have e1:W.cell? ⟨w.heap.size+1,1,none⟩=some (.slice A2 L2 c2):=r1.cell 1
  have e2:W.cell? ⟨w.heap.size+1,2,none⟩=some (.int .i64 (dy:Int)):=r1.cell 2
  have hk:SK W (w.heap.size+2) (w.heap.size+2) W:=SK.refl (by omega) ⟨_,_,_,r2⟩
  have hle:m≤w.heap.size+2:=by omega
  go_region_held3 (fun w'=>(∀ b o,b<w.heap.size+2→w'.cell? ⟨b,o,none⟩=W.cell? ⟨b,o,none⟩)∧SK W (w.heap.size+2) (w.heap.size+2) w')
    (first
      | (refine SK.all ?_
         first
           | assumption
           | exact hk
           | exact hk.drew
           | exact ((SK.set (by assumption) (by omega) _ _).set (by omega) _ _).set (by omega) _ _))
    (first
      | (go_at_call 105; refine (Aog (D2'.below (SK.is (m := w.heap.size + 2) (r := w.heap.size + 2) (by first | exact hk.drew | assumption)) hle) ?_ ?_).mono ?_; (simp; omega); exact (by omega); (rintro e w5 ⟨v5, rfl, D5, hb5⟩; have hk5 := SK.call (W := W) (m := w.heap.size + 2) (r := w.heap.size + 2) (by first | exact hk.drew | assumption) hb5; have hf5 := hk5.lt; obtain ⟨nb5, A5, L5, c5, rfl, _⟩ := D5.form))
      | (go_at_call 197; refine (Nb (D1'.below (SK.is (m := w.heap.size + 2) (r := w.heap.size + 2) hk5) hle) D5 ?_ ?_ ?_ ?_).mono ?_; exact (by omega); exact (aa _); exact l1; (rw [jb]; exact l2); (rintro e w6 ⟨v6, rfl, D6, hb6⟩; have hk6 := SK.call hk5 hb6; have hf6 := hk6.lt; have hlo := hf5; obtain ⟨nb6, A6, L6, c6, rfl, _⟩ := D6.form; obtain ⟨z0, z1, z2, rz, k0, k1, k2, kf⟩ := SK.cells hk6)))
  go_wp2_with fail
  refine bodyPost_ret (AkS rfl (((rz.set_ 0 _).set_ 1 _).set_ 2 _)) rfl ⟨_,rfl,?_,(((b0.trans (hk6.is.mono (by omega))).setCell (by simp;omega) _).setCell (by simp;omega) _).setCell (by simp;omega) _⟩
  exact ((((D6.set_ (by omega) 0 _).set_ (by omega) 1 _).set_ (by omega) 2 _).low (by omega)).more (by simp)
theorem Hn {v:Value} {x y:Int} (D1:DyR w lo1 m v x dx) (D2:DyR w lo2 m v2 y dy) (hm:m≤w.heap.size) (l1:(Ac x.natAbs).length≤50000) (l2:(Ac y.natAbs).length≤50000) :
  Calls prog 115 #[v,v2] w fun e w'=>e=.returned (.int .i64 (Bm x dx y dy))∧Below w.heap.size w w':=by
 have hlen:(Ac (CR x dx (-y) dy).1.natAbs).length≤100000:=AaQ l1 (by rw [jb];exact l2) D1.bound.1 D2.bound.1
 obtain ⟨nb1,A1,L1,c1,rfl,HD1⟩:=D1.form
 obtain ⟨nb2,A2,L2,c2,rfl,HD2⟩:=D2.form
 have b0:Below w.heap.size w ((w.alloc (.cells #[.bool nb1,.slice A1 L1 c1,.int .i64 (dx:Int)] 43)).alloc (.cells #[.bool nb2,.slice A2 L2 c2,.int .i64 (dy:Int)] 43)):=Ap (Ap (ab _ _) _) _
 have D1':=ll (D1.below b0 hm)
 have D2':=ll (D2.below b0 hm)
 clear D1 D2
 go_enter func115,ntmps115
 go_wp2_with fail
 go_at_call 196
 refine (AkT D1'.out D2'.out (by simp;omega) l1 l2).mono ?_
 rintro e w5 ⟨v5,rfl,D5,hb5⟩
 have D5':=ll D5
 obtain ⟨nb5,A5,L5,c5,rfl,_⟩:=D5.form
 have b5:=b0.trans (hb5.mono (by simp;omega))
 clear D5 hb5
 go_wp2_with fail
 go_at_call 179
 refine (Aof D5'.out (aa _) hlen).mono ?_
 rintro e w6 ⟨rfl,hb6⟩
 have b6:=b5.trans (hb6.mono (by have:=b5.size;omega))
 go_wp2_with fail
 go_ret
 exact ⟨rfl,b6⟩
theorem AbX (h2:tmps.getD 4 undef=.pointer (some ⟨b,0,none⟩)) (hB:BI w b [v0,v1,v2] 43) :
  (results Tryz.f214 tmps).run prog w=.ok (.agg #[v0,v1,v2]) w:=by
 have k0:=hB.cell 0
 have k1:=hB.cell 1
 have k2:=hB.cell 2
 simp at k0 k1 k2
 simp at h2
 simp [results,results214,go_sem,h2,k0,k1,k2]
theorem AkU {v:Value} {x y:Int} (D1:DyR w lo1 m v x dx) (D2:DyR w lo2 m v2 y dy) (hm:m≤w.heap.size) (l1:(Ac x.natAbs).length≤50000) (l2:(Ac y.natAbs).length≤50000) :
  Calls prog 214 #[v,v2] w fun e w'=>∃ v',e=.returned v'∧DyR w' w.heap.size w'.heap.size v' (GW x dx y dy).1 (GW x dx y dy).2∧Below w.heap.size w w':=by
 have HB1:=D1.bound
 have HB2:=D2.bound
 obtain ⟨nb1,A1,L1,c1,rfl,HD1⟩:=D1.form
 obtain ⟨nb2,A2,L2,c2,rfl,HD2⟩:=D2.form
 have b0:Below w.heap.size w (((w.alloc (.cells #[.bool nb1,.slice A1 L1 c1,.int .i64 (dx:Int)] 43)).alloc (.cells #[.bool nb2,.slice A2 L2 c2,.int .i64 (dy:Int)] 43)).alloc (.cells #[.bool false,.slice none 0 0,.int .i64 0] 43)):=Ap (Ap (Ap (ab _ _) _) _) _
 have D1':=D1.below b0 hm
 have D2':=D2.below b0 hm
 clear D1 D2
 have r2:=BI.new_ ((w.alloc (.cells #[.bool nb1,.slice A1 L1 c1,.int .i64 (dx:Int)] 43)).alloc (.cells #[.bool nb2,.slice A2 L2 c2,.int .i64 (dy:Int)] 43)) [.bool false,.slice none 0 0,.int .i64 0] 43
 have r1:=(BI.new_ (w.alloc (.cells #[.bool nb1,.slice A1 L1 c1,.int .i64 (dx:Int)] 43)) [.bool nb2,.slice A2 L2 c2,.int .i64 (dy:Int)] 43).call ((ab _ _).alloc (aa _) (.cells #[.bool false,.slice none 0 0,.int .i64 0] 43))
 have r0:=((BI.new_ w [.bool nb1,.slice A1 L1 c1,.int .i64 (dx:Int)] 43).call ((ab _ _).alloc (aa _) (.cells #[.bool nb2,.slice A2 L2 c2,.int .i64 (dy:Int)] 43))).call ((ab _ _).alloc (aa _) (.cells #[.bool false,.slice none 0 0,.int .i64 0] 43))
 rw [show ((w.alloc (.cells #[.bool nb1,.slice A1 L1 c1,.int .i64 (dx:Int)] 43)).alloc (.cells #[.bool nb2,.slice A2 L2 c2,.int .i64 (dy:Int)] 43)).heap.size=w.heap.size+2 by simp] at r2
 rw [show (w.alloc (.cells #[.bool nb1,.slice A1 L1 c1,.int .i64 (dx:Int)] 43)).heap.size=w.heap.size+1 by simp] at r1
 go_enter func214,ntmps214
 go_wp2_with fail
 obtain ⟨W,hW⟩:∃ W,W=(((w.alloc (.cells #[.bool nb1,.slice A1 L1 c1,.int .i64 (dx:Int)] 43)).alloc (.cells #[.bool nb2,.slice A2 L2 c2,.int .i64 (dy:Int)] 43)).alloc (.cells #[.bool false,.slice none 0 0,.int .i64 0] 43)):=⟨_,rfl⟩
 have hWs:W.heap.size=w.heap.size+3:=by rw [hW];simp
 rw [←hW]
 rw [←hW] at b0 D1' D2' r0 r1 r2
 clear hW
 have a0:W.cell? ⟨w.heap.size,0,none⟩=some (.bool nb1):=r0.cell 0
 have a1:W.cell? ⟨w.heap.size,1,none⟩=some (.slice A1 L1 c1):=r0.cell 1
 have a2:W.cell? ⟨w.heap.size,2,none⟩=some (.int .i64 (dx:Int)):=r0.cell 2
 have e0:W.cell? ⟨w.heap.size+1,0,none⟩=some (.bool nb2):=r1.cell 0
 have e1:W.cell? ⟨w.heap.size+1,1,none⟩=some (.slice A2 L2 c2):=r1.cell 1
 have e2:W.cell? ⟨w.heap.size+1,2,none⟩=some (.int .i64 (dy:Int)):=r1.cell 2
 go_at_call 115
 refine (Hn D1' D2' (by omega) l1 l2).mono ?_
 rintro e w2 ⟨rfl,hb2⟩
 have s0:=r0.call hb2
 have s1:=r1.call hb2
 have s2:=r2.call hb2
 have b2:=b0.trans (hb2.mono (by omega))
 replace D1':=D1'.below hb2 (by omega)
 replace D2':=D2'.below hb2 (by omega)
 have hz2:w.heap.size+3≤w2.heap.size:=by have:=hb2.size;omega
 clear r0 r1 r2 b0 a0 a1 a2 e0 e1 e2 hWs hb2
 have a0:w2.cell? ⟨w.heap.size,0,none⟩=some (.bool nb1):=s0.cell 0
 have a1:w2.cell? ⟨w.heap.size,1,none⟩=some (.slice A1 L1 c1):=s0.cell 1
 have a2:w2.cell? ⟨w.heap.size,2,none⟩=some (.int .i64 (dx:Int)):=s0.cell 2
 have e0:w2.cell? ⟨w.heap.size+1,0,none⟩=some (.bool nb2):=s1.cell 0
 have e1:w2.cell? ⟨w.heap.size+1,1,none⟩=some (.slice A2 L2 c2):=s1.cell 1
 have e2:w2.cell? ⟨w.heap.size+1,2,none⟩=some (.int .i64 (dy:Int)):=s1.cell 2
 have f0:=s0.free
 by_cases hc:0<Bm x dx y dy
 ·as_aux_lemma =>
  have HC:=ll hc
  have hodd:=HB2.2
  obtain ⟨cv,hcv⟩:∃ cv,cv=Bm x dx y dy:=⟨_,rfl⟩
  rw [←hcv] at hc
  rw [←hcv]
  have hcb:decide (0<cv)=true:=decide_eq_true hc
  clear hcv HB1 HB2
  go_wp2_with fail
  go_at_call 197
  obtain ⟨W,hW⟩:∃ W,W=((w2.setCell ⟨w.heap.size,0,none⟩ (.bool nb2)).setCell ⟨w.heap.size,1,none⟩ (.slice A2 L2 c2)).setCell ⟨w.heap.size,2,none⟩ (.int .i64 (dy:Int)):=⟨_,rfl⟩
  have rz:BI W (w.heap.size+2) [.bool false,.slice none 0 0,.int .i64 0] 43:=by
   rw [hW]
   exact ((s2.other_ (by omega) _ _).other_ (by omega) _ _).other_ (by omega) _ _
  have bW:Below w.heap.size w W:=by
   rw [hW]
   exact ((b2.setCell (by simp) _).setCell (by simp) _).setCell (by simp) _
  have bX:Below w.heap.size w2 W:=by
   rw [hW]
   exact (((ab _ w2).setCell (by simp) _).setCell (by simp) _).setCell (by simp) _
  have hWs:w.heap.size+3≤W.heap.size:=by rw [hW];simpa using hz2
  rw [←hW]
  clear hW s0 s1 s2 a0 a1 a2 e0 e1 e2 f0 b2
  have D0:DyR W 0 0 (.agg #[.bool false,.slice none 0 0,.int .i64 0]) 0 0:=DyR.zero_ _ _ _
  have hk:SK W (w.heap.size+2) (w.heap.size+2) W:=SK.refl (by omega) ⟨_,_,_,rz⟩
  refine (Nb (D2'.below bX hm) D0 (by omega) (by omega) l2 (by simp [AK])).mono ?_
  rintro e w6 ⟨v6,rfl,D6,hb6⟩
  have hk6:=SK.call hk hb6
  rw [FW hodd] at D6
  have D6':=ll D6
  obtain ⟨nb6,A6,L6,c6,rfl,_⟩:=D6.form
  have hf6:=hk6.lt
  obtain ⟨z0,z1,z2,rw6,k0,k1,k2,kf⟩:=SK.cells hk6
  have b6:=bW.trans (hb6.mono (by omega))
  clear D6 hb6 hk6 hk rz bW
  go_wp2_with fail
  refine bodyPost_ret (AbX rfl (((rw6.set_ 0 _).set_ 1 _).set_ 2 _)) rfl ⟨_,rfl,?_,((b6.setCell (by simp;omega) _).setCell (by simp;omega) _).setCell (by simp;omega) _⟩
  have HE:=((((D6'.out.set_ (b:=w.heap.size+2) (by omega) 0 (.bool nb6)).set_ (b:=w.heap.size+2) (by omega) 1 (.slice A6 L6 c6)).set_ (b:=w.heap.size+2) (by omega) 2 (.int .i64 (dy:Int))).low (show w.heap.size≤W.heap.size by omega))
  have hv:GW x dx y dy=(y,dy):=by
   unfold GW
   exact if_pos (by have:=HC.out;omega)
  rw [hv]
  exact HE.more (by simp)
 ·as_aux_lemma =>
  have HC:=ll hc
  have hodd:=HB1.2
  obtain ⟨cv,hcv⟩:∃ cv,cv=Bm x dx y dy:=⟨_,rfl⟩
  rw [←hcv] at hc
  rw [←hcv]
  have hcb:decide (0<cv)=false:=decide_eq_false hc
  clear hcv HB1 HB2
  go_wp2_with fail
  go_at_call 197
  obtain ⟨W,hW⟩:∃ W,W=w2:=⟨_,rfl⟩
  have rz:=s2
  have bW:=b2
  have hWs:=hz2
  rw [←hW]
  rw [←hW] at rz bW hWs D1' D2'
  clear hW s0 s1 s2 a0 a1 a2 e0 e1 e2 f0 b2
  have D0:DyR W 0 0 (.agg #[.bool false,.slice none 0 0,.int .i64 0]) 0 0:=DyR.zero_ _ _ _
  have hk:SK W (w.heap.size+2) (w.heap.size+2) W:=SK.refl (by omega) ⟨_,_,_,rz⟩
  refine (Nb D1' D0 (by omega) (by omega) l1 (by simp [AK])).mono ?_
  rintro e w6 ⟨v6,rfl,D6,hb6⟩
  have hk6:=SK.call hk hb6
  rw [FW hodd] at D6
  have D6':=ll D6
  obtain ⟨nb6,A6,L6,c6,rfl,_⟩:=D6.form
  have hf6:=hk6.lt
  obtain ⟨z0,z1,z2,rw6,k0,k1,k2,kf⟩:=SK.cells hk6
  have b6:=bW.trans (hb6.mono (by omega))
  clear D6 hb6 hk6 hk rz bW
  go_wp2_with fail
  refine bodyPost_ret (AbX rfl (((rw6.set_ 0 _).set_ 1 _).set_ 2 _)) rfl ⟨_,rfl,?_,((b6.setCell (by simp;omega) _).setCell (by simp;omega) _).setCell (by simp;omega) _⟩
  have HE:=((((D6'.out.set_ (b:=w.heap.size+2) (by omega) 0 (.bool nb6)).set_ (b:=w.heap.size+2) (by omega) 1 (.slice A6 L6 c6)).set_ (b:=w.heap.size+2) (by omega) 2 (.int .i64 (dx:Int))).low (show w.heap.size≤W.heap.size by omega))
  have hv:GW x dx y dy=(x,dx):=by
   unfold GW
   exact if_neg (by have:=HC.out;omega)
  rw [hv]
  exact HE.more (by simp)
theorem AbY (h2:tmps.getD 4 undef=.pointer (some ⟨b,0,none⟩)) (hB:BI w b [v0,v1,v2] 43) :
  (results Tryz.f117 tmps).run prog w=.ok (.agg #[v0,v1,v2]) w:=by
 have k0:=hB.cell 0
 have k1:=hB.cell 1
 have k2:=hB.cell 2
 simp at k0 k1 k2
 simp at h2
 simp [results,results117,go_sem,h2,k0,k1,k2]
theorem AkV {v:Value} {x y:Int} (D1:DyR w lo1 m v x dx) (D2:DyR w lo2 m v2 y dy) (hm:m≤w.heap.size) (l1:(Ac x.natAbs).length≤50000) (l2:(Ac y.natAbs).length≤50000) :
  Calls prog 117 #[v,v2] w fun e w'=>∃ v',e=.returned v'∧DyR w' w.heap.size w'.heap.size v' (FX x dx y dy).1 (FX x dx y dy).2∧Below w.heap.size w w':=by
 have HB1:=D1.bound
 have HB2:=D2.bound
 obtain ⟨nb1,A1,L1,c1,rfl,HD1⟩:=D1.form
 obtain ⟨nb2,A2,L2,c2,rfl,HD2⟩:=D2.form
 have b0:Below w.heap.size w (((w.alloc (.cells #[.bool nb1,.slice A1 L1 c1,.int .i64 (dx:Int)] 43)).alloc (.cells #[.bool nb2,.slice A2 L2 c2,.int .i64 (dy:Int)] 43)).alloc (.cells #[.bool false,.slice none 0 0,.int .i64 0] 43)):=Ap (Ap (Ap (ab _ _) _) _) _
 have D1':=D1.below b0 hm
 have D2':=D2.below b0 hm
 clear D1 D2
 have r2:=BI.new_ ((w.alloc (.cells #[.bool nb1,.slice A1 L1 c1,.int .i64 (dx:Int)] 43)).alloc (.cells #[.bool nb2,.slice A2 L2 c2,.int .i64 (dy:Int)] 43)) [.bool false,.slice none 0 0,.int .i64 0] 43
 have r1:=(BI.new_ (w.alloc (.cells #[.bool nb1,.slice A1 L1 c1,.int .i64 (dx:Int)] 43)) [.bool nb2,.slice A2 L2 c2,.int .i64 (dy:Int)] 43).call ((ab _ _).alloc (aa _) (.cells #[.bool false,.slice none 0 0,.int .i64 0] 43))
 have r0:=((BI.new_ w [.bool nb1,.slice A1 L1 c1,.int .i64 (dx:Int)] 43).call ((ab _ _).alloc (aa _) (.cells #[.bool nb2,.slice A2 L2 c2,.int .i64 (dy:Int)] 43))).call ((ab _ _).alloc (aa _) (.cells #[.bool false,.slice none 0 0,.int .i64 0] 43))
 rw [show ((w.alloc (.cells #[.bool nb1,.slice A1 L1 c1,.int .i64 (dx:Int)] 43)).alloc (.cells #[.bool nb2,.slice A2 L2 c2,.int .i64 (dy:Int)] 43)).heap.size=w.heap.size+2 by simp] at r2
 rw [show (w.alloc (.cells #[.bool nb1,.slice A1 L1 c1,.int .i64 (dx:Int)] 43)).heap.size=w.heap.size+1 by simp] at r1
 go_enter func117,ntmps117
 go_wp2_with fail
 obtain ⟨W,hW⟩:∃ W,W=(((w.alloc (.cells #[.bool nb1,.slice A1 L1 c1,.int .i64 (dx:Int)] 43)).alloc (.cells #[.bool nb2,.slice A2 L2 c2,.int .i64 (dy:Int)] 43)).alloc (.cells #[.bool false,.slice none 0 0,.int .i64 0] 43)):=⟨_,rfl⟩
 have hWs:W.heap.size=w.heap.size+3:=by rw [hW];simp
 rw [←hW]
 rw [←hW] at b0 D1' D2' r0 r1 r2
 clear hW
 have a0:W.cell? ⟨w.heap.size,0,none⟩=some (.bool nb1):=r0.cell 0
 have a1:W.cell? ⟨w.heap.size,1,none⟩=some (.slice A1 L1 c1):=r0.cell 1
 have a2:W.cell? ⟨w.heap.size,2,none⟩=some (.int .i64 (dx:Int)):=r0.cell 2
 have e0:W.cell? ⟨w.heap.size+1,0,none⟩=some (.bool nb2):=r1.cell 0
 have e1:W.cell? ⟨w.heap.size+1,1,none⟩=some (.slice A2 L2 c2):=r1.cell 1
 have e2:W.cell? ⟨w.heap.size+1,2,none⟩=some (.int .i64 (dy:Int)):=r1.cell 2
 go_at_call 115
 refine (Hn D1' D2' (by omega) l1 l2).mono ?_
 rintro e w2 ⟨rfl,hb2⟩
 have s0:=r0.call hb2
 have s1:=r1.call hb2
 have s2:=r2.call hb2
 have b2:=b0.trans (hb2.mono (by omega))
 replace D1':=D1'.below hb2 (by omega)
 replace D2':=D2'.below hb2 (by omega)
 have hz2:w.heap.size+3≤w2.heap.size:=by have:=hb2.size;omega
 clear r0 r1 r2 b0 a0 a1 a2 e0 e1 e2 hWs hb2
 have a0:w2.cell? ⟨w.heap.size,0,none⟩=some (.bool nb1):=s0.cell 0
 have a1:w2.cell? ⟨w.heap.size,1,none⟩=some (.slice A1 L1 c1):=s0.cell 1
 have a2:w2.cell? ⟨w.heap.size,2,none⟩=some (.int .i64 (dx:Int)):=s0.cell 2
 have e0:w2.cell? ⟨w.heap.size+1,0,none⟩=some (.bool nb2):=s1.cell 0
 have e1:w2.cell? ⟨w.heap.size+1,1,none⟩=some (.slice A2 L2 c2):=s1.cell 1
 have e2:w2.cell? ⟨w.heap.size+1,2,none⟩=some (.int .i64 (dy:Int)):=s1.cell 2
 have f0:=s0.free
 by_cases hc:Bm x dx y dy<0
 ·as_aux_lemma =>
  have HC:=ll hc
  have hodd:=HB2.2
  obtain ⟨cv,hcv⟩:∃ cv,cv=Bm x dx y dy:=⟨_,rfl⟩
  rw [←hcv] at hc
  rw [←hcv]
  have hcb:decide (cv<0)=true:=decide_eq_true hc
  clear hcv HB1 HB2
  go_wp2_with fail
  go_at_call 197
  obtain ⟨W,hW⟩:∃ W,W=((w2.setCell ⟨w.heap.size,0,none⟩ (.bool nb2)).setCell ⟨w.heap.size,1,none⟩ (.slice A2 L2 c2)).setCell ⟨w.heap.size,2,none⟩ (.int .i64 (dy:Int)):=⟨_,rfl⟩
  have rz:BI W (w.heap.size+2) [.bool false,.slice none 0 0,.int .i64 0] 43:=by
   rw [hW]
   exact ((s2.other_ (by omega) _ _).other_ (by omega) _ _).other_ (by omega) _ _
  have bW:Below w.heap.size w W:=by
   rw [hW]
   exact ((b2.setCell (by simp) _).setCell (by simp) _).setCell (by simp) _
  have bX:Below w.heap.size w2 W:=by
   rw [hW]
   exact (((ab _ w2).setCell (by simp) _).setCell (by simp) _).setCell (by simp) _
  have hWs:w.heap.size+3≤W.heap.size:=by rw [hW];simpa using hz2
  rw [←hW]
  clear hW s0 s1 s2 a0 a1 a2 e0 e1 e2 f0 b2
  have D0:DyR W 0 0 (.agg #[.bool false,.slice none 0 0,.int .i64 0]) 0 0:=DyR.zero_ _ _ _
  have hk:SK W (w.heap.size+2) (w.heap.size+2) W:=SK.refl (by omega) ⟨_,_,_,rz⟩
  refine (Nb (D2'.below bX hm) D0 (by omega) (by omega) l2 (by simp [AK])).mono ?_
  rintro e w6 ⟨v6,rfl,D6,hb6⟩
  have hk6:=SK.call hk hb6
  rw [FW hodd] at D6
  have D6':=ll D6
  obtain ⟨nb6,A6,L6,c6,rfl,_⟩:=D6.form
  have hf6:=hk6.lt
  obtain ⟨z0,z1,z2,rw6,k0,k1,k2,kf⟩:=SK.cells hk6
  have b6:=bW.trans (hb6.mono (by omega))
  clear D6 hb6 hk6 hk rz bW
  go_wp2_with fail
  refine bodyPost_ret (AbY rfl (((rw6.set_ 0 _).set_ 1 _).set_ 2 _)) rfl ⟨_,rfl,?_,((b6.setCell (by simp;omega) _).setCell (by simp;omega) _).setCell (by simp;omega) _⟩
  have HE:=((((D6'.out.set_ (b:=w.heap.size+2) (by omega) 0 (.bool nb6)).set_ (b:=w.heap.size+2) (by omega) 1 (.slice A6 L6 c6)).set_ (b:=w.heap.size+2) (by omega) 2 (.int .i64 (dy:Int))).low (show w.heap.size≤W.heap.size by omega))
  have hv:FX x dx y dy=(y,dy):=by
   unfold FX
   exact if_pos (by have:=HC.out;omega)
  rw [hv]
  exact HE.more (by simp)
 ·as_aux_lemma =>
  have HC:=ll hc
  have hodd:=HB1.2
  obtain ⟨cv,hcv⟩:∃ cv,cv=Bm x dx y dy:=⟨_,rfl⟩
  rw [←hcv] at hc
  rw [←hcv]
  have hcb:decide (cv<0)=false:=decide_eq_false hc
  clear hcv HB1 HB2
  go_wp2_with fail
  go_at_call 197
  obtain ⟨W,hW⟩:∃ W,W=w2:=⟨_,rfl⟩
  have rz:=s2
  have bW:=b2
  have hWs:=hz2
  rw [←hW]
  rw [←hW] at rz bW hWs D1' D2'
  clear hW s0 s1 s2 a0 a1 a2 e0 e1 e2 f0 b2
  have D0:DyR W 0 0 (.agg #[.bool false,.slice none 0 0,.int .i64 0]) 0 0:=DyR.zero_ _ _ _
  have hk:SK W (w.heap.size+2) (w.heap.size+2) W:=SK.refl (by omega) ⟨_,_,_,rz⟩
  refine (Nb D1' D0 (by omega) (by omega) l1 (by simp [AK])).mono ?_
  rintro e w6 ⟨v6,rfl,D6,hb6⟩
  have hk6:=SK.call hk hb6
  rw [FW hodd] at D6
  have D6':=ll D6
  obtain ⟨nb6,A6,L6,c6,rfl,_⟩:=D6.form
  have hf6:=hk6.lt
  obtain ⟨z0,z1,z2,rw6,k0,k1,k2,kf⟩:=SK.cells hk6
  have b6:=bW.trans (hb6.mono (by omega))
  clear D6 hb6 hk6 hk rz bW
  go_wp2_with fail
  refine bodyPost_ret (AbY rfl (((rw6.set_ 0 _).set_ 1 _).set_ 2 _)) rfl ⟨_,rfl,?_,((b6.setCell (by simp;omega) _).setCell (by simp;omega) _).setCell (by simp;omega) _⟩
  have HE:=((((D6'.out.set_ (b:=w.heap.size+2) (by omega) 0 (.bool nb6)).set_ (b:=w.heap.size+2) (by omega) 1 (.slice A6 L6 c6)).set_ (b:=w.heap.size+2) (by omega) 2 (.int .i64 (dx:Int))).low (show w.heap.size≤W.heap.size by omega))
  have hv:FX x dx y dy=(x,dx):=by
   unfold FX
   exact if_neg (by have:=HC.out;omega)
  rw [hv]
  exact HE.more (by simp)
theorem Uf (h2:tmps.getD 4 undef=.pointer (some ⟨b,0,none⟩)) (hB:BI w b [v0,v1,v2] 43) :
  (results Tryz.f33 tmps).run prog w=.ok (.agg #[v0,v1,v2]) w:=by
 have k0:=hB.cell 0
 have k1:=hB.cell 1
 have k2:=hB.cell 2
 simp at k0 k1 k2
 simp at h2
 simp [results,results33,go_sem,h2,k0,k1,k2]
theorem AfG (h:p:=by
 rw [hW]
 exact ((s1.other_ (by omega) _ _).other_ (by omega) _ _).other_ (by omega) _ _):p:=h
theorem AbZ (h:p:=by
 rw [hW]
 exact ((s0.set_ 0 _).set_ 1 _).set_ 2 _):p:=h
theorem Nc {v:Value} {x:Int} {n:Int} (D:DyR w lo m v x d) (hm:m≤w.heap.size) (hl:(Ac x.natAbs).length≤50000) (hd:(d:Int) - max (-65536) (min n 65536)≤65536) :
    Calls prog 33 #[v,.int .i64 n] w fun e w'=>∃ v',e=.returned v'∧DyR w' w.heap.size w'.heap.size v' (Af x d n).1 (Af x d n).2∧Below w.heap.size w w':=by
  obtain ⟨nn,hnn⟩:∃ nn:Int,max (-65536) (min n 65536)=nn:=⟨_,rfl⟩
  have hb1 : -65536≤nn:=by omega
  have hb2:nn≤65536:=by omega
  rw [hnn] at hd
  by_cases hneg:nn<0
  · as_aux_lemma =>
    obtain ⟨p,hp⟩:∃ p:Nat,p=d+(-nn).toNat:=⟨_,rfl⟩
    have HV := ll (show Af x d n = nf x p by unfold Af; rw [hnn, if_pos hneg, ← hp])
    have hpp:(d:Int) - nn=(p:Int):=by omega
    have hp6:p≤65536:=by omega
    clear hp
    obtain ⟨nb,A,L,c,rfl,HD⟩:=D.form
    have D':=ll D
    clear D
    have b0:Below w.heap.size w ((w.alloc (.cells #[.bool nb,.slice A L c,.int .i64 (d:Int)] 43)).alloc (.cells #[.bool false,.slice none 0 0,.int .i64 0] 43)):=Ap (Ap (ab _ _) _) _
    have r0:=(BI.new_ w [.bool nb,.slice A L c,.int .i64 (d:Int)] 43).call ((ab _ _).alloc (aa _) (.cells #[.bool false,.slice none 0 0,.int .i64 0] 43))
    have r1:=(BI.new_ (w.alloc (.cells #[.bool nb,.slice A L c,.int .i64 (d:Int)] 43)) [.bool false,.slice none 0 0,.int .i64 0] 43)
    rw [show (w.alloc (.cells #[.bool nb,.slice A L c,.int .i64 (d:Int)] 43)).heap.size=w.heap.size+1 by simp] at r1
    go_enter func33,ntmps33
    go_wp2_with fail
    go_at_call 76
    refine (IW (D'.out.below b0 hm) (by simp;omega) (by omega)).mono ?_
    rintro e w1 ⟨rfl,hb⟩
    have s0:=r0.below hb (by simp;omega)
    have s1:=r1.below hb (by simp)
    have b1:=b0.trans (hb.mono (by simp;omega))
    have D1:=ll (D'.out.below b1 hm)
    have hz1:w.heap.size+2≤w1.heap.size:=by simpa using hb.size
    clear hb r0 r1 b0
    have k0:w1.cell? ⟨w.heap.size,0,none⟩=some (.bool nb):=s0.cell 0
    have k1:w1.cell? ⟨w.heap.size,1,none⟩=some (.slice A L c):=s0.cell 1
    have k2:w1.cell? ⟨w.heap.size,2,none⟩=some (.int .i64 (d:Int)):=s0.cell 2
    have kf:=s0.free
    go_wp2_with fail
    go_at_call 77
    obtain ⟨W,hW⟩:∃ W,W=((w1.setCell ⟨w.heap.size,0,none⟩ (.bool nb)).setCell ⟨w.heap.size,1,none⟩ (.slice A L c)).setCell ⟨w.heap.size,2,none⟩ (.int .i64 (d:Int)):=⟨_,rfl⟩
    have hWs:w.heap.size+2≤W.heap.size:=by rw [hW];simpa using hz1
    have b2:Below w.heap.size w W:=by rw [hW];exact ((b1.setCell (by simp) _).setCell (by simp) _).setCell (by simp) _
    have t0:BI W w.heap.size [.bool nb,.slice A L c,.int .i64 (d:Int)] 43:=by
      exact AbZ
    have t1:BI W (w.heap.size+1) [.bool false,.slice none 0 0,.int .i64 0] 43:=by
      exact AfG
    have X:WdR W m (.slice A L c) x.natAbs:=(D'.out.below b2 hm).words
    rw [←hW]
    clear hW s0 s1 b1 k0 k1 k2 kf hz1 D1
    have k0:W.cell? ⟨w.heap.size,0,none⟩=some (.bool nb):=t0.cell 0
    have k1:W.cell? ⟨w.heap.size,1,none⟩=some (.slice A L c):=t0.cell 1
    have k2:W.cell? ⟨w.heap.size,2,none⟩=some (.int .i64 (d:Int)):=t0.cell 2
    refine (EW X (by omega) (by omega) hp6).mono ?_
    rintro e w3 ⟨v',rfl,D3,hb3⟩
    rw [HD.out.1,Ru,←HV.out] at D3
    have b3:=b2.trans (hb3.mono (by omega))
    have u1:=t1.call hb3
    have hu1:=u1.lt
    obtain ⟨nb3,A3,L3,c3,rfl,_⟩:=D3.form
    have D3':=ll D3
    have q0:w3.cell? ⟨w.heap.size+1,0,none⟩=some (.bool false):=u1.cell 0
    have q1:w3.cell? ⟨w.heap.size+1,1,none⟩=some (.slice none 0 0):=u1.cell 1
    have q2:w3.cell? ⟨w.heap.size+1,2,none⟩=some (.int .i64 0):=u1.cell 2
    have qf:=u1.free
    clear D3 hb3 t0 t1 b2 X
    go_wp2_with fail
    refine bodyPost_ret (Uf rfl (((u1.set_ 0 _).set_ 1 _).set_ 2 _)) rfl ⟨_,rfl,?_,((b3.setCell (by simp) _).setCell (by simp) _).setCell (by simp) _⟩
    exact AbU
  · as_aux_lemma =>
    obtain ⟨p,hp⟩:∃ p:Nat,nn=(p:Int):=⟨nn.toNat,by omega⟩
    subst hp
    have HV := ll (show Af x d n = nf (x * 2 ^ p) d by unfold Af; rw [hnn, if_neg hneg]; rfl)
    have hneg':¬ (p:Int)<0:=by omega
    have hn2:decide ((p:Int)<0)=false:=decide_eq_false hneg'
    have hp6:p≤1000000:=by omega
    clear hneg
    obtain ⟨nb,A,L,c,rfl,HD⟩:=D.form
    have D':=ll D
    clear D
    have b0:Below w.heap.size w ((w.alloc (.cells #[.bool nb,.slice A L c,.int .i64 (d:Int)] 43)).alloc (.cells #[.bool false,.slice none 0 0,.int .i64 0] 43)):=Ap (Ap (ab _ _) _) _
    have r0:=(BI.new_ w [.bool nb,.slice A L c,.int .i64 (d:Int)] 43).call ((ab _ _).alloc (aa _) (.cells #[.bool false,.slice none 0 0,.int .i64 0] 43))
    have r1:=(BI.new_ (w.alloc (.cells #[.bool nb,.slice A L c,.int .i64 (d:Int)] 43)) [.bool false,.slice none 0 0,.int .i64 0] 43)
    rw [show (w.alloc (.cells #[.bool nb,.slice A L c,.int .i64 (d:Int)] 43)).heap.size=w.heap.size+1 by simp] at r1
    go_enter func33,ntmps33
    go_wp2_with fail
    go_at_call 76
    refine (IW (D'.out.below b0 hm) (by simp;omega) (by omega)).mono ?_
    rintro e w1 ⟨rfl,hb⟩
    have s0:=r0.below hb (by simp;omega)
    have s1:=r1.below hb (by simp)
    have b1:=b0.trans (hb.mono (by simp;omega))
    have D1:=ll (D'.out.below b1 hm)
    have hz1:w.heap.size+2≤w1.heap.size:=by simpa using hb.size
    clear hb r0 r1 b0
    have k0:w1.cell? ⟨w.heap.size,0,none⟩=some (.bool nb):=s0.cell 0
    have k1:w1.cell? ⟨w.heap.size,1,none⟩=some (.slice A L c):=s0.cell 1
    have k2:w1.cell? ⟨w.heap.size,2,none⟩=some (.int .i64 (d:Int)):=s0.cell 2
    have kf:=s0.free
    have hd6:=HD.out.2.2.2.2.2.1
    have hval:nf (sg nb (x.natAbs*2 ^ p)) d=Af x d n:=by rw [HD.out.1,Xa,HV.out]
    have HVAL:=ll hval
    have hlen:(Ac (x.natAbs*2 ^ p)).length≤100000:=by
      have:=Bz x.natAbs p
      omega
    clear hval
    go_wp2_with fail
    obtain ⟨W,hW⟩:∃ W,W=((w1.setCell ⟨w.heap.size,0,none⟩ (.bool nb)).setCell ⟨w.heap.size,1,none⟩ (.slice A L c)).setCell ⟨w.heap.size,2,none⟩ (.int .i64 (d:Int)):=⟨_,rfl⟩
    have hWs:w.heap.size+2≤W.heap.size:=by rw [hW];simpa using hz1
    have b2:Below w.heap.size w W:=by rw [hW];exact ((b1.setCell (by simp) _).setCell (by simp) _).setCell (by simp) _
    have t0:BI W w.heap.size [.bool nb,.slice A L c,.int .i64 (d:Int)] 43:=by
      exact AbZ
    have t1:BI W (w.heap.size+1) [.bool false,.slice none 0 0,.int .i64 0] 43:=by
      exact AfG
    have X:WdR W m (.slice A L c) x.natAbs:=(D'.out.below b2 hm).words
    rw [←hW]
    clear hW s0 s1 b1 k0 k1 k2 kf hz1 D1
    have k0:W.cell? ⟨w.heap.size,0,none⟩=some (.bool nb):=t0.cell 0
    have k1:W.cell? ⟨w.heap.size,1,none⟩=some (.slice A L c):=t0.cell 1
    have k2:W.cell? ⟨w.heap.size,2,none⟩=some (.int .i64 (d:Int)):=t0.cell 2
    have hle:m≤w.heap.size+1:=by omega
    have hk:SK W (w.heap.size+1) (w.heap.size+1) W:=SK.refl (by omega) ⟨_,_,_,t1⟩
    go_region_held3 (fun w'=>(∀ b o,b<w.heap.size+1→w'.cell? ⟨b,o,none⟩=W.cell? ⟨b,o,none⟩)∧SK W (w.heap.size+1) (w.heap.size+1) w')
      (first
      | (refine SK.all ?_
         first
           | assumption
           | exact hk
           | exact hk.drew
           | exact ((SK.set (by assumption) (by omega) _ _).set (by omega) _ _).set (by omega) _ _))
      (first
        | (go_at_call 78;refine (AbV (X.below (ab m W).drew (aa _)) (by simp;omega) (by omega) hp6).mono ?_;(rintro e w5 ⟨v5,rfl,D5,hb5⟩;have hk5:=SK.call hk.drew hb5;have hf5:=hk5.lt;obtain ⟨A5,L5,c5,rfl⟩:=D5.form))
        | (go_at_call 77;refine (EW D5 (aa _) hlen hd6).mono ?_;(rintro e w6 ⟨v6,rfl,D6,hb6⟩;have hk6:=SK.call hk5 hb6;have hf6:=hk6.lt;rw [HVAL.out] at D6;obtain ⟨nb6,A9,L9,c9,rfl,_⟩:=D6.form;obtain ⟨z0,z1,z2,rz,k0,k1,k2,kf⟩:=SK.cells hk6)))
    go_wp2_with fail
    refine bodyPost_ret (Uf rfl (((rz.set_ 0 _).set_ 1 _).set_ 2 _)) rfl ⟨_,rfl,?_,(((b2.trans (hk6.is.mono (by omega))).setCell (by simp) _).setCell (by simp) _).setCell (by simp) _⟩
    exact ((((D6.set_ (by omega) 0 _).set_ (by omega) 1 _).set_ (by omega) 2 _).low (by omega)).more (by simp)
theorem Aca {v5:Value} (h2:tmps.getD 4 undef=.pointer (some ⟨b,0,none⟩)) (h5:tmps.getD 5 undef=v5) (hB:BI w b [v0,v1,v2] 43) :
  (results Tryz.f177 tmps).run prog w=.ok (.tuple #[.agg #[v0,v1,v2],v5]) w:=by
 have k0:=hB.cell 0
 have k1:=hB.cell 1
 have k2:=hB.cell 2
 simp at k0 k1 k2
 simp at h2 h5
 simp [results,results177,go_sem,h2,h5,k0,k1,k2]
theorem AkW {v:Value} {k:Nat} (h:WdR w m v n) (hm:m≤w.heap.size) (hl:(Ac n).length≤100000) (hk:k≤1000000) :
  Calls prog 165 #[v,.int .i64 (k:Int)] w fun e w'=>∃ v',e=.returned (.tuple #[v',.bool (NW n k)])∧WdR w' w'.heap.size v' (n / 2 ^ k)∧Below w.heap.size w w':=by
 obtain ⟨A,c,rfl,h1,h2,h3⟩:=h
 refine (Pf A (Ac n) c k m w hm h3 (AE n) hl hk).mono ?_
 rintro e w' ⟨G,g,rfl,g1,g2,g3,hb⟩
 rw [Ao] at g2 g3 ⊢
 exact AfF
theorem AfH (h:p:=by
 obtain ⟨nb3,A3,L3,c3,rfl,_⟩:=D3.form
 have D3':=ll D3
 have q0:w3.cell? ⟨w.heap.size+1,0,none⟩=some (.bool false):=u1.cell 0
 have q1:w3.cell? ⟨w.heap.size+1,1,none⟩=some (.slice none 0 0):=u1.cell 1
 have q2:w3.cell? ⟨w.heap.size+1,2,none⟩=some (.int .i64 0):=u1.cell 2
 have qf:=u1.free
 clear D3 hb3
 go_wp2_with fail
 refine bodyPost_ret (Aca rfl  rfl (((u1.set_ 0 _).set_ 1 _).set_ 2 _)) rfl ⟨_,rfl,?_,((b3.setCell (by simp) _).setCell (by simp) _).setCell (by simp) _⟩
 exact ((((D3'.out.set_ (by omega) 0 _).set_ (by omega) 1 _).set_ (by omega) 2 _).low (by omega)).more (by simp)):p:=h
theorem Ug {v:Value} {x:Int} {den:Nat} (D:DyR w lo m v x d) (hm:m≤w.heap.size) (hl:(Ac x.natAbs).length≤50000) (hden:den≤65536) :
  Calls prog 177 #[v,.int .i64 (den:Int)] w fun e w'=>∃ v',e=.returned (.tuple #[v',.int .i64 0])∧DyR w' w.heap.size w'.heap.size v' (Bo x d den).1 (Bo x d den).2∧Below w.heap.size w w':=by
 have n1:decide ((den:Int)<0)=false:=decide_eq_false (by omega)
 have n2:decide ((65536:Int)<(den:Int))=false:=decide_eq_false (by omega)
 have n3:¬ (den:Int)<0:=by omega
 have n4:¬ (65536:Int)<(den:Int):=by omega
 have hdr:=D.bound
 by_cases hle:d≤den
 ·as_aux_lemma =>
  have HV:=ll (show Bo x d den=(x,d) from if_pos hle)
  have n5:(d:Int)≤(den:Int):=by omega
  obtain ⟨nb,A,L,c,rfl,HD⟩:=D.form
  have D':=ll D
  clear D
  have b0:Below w.heap.size w ((w.alloc (.cells #[.bool nb,.slice A L c,.int .i64 (d:Int)] 43)).alloc (.cells #[.bool false,.slice none 0 0,.int .i64 0] 43)):=Ap (Ap (ab _ _) _) _
  have r0:=(BI.new_ w [.bool nb,.slice A L c,.int .i64 (d:Int)] 43).call ((ab _ _).alloc (aa _) (.cells #[.bool false,.slice none 0 0,.int .i64 0] 43))
  have r1:=(BI.new_ (w.alloc (.cells #[.bool nb,.slice A L c,.int .i64 (d:Int)] 43)) [.bool false,.slice none 0 0,.int .i64 0] 43)
  rw [show (w.alloc (.cells #[.bool nb,.slice A L c,.int .i64 (d:Int)] 43)).heap.size=w.heap.size+1 by simp] at r1
  go_enter func177,ntmps177
  go_wp2_with fail
  go_at_call 76
  refine (IW (D'.out.below b0 hm) (by simp;omega) (by omega)).mono ?_
  rintro e w1 ⟨rfl,hb⟩
  have s0:=r0.below hb (by simp;omega)
  have s1:=r1.below hb (by simp)
  have b1:=b0.trans (hb.mono (by simp;omega))
  have D1:=ll (D'.out.below b1 hm)
  have hz1:w.heap.size+2≤w1.heap.size:=by simpa using hb.size
  clear hb r0 r1 b0
  have k0:w1.cell? ⟨w.heap.size,0,none⟩=some (.bool nb):=s0.cell 0
  have k1:w1.cell? ⟨w.heap.size,1,none⟩=some (.slice A L c):=s0.cell 1
  have k2:w1.cell? ⟨w.heap.size,2,none⟩=some (.int .i64 (d:Int)):=s0.cell 2
  have kf:=s0.free
  go_wp2_with fail
  go_at_call 77
  obtain ⟨W,hW⟩:∃ W,W=((w1.setCell ⟨w.heap.size,0,none⟩ (.bool nb)).setCell ⟨w.heap.size,1,none⟩ (.slice A L c)).setCell ⟨w.heap.size,2,none⟩ (.int .i64 (d:Int)):=⟨_,rfl⟩
  have hWs:w.heap.size+2≤W.heap.size:=by rw [hW];simpa using hz1
  have b2:Below w.heap.size w W:=by rw [hW];exact ((b1.setCell (by simp) _).setCell (by simp) _).setCell (by simp) _
  have t0:BI W w.heap.size [.bool nb,.slice A L c,.int .i64 (d:Int)] 43:=by
   exact AbZ
  have t1:BI W (w.heap.size+1) [.bool false,.slice none 0 0,.int .i64 0] 43:=by
   exact AfG
  have X:WdR W m (.slice A L c) x.natAbs:=(D'.out.below b2 hm).words
  rw [←hW]
  clear hW s0 s1 b1 k0 k1 k2 kf hz1 D1
  have k0:W.cell? ⟨w.heap.size,0,none⟩=some (.bool nb):=t0.cell 0
  have k1:W.cell? ⟨w.heap.size,1,none⟩=some (.slice A L c):=t0.cell 1
  have k2:W.cell? ⟨w.heap.size,2,none⟩=some (.int .i64 (d:Int)):=t0.cell 2
  refine (EW X (by omega) (by omega) hdr.1).mono ?_
  rintro e w3 ⟨v',rfl,D3,hb3⟩
  rw [HD.out.1,Ru,FO hdr.2,←HV.out] at D3
  have b3:=b2.trans (hb3.mono (by omega))
  have u1:=t1.call hb3
  have hu1:=u1.lt
  exact AfH
 ·as_aux_lemma =>
  have n5:¬ (d:Int)≤(den:Int):=by omega
  obtain ⟨k,hk⟩:∃ k:Nat,k=d - den:=⟨_,rfl⟩
  have HV:=ll (show Bo x d den=nf (x / 2 ^ k) den by rw [hk];exact if_neg hle)
  have n6:(d:Int) - (den:Int)=(k:Int):=by omega
  have hk6:k≤1000000:=by omega
  have hln:(Ac (x.natAbs / 2 ^ k)).length≤50000:=lT (AQ (im _ _)) hl
  clear hk
  obtain ⟨nb,A,L,c,rfl,HD⟩:=D.form
  have D':=ll D
  clear D
  have b0:Below w.heap.size w ((w.alloc (.cells #[.bool nb,.slice A L c,.int .i64 (d:Int)] 43)).alloc (.cells #[.bool false,.slice none 0 0,.int .i64 0] 43)):=Ap (Ap (ab _ _) _) _
  have r0:=(BI.new_ w [.bool nb,.slice A L c,.int .i64 (d:Int)] 43).call ((ab _ _).alloc (aa _) (.cells #[.bool false,.slice none 0 0,.int .i64 0] 43))
  have r1:=(BI.new_ (w.alloc (.cells #[.bool nb,.slice A L c,.int .i64 (d:Int)] 43)) [.bool false,.slice none 0 0,.int .i64 0] 43)
  rw [show (w.alloc (.cells #[.bool nb,.slice A L c,.int .i64 (d:Int)] 43)).heap.size=w.heap.size+1 by simp] at r1
  go_enter func177,ntmps177
  go_wp2_with fail
  go_at_call 76
  refine (IW (D'.out.below b0 hm) (by simp;omega) (by omega)).mono ?_
  rintro e w1 ⟨rfl,hb⟩
  have s0:=r0.below hb (by simp;omega)
  have s1:=r1.below hb (by simp)
  have b1:=b0.trans (hb.mono (by simp;omega))
  have D1:=ll (D'.out.below b1 hm)
  have hz1:w.heap.size+2≤w1.heap.size:=by simpa using hb.size
  clear hb r0 r1 b0
  have k0:w1.cell? ⟨w.heap.size,0,none⟩=some (.bool nb):=s0.cell 0
  have k1:w1.cell? ⟨w.heap.size,1,none⟩=some (.slice A L c):=s0.cell 1
  have k2:w1.cell? ⟨w.heap.size,2,none⟩=some (.int .i64 (d:Int)):=s0.cell 2
  have kf:=s0.free
  go_wp2_with fail
  go_at_call 165
  obtain ⟨W,hW⟩:∃ W,W=((w1.setCell ⟨w.heap.size,0,none⟩ (.bool nb)).setCell ⟨w.heap.size,1,none⟩ (.slice A L c)).setCell ⟨w.heap.size,2,none⟩ (.int .i64 (d:Int)):=⟨_,rfl⟩
  have hWs:w.heap.size+2≤W.heap.size:=by rw [hW];simpa using hz1
  have b2:Below w.heap.size w W:=by rw [hW];exact ((b1.setCell (by simp) _).setCell (by simp) _).setCell (by simp) _
  have t0:BI W w.heap.size [.bool nb,.slice A L c,.int .i64 (d:Int)] 43:=by
   exact AbZ
  have t1:BI W (w.heap.size+1) [.bool false,.slice none 0 0,.int .i64 0] 43:=by
   exact AfG
  have X:WdR W m (.slice A L c) x.natAbs:=(D'.out.below b2 hm).words
  rw [←hW]
  clear hW s0 s1 b1 k0 k1 k2 kf hz1 D1
  have k0:W.cell? ⟨w.heap.size,0,none⟩=some (.bool nb):=t0.cell 0
  have k1:W.cell? ⟨w.heap.size,1,none⟩=some (.slice A L c):=t0.cell 1
  have k2:W.cell? ⟨w.heap.size,2,none⟩=some (.int .i64 (d:Int)):=t0.cell 2
  refine (AkW X (by omega) (by omega) hk6).mono ?_
  rintro e w4 ⟨v4,rfl,Y,hb4⟩
  obtain ⟨A4,L4,c4,rfl⟩:=Y.form
  have t1':=t1.call hb4
  have t0':=t0.call hb4
  have hz4:w.heap.size+2≤w4.heap.size:=by have:=hb4.size;omega
  have b4:=b2.trans (hb4.mono (by omega))
  clear t0 t1 b2 k0 k1 k2 hb4
  have k0:w4.cell? ⟨w.heap.size,0,none⟩=some (.bool nb):=t0'.cell 0
  obtain ⟨cb,hcb⟩:∃ cb,cb=NW x.natAbs k:=⟨_,rfl⟩
  rw [←hcb]
  have HC:=ll hcb
  clear hcb
  have hnb:=HD.out.1
  cases nb with
  | false =>
   as_aux_lemma =>
   have hx:0≤x:=by simpa using hnb.symm
   have HX:=ll hx
   clear hnb hx
   have t1:=t1'
   have b2:=b4
   have hWs:=hz4
   clear t1' t0' b4 hz4
   go_wp2_with fail
   go_at_call 77
   refine (EW Y (by omega) (by omega) hden).mono ?_
   rintro e w3 ⟨v',rfl,D3,hb3⟩
   rw [Ahn HX.out,←HV.out] at D3
   have b3:=b2.trans (hb3.mono (by omega))
   have u1:=t1.call hb3
   have hu1:=u1.lt
   exact AfH
  | true =>
   have hx:x<0:=by simpa using hnb.symm
   have HX:=ll hx
   clear hnb hx
   cases cb with
   | false =>
    as_aux_lemma =>
    have t1:=t1'
    have b2:=b4
    have hWs:=hz4
    clear t1' t0' b4 hz4
    go_wp2_with fail
    go_at_call 77
    refine (EW Y (by omega) (by omega) hden).mono ?_
    rintro e w3 ⟨v',rfl,D3,hb3⟩
    rw [AmW HX.out HC.out.symm,←HV.out] at D3
    have b3:=b2.trans (hb3.mono (by omega))
    have u1:=t1.call hb3
    have hu1:=u1.lt
    exact AfH
   | true =>
    as_aux_lemma =>
    have hln2:(Ac (x.natAbs / 2 ^ k+1)).length≤100000:=by
     have:=DX (x.natAbs / 2 ^ k) 1
     have e1:(Ac 1).length=1:=by rw [Dl (by decide),show 1 / 4294967296=0 by decide,AK];rfl
     omega
    go_wp2_with fail
    go_at_call 215
    have c1:WdR (w4.alloc (.cells #[.int .u32 1] 143)) (w4.heap.size+1) (.slice (some ⟨w4.heap.size,0,none⟩) 1 1) 1:=by
     have e1:Ac 1=[1]:=by rw [Dl (by decide),show 1 / 4294967296=0 by decide,AK]
     refine ⟨some ⟨w4.heap.size,0,none⟩,1,by rw [e1];rfl,by simp,by rw [e1];exact aa _,?_⟩
     rw [e1]
     exact (BI.new_ w4 (w32 [1]) 143).cells_ (by omega)
    refine (AhD (Y.below ((ab _ w4).alloc (aa _) _) (aa _)) c1 (by simp) (by simp) (by omega) (by rw [Dl (by decide),show 1 / 4294967296=0 by decide,AK];simp)).mono ?_
    rintro e w5 ⟨v5,rfl,Z,hb5⟩
    obtain ⟨A5,L5,c5,rfl⟩:=Z.form
    have ba:=(ab w4.heap.size w4).alloc (aa _) (.cells #[.int .u32 1] 143)
    have bb:=ba.trans (hb5.mono (by simp))
    have t1:=t1'.call bb
    have t0:=t0'.call bb
    have b2:=b4.trans (bb.mono (by omega))
    have hWs:w.heap.size+2≤w5.heap.size:=by have:=bb.size;omega
    have m0:w5.cell? ⟨w.heap.size,0,none⟩=some (.bool true):=t0.cell 0
    clear t1' t0' b4 hz4 ba bb hb5 k0
    go_wp2_with fail
    go_at_call 77
    refine (EW Z (by omega) hln2 hden).mono ?_
    rintro e w3 ⟨v',rfl,D3,hb3⟩
    rw [Qv HX.out HC.out.symm,←HV.out] at D3
    have b3:=b2.trans (hb3.mono (by omega))
    have u1:=t1.call hb3
    have hu1:=u1.lt
    exact AfH
theorem AkX {v:Value} {x:Int} (D:DyR w lo m v x 0) (hm:m≤w.heap.size) (h1 : -9223372036854775808≤x) (h2:x<9223372036854775808) :
  Calls prog 225 #[v] w fun e w'=>e=.returned (.tuple #[.int .i64 x,.bool true])∧Below w.heap.size w w':=by
 have hl:(Ac x.natAbs).length≤2:=Aw (by omega)
 obtain ⟨nb,A,L,c,rfl,HD⟩:=D.form
 have D':=ll D
 have b0:Below w.heap.size w (w.alloc (.cells #[.bool nb,.slice A L c,.int .i64 0] 43)):=Ap (ab _ _) _
 have r0:=BI.new_ w [.bool nb,.slice A L c,.int .i64 0] 43
 have hL:L=(Ac x.natAbs).length:=HD.out.2.1
 have hL2:(L:Int)≤2:=by omega
 have hL3:¬ (2:Int)<(L:Int):=by omega
 have hL4:decide ((2:Int)<(L:Int))=false:=decide_eq_false hL3
 have HL:=ll hL
 clear D hL
 go_enter func225,ntmps225
 go_wp2_with fail
 go_at_call 76
 refine (IW (D'.out.below b0 hm) (by simp;omega) (by omega)).mono ?_
 rintro e w1 ⟨rfl,hb⟩
 have s0:=r0.below hb (by simp)
 have b1:=b0.trans (hb.mono (by simp))
 clear hb r0 b0
 have k0:w1.cell? ⟨w.heap.size,0,none⟩=some (.bool nb):=s0.cell 0
 have k1:w1.cell? ⟨w.heap.size,1,none⟩=some (.slice A L c):=s0.cell 1
 have k2:w1.cell? ⟨w.heap.size,2,none⟩=some (.int .i64 0):=s0.cell 2
 have kf:=s0.free
 go_wp2_with fail
 obtain ⟨W,hW⟩:∃ W,W=((w1.setCell ⟨w.heap.size,0,none⟩ (.bool nb)).setCell ⟨w.heap.size,1,none⟩ (.slice A L c)).setCell ⟨w.heap.size,2,none⟩ (.int .i64 0):=⟨_,rfl⟩
 have b2:Below w.heap.size w W:=by rw [hW];exact ((b1.setCell (by simp) _).setCell (by simp) _).setCell (by simp) _
 have t0:BI W w.heap.size [.bool nb,.slice A L c,.int .i64 0] 43:=by
  exact AbZ
 have X:=HD.out.2.2.2.2.1.below b2 hm
 have hnb:=ll HD.out.1
 rw [←hW]
 clear hW s0 b1 k0 k1 k2 kf HD D'
 have k0:W.cell? ⟨w.heap.size,0,none⟩=some (.bool nb):=t0.cell 0
 have k1:W.cell? ⟨w.heap.size,1,none⟩=some (.slice A L c):=t0.cell 1
 obtain ⟨n,hn⟩:∃ n,n=x.natAbs:=⟨_,rfl⟩
 rw [←hn] at HL hl X
 have HX:=ll X
 have HN:=ll hn
 have hn63:n≤9223372036854775808:=by omega
 clear X hn t0
 go_loopw [4,5] (fun mv i wr=>Ard (Ac n) W mv i wr) (fun _ i _=>((intOf i)+1).toNat)
 case atStart=>exact ⟨(Ac n).length,0,aa _,by rw [HL.out],rfl,by rw [ew];rfl,rfl⟩
 case round =>
  obtain ⟨k,mm,hk,rfl,rfl,hmm,rfl⟩:=hrel
  have HM:=ll hmm
  clear hmm
  by_cases h0:k=0
  ·subst h0
   have hmn:mm=n:=by rw [HM.out,gq,Ao]
   subst hmn
   have HNB:=ll (hnb.out)
   cases nb with
   | true =>
    have hx:x<0:=by simpa using hnb.out.symm
    have hxe:x = -(mm:Int):=by have:=HN.out;omega
    have hmp:(1:Int)≤(mm:Int):=by omega
    have hm1:¬ (9223372036854775808:Int)<(mm:Int):=by omega
    have hm2:decide ((9223372036854775808:Int)<(mm:Int))=false:=decide_eq_false hm1
    have HXE:=ll hxe
    clear hxe hx
    go_wp2_with fail
    exact bodyPost_ret (v:=.tuple #[.int .i64 x,.bool true]) (by simp [results,results225,go_sem];rw [HXE.out];omega) rfl ⟨rfl,b2⟩
   | false =>
    have hx:0≤x:=by simpa using hnb.out.symm
    have hxe:x=(mm:Int):=by have:=HN.out;omega
    have hm1:(mm:Int)<9223372036854775808:=by omega
    have HXE:=ll hxe
    clear hxe hx
    go_wp2_with fail
    exact bodyPost_ret (v:=.tuple #[.int .i64 x,.bool true]) (by simp [results,results225,go_sem];rw [HXE.out]) rfl ⟨rfl,b2⟩
  ·obtain ⟨j,rfl⟩:=io h0
   obtain ⟨b,off,y,rfl,hbm,hbs,hy,hcc⟩:=HX.out.w32_ (k:=j) (by omega)
   have by':=AE n y (gM hy)
   have hms:mm<4294967296:=by rw [HM.out];exact Ze (AE n) hl j
   have HY:=ll (show AH ((Ac n).drop j)=y+4294967296*mm by rw [DW,hy,HM.out];rfl)
   obtain ⟨m2,hm2⟩:∃ m2,m2=y+4294967296*mm:=⟨_,rfl⟩
   have hor:bits .or .u64 ((mm:Int)*4294967296) (y:Int)=(m2:Int):=by rw [hm2];exact Akc hms by'
   rw [←hm2] at HY
   have hjl:(j:Int)<(L:Int):=by have:=HL.out;omega
   have ej:((j+1:Nat):Int) - 1=(j:Int):=by omega
   rw [show Nat.succ j=j+1 by rfl,ej]
   clear hm2 hy h0 ej
   go_wp2_with fail
   exact ⟨⟨j,m2,by omega,by go_num,rfl,HY.out.symm,rfl⟩,by simp [intOf];try omega⟩
def AhE (vs:List Value):Prop:=∀ u∈vs,∀ z,u≠.int .u32 z
theorem BI.notwd {t:Nat} {vs:List Value} {A:Option Addr} (h:BI w g vs t) (hn:AhE vs) (hc:Aq w m A (w32 ws)) (j:Nat) (u:Value):Aq (w.setCell ⟨g,j,none⟩ u) m A (w32 ws):=fun hx=>by
 obtain ⟨b,off,hA,hbm,hbs,hcc⟩:=hc hx
 have hne:b≠g:=fun he=>by
  have hp:0<ws.length:=by
   have:=Vq ws
   rcases dh ws.length with h0|h0
   ·exact absurd (bz (this.trans h0)) hx
   ·exact h0
  have h1:=hcc 0 (.int .u32 (ws[0]:Int)) (by simp [w32,hp])
  rw [he,h.cell] at h1
  exact hn _ (gM h1) _ rfl
 refine ⟨b,off,hA,hbm,by simpa using hbs,fun i v hv=>?_⟩
 rw [World.cell?_setCell_other _ _ _ _ (fun e=>hne (by cases e;rfl))]
 exact hcc i v hv
theorem DyR.setH {hi t:Nat} {v:Value} {x:Int} {vs:List Value} (h:DyR w lo hi v x d) (hg:BI w g vs t) (hn:AhE vs) (j:Nat) (u:Value):DyR (w.setCell ⟨g,j,none⟩ u) lo hi v x d:=by
 obtain ⟨A,c,e,h1,h2,h3,h4,h5,h6⟩:=h
 exact ⟨A,c,e,h1,h2,hg.notwd hn h3 j u,h4,h5,h6⟩
theorem AhE.set {vs:List Value} (h:AhE vs) (j:Nat) {u:Value} (hu:∀ z,u≠.int .u32 z):AhE (vs.set j u):=fun v hv z=>by
 rcases ld hv with h1|rfl
 ·exact h v h1 z
 ·exact hu z
theorem AfI {b1:Bool} {A1:Option Addr} {L1 c1:Nat} {d1:Int}:AhE [.bool b1,.slice A1 L1 c1,.int .i64 d1]:=by
 intro u hu z
 simp only [cr,ct,or_false] at hu
 rcases hu with rfl|rfl|rfl <;> simp
theorem BI.set3d {t:Nat} (h:BI w b [v0,v1,v2] t) (a0 a1 a2:Value):BI (((w.setCell ⟨b,0,none⟩ a0).setCell ⟨b,1,none⟩ a1).setCell ⟨b,2,none⟩ a2) b [a0,a1,a2] t:=((h.set_ 0 a0).set_ 1 a1).set_ 2 a2
theorem DyR.set3H {hi t:Nat} {v:Value} {x:Int} {a0 a1 a2:Value} (h:DyR w lo hi v x d) (hg:BI w g [v0,v1,v2] t) (hn:AhE [v0,v1,v2]) (ha:AhE [a0,a1,a2]) :
  DyR (((w.setCell ⟨g,0,none⟩ a0).setCell ⟨g,1,none⟩ a1).setCell ⟨g,2,none⟩ a2) lo hi v x d:=by
 have k0:=hn.set 0 (ha a0 (by simp))
 have k1:=k0.set 1 (ha a1 (by simp))
 exact ((h.setH hg hn 0 a0).setH (hg.set_ 0 a0) k0 1 a1).setH ((hg.set_ 0 a0).set_ 1 a1) k1 2 a2
theorem AhF (w:World) (g:Nat) (a0 a1 a2:Value):(((w.setCell ⟨g,0,none⟩ a0).setCell ⟨g,1,none⟩ a1).setCell ⟨g,2,none⟩ a2).heap.size=w.heap.size:=by simp
theorem Ph {W:World} (h:Below m W w) (hg:m≤g) (a0 a1 a2:Value):Below m W (((w.setCell ⟨g,0,none⟩ a0).setCell ⟨g,1,none⟩ a1).setCell ⟨g,2,none⟩ a2) :=
 ((h.setCell hg a0).setCell hg a1).setCell hg a2
def shE (x k:Int):Int:=if k<0 then x / 2 ^ (-k).toNat else x*2 ^ k.toNat
theorem AfJ (x:Int) (p:Nat):(nf x p).1 / 2 ^ (nf x p).2=x / 2 ^ p:=by
 induction p generalizing x with
 | zero=>rfl
 | succ p ih =>
  unfold nf
  split
  ·rename_i h
   rw [ih]
   have e:x=2*(x / 2):=by omega
   rw [fw,du (2 ^ p) 2,←Int.ediv_ediv_of_nonneg (by omega)]
  ·rfl
theorem Uh (x:Int) (d:Nat):Bo x d 0=(x / 2 ^ d,0):=by
 unfold Bo
 by_cases h:d≤0
 ·have:d=0:=by omega
  subst this
  simp
 ·rw [if_neg h]
  rfl
theorem AhG {x k:Int} (h1 : -65536≤k) (h2:k≤65536):Bo (Af x 0 k).1 (Af x 0 k).2 0=(shE x k,0):=by
 rw [Uh]
 congr 1
 unfold Af shE
 rw [show max (-65536) (min k 65536)=k by omega]
 by_cases h:k<0
 ·rw [if_pos h,if_pos h,av]
  exact AfJ _ _
 ·rw [if_neg h,if_neg h]
  show x*2 ^ k.toNat / 2 ^ 0=_
  simp
theorem Gz (m:Int):∀ (k d:Nat),nf (m*2 ^ k) (d+k)=nf m d
 | 0,d=>by simp
 | k+1,d=>by
  rw [show d+(k+1)=(d+k)+1 by omega,show m*2 ^ (k+1)=2*(m*2 ^ k) by rw [fw,du (2 ^ k) 2,←am,du m 2,am]]
  conv=>lhs;unfold nf
  rw [if_pos (by omega),show 2*(m*2 ^ k) / 2=m*2 ^ k by omega]
  exact Gz m k d
theorem AkY (m:Int) (p:Nat) (h:(nf m p).2≤p):m=(nf m p).1*2 ^ (p - (nf m p).2):=by
 have h1:=AaN m p
 have h2:(2:Int) ^ p=2 ^ (p - (nf m p).2)*2 ^ (nf m p).2:=by rw [←ak];congr 1;omega
 rw [h2,←am] at h1
 exact (jc (ic (ga (by decide))) h1).symm
theorem Aoj {x a b:Int} (h1 : -30000≤a) (h2:a≤30000) (h3 : -30000≤b) (h4:b≤30000):Af (Af x 0 a).1 (Af x 0 a).2 b=Af x 0 (a+b):=by
 unfold Af
 rw [show max (-65536) (min a 65536)=a by omega,show max (-65536) (min b 65536)=b by omega,show max (-65536) (min (a+b) 65536)=a+b by omega]
 by_cases ha:a<0
 ·rw [if_pos ha,av]
  have hle:=Vv x (-a).toNat
  have hbk:=AkY x (-a).toNat hle
  have hod:=WZ x (-a).toNat
  by_cases hb:b<0
  ·rw [if_pos hb,if_pos (by omega),av]
   conv=>rhs;rw [hbk]
   rw [show (-(a+b)).toNat=((nf x (-a).toNat).2+(-b).toNat)+((-a).toNat - (nf x (-a).toNat).2) by omega]
   exact (Gz _ _ _).symm
  ·rw [if_neg hb]
   by_cases hc:a+b<0
   ·rw [if_pos hc,av]
    conv=>rhs;rw [hbk]
    by_cases hd:b.toNat≤(nf x (-a).toNat).2
    ·obtain ⟨q,hq⟩:∃ q,(nf x (-a).toNat).2=q+b.toNat:=⟨(nf x (-a).toNat).2 - b.toNat,by omega⟩
     conv=>lhs;rw [hq]
     rw [Gz]
     rw [show (-(a+b)).toNat=q+((-a).toNat - (nf x (-a).toNat).2) by omega]
     exact (Gz _ _ _).symm
    ·obtain ⟨q,hq⟩:∃ q,b.toNat=q+(nf x (-a).toNat).2:=⟨b.toNat - (nf x (-a).toNat).2,by omega⟩
     have e1:(nf x (-a).toNat).1*2 ^ b.toNat=((nf x (-a).toNat).1*2 ^ q)*2 ^ (nf x (-a).toNat).2:=by rw [hq,ak,am]
     rw [e1]
     have e2:=Gz ((nf x (-a).toNat).1*2 ^ q) (nf x (-a).toNat).2 0
     rw [av] at e2
     rw [e2]
     have e3:(nf x (-a).toNat).1*2 ^ ((-a).toNat - (nf x (-a).toNat).2)=((nf x (-a).toNat).1*2 ^ q)*2 ^ (-(a+b)).toNat:=by
      rw [am,←ak]
      congr 2
      omega
     rw [e3]
     have e4:=Gz ((nf x (-a).toNat).1*2 ^ q) (-(a+b)).toNat 0
     rw [av] at e4
     rw [e4]
   ·rw [if_neg hc]
    show nf ((nf x (-a).toNat).1*2 ^ b.toNat) (nf x (-a).toNat).2=nf (x*2 ^ (a+b).toNat) 0
    conv=>rhs;rw [hbk]
    obtain ⟨q,hq⟩:∃ q,b.toNat=q+(nf x (-a).toNat).2:=⟨b.toNat - (nf x (-a).toNat).2,by omega⟩
    have e1:(nf x (-a).toNat).1*2 ^ b.toNat=((nf x (-a).toNat).1*2 ^ q)*2 ^ (nf x (-a).toNat).2:=by rw [hq,ak,am]
    rw [e1]
    have e2:=Gz ((nf x (-a).toNat).1*2 ^ q) (nf x (-a).toNat).2 0
    rw [av] at e2
    rw [e2]
    congr 1
    rw [am,←ak]
    congr 2
    omega
 ·rw [if_neg ha]
  show (if b<0 then nf (x*2 ^ a.toNat) (0+(-b).toNat) else nf (x*2 ^ a.toNat*2 ^ b.toNat) 0)=_
  by_cases hb:b<0
  ·rw [if_pos hb,av]
   by_cases hc:a+b<0
   ·rw [if_pos hc,av,show (-b).toNat=(-(a+b)).toNat+a.toNat by omega]
    exact Gz _ _ _
   ·rw [if_neg hc]
    have e1:x*2 ^ a.toNat=(x*2 ^ (a+b).toNat)*2 ^ (-b).toNat:=by
     rw [am,←ak]
     congr 2
     omega
    rw [e1]
    have e2:=Gz (x*2 ^ (a+b).toNat) (-b).toNat 0
    rw [av] at e2
    exact e2
  ·rw [if_neg hb,if_neg (by omega),am,←ak]
   congr 3
   omega
def LA (n e f:Int):Prop := -2147483648<n∧n<2147483648 ∧ -62≤e∧e≤30∧0≤f∧f≤30
instance (n e f:Int):Decidable (LA n e f):=by unfold LA;infer_instance
def Ed (n e f:Int):Int:=if LA n e f then (if -2147483648≤shE n (e+f)∧shE n (e+f)<2147483648 then 0 else 13) else 3
def ZD (n e f:Int):Int:=if Ed n e f=0 then shE n (e+f) else 0
theorem AhH {n:Int} (h:¬ LA n e f):Ed n e f=3∧ZD n e f=0:=by
 have h1:Ed n e f=3:=if_neg h
 exact ⟨h1,by unfold ZD;rw [h1];rfl⟩
theorem RY {n:Int} (h:LA n e f) (h2:¬ (-2147483648≤shE n (e+f)∧shE n (e+f)<2147483648)):Ed n e f=13∧ZD n e f=0:=by
 have h1:Ed n e f=13:=by unfold Ed;rw [if_pos h,if_neg h2]
 exact ⟨h1,by unfold ZD;rw [h1];rfl⟩
theorem Acb {n:Int} (h:LA n e f) (h2 : -2147483648≤shE n (e+f)∧shE n (e+f)<2147483648):Ed n e f=0∧ZD n e f=shE n (e+f):=by
 have h1:Ed n e f=0:=by unfold Ed;rw [if_pos h,if_pos h2]
 exact ⟨h1,by unfold ZD;rw [h1];rfl⟩
theorem QN {x:Int} {k:Nat} (hx:x.natAbs≤2147483648) (hk:k≤100):(x*2 ^ k).natAbs≤2147483648*2 ^ 100:=by
 rw [gl,fx]
 exact en hx (au (by decide) hk)
theorem ZE {x:Int} (k:Nat):(x / 2 ^ k).natAbs≤x.natAbs:=by
 have hp:(0:Int)<2 ^ k:=ga (by decide)
 have h1:=Int.mul_ediv_add_emod x (2 ^ k)
 have h2:=Int.emod_nonneg x (ic hp)
 have h3:=Int.emod_lt_of_pos x hp
 have hle:(0:Int)≤x→0≤x / 2 ^ k:=fun h=>Int.ediv_nonneg h (bg hp)
 by_cases h:0≤x
 ·have h4:=hle h
  have h5:=Int.ediv_le_self (2 ^ k) h
  omega
 ·have h4:x≤x / 2 ^ k:=by
   rw [Int.le_ediv_iff_mul_le hp]
   have h6:(1:Int)≤2 ^ k:=hp
   have h7:=ia (a := -x) (b:=2 ^ k - 1) (by omega) (by omega)
   rw [di,Int.mul_sub,Int.mul_one] at h7
   omega
  have h5:x / 2 ^ k<0:=Int.ediv_neg_of_neg_of_pos (by omega) hp
  omega
theorem Acc {x k:Int} (hx:x.natAbs≤2147483648) (h1 : -100≤k) (h2:k≤100):(Ac (Af x 0 k).1.natAbs).length≤5:=by
 refine Aw (gk (m:=2147483648*2 ^ 100) ?_ (by decide))
 unfold Af
 rw [show max (-65536) (min k 65536)=k by omega]
 by_cases h:k<0
 ·rw [if_pos h]
  exact lT (He _ _) (lT hx (by decide))
 ·rw [if_neg h]
  exact lT (He _ _) (QN hx (by omega))
theorem Acd {x k:Int} (hx:x.natAbs≤2147483648) (h2:k≤100):(Ac (shE x k).natAbs).length≤5:=by
 refine Aw (gk (m:=2147483648*2 ^ 100) ?_ (by decide))
 unfold shE
 by_cases h:k<0
 ·rw [if_pos h]
  exact lT (ZE _) (lT hx (by decide))
 ·rw [if_neg h]
  exact QN hx (by omega)
theorem Pi {n:Int} (h:LA n e f):¬ n ≤ -2147483648∧¬ 2147483648≤n∧¬ e < -62∧¬ 30<e∧¬ f<0∧¬ 30<f:=by
 unfold LA at h
 omega
theorem Ui {n:Int} (h:¬ LA n e f):n ≤ -2147483648∨(¬ n ≤ -2147483648∧2147483648≤n)∨(¬ n ≤ -2147483648∧¬ 2147483648≤n∧e < -62)∨(¬ n ≤ -2147483648∧¬ 2147483648≤n∧¬ e < -62∧30<e) ∨
  (¬ n ≤ -2147483648∧¬ 2147483648≤n∧¬ e < -62∧¬ 30<e∧f<0)∨(¬ n ≤ -2147483648∧¬ 2147483648≤n∧¬ e < -62∧¬ 30<e∧¬ f<0∧30<f):=by
 unfold LA at h
 omega
theorem ZF (h:p:=by
 go_enter func52,ntmps52
 go_wp2_with fail
 exact bodyPost_ret (v:=.tuple #[.int .i64 0,.iface 85 (.int .i64 3)]) (by simp [results,results52,go_sem]) rfl ⟨by rw [HV.out.1,HV.out.2];rfl,b0⟩):p:=h
theorem AkZ (n e f:Int) (w:World) (h:¬ LA n e f) :
  Calls prog 52 #[.agg #[.int .i64 n,.int .i64 e],.int .i64 f] w fun r w'=>r=.returned (.tuple #[.int .i64 (ZD n e f),Rs (Ed n e f)])∧Below w.heap.size w w':=by
 have HV:=ll (AhH h)
 have b0:=al_ w (.cells #[.int .i64 n,.int .i64 e] 63)
 have r0:=BI.new_ w [.int .i64 n,.int .i64 e] 63
 have h':=Ui h
 clear h
 rcases h' with g0|⟨g0,g1⟩|⟨g0,g1,g2⟩|⟨g0,g1,g2,g3⟩|⟨g0,g1,g2,g3,g4⟩|⟨g0,g1,g2,g3,g4,g5⟩
 ·have d0:decide (n ≤ -2147483648)=true:=decide_eq_true g0
  clear g0
  exact ZF
 ·have d0:decide (n ≤ -2147483648)=false:=decide_eq_false g0
  have d1:decide (2147483648≤n)=true:=decide_eq_true g1
  clear g0 g1
  exact ZF
 ·have d0:decide (n ≤ -2147483648)=false:=decide_eq_false g0
  have d1:decide (2147483648≤n)=false:=decide_eq_false g1
  have d2:decide (e < -62)=true:=decide_eq_true g2
  clear g0 g1 g2
  exact ZF
 ·have d0:decide (n ≤ -2147483648)=false:=decide_eq_false g0
  have d1:decide (2147483648≤n)=false:=decide_eq_false g1
  have d2:decide (e < -62)=false:=decide_eq_false g2
  have d3:decide (30<e)=true:=decide_eq_true g3
  clear g0 g1 g2 g3
  exact ZF
 ·have d0:decide (n ≤ -2147483648)=false:=decide_eq_false g0
  have d1:decide (2147483648≤n)=false:=decide_eq_false g1
  have d2:decide (e < -62)=false:=decide_eq_false g2
  have d3:decide (30<e)=false:=decide_eq_false g3
  have d4:decide (f<0)=true:=decide_eq_true g4
  clear g0 g1 g2 g3 g4
  exact ZF
 ·have d0:decide (n ≤ -2147483648)=false:=decide_eq_false g0
  have d1:decide (2147483648≤n)=false:=decide_eq_false g1
  have d2:decide (e < -62)=false:=decide_eq_false g2
  have d3:decide (30<e)=false:=decide_eq_false g3
  have d4:decide (f<0)=false:=decide_eq_false g4
  have d5:decide (30<f)=true:=decide_eq_true g5
  clear g0 g1 g2 g3 g4 g5
  exact ZF
theorem Ala (h:p:=by
 clear h32
 go_wp2_with fail
 exact bodyPost_ret (v:=.tuple #[.int .i64 0,.iface 85 (.int .i64 13)]) (by simp [results,results52,go_sem]) rfl ⟨by rw [HV.out.1,HV.out.2];rfl,HF.out⟩):p:=h
theorem Aok (h:p:=by
 intro w2 hx
 have e0:w2.cell? ⟨w.heap.size,0,none⟩=some (.int .i64 n):=((hS.trans (hx.more0.mono hS.size)).cell (p:=⟨w.heap.size,0,none⟩) hA).trans a0
 go_simp
 try rfl):p:=h
theorem Aol (h:p:=by
 intro w2 hx
 have e1:w2.cell? ⟨w.heap.size,1,none⟩=some (.int .i64 e):=((hS.trans (hx.more0.mono hS.size)).cell (p:=⟨w.heap.size,1,none⟩) hA).trans a1
 go_simp
 try rfl):p:=h
theorem Alb (n e f:Int) (w:World) (h:LA n e f) (ht:Ah w) :
  Calls prog 52 #[.agg #[.int .i64 n,.int .i64 e],.int .i64 f] w fun r w'=>r=.returned (.tuple #[.int .i64 (ZD n e f),Rs (Ed n e f)])∧Below w.heap.size w w':=by
 have hp:=Pi h
 have hn:n.natAbs≤2147483648:=by have:=hp.1;have:=hp.2.1;omega
 have hk : -62≤e+f∧e+f≤60:=by obtain ⟨_,_,_,_,_,_⟩:=hp;omega
 have HOK:=ll h
 have HT:=ll ht
 obtain ⟨g0,g1,g2,g3,g4,g5⟩:=hp
 have d0:decide (n ≤ -2147483648)=false:=decide_eq_false g0
 have d1:decide (2147483648≤n)=false:=decide_eq_false g1
 have d2:decide (e < -62)=false:=decide_eq_false g2
 have d3:decide (30<e)=false:=decide_eq_false g3
 have d4:decide (f<0)=false:=decide_eq_false g4
 have d5:decide (30<f)=false:=decide_eq_false g5
 have hi1 : -9223372036854775808≤n:=by omega
 have hi2:n<9223372036854775808:=by omega
 have l5:(Ac n.natAbs).length≤50000:=lT (Aw (k:=1) (by omega)) (by decide)
 have l6:(Ac (Af n 0 (e+f)).1.natAbs).length≤50000:=lT (Acc hn (by omega) (by omega)) (by decide)
 have l7:(Ac (shE n (e+f)).natAbs).length≤50000:=lT (Acd hn (by omega)) (by decide)
 have hsv:=ll (AhG (x:=n) (k:=e+f) (by omega) (by omega))
 obtain ⟨k,hkk⟩:∃ k,k=e+f:=⟨_,rfl⟩
 have hw1:IntKind.i64.wrap (e+f)=k:=by rw [hkk];exact js _ (by omega)
 rw [←hkk] at l6 l7 hsv hk
 have HKK:=ll hkk
 obtain ⟨x,hx⟩:∃ x,x=shE n k:=⟨_,rfl⟩
 rw [←hx] at l7 hsv
 have HX:=ll hx
 clear h ht g0 g1 g2 g3 g4 g5 hkk hx
 go_enter func52,ntmps52
 go_wp2_with fail
 obtain ⟨W,hW⟩:∃ q,q=w.alloc (.cells #[.int .i64 n,.int .i64 e] 63):=⟨_,rfl⟩
 have rX:BI W w.heap.size [.int .i64 n,.int .i64 e] 63:=by rw [hW];exact BI.new_ _ _ _
 have bW:Below w.heap.size w W:=by rw [hW];exact al_ _ _
 rw [←hW]
 clear hW
 have hA:=rX.lt
 have a0:W.cell? ⟨w.heap.size,0,none⟩=some (.int .i64 n):=rX.cell 0
 have a1:W.cell? ⟨w.heap.size,1,none⟩=some (.int .i64 e):=rX.cell 1
 have HTW:=ll (HT.out.below bW HT.out.1)
 have hWs:=bW.size
 refine TN 13 13 11 (by kernel_rfl) (by kernel_rfl) (by kernel_rfl) (by decide) ?_
 dsimp only [List.take,List.drop]
 obtain ⟨u0,hu0⟩:∃ q,q=W.drew:=⟨_,rfl⟩
 have hS:Below W.heap.size W u0:=by rw [hu0];exact (ab _ _).drew
 rw [←hu0]
 clear hu0
 refine MY 0 ?v0 rfl (by kernel_rfl) (by intro _ _ _ h;exact h) (by rfl) ?h0 ?r0
 case h0 =>
  intro w2 hx
  go_simp
  try rfl
 case' r0=>try simp only [Act.put,cm,bl,bo]
 refine MY 1 ?v1 rfl (by kernel_rfl) (by intro _ _ _ h;exact h) (by rfl) ?h1 ?r1
 case h1 =>
  exact Aok
 case' r1=>try simp only [Act.put,cm,bl,bo]
 refine MY 3 ?v3 rfl (by kernel_rfl) (by intro _ _ _ h;exact h) (by rfl) ?h3 ?r3
 case h3 =>
  intro w2 hx
  go_simp
  try rfl
 case' r3=>try simp only [Act.put,cm,bl,bo]
 refine MY 4 ?v4 rfl (by kernel_rfl) (by intro _ _ _ h;exact h) (by rfl) ?h4 ?r4
 case h4 =>
  exact Aol
 case' r4=>try simp only [Act.put,cm,bl,bo]
 refine MY 5 ?v5 rfl (by kernel_rfl) (by intro _ _ _ h;exact h) (by rfl) ?h5 ?r5
 case h5 =>
  intro w2 hx
  go_simp
  try rfl
 case' r5=>try simp only [Act.put,cm,bl,bo]
 refine MY 6 ?v6 rfl (by kernel_rfl) (by intro _ _ _ h;exact h) (by rfl) ?h6 ?r6
 case h6 =>
  intro w2 hx
  have hw2:=hw1
  go_simp
  try rfl
 case' r6=>try simp only [Act.put,cm,bl,bo]
 refine Aro 12 (fun g=>.pointer (some ⟨g,0,none⟩)) (.cells #[.bool false,.slice none 0 0,.int .i64 0] 43) W.heap.size rfl (by kernel_rfl) (by intro _ _ _ _ h;exact h) (by rfl) (by intro w2;go_simp;try rfl) hS.size (by intro b h;exact h.elim) ?_
 refine Abs 2 rfl (by kernel_rfl) (by rfl) ?_
 intro x1 hx K hK
 have hS1:=hS.trans (hx.mono hS.size)
 clear hS
 go_simp
 refine (Abb n hi1 hi2 x1 (HTW.out.below hS1 HTW.out.1)).mono ?_
 rintro e u1 ⟨v5,rfl,D5,hb⟩
 have hS:=hS1.trans (hb.mono hS1.size)
 obtain ⟨nb5,A5,L5,c5,rfl,_⟩:=D5.form
 refine hK.out _ _ (DT.growU hb) ?_
 clear hK K hx hS1 hb
 try simp only [Act.put,cm,bl,bo]
 refine Abs 7 rfl (by kernel_rfl) (by rfl) ?_
 intro x2 hx K hK
 have hS1:=hS.trans (hx.mono hS.size)
 clear hS
 replace D5:=(D5.below hx (aa _)).more hx.size
 go_simp
 refine (Qx (n:=k) D5 (aa _) l5 (by omega) (HTW.out.below hS1 HTW.out.1)).mono ?_
 rintro e u2 ⟨v6,rfl,D6,hb⟩
 have hS:=hS1.trans (hb.mono hS1.size)
 replace D5:=(D5.below hb (aa _)).more hb.size
 obtain ⟨nb6,A6,L6,c6,rfl,_⟩:=D6.form
 clear D5
 refine hK.out _ _ (DT.growU hb) ?_
 clear hK K hx hS1 hb
 try simp only [Act.put,cm,bl,bo]
 refine Abs 8 rfl (by kernel_rfl) (by rfl) ?_
 intro x3 hx K hK
 have hS1:=hS.trans (hx.mono hS.size)
 clear hS
 replace D6:=(D6.below hx (aa _)).more hx.size
 go_simp
 refine (Qy (den:=0) D6 (aa _) l6 (by omega) (HTW.out.below hS1 HTW.out.1)).mono ?_
 rintro e u3 ⟨v7,rfl,D7,hb⟩
 have hS:=hS1.trans (hb.mono hS1.size)
 replace D6:=(D6.below hb (aa _)).more hb.size
 rw [hsv.out] at D7
 obtain ⟨nb7,A7,L7,c7,rfl,_⟩:=D7.form
 clear D6
 refine hK.out _ _ (DT.growU hb) ?_
 clear hK K hx hS1 hb
 try simp only [Act.put,cm,bl,bo]
 refine MY 9 ?v9 rfl (by kernel_rfl) (by intro _ _ _ h;exact h) (by rfl) ?h9 ?r9
 case h9 =>
  intro w2 hx
  go_simp
  try rfl
 case' r9=>try simp only [Act.put,cm,bl,bo]
 refine MY 10 ?v10 rfl (by kernel_rfl) (by intro _ _ _ h;exact h) (by rfl) ?h10 ?r10
 case h10 =>
  intro w2 hx
  go_simp
  try rfl
 case' r10=>try simp only [Act.put,cm,bl,bo]
 refine MY 11 ?v11 rfl (by kernel_rfl) (by intro _ _ _ h;exact h) (by rfl) ?h11 ?r11
 case h11 =>
  intro w2 hx
  go_simp
  try rfl
 case' r11=>try simp only [Act.put,cm,bl,bo]
 refine endE (by kernel_rfl) ?_
 intro u4 hx g hg hU hgo
 dsimp only [ND]
 have rg:BI u4 g [.bool false,.slice none 0 0,.int .i64 0] 43:=hgo
 have hS4:=hS.trans (hx.mono hS.size)
 replace D7:=(D7.below hx (aa _)).more hx.size
 clear hx hS hU hgo
 have RG:=ll rg
 have HD7:=ll D7
 have HS4:=ll hS4
 have c0:u4.cell? ⟨g,0,none⟩=some (.bool false):=rg.cell 0
 have c1:u4.cell? ⟨g,1,none⟩=some (.slice none 0 0):=rg.cell 1
 have c2:u4.cell? ⟨g,2,none⟩=some (.int .i64 0):=rg.cell 2
 have cf:=rg.free
 have cg:=rg.lt
 clear rg D7 hS4 a0 a1
 go_wp2_with fail
 refine NoPanic.normal ?_
 go_wp2_with fail
 go_at_call 124
 obtain ⟨y,hy⟩:∃ q,q=(((u4.setCell ⟨g,0,none⟩ (.bool nb7)).setCell ⟨g,1,none⟩ (.slice A7 L7 c7)).setCell ⟨g,2,none⟩ (.int .i64 0)):=⟨_,rfl⟩
 have Dy:DyR y x3.heap.size y.heap.size (.agg #[.bool nb7,.slice A7 L7 c7,.int .i64 ((0:Nat):Int)]) x 0:=by rw [hy,AhF];exact HD7.out.set3H RG.out AfI AfI
 have hSy:Below W.heap.size W y:=by rw [hy];exact Ph HS4.out hg _ _ _
 try rw [←hy]
 clear hy
 refine (Afa (m:=y.heap.size) Dy rfl (aa _) l7).mono ?_
 rintro e8 u8 ⟨rfl,hb8⟩
 have HF:=ll (bW.trans ((hSy.trans (hb8.mono hSy.size)).mono hWs))
 clear hb8 hSy Dy HS4 RG HD7 cf cg c0 c1 c2 hg
 by_cases h32 : -2147483648≤x∧x<2147483648
 ·have HV:=ll (Acb HOK.out (by rw [←HKK.out,←HX.out];exact h32))
  have h64:=OG (x:=x) (by omega)
  rw [h64.1,h64.2]
  have f1:decide (x < -2147483648)=false:=decide_eq_false (by omega)
  have f2:decide (2147483648≤x)=false:=decide_eq_false (by omega)
  clear h64
  clear h32
  go_wp2_with fail
  exact bodyPost_ret (v:=.tuple #[.int .i64 x,.nilIface]) (by simp [results,results52,go_sem]) rfl ⟨by rw [HV.out.1,HV.out.2,←HKK.out,←HX.out];rfl,HF.out⟩
 ·by_cases h64 : -9223372036854775808≤x∧x<9223372036854775808
  ·by_cases h7:x < -2147483648
   ·have HV:=ll (RY HOK.out (by rw [←HKK.out,←HX.out];exact h32))
    have h6:=OG h64
    rw [h6.1,h6.2]
    have f1:decide (x < -2147483648)=true:=decide_eq_true h7
    clear h6 h64 h7
    exact Ala
   ·have HV:=ll (RY HOK.out (by rw [←HKK.out,←HX.out];exact h32))
    have h6:=OG h64
    rw [h6.1,h6.2]
    have f1:decide (x < -2147483648)=false:=decide_eq_false h7
    have f2:decide (2147483648≤x)=true:=decide_eq_true (by omega)
    clear h6 h64 h7
    exact Ala
  ·have HV:=ll (RY HOK.out (by rw [←HKK.out,←HX.out];exact h32))
   have h6:=Xd h64
   rw [h6.1,h6.2]
   clear h6 h64
   exact Ala
theorem AfK (n e f:Int) (w:World) (ht:Ah w) :
  Calls prog 52 #[.agg #[.int .i64 n,.int .i64 e],.int .i64 f] w fun r w'=>r=.returned (.tuple #[.int .i64 (ZD n e f),Rs (Ed n e f)])∧Below w.heap.size w w':=by
 by_cases h:LA n e f
 ·exact Alb n e f w h ht
 ·exact AkZ n e f w h
def AfL (n:Int):Int:=max (-2147483648) (min n 2147483647)
def AfM (n:Int):Bool:=decide (-2147483648≤n∧n<2147483648)
theorem Ace (x:Int):Bm x 0 (-2147483648) 0=sgI (x+2147483648):=by
 rw [Ty]
 congr 1
theorem AhI (x:Int):Bm x 0 2147483647 0=sgI (x - 2147483647):=Ty _ _
theorem Acf:(Ac (Int.natAbs (-2147483648))).length≤50000:=lT (Aw (k:=1) (by decide)) (by decide)
theorem AhJ:(Ac (Int.natAbs 2147483647)).length≤50000:=lT (Aw (k:=1) (by decide)) (by decide)
theorem AfN {v:Value} {x:Int} (D:DyR w lo m v x 0) (hm:m≤w.heap.size) (hl:(Ac x.natAbs).length≤50000) :
    Calls prog 224 #[v] w fun e w'=>e=.returned (.tuple #[.int .i64 (AfL x),.bool (!AfM x)])∧Below w.heap.size w w':=by
  obtain ⟨nb,A,L,c,rfl,_⟩:=D.form
  have b0:Below w.heap.size w (w.alloc (.cells #[.bool nb,.slice A L c,.int .i64 0] 43)):=Ap (ab _ _) _
  have r0:=BI.new_ w [.bool nb,.slice A L c,.int .i64 0] 43
  have X := (D.below b0 hm).more (show m ≤ w.heap.size + 1 by omega)
  clear D
  go_enter func224,ntmps224
  go_wp2_with fail
  obtain ⟨W,hW⟩:∃ W,W=w.alloc (.cells #[.bool nb,.slice A L c,.int .i64 0] 43):=⟨_,rfl⟩
  have hWs:W.heap.size=w.heap.size+1:=by rw [hW];simp
  rw [←hW]
  rw [←hW] at b0 r0 X
  clear hW
  have a0:W.cell? ⟨w.heap.size,0,none⟩=some (.bool nb):=r0.cell 0
  have a1:W.cell? ⟨w.heap.size,1,none⟩=some (.slice A L c):=r0.cell 1
  have a2:W.cell? ⟨w.heap.size,2,none⟩=some (.int .i64 0):=r0.cell 2
  have hk:SK W (w.heap.size+1) w.heap.size W:=SK.refl (by omega) ⟨_,_,_,r0⟩
  by_cases hx:x < -2147483648
  · as_aux_lemma =>
    have hcv:Bm x 0 (-2147483648) 0 = -1:=by rw [Ace];unfold sgI;rw [if_neg (by omega),if_pos (by omega)]
    have HV := ll (show AfL x = -2147483648 ∧ AfM x = false by
      refine ⟨by unfold AfL;omega,?_⟩
      unfold AfM;rw [decide_eq_false];omega)
    clear hx
    go_region_held3 (fun w'=>(∀ b o,b<w.heap.size+1→w'.cell? ⟨b,o,none⟩=W.cell? ⟨b,o,none⟩)∧SK W (w.heap.size+1) w.heap.size w')
      (first
        | (refine SK.all ?_
           first
             | assumption
             | exact hk
             | exact hk.drew))
      (first
        | (go_at_call 34;refine (Pg (-2147483648) (by omega) (by omega) _).mono ?_;(rintro e w5 ⟨v5,rfl,D5,hb5⟩;have hk5:=SK.call hk.drew hb5;have hf5:=hk5.lt;have hff5:=hk5.fits;obtain ⟨nb5,A5,L5,c5,rfl,_⟩:=D5.form))
        | (go_at_call 115;refine (Hn ((X.below hk5.is (aa _)).more hff5) D5 (aa _) (by omega) Acf).mono ?_;(rintro e w6 ⟨rfl,hb6⟩;have hk6:=SK.call hk5 hb6;rw [hcv])))
    go_wp2_with fail
    refine bodyPost_ret (v:=.tuple #[.int .i64 (-2147483648),.bool true]) (by simp [results,results224,go_sem]) rfl ⟨?_,b0.trans (hk6.is.mono (by omega))⟩
    rw [HV.out.1,HV.out.2]
    rfl
  · by_cases hx2:2147483647<x
    · as_aux_lemma =>
      have hcv:Bm x 0 (-2147483648) 0=1:=by rw [Ace];unfold sgI;rw [if_neg (by omega),if_neg (by omega)]
      have hcv2:Bm x 0 2147483647 0=1:=by rw [AhI];unfold sgI;rw [if_neg (by omega),if_neg (by omega)]
      have HV := ll (show AfL x = 2147483647 ∧ AfM x = false by
        refine ⟨by unfold AfL;omega,?_⟩
        unfold AfM;rw [decide_eq_false];omega)
      clear hx hx2
      go_region_held3 (fun w'=>(∀ b o,b<w.heap.size+1→w'.cell? ⟨b,o,none⟩=W.cell? ⟨b,o,none⟩)∧SK W (w.heap.size+1) w.heap.size w')
        (first
          | (refine SK.all ?_
             first
               | assumption
               | exact hk
               | exact hk.drew))
        (first
          | (go_at_call 34;refine (Pg (-2147483648) (by omega) (by omega) _).mono ?_;(rintro e w5 ⟨v5,rfl,D5,hb5⟩;have hk5:=SK.call hk.drew hb5;have hf5:=hk5.lt;have hff5:=hk5.fits;obtain ⟨nb5,A5,L5,c5,rfl,_⟩:=D5.form))
          | (go_at_call 115;refine (Hn ((X.below hk5.is (aa _)).more hff5) D5 (aa _) (by omega) Acf).mono ?_;(rintro e w6 ⟨rfl,hb6⟩;have hk6:=SK.call hk5 hb6;rw [hcv])))
      have c0:w6.cell? ⟨w.heap.size,0,none⟩=some (.bool nb):=(hk6.all.1 _ _ (by omega)).trans a0
      have c1:w6.cell? ⟨w.heap.size,1,none⟩=some (.slice A L c):=(hk6.all.1 _ _ (by omega)).trans a1
      have c2:w6.cell? ⟨w.heap.size,2,none⟩=some (.int .i64 0):=(hk6.all.1 _ _ (by omega)).trans a2
      have hfit6:=hk6.fits
      go_wp2_with fail
      go_region_held3 (fun w'=>(∀ b o,b<w.heap.size+1→w'.cell? ⟨b,o,none⟩=W.cell? ⟨b,o,none⟩)∧SK W (w.heap.size+1) w.heap.size w')
        (first
          | (refine SK.all ?_
             first
               | assumption
               | exact hk6
               | exact hk6.drew))
        (first
          | (go_at_call 34;refine (Pg (2147483647) (by omega) (by omega) _).mono ?_;(rintro e w7 ⟨v7,rfl,D7,hb7⟩;have hk7:=SK.call hk6.drew hb7;have hf7:=hk7.lt;have hff7:=hk7.fits;obtain ⟨nb7,A7,L7,c7,rfl,_⟩:=D7.form))
          | (go_at_call 115;refine (Hn ((X.below hk7.is (aa _)).more hff7) D7 (aa _) (by omega) AhJ).mono ?_;(rintro e w8 ⟨rfl,hb8⟩;have hk8:=SK.call hk7 hb8;rw [hcv2])))
      go_wp2_with fail
      refine bodyPost_ret (v:=.tuple #[.int .i64 2147483647,.bool true]) (by simp [results,results224,go_sem]) rfl ⟨?_,b0.trans (hk8.is.mono (by omega))⟩
      rw [HV.out.1,HV.out.2]
      rfl
    · as_aux_lemma =>
      obtain ⟨cv,hcv0⟩:∃ cv,cv=Bm x 0 (-2147483648) 0:=⟨_,rfl⟩
      obtain ⟨cv2,hcv02⟩:∃ cv,cv=Bm x 0 2147483647 0:=⟨_,rfl⟩
      have hcv:=hcv0.symm
      have hcv2:=hcv02.symm
      have hp:0≤cv:=by
        rw [hcv0,Ace];unfold sgI;split
        · omega
        · rw [if_neg (by omega)];omega
      have hp2:cv2≤0:=by
        rw [hcv02,AhI];unfold sgI;split
        · omega
        · rw [if_pos (by omega)];omega
      have hb1:decide (cv<0)=false:=decide_eq_false (by omega)
      have hb2:decide (0<cv2)=false:=decide_eq_false (by omega)
      have HV := ll (show AfL x = x ∧ AfM x = true by
        refine ⟨by unfold AfL;omega,?_⟩
        unfold AfM;rw [decide_eq_true];omega)
      have hxa : -9223372036854775808≤x:=by omega
      have hxb:x<9223372036854775808:=by omega
      clear hx hx2 hcv0 hcv02
      go_region_held3 (fun w'=>(∀ b o,b<w.heap.size+1→w'.cell? ⟨b,o,none⟩=W.cell? ⟨b,o,none⟩)∧SK W (w.heap.size+1) w.heap.size w')
        (first
          | (refine SK.all ?_
             first
               | assumption
               | exact hk
               | exact hk.drew))
        (first
          | (go_at_call 34;refine (Pg (-2147483648) (by omega) (by omega) _).mono ?_;(rintro e w5 ⟨v5,rfl,D5,hb5⟩;have hk5:=SK.call hk.drew hb5;have hf5:=hk5.lt;have hff5:=hk5.fits;obtain ⟨nb5,A5,L5,c5,rfl,_⟩:=D5.form))
          | (go_at_call 115;refine (Hn ((X.below hk5.is (aa _)).more hff5) D5 (aa _) (by omega) Acf).mono ?_;(rintro e w6 ⟨rfl,hb6⟩;have hk6:=SK.call hk5 hb6;rw [hcv])))
      have c0:w6.cell? ⟨w.heap.size,0,none⟩=some (.bool nb):=(hk6.all.1 _ _ (by omega)).trans a0
      have c1:w6.cell? ⟨w.heap.size,1,none⟩=some (.slice A L c):=(hk6.all.1 _ _ (by omega)).trans a1
      have c2:w6.cell? ⟨w.heap.size,2,none⟩=some (.int .i64 0):=(hk6.all.1 _ _ (by omega)).trans a2
      have hfit6:=hk6.fits
      clear hcv
      go_wp2_with fail
      go_region_held3 (fun w'=>(∀ b o,b<w.heap.size+1→w'.cell? ⟨b,o,none⟩=W.cell? ⟨b,o,none⟩)∧SK W (w.heap.size+1) w.heap.size w')
        (first
          | (refine SK.all ?_
             first
               | assumption
               | exact hk6
               | exact hk6.drew))
        (first
          | (go_at_call 34;refine (Pg (2147483647) (by omega) (by omega) _).mono ?_;(rintro e w7 ⟨v7,rfl,D7,hb7⟩;have hk7:=SK.call hk6.drew hb7;have hf7:=hk7.lt;have hff7:=hk7.fits;obtain ⟨nb7,A7,L7,c7,rfl,_⟩:=D7.form))
          | (go_at_call 115;refine (Hn ((X.below hk7.is (aa _)).more hff7) D7 (aa _) (by omega) AhJ).mono ?_;(rintro e w8 ⟨rfl,hb8⟩;have hk8:=SK.call hk7 hb8;rw [hcv2])))
      have d0:w8.cell? ⟨w.heap.size,0,none⟩=some (.bool nb):=(hk8.all.1 _ _ (by omega)).trans a0
      have d1:w8.cell? ⟨w.heap.size,1,none⟩=some (.slice A L c):=(hk8.all.1 _ _ (by omega)).trans a1
      have d2:w8.cell? ⟨w.heap.size,2,none⟩=some (.int .i64 0):=(hk8.all.1 _ _ (by omega)).trans a2
      have hfit8:=hk8.fits
      clear hcv2
      go_wp2_with fail
      go_at_call 225
      refine (AkX (X.below hk8.is (aa _)) (by omega) hxa hxb).mono ?_
      rintro e w9 ⟨rfl,hb9⟩
      go_wp2_with fail
      refine bodyPost_ret (v:=.tuple #[.int .i64 x,.bool false]) (by simp [results,results224,go_sem]) rfl ⟨?_,(b0.trans (hk8.is.mono (by omega))).trans (hb9.mono (by omega))⟩
      rw [HV.out.1,HV.out.2]
      rfl
theorem ZG (h2:tmps.getD 2 undef=.pointer (some ⟨b,0,none⟩)) (hB:BI w b [v0,v1,v2] 43) :
  (results Tryz.f173 tmps).run prog w=.ok (.agg #[v0,v1,v2]) w:=by
 have k0:=hB.cell 0
 have k1:=hB.cell 1
 have k2:=hB.cell 2
 simp at k0 k1 k2
 simp at h2
 simp [results,results173,go_sem,h2,k0,k1,k2]
theorem QO (n e:Int) (h1 : -9223372036854775808≤n) (h2:n<9223372036854775808) (w:World) :
  Calls prog 173 #[.agg #[.int .i64 n,.int .i64 e]] w fun r w'=>∃ v',r=.returned v'∧DyR w' w.heap.size w'.heap.size v' (Af n 0 e).1 (Af n 0 e).2∧Below w.heap.size w w':=by
 have l5:(Ac n.natAbs).length≤50000:=lT (Aw (k:=2) (by omega)) (by decide)
 go_enter func173,ntmps173
 go_wp2_with fail
 obtain ⟨W,hW⟩:∃ q,q=(w.alloc (.cells #[.int .i64 n,.int .i64 e] 63)).alloc (.cells #[.bool false,.slice none 0 0,.int .i64 0] 43):=⟨_,rfl⟩
 have rX:BI W w.heap.size [.int .i64 n,.int .i64 e] 63:=by rw [hW];exact (BI.new_ _ _ _).call (al_ _ _)
 have rR:BI W (w.heap.size+1) [.bool false,.slice none 0 0,.int .i64 0] 43:=by rw [hW];have h:=BI.new_ (w.alloc (.cells #[.int .i64 n,.int .i64 e] 63)) [.bool false,.slice none 0 0,.int .i64 0] 43;rwa [show (w.alloc (.cells #[.int .i64 n,.int .i64 e] 63)).heap.size=w.heap.size+1 by simp] at h
 have bW:Below w.heap.size w W:=by rw [hW];exact Ap (Ap (ab _ _) _) _
 rw [←hW]
 clear hW
 have hA:=rX.lt
 have hA2:=rR.lt
 have a0:W.cell? ⟨w.heap.size,0,none⟩=some (.int .i64 n):=rX.cell 0
 have a1:W.cell? ⟨w.heap.size,1,none⟩=some (.int .i64 e):=rX.cell 1
 have hWs:=bW.size
 refine VN 6 (by kernel_rfl) (by kernel_rfl) ?_
 dsimp only [List.take,List.drop]
 obtain ⟨u0,hu0⟩:∃ q,q=W.drew:=⟨_,rfl⟩
 have hS:Below W.heap.size W u0:=by rw [hu0];exact (ab _ _).drew
 rw [←hu0]
 clear hu0
 refine MY 0 ?v0 rfl (by kernel_rfl) (by intro _ _ _ h;exact h) (by rfl) ?h0 ?r0
 case h0 =>
  intro w2 hx
  go_simp
  try rfl
 case' r0=>try simp only [Act.put,cm,bl,bo]
 refine MY 1 ?v1 rfl (by kernel_rfl) (by intro _ _ _ h;exact h) (by rfl) ?h1 ?r1
 case h1 =>
  exact Aok
 case' r1=>try simp only [Act.put,cm,bl,bo]
 refine MY 3 ?v3 rfl (by kernel_rfl) (by intro _ _ _ h;exact h) (by rfl) ?h3 ?r3
 case h3 =>
  intro w2 hx
  go_simp
  try rfl
 case' r3=>try simp only [Act.put,cm,bl,bo]
 refine MY 4 ?v4 rfl (by kernel_rfl) (by intro _ _ _ h;exact h) (by rfl) ?h4 ?r4
 case h4 =>
  exact Aol
 case' r4=>try simp only [Act.put,cm,bl,bo]
 refine Abs 2 rfl (by kernel_rfl) (by rfl) ?_
 intro x1 hx K hK
 have hS1:=hS.trans (hx.mono hS.size)
 clear hS
 go_simp
 refine (Pg n h1 h2 x1).mono ?_
 rintro e u1 ⟨v5,rfl,D5,hb⟩
 have hS:=hS1.trans (hb.mono hS1.size)
 obtain ⟨nb5,A5,L5,c5,rfl,_⟩:=D5.form
 refine hK.out _ _ (DT.growU hb) ?_
 clear hK K hx hS1 hb
 try simp only [Act.put,cm,bl,bo]
 refine Abs 5 rfl (by kernel_rfl) (by rfl) ?_
 intro x2 hx K hK
 have hS1:=hS.trans (hx.mono hS.size)
 clear hS
 replace D5:=(D5.below hx (aa _)).more hx.size
 go_simp
 refine (Nc (n:=e) D5 (aa _) l5 (by omega)).mono ?_
 rintro e u2 ⟨v6,rfl,D6,hb⟩
 have hS:=hS1.trans (hb.mono hS1.size)
 replace D5:=(D5.below hb (aa _)).more hb.size
 have hx2:=hS1.size
 obtain ⟨nb6,A6,L6,c6,rfl,_⟩:=D6.form
 clear D5
 refine hK.out _ _ (DT.growU hb) ?_
 clear hK K hx hS1 hb
 try simp only [Act.put,cm,bl,bo]
 refine endE (by kernel_rfl) ?_
 intro u4 hx
 have hS4:=hS.trans (hx.mono hS.size)
 replace D6:=(D6.below hx (aa _)).more hx.size
 have r4:=rR.below hS4 hA2
 have HD6:=ll D6
 have R4:=ll r4
 have B4:=ll (bW.trans (hS4.mono hWs))
 have q0:u4.cell? ⟨w.heap.size+1,0,none⟩=some (.bool false):=r4.cell 0
 have q1:u4.cell? ⟨w.heap.size+1,1,none⟩=some (.slice none 0 0):=r4.cell 1
 have q2:u4.cell? ⟨w.heap.size+1,2,none⟩=some (.int .i64 0):=r4.cell 2
 have qf:=r4.free
 have hu4:=r4.lt
 clear D6 r4 hS4 hS hx a0 a1 rX rR bW
 go_wp2_with fail
 refine bodyPost_ret (ZG rfl (R4.out.set3d _ _ _)) rfl ⟨_,rfl,?_,Ph B4.out (by omega) _ _ _⟩
 rw [AhF]
 exact (HD6.out.set3H R4.out AfI AfI).low (by omega)
theorem ZH (h:p:=by
 go_enter func220,ntmps220
 go_wp2_with fail
 exact bodyPost_ret (v:=.tuple #[.int .i64 0,.int .i64 3]) (by simp [results,results220,go_sem]) rfl ⟨by rw [HV.out.1,HV.out.2],b0⟩):p:=h
theorem Alc (n e f:Int) (w:World) (h:¬ LA n e f) :
  Calls prog 220 #[.agg #[.int .i64 n,.int .i64 e],.int .i64 f] w fun r w'=>r=.returned (.tuple #[.int .i64 (ZD n e f),.int .i64 (Ed n e f)])∧Below w.heap.size w w':=by
 have HV:=ll (AhH h)
 have b0:=al_ w (.cells #[.int .i64 n,.int .i64 e] 63)
 have r0:=BI.new_ w [.int .i64 n,.int .i64 e] 63
 have h':=Ui h
 clear h
 rcases h' with g0|⟨g0,g1⟩|⟨g0,g1,g2⟩|⟨g0,g1,g2,g3⟩|⟨g0,g1,g2,g3,g4⟩|⟨g0,g1,g2,g3,g4,g5⟩
 ·have d0:decide (n ≤ -2147483648)=true:=decide_eq_true g0
  clear g0
  exact ZH
 ·have d0:decide (n ≤ -2147483648)=false:=decide_eq_false g0
  have d1:decide (2147483648≤n)=true:=decide_eq_true g1
  clear g0 g1
  exact ZH
 ·have d0:decide (n ≤ -2147483648)=false:=decide_eq_false g0
  have d1:decide (2147483648≤n)=false:=decide_eq_false g1
  have d2:decide (e < -62)=true:=decide_eq_true g2
  clear g0 g1 g2
  exact ZH
 ·have d0:decide (n ≤ -2147483648)=false:=decide_eq_false g0
  have d1:decide (2147483648≤n)=false:=decide_eq_false g1
  have d2:decide (e < -62)=false:=decide_eq_false g2
  have d3:decide (30<e)=true:=decide_eq_true g3
  clear g0 g1 g2 g3
  exact ZH
 ·have d0:decide (n ≤ -2147483648)=false:=decide_eq_false g0
  have d1:decide (2147483648≤n)=false:=decide_eq_false g1
  have d2:decide (e < -62)=false:=decide_eq_false g2
  have d3:decide (30<e)=false:=decide_eq_false g3
  have d4:decide (f<0)=true:=decide_eq_true g4
  clear g0 g1 g2 g3 g4
  exact ZH
 ·have d0:decide (n ≤ -2147483648)=false:=decide_eq_false g0
  have d1:decide (2147483648≤n)=false:=decide_eq_false g1
  have d2:decide (e < -62)=false:=decide_eq_false g2
  have d3:decide (30<e)=false:=decide_eq_false g3
  have d4:decide (f<0)=false:=decide_eq_false g4
  have d5:decide (30<f)=true:=decide_eq_true g5
  clear g0 g1 g2 g3 g4 g5
  exact ZH
theorem AfO (n e f:Int) (w:World) :
  Calls prog 220 #[.agg #[.int .i64 n,.int .i64 e],.int .i64 f] w fun r w'=>r=.returned (.tuple #[.int .i64 (ZD n e f),.int .i64 (Ed n e f)])∧Below w.heap.size w w':=by
 by_cases h:LA n e f
 case neg=>exact Alc n e f w h
 have hp:=Pi h
 have hn:n.natAbs≤2147483648:=by have:=hp.1;have:=hp.2.1;omega
 have hk : -62≤e+f∧e+f≤60:=by obtain ⟨_,_,_,_,_,_⟩:=hp;omega
 have HOK:=ll h
 obtain ⟨g0,g1,g2,g3,g4,g5⟩:=hp
 have d0:decide (n ≤ -2147483648)=false:=decide_eq_false g0
 have d1:decide (2147483648≤n)=false:=decide_eq_false g1
 have d2:decide (e < -62)=false:=decide_eq_false g2
 have d3:decide (30<e)=false:=decide_eq_false g3
 have d4:decide (f<0)=false:=decide_eq_false g4
 have d5:decide (30<f)=false:=decide_eq_false g5
 have hi1 : -9223372036854775808≤n:=by omega
 have hi2:n<9223372036854775808:=by omega
 have he1 : -62≤e:=by omega
 have he2:e≤30:=by omega
 have hf1:0≤f:=by omega
 have hf2:f≤30:=by omega
 have l5:(Ac (Af n 0 e).1.natAbs).length≤50000:=lT (Acc hn (by omega) (by omega)) (by decide)
 have hde:(Af n 0 e).2≤62:=by
  unfold Af
  rw [show max (-65536) (min e 65536)=e by omega]
  split
  ·exact lT (Vv _ _) (by omega)
  ·exact lT (Vv _ _) (by omega)
 have l6:(Ac (Af n 0 (e+f)).1.natAbs).length≤50000:=lT (Acc hn (by omega) (by omega)) (by decide)
 have l7:(Ac (shE n (e+f)).natAbs).length≤50000:=lT (Acd hn (by omega)) (by decide)
 have hst:=ll (Aoj (x:=n) (a:=e) (b:=f) (by omega) (by omega) (by omega) (by omega))
 have hsv:=ll (AhG (x:=n) (k:=e+f) (by omega) (by omega))
 obtain ⟨x,hx⟩:∃ x,x=shE n (e+f):=⟨_,rfl⟩
 rw [←hx] at l7 hsv
 have HX:=ll hx
 have b0:=al_ w (.cells #[.int .i64 n,.int .i64 e] 63)
 have r0:=BI.new_ w [.int .i64 n,.int .i64 e] 63
 clear h g0 g1 g2 g3 g4 g5 hx
 go_enter func220,ntmps220
 go_wp2_with fail
 go_at_call 173
 refine (QO n e hi1 hi2 _).mono ?_
 rintro r u1 ⟨v5,rfl,D5,hb⟩
 have B1:=b0.trans (hb.mono b0.size)
 clear hb b0 r0
 obtain ⟨nb5,A5,L5,c5,rfl,_⟩:=D5.form
 have HD5:=ll D5
 clear D5
 have z1:=B1.size
 have HB1:=ll B1
 clear B1
 go_wp2_with fail
 go_at_call 33
 refine (Nc (n:=f) HD5.out (aa _) l5 (by omega)).mono ?_
 rintro r u2 ⟨v6,rfl,D6,hb⟩
 rw [hst.out] at D6
 have B2:=HB1.out.trans (hb.mono z1)
 obtain ⟨nb6,A6,L6,c6,rfl,_⟩:=D6.form
 have HD6:=ll D6
 clear D6 hb
 have z2:=B2.size
 have HB2:=ll B2
 clear B2
 go_wp2_with fail
 go_at_call 177
 refine (Ug (den:=0) HD6.out (aa _) l6 (by omega)).mono ?_
 rintro r u3 ⟨v7,rfl,D7,hb⟩
 rw [hsv.out] at D7
 have B3:=HB2.out.trans (hb.mono z2)
 obtain ⟨nb7,A7,L7,c7,rfl,_⟩:=D7.form
 have HD7:=ll D7
 clear D7 hb
 have z3:=B3.size
 have HB3:=ll B3
 clear B3
 go_wp2_with fail
 go_at_call 224
 obtain ⟨y,hy⟩:∃ q,q=u3.alloc (.cells #[.bool nb7,.slice A7 L7 c7,.int .i64 0] 43):=⟨_,rfl⟩
 have hSy:Below u3.heap.size u3 y:=by rw [hy];exact al_ _ _
 have Dy:DyR y u2.heap.size u3.heap.size (.agg #[.bool nb7,.slice A7 L7 c7,.int .i64 ((0:Nat):Int)]) x 0:=HD7.out.below hSy (aa _)
 try rw [←hy]
 clear hy
 refine (AfN Dy hSy.size l7).mono ?_
 rintro r u5 ⟨rfl,hb⟩
 have HF:=ll (HB3.out.trans ((hSy.trans (hb.mono hSy.size)).mono z3))
 clear hb hSy Dy HD7 HD6 HD5 HB1 HB2 HB3
 obtain ⟨x2,hx2⟩:∃ q,q=AfL x:=⟨_,rfl⟩
 rw [←hx2]
 by_cases h32 : -2147483648≤x∧x<2147483648
 ·have HV:=ll (Acb HOK.out (by rw [←HX.out];exact h32))
  rw [show AfM x=true from decide_eq_true h32]
  have HX2:=ll (show x2=x by rw [hx2];unfold AfL;omega)
  clear h32 hx2
  go_wp2_with fail
  exact bodyPost_ret (v:=.tuple #[.int .i64 x2,.int .i64 0]) (by simp [results,results220,go_sem]) rfl ⟨by rw [HV.out.1,HV.out.2,←HX.out,HX2.out],HF.out⟩
 ·have HV:=ll (RY HOK.out (by rw [←HX.out];exact h32))
  rw [show AfM x=false from decide_eq_false h32]
  clear h32 hx2
  go_wp2_with fail
  exact bodyPost_ret (v:=.tuple #[.int .i64 0,.int .i64 13]) (by simp [results,results220,go_sem]) rfl ⟨by rw [HV.out.1,HV.out.2],HF.out⟩
def wds (x:Int):List D:=(w32 (Ac x.natAbs)).map D.val
def dDy (t:Bool) (x:Int) (d:Nat):List D:=[.val (.bool (decide (x<0))),.row t 1 (Ac x.natAbs).length (wds x),.val (.int .i64 (d:Int))]
def aDy (t:Bool) (x:Int) (d:Nat):A:=.agg (dDy t x d)
def Nf (x:Int) (d:Nat):Prop:=d≤65536∧(d≠0→x % 2=1)
theorem Hd {t:Bool} {x:Int} {v:Value} (h:Ft w S (aDy t x d) v) (hS:∀ t b,S t b→b<w.heap.size) (hn:Nf x d):DyR w 0 w.heap.size v x d:=by
 obtain ⟨xs,rfl,h1⟩:=h
 obtain ⟨a,l1,rfl,ha,h2⟩:=h1.uncons
 obtain ⟨b,l2,rfl,hb,h3⟩:=h2.uncons
 obtain ⟨c,l3,rfl,hc,h4⟩:=h3.uncons
 rw [h4.unnil]
 cases ha
 cases hc
 cases hb with
 | @row _ _ _ c cs A xs hc hA hl hx hm hr =>
  have hw:xs=w32 (Ac x.natAbs):=Ir (vs:=w32 (Ac x.natAbs)) ⟨hx,hr⟩
  subst hw
  refine ⟨A,c,rfl,hA,hc,fun hne=>?_,fun a _=>ad _,hn.1,hn.2⟩
  obtain ⟨b,off,rfl,hb,hcell⟩:=hm (fun h=>hne (List.map_eq_nil_iff.1 h))
  exact ⟨b,off,rfl,hS _ _ hb,hS _ _ hb,hcell⟩
theorem Acg {l:List Nat} {v:Value} (h:v∈w32 l):v.oneCell'=true:=by
 simp only [w32,List.mem_map] at h
 obtain ⟨n,_,rfl⟩:=h
 rfl
theorem FG {w':World} {v:Value} {x:Int} (h:DyR w' w.heap.size w'.heap.size v x d):Ft w' (AnH w w') (aDy false x d) v:=by
 obtain ⟨A,c,rfl,h1,h2,h3,h4,h5,h6⟩:=h
 refine ⟨[.bool (decide (x<0)),.slice A (Ac x.natAbs).length c,.int .i64 (d:Int)],rfl,.cons_ (.val rfl) (.cons_ (.row (w32 (Ac x.natAbs)) h2 h1 ?_ ?_ ?_ ?_) (.cons_ (.val rfl) .nil_))⟩
 ·rw [wds,af,Vq,de]
 ·rw [wds,af]
 ·intro hne
  obtain ⟨b,off,rfl,h7,h8,h9⟩:=h3 (fun h=>hne (by rw [wds,h];rfl))
  exact ⟨b,off,rfl,⟨rfl,h4 _ rfl,h8⟩,h9⟩
 ·intro j u y hu hy
  rw [wds,ag,hy] at hu
  cases hu
  exact .val (Acg (gM hy))
theorem Nf.nf {m:Int} {p:Nat} (h:p≤65536):Nf (nf m p).1 (nf m p).2:=⟨lT (Vv m p) h,WZ m p⟩
section
variable {G:World→Prop}
theorem Nd (n:Int) (h1 : -9223372036854775808≤n) (h2:n<9223372036854775808):CVF prog G 34 [aI n] [aDy false n 0]:=fun w S vs hg hlt ha=>by
 obtain ⟨u,hu,h3⟩:=BM ha
 subst hu
 cases h3
 exact (Pg n h1 h2 w).mono fun r w' ⟨v,he,hd,hb⟩=>⟨v,he,FG hd,hb⟩
theorem Ee (t:Bool) (x:Int) (d:Nat) (n:Int) (hn:Nf x d) (hl:(Ac x.natAbs).length≤50000) (hd:(d:Int) - max (-65536) (min n 65536)≤65536):CVF prog G 33 [aDy t x d,aI n] [aDy false (Af x d n).1 (Af x d n).2]:=fun w S vs hg hlt ha=>by
 obtain ⟨v,vs',rfl,h1,ha⟩:=ha.uncons
 obtain ⟨u,hu,h2⟩:=BM ha
 subst hu
 cases h2
 exact (Nc (Hd h1 hlt hn) (aa _) hl hd).mono fun r w' ⟨v,he,hd,hb⟩=>⟨v,he,FG hd,hb⟩
theorem Ef (t t':Bool) (x:Int) (dx:Nat) (y:Int) (dy:Nat) (hn:Nf x dx) (hm:Nf y dy) (l1:(Ac x.natAbs).length≤50000) (l2:(Ac y.natAbs).length≤50000):CVF prog G 115 [aDy t x dx,aDy t' y dy] [aI (Bm x dx y dy)]:=fun w S vs hg hlt ha=>by
 obtain ⟨v,vs',rfl,h1,ha⟩:=ha.uncons
 obtain ⟨u,hu,h2⟩:=BM ha
 subst hu
 exact (Hn (Hd h1 hlt hn) (Hd h2 hlt hm) (aa _) l1 l2).mono fun r w' ⟨he,hb⟩=>⟨_,he,Bx.val rfl,hb⟩
theorem EF (n e:Int) (h1 : -9223372036854775808≤n) (h2:n<9223372036854775808):CVF prog G 173 [.agg [dI n,dI e]] [aDy false (Af n 0 e).1 (Af n 0 e).2]:=fun w S vs hg hlt ha=>by
 obtain ⟨u,hu,h3⟩:=BM ha
 subst hu
 obtain ⟨xs,rfl,h4⟩:=h3
 have h5:=Ir (vs:=[.int .i64 n,.int .i64 e]) h4
 subst h5
 exact (QO n e h1 h2 w).mono fun r w' ⟨v,he,hd,hb⟩=>⟨v,he,FG hd,hb⟩
end
theorem Ach {a b:Int} {p q:Nat} (h:a*2 ^ p=b*2 ^ q):sgI a=sgI b:=by rw [←Gx a p,h,Gx b q]
theorem Aci {a b A B:Int} {da db q:Nat} (ha:a*2 ^ q=A*2 ^ da) (hb:b*2 ^ q=B*2 ^ db):Bm a da b db=sgI (A - B):=by
 unfold Bm CR
 rw [Ach (AaN _ _)]
 refine Ach (p:=q) (q:=max da db) ?_
 have e1:a*2 ^ (max da db - da)*2 ^ q=A*2 ^ max da db:=by
  rw [jd,ha,am,←ak];congr 2;omega
 have e2:b*2 ^ (max da db - db)*2 ^ q=B*2 ^ max da db:=by
  rw [jd,hb,am,←ak];congr 2;omega
 rw [Int.add_mul,di,di,e1,e2,Int.sub_mul]
 omega
def dW (n:Nat):D:=.val (.int .u32 (n:Int))
def cW (ws:List Nat):List C:=ws.map fun n=>.d (dW n)
theorem VV (ws:List Nat):(w32 ws).map D.val=ws.map dW:=by simp [w32,dW]
theorem Ald (n:Nat):ET (madeCells (Value.int .u32 0).cells (n*1)).toList=cW (List.replicate n 0):=by
 rw [de,show (Value.int .u32 0).cells=#[Value.int .u32 0] from rfl,toList_madeCells_one]
 simp [ET,cW,dW]
theorem AhK {l:List Nat}:∀ c∈cW l,C.bel n c:=fun c hc=>by obtain ⟨z,_,rfl⟩:=List.mem_map.1 hc;trivial
theorem RZ {k x:Nat} (h:ws[k]?=some x):((ws.map dW).drop (k*1)).take 1=[dW x]:=Ahw h
section
variable {P:Program} {G:World→Prop} {o:Oper} {F:Frm} {H:List Ob}
theorem Mo {e:TypeId} {x:Operand} {by_:Nat} {k:IntKind} {z:Int} (ho:o.op=.makeSlice t x y) (hx:F.ev x=.one (.d (.val (.int k z)))) (hy:F.ev y=.one (.d (.val (.int k' z)))) (hz':z=(n:Int)) (ht:TyS P t e 1) (hz:TyZ P e (.int .u32 0) 1 by_) (hn:n≤1000000) (hby:by_≤1000) :
  AZ P G o F H (.one (.own H.length n)) [.row e 1 n (cW (List.replicate n 0))]:=by
 subst hz'
 have:=BG (P:=P) (G:=G) (H:=H) ho hx hy ht hz hn hby
 rwa [Ald] at this
theorem AhL {ty:TypeId} {x:Operand} {k:Nat} {xs:List Nat} {z:Nat} (ho:o.op=.load t x) (hx:F.ev x=.one (.ref id (i*1) (some n))) (hH:H[id]?=some (.row ty s n (cW xs))) (hz:xs[i]?=some z) (hk:TyK P t false k):AZ P G o F H (.one (.d (.val (.int .u32 (z:Int))))) [] :=
 Oa ho hx (.row hH) (by simp [cW,hz,dW]) hk
theorem Acj {ty:TypeId} {x:Operand} {xs:List Nat} {z:Int} {b:Bool} (ho:o.op=.store t x y) (hx:F.ev x=.one (.ref id (i*1) (some n))) (hH:H[id]?=some (.row ty s n (cW xs))) (hy:F.ev y=.one (.d (.val (.int .u32 z)))) (hz:z=(u:Int)) (hty:TyK P t b 1) (hi:i<xs.length) {ys:List Nat} (hys:xs.set i u=ys):TOk P G o F H .any (H.set id (.row ty s n (cW ys))):=by
 subst hz
 have:=Mf (P:=P) (G:=G) ho hx hH rfl hy hty (by simp [Ob.cs,cW,hi])
 have e:(cW xs).set (i*1) (.d (.val (.int .u32 (u:Int))))=cW ys:=by rw [←hys,de];simp [cW,fg,dW]
 simp only [Ob.cs,Ob.setC,e] at this
 exact this
theorem Ez {s:TypeId} {x:Operand} {k:IntKind} {p:Int} (ho:o.op=.convert s t x) (hs:P.underlying s=some (.int k)) (ht:P.underlying t=some (.int k')) (hx:F.ev x=.one (.d (.val (.int k p)))) (hr:k'.wrap p=r):AZ P G o F H (.one (.d (.val (.int k' r)))) []:=hr ▸ Fg ho hs ht hx
theorem Ale {x:Operand} {k:IntKind} {p:Int} (ho:o.op=.binOp .mul t x y t') (hx:F.ev x=.one (.d (.val (.int k p)))) (hy:F.ev y=.one (.d (.val (.int k q)))) (hr:k.wrap (p*q)=r):AZ P G o F H (.one (.d (.val (.int k r)))) []:=hr ▸ Ahs ho hx hy
theorem Sa {x:Operand} {k:IntKind} {p:Int} (ho:o.op=.binOp .add t x y t') (hx:F.ev x=.one (.d (.val (.int k p)))) (hy:F.ev y=.one (.d (.val (.int k q)))) (hr:k.wrap (p+q)=r):AZ P G o F H (.one (.d (.val (.int k r)))) []:=hr ▸ Ahr ho hx hy
theorem Sb {x:Operand} {p:Nat} (ho:o.op=.binOp .shr t x (.const (.int k' 32)) t') (hx:F.ev x=.one (.d (.val (.int .u64 (p:Int))))) (hr:((p / 4294967296:Nat):Int)=r):AZ P G o F H (.one (.d (.val (.int .u64 r)))) []:=by
 subst hr
 refine Dv (y:=.const (.int k' 32)) (u':=.int k' 32) ho hx rfl (fun w=>?_) rfl
 have e:(p:Int).fdiv 4294967296=((p / 4294967296:Nat):Int):=by rw [Int.fdiv_eq_ediv_of_nonneg _ (by decide)];rfl
 simp [eqGuard,binOp,Op.shift,IntKind.bits,e]
theorem VW {x:Operand} {p q:Bool} (ho:o.op=.binOp .neq t x y t') (ht:P.underlying t=some .bool) (hx:F.ev x=.one (.d (.val (.bool p)))) (hy:F.ev y=.one (.d (.val (.bool q)))):AZ P G o F H (.one (.d (.val (.bool (p != q))))) []:=by
 refine Dv ho hx hy (fun w=>?_) rfl
 have h1:(Op.equal t (.bool p) (.bool q)).run P w=.ok (p == q) w:=by
  have key:∀ d:Nat,(Op.equalIn (d+1) t (.bool p) (.bool q)).run P w=.ok (p == q) w:=fun d=>by simp [Op.equalIn,run_underlying ht]
  exact key 9999
 simp [eqGuard,binOp,h1,bne]
end
theorem Alf {t:Bool} {c:C} {y:D} (hc:c=.own id n) (hH:H[id]?=some (.row ty 1 n (cW ws))) (hy:y=.row t 1 n (ws.map dW)):FB t H c y :=
 Dc hc hH hy ⟨by simp [cW],fun j a b ha hb=>by
  simp only [cW,ag,dj] at ha hb
  obtain ⟨z,hz,rfl⟩:=ha
  obtain ⟨z',hz',rfl⟩:=hb
  rw [hz] at hz'
  cases hz'
  exact .d fun _=>.val _⟩
theorem Fm {z:Int} (h0:0≤z) (h1:z<18446744073709551616):IntKind.wrap .u64 z=z:=by rw [fh];omega
theorem Ng (n:Nat):IntKind.wrap .u32 (n:Int)=((n % 4294967296:Nat):Int):=by rw [jj];omega
theorem Ack (G:World→Prop) (t neg:Bool) (ws:List Nat) (n den:Nat) (hn:n=ws.length) (ha:Av ws) (l1:ws.length≤100000) (hd:den≤65536):CVF prog G 77 [aB neg,.one (.row t 1 n (ws.map dW)),aI (den:Int)] [aDy false (nf (sg neg (AH ws)) den).1 (nf (sg neg (AH ws)) den).2]:=fun w S vs hg hlt hv=>by
 subst hn
 obtain ⟨v,vs',rfl,q1,hv⟩:=hv.uncons
 obtain ⟨v2,vs',rfl,q2,hv⟩:=hv.uncons
 obtain ⟨u,hu,q3⟩:=BM hv
 subst hu
 cases q1
 cases q3
 have q2':Bx w S (.row t 1 ws.length (ws.map dW)) v2:=q2
 cases q2' with
 | @row _ _ _ c cs A xs hc hA hl hx hm hr =>
  have hw:xs=w32 ws:=Ir (vs:=w32 ws) (by rw [VV];exact ⟨hx,hr⟩)
  subst hw
  refine (It neg A ws c den w.heap.size w (aa _) (fun hne=>?_) hc ha l1 hd).mono fun r w' ⟨v,he,hd,hb⟩=>⟨v,he,FG hd,hb⟩
  obtain ⟨b,off,rfl,hb,hcell⟩:=hm (fun h=>hne (by rw [List.map_eq_nil_iff.1 h];rfl))
  exact ⟨b,off,rfl,hlt _ _ hb,hlt _ _ hb,hcell⟩
theorem Pj (G:World→Prop) (x:Int) (d:Nat) (hn:Nf x d) (hl:(Ac x.natAbs).length≤100000):CV prog G 76 [aDy false x d] [aDy false x d]:=fun w S vs hg hlt ha=>by
 obtain ⟨u,hu,h3⟩:=BM ha
 subst hu
 refine (IW (Hd h3 hlt hn) (aa _) hl).mono fun r w' ⟨he,hb⟩=>⟨_,he,?_,hb⟩
 obtain ⟨xs,hv,hl2⟩:=h3
 refine ⟨xs,hv,hl2.1,fun j a b ha hb'=>?_⟩
 have hf:DY a:=by
  have hm:=gM ha
  simp only [dDy,cr,ct,or_false] at hm
  rcases hm with rfl|rfl|rfl
  ·exact .val _
  ·exact .row fun d hd=>by obtain ⟨v,_,rfl⟩:=List.mem_map.1 hd;exact .val _
  ·exact .val _
 have h5:Bx w (fun t b=>t=false∧S false b) a b:=Bx.free (fun b h=>⟨rfl,h⟩) (hl2.2 j a b ha hb') hf
 exact h5.mono (fun t b h=>⟨h.1,.inl h.2⟩) (fun t b h=>hb.block b (hlt _ _ h.2))
theorem Oj:∀ {j u v:Nat},o[j]?=some v→AH (o.set j u)+v*4294967296 ^ j=AH o+u*4294967296 ^ j:=by
 induction o with
 | nil=>intro j u v h;simp at h
 | cons y o ih =>
  intro j u v h
  cases j with
  | zero =>
   simp only [gu,Option.some.injEq] at h
   subst h
   simp only [bl,AH]
   omega
  | succ j =>
   simp only [fi] at h
   have:=ih (u:=u) h
   simp only [bo,AH,bj]
   rw [←ar,←ar]
   omega
theorem Gd {j:Nat} (h:Av o) (hu:u<4294967296):Av (o.set j u):=fun x hx=>by
 rcases ld hx with hx|rfl
 ·exact h x hx
 ·exact hu
structure Sc (b o0:List Nat) (i x k:Nat) (o:List Nat) (c:Nat):Prop where
 len:o.length=o0.length
 ok:Av o
 car:c<4294967296
 val:AH o+c*4294967296 ^ (i+k)=AH o0+x*AH (b.take k)*4294967296 ^ i
 zero:∀ j,i+b.length≤j→j<o0.length→o[j]?=some 0
theorem Sc.fit {b:List Nat} {x k:Nat} {y:Nat} (h:Sc b o0 i x k o c) (hx:x<4294967296) (hy:y<4294967296) (hu:o[i+k]?=some u):x*y+u<18446744073709551616∧c+(x*y+u)<18446744073709551616:=by
 have h1:x*y≤4294967295*4294967295:=en (by omega) (by omega)
 have h2:=h.ok u (gM hu)
 have h3:=h.car
 omega
theorem Sc.step {b:List Nat} {x k:Nat} {y:Nat} (h:Sc b o0 i x k o c) (hx:x<4294967296) (hb:Av b) (hy:b[k]?=some y) (hu:o[i+k]?=some u):Sc b o0 i x (k+1) (o.set (i+k) ((c+(x*y+u)) % 4294967296)) ((c+(x*y+u)) / 4294967296):=by
 obtain ⟨f1,f2⟩:=h.fit hx (hb y (gM hy)) hu
 have hkb:=(gS.1 hy).1
 refine ⟨by rw [ee];exact h.len,Gd h.ok (by omega),by omega,?_,fun j h1 h2=>by rw [cn,if_neg (by omega)];exact h.zero j h1 h2⟩
 have hs:=Oj (u:=(c+(x*y+u)) % 4294967296) hu
 have hv:=h.val
 have ht:=Bb b k
 rw [hy,bf] at ht
 have hdm:=dn (c+(x*y+u)) 4294967296
 rw [ht,dm,bk,show i+(k+1)=(i+k)+1 by omega,bj]
 generalize hP:4294967296 ^ (i+k)=p at hs hv ⊢
 have e1:x*(4294967296 ^ k*y)*4294967296 ^ i=x*y*p:=by
  rw [←hP,bi]
  simp only [ar,aw,Nat.mul_left_comm]
 rw [e1]
 generalize (c+(x*y+u)) / 4294967296=q at hdm ⊢
 generalize (c+(x*y+u)) % 4294967296=r at hs hdm ⊢
 have e2:q*(p*4294967296)+r*p=(c+(x*y+u))*p:=by
  rw [←hdm,bk,aw p 4294967296,←ar,aw q 4294967296]
 rw [bk,bk] at e2
 omega
structure Ho (a b:List Nat) (i:Nat) (o:List Nat):Prop where
 len:o.length=a.length+b.length
 ok:Av o
 val:AH o=AH (a.take i)*AH b
 zero:∀ j,i+b.length≤j→j<a.length+b.length→o[j]?=some 0
theorem Ho.start (a b:List Nat):Ho a b 0 (List.replicate (a.length+b.length) 0):=by
 refine ⟨by simp,fun x hx=>by rw [(List.mem_replicate.1 hx).2];decide,by rw [EY];simp [AH],fun j _ h2=>by simp [h2]⟩
theorem Ho.enter {b:List Nat} {x:Nat} (h:Ho a b i o):Sc b o i x 0 o 0 :=
 ⟨rfl,h.ok,by decide,by simp [AH],fun j h1 h2=>h.zero j h1 (by rw [←h.len];exact h2)⟩
theorem Ho.leave {b:List Nat} {x:Nat} (h:Ho a b i o0) (hx:a[i]?=some x) (h2:Sc b o0 i x b.length o c):Ho a b (i+1) (o.set (i+b.length) c):=by
 have hi:=(gS.1 hx).1
 have hz:=h2.zero (i+b.length) (aa _) (by rw [h.len];omega)
 have hs:=Oj (u:=c) hz
 refine ⟨by rw [ee,h2.len];exact h.len,Gd h2.ok h2.car,?_,fun j h3 h4=>by rw [cn,if_neg (by omega)];exact h2.zero j (by omega) (by rw [h.len];exact h4)⟩
 have hv:=h2.val
 rw [aq] at hv
 have ht:=Bb a i
 rw [hx,bf] at ht
 rw [ht,bk,←h.val]
 have e:x*AH b*4294967296 ^ i=4294967296 ^ i*x*AH b:=by simp only [ar,aw,Nat.mul_left_comm]
 omega
theorem Acl (x y:Int):sg (decide (x<0) != decide (y<0)) (x.natAbs*y.natAbs)=x*y:=by
 unfold sg
 have hx:x=if x<0 then -(x.natAbs:Int) else x.natAbs:=by split <;> omega
 have hy:y=if y<0 then -(y.natAbs:Int) else y.natAbs:=by split <;> omega
 by_cases h1:x<0 <;> by_cases h2:y<0
 all_goals
  simp only [h1,h2,decide_true,decide_false,bne_self_eq_false,fz,if_true,if_false,Bool.true_bne,Bool.false_bne,dg] at hx hy ⊢
  conv=>rhs;rw [hx,hy]
  simp [di,Int.mul_neg]
def Pk (x:Int) (dx:Nat) (y:Int) (dy:Nat):Int × Nat:=nf (x*y) (dx+dy)
theorem AhM {x:Int} {k p:Nat} (h:(Ac x.natAbs)[k]?=some p):((wds x).drop (k*1)).take 1=[dW p]:=by
 unfold wds
 rw [VV]
 exact RZ h
theorem Aom (x:Int):DY (.row false 1 (Ac x.natAbs).length (wds x)):=.row fun d hd=>by obtain ⟨v,_,rfl⟩:=List.mem_map.1 hd;exact .val _
theorem rvW {t:Tmp} {ty' k:Nat} {x:Int} (hk:TyK P ty true k) (hi:3=k) (hF:F t=.one (.ref id 0 none):=by with_unfolding_all exact rfl) (hH:H[id]?=some (.box ty' ((dDy false x d).map C.d)):=by with_unfolding_all exact rfl):RV P F H (.cell t ty) (aDy false x d) :=
 AhA hF hH hk hi rfl (.cons_ (Bi rfl fun _=>.val _) (.cons_ (Bi rfl fun _=>Aom x) (.cons_ (Bi rfl fun _=>.val _) .nil_)))
theorem Pm (h:p:=by
 exact Au rfl (.cons_ (rvW Aa rfl) .nil_)):p:=h
theorem zh3k (h:p:=by first|exact Ez rfl underlying143 underlying148 rfl m1|exact Fg rfl underlying143 underlying148 rfl):p:=h
theorem zh4k (h:p:=by first|exact Ez rfl underlying143 underlying148 rfl m2|exact Fg rfl underlying143 underlying148 rfl):p:=h
theorem zh5k (h:p:=by first|exact Ez rfl underlying143 underlying148 rfl m4|exact Fg rfl underlying143 underlying148 rfl):p:=h
theorem zh6k (h:p:=by first|exact Ez rfl underlying148 underlying143 rfl m7|exact Fg rfl underlying148 underlying143 rfl):p:=h
theorem zh7k (h:p:=by first|exact Ez rfl underlying148 underlying143 rfl m8|exact Fg rfl underlying148 underlying143 rfl):p:=h
theorem ArE (h:p:=by first|exact xIr BK (hr2)|exact IU (i:=i+k) rfl rfl rfl rfl (by omega) BK (by omega) (by decide)):p:=h
theorem AmJ (h:p:=by first|exact Acj rfl rfl rfl rfl rfl Cg tl rfl|exact xS1 Cg|exact xSk Cg):p:=h
theorem Aon (h:p:=by first|exact Ale rfl rfl rfl m3|exact Md rfl rfl rfl (by omega)):p:=h
theorem Acm (h:p:=by first|exact AhL rfl rfl rfl hu Cg|exact xLd Cg):p:=h
theorem Aoo (h:p:=by first|exact xCl func76 (NX)|exact xCl func76 (NY)):p:=h
theorem Aop (h:p:=by first|exact VW rfl underlying4 rfl rfl|exact xNe):p:=h
theorem Pn (x:Int) (dx:Nat) (y:Int) (dy:Nat) (hnx:Nf x dx) (hny:Nf y dy) (lx:(Ac x.natAbs).length≤40000) (ly:(Ac y.natAbs).length≤40000) (hd:dx+dy≤65536):CV prog Ah 217 [aDy false x dx,aDy false y dy] [aDy false (Pk x dx y dy).1 (Pk x dx y dy).2]:=by
 refine cvz func217 ntmps217 ?_
 have NX:=Pj Ah x dx hnx (lT lx (by decide))
 have NY:=Pj Ah y dy hny (lT ly (by decide))
 have hax:=AE x.natAbs
 have hay:=AE y.natAbs
 repeat' (with_reducible first|refine qq ?_|(refine Tx 0 ?_;refine gN xBo <| gN xBo <| gN (xAl Aj) ?_)|(refine Ax (id:=1) 4 AC (by kernel_rfl) ?_;dsimp only [List.take,List.drop];refine gP xL <| gP Aoo <| gP xL <| gP Aoo ?_;refine Ke ?_;refine gZ (xSk Aa) <| gZ (xSk Aa) ?_)|(refine Tx 2 ?_;refine gO xF <| gO xD <| gO xN <| gO xF <| gO xD <| gO xN <| gO xAd <| gN (by first|exact Mo (n:=(Ac x.natAbs).length+(Ac y.natAbs).length) rfl rfl rfl (by omega) BK DF (by omega) (by decide)|exact BG rfl rfl rfl BK DF (by omega) (by decide)) <| gO xA ?_)|(refine Tx 3 ?_;refine gO xF <| gO xD <| gO xN <| gO xM ?_))
 refine AJ (Be 4) (Al (fun n Fr H=>∃ (i:Nat) (o:List Nat),i≤(Ac x.natAbs).length∧n=(Ac x.natAbs).length - i∧Ho (Ac x.natAbs) (Ac y.natAbs) i o∧Fr=ofL [(2,vr 0),(3,vr 1),(4,vr 2),(5,vo 3 (((Ac x.natAbs).length+(Ac y.natAbs).length))),(24,vd (.row false 1 (Ac x.natAbs).length (wds x))),(25,vi ((Ac x.natAbs).length)),(26,vi ((i:Nat)))]∧H=[.box 43 ((dDy false x dx).map C.d),.box 43 ((dDy false y dy).map C.d),.box 43 [.d (.val (.bool false)),.d (.val (.slice none 0 0)),.d (.val (.int .i64 0))],.row 143 1 ((Ac x.natAbs).length+(Ac y.natAbs).length) (cW o)]) (n0:=(Ac x.natAbs).length) ⟨0,(List.replicate ((Ac x.natAbs).length+(Ac y.natAbs).length) 0),ad _,rfl,Ho.start _ _,rfl,rfl⟩ ?_)
 rintro n Fr H ⟨i,o,hi,rfl,ho,rfl,rfl⟩
 by_cases hlt:i<(Ac x.natAbs).length
 case pos =>
  obtain ⟨p,hp⟩:∃ p,(Ac x.natAbs)[i]?=some p:=⟨_,gE hlt⟩
  have hpk:=hax p (gM hp)
  have hp2:=AhM hp
  repeat' (with_reducible first|refine qq ?_|(refine Tx 4 ?_;refine gO xLt ?_)|(refine Tx 5 ?_;refine gO xM <| gO (xIr BK (hp2)) <| gO xD <| gO xA <| gO xA ?_)|(refine Tx 6 ?_;refine gO xA ?_)|(refine Tx 7 ?_;refine gO xF <| gO xD <| gO xN <| gO xM ?_))
  refine AJ (Be 4) (Al (fun n Fr H=>∃ (k:Nat) (q:List Nat) (c:Nat),k≤(Ac y.natAbs).length∧n=(Ac y.natAbs).length - k∧Sc (Ac y.natAbs) o i p k q c∧Fr=ofL [(2,vr 0),(3,vr 1),(4,vr 2),(5,vo 3 (((Ac x.natAbs).length+(Ac y.natAbs).length))),(6,vi i),(7,vd (dW p)),(24,vd (.row false 1 (Ac x.natAbs).length (wds x))),(25,vi ((Ac x.natAbs).length)),(26,vi ((i:Nat))),(8,vd (.val (.int .u64 ((c:Nat):Int)))),(32,vd (.row false 1 (Ac y.natAbs).length (wds y))),(33,vi ((Ac y.natAbs).length)),(34,vi ((k:Nat)))]∧H=[.box 43 ((dDy false x dx).map C.d),.box 43 ((dDy false y dy).map C.d),.box 43 [.d (.val (.bool false)),.d (.val (.slice none 0 0)),.d (.val (.int .i64 0))],.row 143 1 ((Ac x.natAbs).length+(Ac y.natAbs).length) (cW q)]) (n0:=(Ac y.natAbs).length) ⟨0,o,0,ad _,rfl,ho.enter,rfl,rfl⟩ ?_)
  rintro n Fr H ⟨k,q,c,hk,rfl,hq,rfl,rfl⟩
  by_cases hlt2:k<(Ac y.natAbs).length
  case pos =>
   obtain ⟨r,hr⟩:∃ r,(Ac y.natAbs)[k]?=some r:=⟨_,gE hlt2⟩
   have hrk:=hay r (gM hr)
   have hr2:=AhM hr
   have hql:=hq.len
   have hol:=ho.len
   obtain ⟨u,hu⟩:∃ u,q[i+k]?=some u:=⟨_,gE (by omega)⟩
   have hu2:=hq.ok u (gM hu)
   obtain ⟨f1,f2⟩:=hq.fit hpk hrk hu
   have hst:=hq.step hpk hay hr hu
   have m1:IntKind.wrap .u64 (p:Int)=(p:Int):=Fm (by omega) (by omega)
   have m2:IntKind.wrap .u64 (r:Int)=(r:Int):=Fm (by omega) (by omega)
   have m3:IntKind.wrap .u64 ((p:Int)*(r:Int))=((p*r:Nat):Int):=by rw [←iy];exact Fm (by omega) (by omega)
   have m4:IntKind.wrap .u64 (u:Int)=(u:Int):=Fm (by omega) (by omega)
   have m5:IntKind.wrap .u64 (((p*r:Nat):Int)+(u:Int))=((p*r+u:Nat):Int):=Fm (by omega) (by omega)
   have m6:IntKind.wrap .u64 ((c:Int)+((p*r+u:Nat):Int))=((c+(p*r+u):Nat):Int):=Fm (by omega) (by omega)
   have m7:=Ng (c+(p*r+u))
   have tl:i+k<q.length:=by omega
   generalize hm:p*r+u=m at *
   repeat' (with_reducible first|refine qq ?_|(refine Tx 8 ?_;refine gO xLt ?_)|(refine Tx 9 ?_;refine gO xM <| gO ArE <| gO Acm <| gO xA <| gO xA ?_)|(refine Tx 10 ?_;refine gO xM <| gO xM <| gO zh3k <| gO xM <| gO zh4k <| gO Aon <| gO xM <| gO xM <| gO xM <| gO xAd <| gO ArE <| gO Acm <| gO zh5k <| gO (by first|exact Sa rfl rfl rfl m5|exact xAd) <| gO (by first|exact Sa rfl rfl rfl m6|exact xAd) <| gO xA ?_)|(refine Tx 11 ?_;refine gO xM <| gO xM <| gO xM <| gO xAd <| gO xM <| gO zh6k <| gO ArE <| gZ AmJ ?_)|(refine Tx 12 ?_;refine gO xM <| gO (by exact Sb rfl rfl rfl) <| gO xA ?_)|(refine Tx 13 ?_;refine gO xAd <| gO xM ?_))
   refine ⟨_,_,Be 4,_,by omega,k+1,_,_,by omega,rfl,hst,rfl,rfl⟩
  obtain rfl:k=(Ac y.natAbs).length:=by omega
  have hql:=hq.len
  have hol:=ho.len
  have hlv:=ho.leave hp hq
  have tl:i+(Ac y.natAbs).length<q.length:=by omega
  have hck:=hq.car
  have m8:IntKind.wrap .u32 (c:Int)=(c:Int):=by rw [Ng,ed hck]
  repeat' (with_reducible first|refine qq ?_|(refine Tx 8 ?_;refine gO xLt ?_)|(refine Tx 14 ?_;refine gO xM <| gO xM <| gO xF <| gO xD <| gO xN <| gO xAd <| gO xM <| gO zh7k <| gO (by exact IU (i:=i+(Ac y.natAbs).length) rfl rfl rfl rfl (by omega) BK (by omega) (by decide)) <| gZ AmJ ?_)|(refine Tx 15 ?_;refine gO xAd <| gO xM ?_))
  refine ⟨_,_,Be 4,_,by omega,i+1,_,by omega,rfl,hlv,rfl,rfl⟩
 obtain rfl:i=(Ac x.natAbs).length:=by omega
 have hv:=ho.val
 rw [aq,Ao,Ao] at hv
 have hol:=ho.len
 have NB:=Ack Ah true (decide (x<0) != decide (y<0)) o ((Ac x.natAbs).length+(Ac y.natAbs).length) (dx+dy) hol.symm ho.ok (by omega) hd
 rw [hv,Acl] at NB
 repeat' (with_reducible first|refine qq ?_|(refine Tx 4 ?_;refine gO xLt ?_)|(refine Tx 16 ?_;refine gO xF <| gO xD <| gO xF <| gO xD <| gO Aop <| gO xM <| gO xF <| gO xD <| gO xF <| gO xD <| gO xAd <| gO (xCl func77 (NB.cv) (ha:=.cons_ (Dn rfl rfl (Bi rfl fun h=>by cases h)) (.cons_ (Dn rfl rfl (Alf rfl rfl rfl)) (.cons_ (Dn rfl rfl (Bi rfl fun h=>by cases h)) .nil_)))) <| gZ (xSk Aa) ?_))
 exact Pm
theorem EG {N:Nat} {ds:List D} (t id:Nat) (h:F t=.one (.own id n)) (hH:H[id]?=some (.row ty s n (ds.map C.d))):Wk N F H (F.put (some t) (.one (.d (.row false s n ds)))) (H.set id .dead):=fun b0 w0 S0 a m hm hs=>by
 subst hm
 have hv:=hs.frame t
 rw [h] at hv
 obtain ⟨xs,hE,hat,hl⟩:=Il hs.cx hv hH
 generalize hvv:a.tmps.getD t undef=v at hv hE hat
 have hidl:=(gS.1 hH).1
 have hset:∀ i ob,(m.H.set id .dead)[i]?=some ob→(i=id∧ob=.dead)∨(i≠id∧m.H[i]?=some ob):=fun i ob hi=>by
  rw [cn] at hi
  by_cases e:id=i
  ·rw [if_pos e,if_pos (by omega)] at hi
   exact .inl ⟨e.symm,(Option.some.inj hi).symm⟩
  ·rw [if_neg e] at hi
   exact .inr ⟨fun h=>e h.symm,hi⟩
 have hget:∀ i e,(if i=id then none else m.E i)=some e→i≠id∧m.E i=some e:=fun i e hi=>by
  by_cases q:i=id
  ·rw [if_pos q] at hi;cases hi
  ·rw [if_neg q] at hi;exact ⟨q,hi⟩
 have hle:Le m { m with S:=fun t b=>m.S t b∨(t=false∧v.ownBlock=some b),H:=m.H.set id .dead,E:=fun i=>if i=id then none else m.E i }:=by
  refine ⟨fun t b h=>.inl h,?_,fun _ _ _=>rfl,fun i ob hob=>?_⟩
  ·funext b
   simp
  ·by_cases q:i=id
   ·subst q
    exact ⟨.dead,by show (m.H.set i .dead)[i]?=_;rw [cn,if_pos rfl,if_pos hidl],fun k hk=>by cases hk⟩
   ·exact ⟨ob,by show (m.H.set id .dead)[i]?=_;rw [cn,if_neg (fun h=>q h.symm)];exact hob,MR.same fun e he=>by show (if i=id then none else m.E i)=some e;rw [if_neg q];exact he⟩
 refine ⟨{ m with S:=fun t b=>m.S t b∨(t=false∧v.ownBlock=some b),H:=m.H.set id .dead,E:=fun i=>if i=id then none else m.E i },rfl,rfl,⟨⟨fun i e hi=>?_,fun i j e e' hij hi hj=>?_,fun i e g t' hi hg=>?_,fun t' b hb=>?_⟩,fun i ob hob hk=>?_,fun t'=>?_,hs.size,hs.defers,hs.below,hs.base,fun b hb=>?_,?_⟩⟩
 ·obtain ⟨q,hi⟩:=hget i e hi
  obtain ⟨h1,ob,h2,h3⟩:=hs.cx.each i e hi
  exact ⟨h1,ob,by show (m.H.set id .dead)[i]?=_;rw [cn,if_neg (fun h=>q h.symm)];exact h2,h3.le hle⟩
 ·exact hs.cx.apart i j e e' hij (hget i e hi).2 (hget j e' hj).2
 ·obtain ⟨q,hi⟩:=hget i e hi
  rintro (hb|⟨rfl,hb⟩)
  ·exact hs.cx.far i e g t' hi hg hb
  ·exact hs.cx.apart i id e _ q hi hE g hg hb
 ·rcases hb with hb|⟨_,hb⟩
  ·exact hs.cx.lt t' b hb
  ·exact (World.ownsRow.lt hat b hb).2
 ·rcases hset i ob hob with ⟨_,rfl⟩|⟨q,h1⟩
  ·cases hk
  ·show (if i=id then none else m.E i).isSome=true
   rw [if_neg q]
   exact hs.tot i ob h1 hk
 ·rw [IQ]
  split
  ·rename_i ht
   cases ht
   rw [hvv]
   have hld:Ba (Bx m.w m.S) ds xs:=⟨by have:=hl.1;simpa using this,fun j x y hx hy=>hl.2 j (.d x) y (by simp [hx]) hy⟩
   show Bx _ _ (.row false s n ds) v
   rcases hat.2 with ⟨rfl,h0⟩|⟨g,cap,cur,rfl,hb,hg,hnc,_,hcur,hxs⟩
   ·subst h0
    have hx0:xs=[]:=bz (by have:=hat.1;simpa using this)
    subst hx0
    have hd0:ds=[]:=bz (by have:=hld.1;simpa using this)
    subst hd0
    exact .row [] (aa _) (fun _=>rfl) (by simp) rfl (fun h=>absurd rfl h) (fun j u x hu=>by simp at hu)
   ·refine .row xs hnc (by simp) (by rw [hld.1];exact hat.1) hld.1 (fun _=>⟨g,0,rfl,.inr ⟨rfl,rfl⟩,fun j x hj=>?_⟩) (fun j u x hu hx=>Bx.le hle (hld.2 j u x hu hx))
    rw [av,cell_of_row _ g j _ ty (0,0) hg]
    have hj':(cur.toList.take (n*s))[j]?=some x:=by rw [hxs];exact hj
    rw [cq] at hj'
    split at hj'
    ·simpa using hj'
    ·cases hj'
  ·exact (hs.frame t').le hle
 ·rcases hb with hb|⟨_,hb⟩
  ·exact hs.S b hb
  ·exact .inr (World.ownsRow.lt hat b hb).1
 ·exact hle.T.trans hs.T
def wdN (n:Nat):List D:=(w32 (Ac n)).map D.val
def Iu (t:Bool) (n:Nat):D:=.row t 1 (Ac n).length (wdN n)
theorem Acn (n:Nat):wdN n=(Ac n).map dW:=VV _
theorem QP {k p:Nat} (h:(Ac n)[k]?=some p):((wdN n).drop (k*1)).take 1=[dW p]:=by
 rw [Acn]
 exact RZ h
theorem ArF (ws:List Nat):cW ws=(ws.map dW).map C.d:=by simp [cW]
theorem Ok {t:Bool} {v:Value} (h:Bx w S (.row t 1 n (ws.map dW)) v) (hS:∀ t b,S t b→b<w.heap.size) (hn:n=ws.length):∃ A c,v=.slice A ws.length c∧(A=none→c=0)∧ws.length≤c∧Aq w w.heap.size A (w32 ws)∧(ws≠[]→∃ b off,A=some ⟨b,off,none⟩∧S t b∧∀ (j:Nat) (x:Value),(w32 ws)[j]?=some x→w.cell? ⟨b,off+j,none⟩=some x):=by
 subst hn
 cases h with
 | @row _ _ _ c cs A xs hc hA hl hx hm hr =>
  have hw:xs=w32 ws:=Ir (vs:=w32 ws) (by rw [VV];exact ⟨hx,hr⟩)
  subst hw
  refine ⟨A,c,rfl,hA,hc,fun hne=>?_,fun hne=>hm fun h=>hne (List.map_eq_nil_iff.1 h)⟩
  obtain ⟨b,off,rfl,hb,hcell⟩:=hm (fun h=>hne (by rw [List.map_eq_nil_iff.1 h];rfl))
  exact ⟨b,off,rfl,hS _ _ hb,hS _ _ hb,hcell⟩
theorem Alg {t:Bool} {v:Value} (h:Bx w S (Iu t n) v) (hS:∀ t b,S t b→b<w.heap.size):WdR w w.heap.size v n:=by
 unfold Iu at h
 rw [Acn] at h
 obtain ⟨A,c,rfl,h1,h2,h3,_⟩:=Ok h hS rfl
 exact ⟨A,c,rfl,h1,h2,h3⟩
theorem Aco {t:Bool} {A:Option Addr} (hn:n=ws.length) (hc:n≤c) (hA:A=none→c=0) (hm:ws≠[]→∃ b off,A=some ⟨b,off,none⟩∧S t b∧∀ (j:Nat) (x:Value),(w32 ws)[j]?=some x→w.cell? ⟨b,off+j,none⟩=some x):Bx w S (.row t 1 n (ws.map dW)) (.slice A n c):=by
 subst hn
 refine .row (w32 ws) hc hA (by simp) (by simp [w32]) (fun hne=>hm fun h=>hne (by rw [h];rfl)) (fun j u x hu hx=>?_)
 rw [←VV,ag,hx] at hu
 cases hu
 exact .val (Acg (gM hx))
section
variable {G:World→Prop}
theorem Ol (ws:List Nat) (n:Nat) (hn:n=ws.length) (hw:Av ws) (hl:ws.length≤1000000):CV prog G 159 [.one (.row false 1 n (ws.map dW))] [.one (Iu false (AH ws))]:=fun w S vs hg hlt ha=>by
 obtain ⟨u,hu,h2⟩:=BM ha
 subst hu
 obtain ⟨A,c,rfl,h1,h3,h4,h5⟩:=Ok h2 hlt hn
 refine (FY A ws c w.heap.size w h4 h3 hl).mono fun r w' ⟨he,hww⟩=>?_
 subst hww
 refine ⟨_,he,?_,ab _ _⟩
 show Bx _ _ (Iu false (AH ws)) _
 have hcan:=Dh hw
 have hle:(Lm ws).length≤ws.length:=by rw [Cp];exact Ey _ _
 unfold Iu
 rw [Acn,←hcan]
 refine Aco rfl (by omega) h1 fun hne=>?_
 obtain ⟨b,off,hA,hb,hc⟩:=h5 (fun h=>hne (by rw [h];rfl))
 refine ⟨b,off,hA,⟨rfl,.inl hb⟩,fun j x hj=>hc j x ?_⟩
 have:w32 (Lm ws)=(w32 ws).take (DS ws ws.length):=by unfold w32 Lm;rw [List.map_take]
 rw [this,cq] at hj
 split at hj
 ·exact hj
 ·cases hj
theorem FH (x:Int) (d:Nat) (hn:Nf x d) (hl:(Ac x.natAbs).length≤100000):CV prog G 71 [aDy false x d] [aB (decide (x<0)),.one (Iu false x.natAbs),aI (d:Int)]:=fun w S vs hg hlt ha=>by
 obtain ⟨u,hu,h3⟩:=BM ha
 subst hu
 have hD:=Hd h3 hlt hn
 obtain ⟨xs,rfl,h4⟩:=h3
 obtain ⟨a,l1,rfl,q0,h5⟩:=h4.uncons
 obtain ⟨b,l2,rfl,q1,h6⟩:=h5.uncons
 obtain ⟨c,l3,rfl,q2,h7⟩:=h6.uncons
 rw [h7.unnil] at hD ⊢
 refine (Gs hD (aa _) hl).mono fun r w' ⟨nb,A,L,cc,e,he,hb⟩=>?_
 injection e with e
 have e2:=congrArg Array.toList e
 simp only [List.cons.injEq,and_true] at e2
 obtain ⟨rfl,rfl,rfl⟩:=e2
 refine ⟨_,he,⟨[_,_,_],rfl,.cons_ ?_ (.cons_ ?_ (.cons_ ?_ .nil_))⟩,hb⟩
 ·cases q0;exact Bx.val rfl
 ·have h8:Bx w (fun t b=>t=false∧S false b) (Iu false x.natAbs) (.slice A L cc):=Bx.free (fun b h=>⟨rfl,h⟩) q1 (.row fun d hd=>by obtain ⟨v,_,rfl⟩:=List.mem_map.1 hd;exact .val _)
  exact h8.mono (fun t b h=>⟨h.1,.inl h.2⟩) (fun t b h=>hb.block b (hlt _ _ h.2))
 ·exact Bx.val rfl
theorem VX (t t':Bool) (a b:Nat) (l1:(Ac a).length≤100000) (l2:(Ac b).length≤100000):CVF prog G 30 [.one (Iu t a),.one (Iu t' b)] [aI (sgI ((a:Int) - (b:Int)))]:=fun w S vs hg hlt ha=>by
 obtain ⟨v,vs',rfl,h1,ha⟩:=ha.uncons
 obtain ⟨u,hu,h2⟩:=BM ha
 subst hu
 exact (MJ (Alg h1 hlt) (Alg h2 hlt) l1 l2).mono fun r w' ⟨he,hb⟩=>⟨_,he,Bx.val rfl,hb⟩
end
theorem Fb (t neg:Bool) (n d:Nat) (hl:(Ac n).length≤100000) (hd:d≤65536):CVF prog Ah 73 [aB neg,.one (Iu t n),aI (d:Int)] [aDy false (nf (sg neg n) d).1 (nf (sg neg n) d).2]:=fun w S vs hg hlt hv=>by
 obtain ⟨v,vs',rfl,q1,hv⟩:=hv.uncons
 obtain ⟨v2,vs',rfl,q2,hv⟩:=hv.uncons
 obtain ⟨u,hu,q3⟩:=BM hv
 subst hu
 cases q1
 cases q3
 exact (EA (neg:=neg) (Alg q2 hlt) (aa _) hl hd hg).mono fun r w' ⟨v,he,hd,hb⟩=>⟨v,he,FG hd,hb⟩
theorem VY (t:Bool) (ws:List Nat) (n i:Nat) (hn:n=ws.length) (hi:i≤1000000) (hl:ws.length≤1000000):CVF prog Ah 213 [.one (.row t 1 n (ws.map dW)),aI (i:Int)] [.one (dW (ws[i]?.getD 0))]:=fun w S vs hg hlt hv=>by
 obtain ⟨v,vs',rfl,q1,hv⟩:=hv.uncons
 obtain ⟨u,hu,q3⟩:=BM hv
 subst hu
 cases q3
 obtain ⟨A,c,rfl,h1,h3,h4,h5⟩:=Ok q1 hlt hn
 refine (Xb A ws c i w.heap.size w h4 hi hl).mono fun r w' ⟨he,hb⟩=>?_
 subst hb
 exact ⟨_,he,Bx.val rfl,ab _ _⟩
theorem AfP (x y c:Nat) (hx:x<4294967296) (hy:y<4294967296) (hc:c≤1):CVF prog Ah 221 [.one (dW x),.one (dW y),.one (dW c)] [.one (dW ((x+y+c) % 4294967296)),.one (dW ((x+y+c) / 4294967296))]:=fun w S vs hg hlt hv=>by
 obtain ⟨v,vs',rfl,q1,hv⟩:=hv.uncons
 obtain ⟨v2,vs',rfl,q2,hv⟩:=hv.uncons
 obtain ⟨u,hu,q3⟩:=BM hv
 subst hu
 cases q1
 cases q2
 cases q3
 refine (Tz x y c w hx hy hc).mono fun r w' ⟨he,hw⟩=>?_
 subst hw
 exact ⟨_,he,Na (Bx.val rfl) (Bx.val rfl),ab _ _⟩
theorem XM (n:Nat):DY (Iu false n):=.row fun d hd=>by obtain ⟨v,_,rfl⟩:=List.mem_map.1 hd;exact .val _
theorem AN:TyS prog 90 143 1:=⟨underlying90,by kernel_rfl⟩
theorem AfQ (h:p:=by
 exact Au rfl (.cons_ (.tmp (.one (Bi rfl fun _=>XM _))) .nil_)):p:=h
theorem Alh (h:p:=by
 refine ⟨_,_,Gw _ 1 ?_ ?_ ?_,_,by omega,k+1,_,_,by omega,rfl,hst,rfl,rfl⟩
 ·rfl
 ·exact mB rfl rfl
 ·exact ⟨AhK,trivial⟩):p:=h
theorem AfR (h:p:=by first|exact xIr AN (hp2)|exact xIr AN (hr2)|exact IU (i:=i+k) rfl rfl rfl rfl (by omega) AN (by omega) (by decide)):p:=h
theorem Ali (a b:Nat) (l1:(Ac a).length≤100000) (l2:(Ac b).length≤100000):CV prog Ah 211 [.one (Iu false a),.one (Iu false b)] [.one (Iu false (a*b))]:=by
 refine cvz func211 ntmps211 ?_
 have hax:=AE a
 have hay:=AE b
 repeat' (with_reducible first|refine qq ?_|(refine Tx 0 ?_;refine gO xA ?_)|(refine Tx 1 ?_;refine gO xM <| gO xN <| gO xM <| gO xN <| gO xAd <| gN (by first|exact Mo (n:=(Ac a).length+(Ac b).length) rfl rfl rfl (by omega) AN DF (by omega) (by decide)|exact BG rfl rfl rfl AN DF (by omega) (by decide)) <| gO xA ?_)|(refine Tx 2 ?_;refine gO xM <| gO xN <| gO xM ?_))
 refine AJ (Be 1) (Al (fun n Fr H=>∃ (i:Nat) (o:List Nat),i≤(Ac a).length∧n=(Ac a).length - i∧Ho (Ac a) (Ac b) i o∧Fr=ofL [(0,vd (Iu false a)),(1,vd (Iu false b)),(5,vo 0 (((Ac a).length+(Ac b).length))),(17,vi ((Ac a).length)),(18,vi ((i:Nat)))]∧H=[.row 143 1 ((Ac a).length+(Ac b).length) (cW o)]) (n0:=(Ac a).length) ⟨0,(List.replicate ((Ac a).length+(Ac b).length) 0),ad _,rfl,Ho.start _ _,rfl,rfl⟩ ?_)
 rintro n Fr H ⟨i,o,hi,rfl,ho,rfl,rfl⟩
 by_cases hlt:i<(Ac a).length
 case pos =>
  obtain ⟨p,hp⟩:∃ p,(Ac a)[i]?=some p:=⟨_,gE hlt⟩
  have hpk:=hax p (gM hp)
  have hp2:=QP hp
  repeat' (with_reducible first|refine qq ?_|(refine Tx 3 ?_;refine gO xLt ?_)|(refine Tx 4 ?_;refine gO xM <| gO xA ?_)|(refine Tx 5 ?_;refine gO xA ?_)|(refine Tx 6 ?_;refine gO xM <| gO xN <| gO xM ?_))
  refine AJ (Be 1) (Al (fun n Fr H=>∃ (k:Nat) (q:List Nat) (c:Nat),k≤(Ac b).length∧n=(Ac b).length - k∧Sc (Ac b) o i p k q c∧Fr=ofL [(0,vd (Iu false a)),(1,vd (Iu false b)),(5,vo 0 (((Ac a).length+(Ac b).length))),(6,vi i),(17,vi ((Ac a).length)),(18,vi ((i:Nat))),(7,vd (.val (.int .u64 ((c:Nat):Int)))),(22,vi ((Ac b).length)),(23,vi ((k:Nat)))]∧H=[.row 143 1 ((Ac a).length+(Ac b).length) (cW q)]) (n0:=(Ac b).length) ⟨0,o,0,ad _,rfl,ho.enter,rfl,rfl⟩ ?_)
  rintro n Fr H ⟨k,q,c,hk,rfl,hq,rfl,rfl⟩
  by_cases hlt2:k<(Ac b).length
  case pos =>
   obtain ⟨r,hr⟩:∃ r,(Ac b)[k]?=some r:=⟨_,gE hlt2⟩
   have hrk:=hay r (gM hr)
   have hr2:=QP hr
   have hql:=hq.len
   have hol:=ho.len
   obtain ⟨u,hu⟩:∃ u,q[i+k]?=some u:=⟨_,gE (by omega)⟩
   have hu2:=hq.ok u (gM hu)
   obtain ⟨f1,f2⟩:=hq.fit hpk hrk hu
   have hst:=hq.step hpk hay hr hu
   have m1:IntKind.wrap .u64 (p:Int)=(p:Int):=Fm (by omega) (by omega)
   have m2:IntKind.wrap .u64 (r:Int)=(r:Int):=Fm (by omega) (by omega)
   have m3:IntKind.wrap .u64 ((p:Int)*(r:Int))=((p*r:Nat):Int):=by rw [←iy];exact Fm (by omega) (by omega)
   have m4:IntKind.wrap .u64 (u:Int)=(u:Int):=Fm (by omega) (by omega)
   have m5:IntKind.wrap .u64 (((p*r:Nat):Int)+(u:Int))=((p*r+u:Nat):Int):=Fm (by omega) (by omega)
   have m6:IntKind.wrap .u64 (((p*r+u:Nat):Int)+(c:Int))=((c+(p*r+u):Nat):Int):=by rw [Fm (by omega) (by omega)];omega
   have m7:=Ng (c+(p*r+u))
   have tl:i+k<q.length:=by omega
   generalize hm:p*r+u=m at *
   repeat' (with_reducible first|refine qq ?_|(refine Tx 7 ?_;refine gO xLt ?_)|(refine Tx 8 ?_;refine gO xM <| gO xA ?_)|(refine Bl (id:=9) AC (by kernel_rfl) ?_;refine gP xM <| gP xM <| gP AfR <| gP Acm <| gP zh3k <| gP xM <| gP xM <| gP AfR <| gP Acm <| gP zh4k <| gP Aon <| gP xM <| gP xM <| gP xM <| gP xAd <| gP AfR <| gP Acm <| gP zh5k <| gP (by first|exact Sa rfl rfl rfl m5|exact xAd) <| gP xM <| gP (by first|exact Sa rfl rfl rfl m6|exact xAd) <| gP xA ?_;refine Ke ?_)|(refine Tx 10 ?_;refine gO xM <| gO xM <| gO xM <| gO xAd <| gO xM <| gO zh6k <| gO AfR <| gZ AmJ ?_)|(refine Tx 11 ?_;refine gO xM <| gO (by exact Sb rfl rfl rfl) <| gO xA ?_)|(refine Tx 12 ?_;refine gO xAd <| gO xM ?_))
   exact Alh
  obtain rfl:k=(Ac b).length:=by omega
  have hql:=hq.len
  have hol:=ho.len
  have hlv:=ho.leave hp hq
  have tl:i+(Ac b).length<q.length:=by omega
  have hck:=hq.car
  have m8:IntKind.wrap .u32 (c:Int)=(c:Int):=by rw [Ng,ed hck]
  repeat' (with_reducible first|refine qq ?_|(refine Tx 7 ?_;refine gO xLt ?_)|(refine Tx 13 ?_;refine gO xM <| gO xM <| gO xM <| gO xN <| gO xAd <| gO xM <| gO zh7k <| gO (by exact IU (i:=i+(Ac b).length) rfl rfl rfl rfl (by omega) AN (by omega) (by decide)) <| gZ AmJ ?_)|(refine Tx 14 ?_;refine gO xAd <| gO xM ?_))
  refine ⟨_,_,Be 1,_,by omega,i+1,_,by omega,rfl,hlv,rfl,rfl⟩
 obtain rfl:i=(Ac a).length:=by omega
 have hv:=ho.val
 rw [aq,Ao,Ao] at hv
 have hol:=ho.len
 have TC:=Ol (G:=Ah) o ((Ac a).length+(Ac b).length) hol.symm ho.ok (by omega)
 rw [hv] at TC
 repeat' (with_reducible first|refine qq ?_|(refine Tx 3 ?_;refine gO xLt ?_))
 refine AJ (EG (ds:=o.map dW) 5 0 rfl (by rw [←ArF];rfl)) ?_
 repeat' (with_reducible first|refine qq ?_|(refine Tx 15 ?_;refine gO xM <| gO (xCl func159 (TC)) <| gO xA ?_))
 exact AfQ
theorem Sd {a:Nat} (ha:(Ac a).length≤40000) (hb:(Ac b).length≤40000):(Ac (a*b)).length≤100000:=by
 have h1:=BO (AE a)
 have h2:=BO (AE b)
 rw [Ao] at h1 h2
 refine lT (Aw (k:=(Ac a).length+(Ac b).length) ?_) (by omega)
 rw [bi]
 exact Nat.mul_lt_mul'' h1 h2
theorem AfS (h:p:=by first|exact xCl func71 (PX)|exact xCl func71 (PY)):p:=h
theorem Hp (x:Int) (dx:Nat) (y:Int) (dy:Nat) (hnx:Nf x dx) (hny:Nf y dy) (lx:(Ac x.natAbs).length≤40000) (ly:(Ac y.natAbs).length≤40000) (hd:dx+dy≤65536):CV prog Ah 149 [aDy false x dx,aDy false y dy] [aDy false (Pk x dx y dy).1 (Pk x dx y dy).2]:=by
 refine cvz func149 ntmps149 ?_
 have PX:=FH (G:=Ah) x dx hnx (lT lx (by decide))
 have PY:=FH (G:=Ah) y dy hny (lT ly (by decide))
 have NM:=Ali x.natAbs y.natAbs (lT lx (by decide)) (lT ly (by decide))
 have hlm:(Ac (x.natAbs*y.natAbs)).length≤100000:=Sd lx ly
 have RS:=Fb false (decide (x<0) != decide (y<0)) (x.natAbs*y.natAbs) (dx+dy) hlm hd
 rw [Acl] at RS
 have hdx:=hnx.1
 have hdy:=hny.1
 repeat' (with_reducible first|refine qq ?_|(refine Tx 0 ?_;refine gN xBo <| gN xBo <| gN (xAl Aj) ?_)|(refine Tx 1 ?_;refine gO xL <| gO AfS <| gO xMt <| gO xEx <| gO xEx <| gO xEx <| gO xA <| gO xA <| gO xA ?_)|(refine Tx 2 ?_;refine gO xL <| gO AfS <| gO xMt <| gO xEx <| gO xEx <| gO xEx <| gO xA <| gO xA <| gO xA ?_)|(refine Tx 3 ?_;refine gO xM <| gO xM <| gO Aop <| gO xM <| gO xM <| gO (xCl func211 (NM)) <| gO xM <| gO xM <| gO xAd <| gO (xCl func73 (RS.cv)) <| gZ (xSk Aa) ?_))
 exact Pm
theorem VZ {k:Nat} (h:o[k]?=some 0):AH (o.set k u)=AH o+u*4294967296 ^ k:=by
 have:=Oj (u:=u) h
 omega
structure Se (a b:List Nat) (L k:Nat) (o:List Nat) (c:Nat):Prop where
 len:o.length=L
 ok:Av o
 car:c≤1
 val:AH o+c*4294967296 ^ k=AH (a.take k)+AH (b.take k)
 zero:∀ j,k≤j→j<L→o[j]?=some 0
theorem Nh (h:Av a) (k:Nat):a[k]?.getD 0<4294967296:=by
 cases hx:a[k]? with
 | none=>decide
 | some x=>exact h x (gM hx)
theorem Om (L:Nat):∀ j,0≤j→j<L→(List.replicate L 0)[j]?=some 0:=fun j _ h=>by simp [h]
theorem Sf (L:Nat):Av (List.replicate L 0):=fun x hx=>by rw [(List.mem_replicate.1 hx).2];decide
theorem Se.start (a b:List Nat) (L:Nat):Se a b L 0 (List.replicate L 0) 0:=⟨by simp,Sf L,by decide,by rw [EY];simp [AH],Om L⟩
theorem Se.step {b:List Nat} {L k:Nat} (h:Se a b L k o c) (ha:Av a) (hb:Av b) (hk:k<L):Se a b L (k+1) (o.set k ((a[k]?.getD 0+b[k]?.getD 0+c) % 4294967296)) ((a[k]?.getD 0+b[k]?.getD 0+c) / 4294967296):=by
 have x1:=Nh ha k
 have y1:=Nh hb k
 have hc:=h.car
 refine ⟨by rw [ee];exact h.len,Gd h.ok (by omega),by omega,?_,fun j h1 h2=>by rw [cn,if_neg (by omega)];exact h.zero j (by omega) h2⟩
 rw [VZ (h.zero k (aa _) hk),Bb,Bb,bj]
 have hv:=h.val
 generalize a[k]?.getD 0=x at *
 generalize b[k]?.getD 0=y at *
 have hd:=dn (x+y+c) 4294967296
 generalize (x+y+c) / 4294967296=q at *
 generalize (x+y+c) % 4294967296=r at *
 generalize 4294967296 ^ k=P at *
 have e:q*(P*4294967296)+r*P=(x+y+c)*P:=by rw [←hd,bk,aw P 4294967296,←ar,aw q 4294967296]
 rw [bk,bk] at e
 rw [aw P x,aw P y]
 omega
theorem Se.done {b:List Nat} (h:Se a b (max a.length b.length+1) (max a.length b.length+1) o c) (ha:Av a) (hb:Av b):AH o=AH a+AH b:=by
 have hv:=h.val
 rw [aj (by omega),aj (by omega)] at hv
 have h1:=BO ha
 have h2:=BO hb
 have p1:4294967296 ^ a.length≤4294967296 ^ (max a.length b.length):=au (by decide) (by omega)
 have p2:4294967296 ^ b.length≤4294967296 ^ (max a.length b.length):=au (by decide) (by omega)
 have hc:=h.car
 rw [bj] at hv
 rcases (show c=0∨c=1 by omega) with rfl|rfl <;> omega
structure Sg (a b:List Nat) (k:Nat) (o:List Nat) (c:Nat):Prop where
 len:o.length=a.length
 ok:Av o
 car:c≤1
 val:AH o+AH (b.take k)=AH (a.take k)+c*4294967296 ^ k
 zero:∀ j,k≤j→j<a.length→o[j]?=some 0
theorem Sg.start (a b:List Nat):Sg a b 0 (List.replicate a.length 0) 0:=⟨by simp,Sf _,by decide,by rw [EY];simp [AH],Om _⟩
def Aau (x y c:Nat):Nat:=if x<y+c then 1 else 0
theorem Alj (x y c:Nat):Aau x y c≤1:=by unfold Aau;split <;> omega
theorem Sg.step {b:List Nat} {k:Nat} {x:Nat} (h:Sg a b k o c) (ha:Av a) (hb:Av b) (hx:a[k]?=some x):Sg a b (k+1) (o.set k ((x+4294967296 - b[k]?.getD 0 - c) % 4294967296)) (Aau x (b[k]?.getD 0) c):=by
 have hk:=(gS.1 hx).1
 have x1:=ha x (gM hx)
 have y1:=Nh hb k
 have hc:=h.car
 refine ⟨by rw [ee];exact h.len,Gd h.ok (by omega),Alj _ _ _,?_,fun j h1 h2=>by rw [cn,if_neg (by omega)];exact h.zero j (by omega) h2⟩
 rw [VZ (h.zero k (aa _) hk),Bb,Bb,bj,hx,bf]
 have hv:=h.val
 generalize b[k]?.getD 0=y at *
 have hd:(x+4294967296 - y - c) % 4294967296+y+c=x+Aau x y c*4294967296:=by unfold Aau;split <;> omega
 generalize Aau x y c=q at *
 generalize (x+4294967296 - y - c) % 4294967296=r at *
 generalize 4294967296 ^ k=P at *
 have e:(r+y+c)*P=(x+q*4294967296)*P:=by rw [hd]
 rw [bk,bk,bk,ar q 4294967296 P,aw 4294967296 P] at e
 rw [aw P x,aw P y]
 omega
theorem Sg.done {b:List Nat} (h:Sg a b a.length o c) (ha:Av a) (hle:AH b≤AH a) (hl:b.length≤a.length):AH o=AH a - AH b:=by
 have hv:=h.val
 rw [aq,aj hl] at hv
 have h1:=BO h.ok
 rw [h.len] at h1
 have hc:=h.car
 rcases (show c=0∨c=1 by omega) with rfl|rfl <;> omega
structure Wa (a:List Nat) (q r k:Nat) (o:List Nat):Prop where
 len:o.length=a.length+q+1
 ok:Av o
 val:AH o=AH (a.take k)*(2 ^ r*4294967296 ^ q)
 top:∃ cy,o[q+k]?=some cy∧cy<2 ^ r
 zero:∀ j,q+k<j→j<a.length+q+1→o[j]?=some 0
theorem Wa.start (a:List Nat) (q r:Nat):Wa a q r 0 (List.replicate (a.length+q+1) 0):=⟨by simp,Sf _,by rw [EY];simp [AH],⟨0,by rw [ce];exact Om _ q (ad _) (by omega),bd r⟩,fun j _ h=>Om _ j (ad _) h⟩
theorem Wa.step {q r k:Nat} {x cy:Nat} (h:Wa a q r k o) (ha:Av a) (hr:r<32) (hx:a[k]?=some x) (hcy:o[q+k]?=some cy) (hlt:cy<2 ^ r) (hfit:cy+x*2 ^ r % 4294967296<4294967296) :
  Wa a q r (k+1) ((o.set (q+k) (cy+x*2 ^ r % 4294967296)).set (q+k+1) (x*2 ^ r / 4294967296)):=by
 have hk:=(gS.1 hx).1
 have x1:=ha x (gM hx)
 have hhi:x*2 ^ r / 4294967296<2 ^ r:=by
  rw [il (by decide),aw (2 ^ r)]
  exact jk x1 (bd r)
 have h32:2 ^ r≤4294967296:=by rw [show (4294967296:Nat)=2 ^ 32 from rfl];exact au (by decide) (by omega)
 refine ⟨by rw [ee,ee];exact h.len,Gd (Gd h.ok hfit) (by omega),?_,⟨_,by rw [show q+(k+1)=q+k+1 by omega,cn,if_pos rfl,if_pos (by rw [ee,h.len];omega)],hhi⟩,fun j h1 h2=>by rw [cn,if_neg (by omega),cn,if_neg (by omega)];exact h.zero j (by omega) h2⟩
 have e1:=Oj (u:=cy+x*2 ^ r % 4294967296) hcy
 have e2:AH ((o.set (q+k) (cy+x*2 ^ r % 4294967296)).set (q+k+1) (x*2 ^ r / 4294967296))=_:=VZ (by rw [cn,if_neg (by omega)];exact h.zero _ (by omega) (by omega))
 rw [e2,Bb,hx,bf,bk,←h.val,bj]
 have hd:=dn (x*2 ^ r) 4294967296
 have e3:4294967296 ^ k*x*(2 ^ r*4294967296 ^ q)=(x*2 ^ r)*4294967296 ^ (q+k):=by rw [bi];simp only [ar,aw,Nat.mul_left_comm]
 rw [e3]
 generalize x*2 ^ r=t at *
 generalize t / 4294967296=u at *
 generalize t % 4294967296=l at *
 generalize 4294967296 ^ (q+k)=P at *
 have e4:u*(P*4294967296)+l*P=t*P:=by rw [←hd,bk,aw P 4294967296,←ar,aw u 4294967296]
 rw [bk] at e1
 omega
theorem Alk (v:BitVec 32):v.toNat / 2147483648=if v.msb=true then 1 else 0:=by
 have h:=lg v
 have hl:=v.isLt
 rw [h]
 by_cases hc:2147483648≤v.toNat
 ·rw [if_pos (decide_eq_true hc)];omega
 ·rw [if_neg (by rw [decide_eq_true_eq];exact hc)];omega
theorem Acp (X Y D:BitVec 32) (x y c:Nat) (hx:X.toNat=x) (hy:Y.toNat=y) (hd:D.toNat=(x+4294967296 - y - c) % 4294967296) (hc:c≤1):((~~~X &&& Y) ||| (~~~(X ^^^ Y) &&& D)).toNat / 2147483648=Aau x y c:=by
 rw [Alk]
 have hX:=lg X
 have hY:=lg Y
 have hD:=lg D
 rw [hx] at hX
 rw [hy] at hY
 rw [hd] at hD
 have lx:=X.isLt
 have ly:=Y.isLt
 rw [hx] at lx
 rw [hy] at ly
 simp only [BitVec.msb_or,BitVec.msb_and,BitVec.msb_not,BitVec.msb_xor,hX,hY,hD]
 unfold Aau
 by_cases h1:2 ^ 31≤x <;> by_cases h2:2 ^ 31≤y <;> by_cases h3:2 ^ 31≤(x+4294967296 - y - c) % 4294967296
 all_goals
  simp only [Nat.reduceSub,h1,h2,h3,decide_true,decide_false]
  by_cases h4:x<y+c
  ·simp [h4]
   try omega
  ·simp [h4]
   try omega
def nB (v:BitVec 32):Int:=(v.toNat:Int)
theorem Ni (v:BitVec 32):BitVec.ofInt 32 (nB v)=v:=by
 unfold nB
 rw [BitVec.ofInt_natCast]
 exact BitVec.eq_of_toNat_eq (by rw [ke];exact ed v.isLt)
theorem Wb (v:BitVec 32):IntKind.wrap .u32 ((v.toNat:Nat):Int)=nB v:=by
 have:=v.isLt
 rw [jj]
 unfold nB
 omega
theorem AhN (u v:BitVec 32):bits .and .u32 (nB u) (nB v)=nB (u &&& v):=by
 show IntKind.wrap .u32 (((BitVec.ofInt 32 (nB u) &&& BitVec.ofInt 32 (nB v)).toNat:Nat):Int)=_
 rw [Ni,Ni,Wb]
theorem ArG (u v:BitVec 32):bits .or .u32 (nB u) (nB v)=nB (u ||| v):=by
 show IntKind.wrap .u32 (((BitVec.ofInt 32 (nB u) ||| BitVec.ofInt 32 (nB v)).toNat:Nat):Int)=_
 rw [Ni,Ni,Wb]
theorem AhO (u v:BitVec 32):bits .xor .u32 (nB u) (nB v)=nB (u ^^^ v):=by
 show IntKind.wrap .u32 (((BitVec.ofInt 32 (nB u) ^^^ BitVec.ofInt 32 (nB v)).toNat:Nat):Int)=_
 rw [Ni,Ni,Wb]
theorem AhP (v:BitVec 32):bits .xor .u32 IntKind.u32.max (nB v)=nB (~~~v):=by
 rw [show IntKind.u32.max=nB (BitVec.allOnes 32) from rfl,AhO,BitVec.allOnes_xor]
theorem All {x:Nat} (h:x<4294967296):((x:Nat):Int)=nB (BitVec.ofNat 32 x):=by
 unfold nB
 rw [ke,ed h]
theorem Acq (x y c:Nat) (w:World) (hx:x<4294967296) (hy:y<4294967296) (hc:c≤1) :
  Calls prog 223 #[.int .u32 (x:Int),.int .u32 (y:Int),.int .u32 (c:Int)] w fun e w'=>e=.returned (.tuple #[.int .u32 (((x+4294967296 - y - c) % 4294967296:Nat):Int),.int .u32 ((Aau x y c:Nat):Int)])∧w=w':=by
 go_enter func223,ntmps223
 go_wp2_with fail
 refine bodyPost_ret (v:=.tuple #[.int .u32 (((x+4294967296 - y - c) % 4294967296:Nat):Int),.int .u32 ((Aau x y c:Nat):Int)]) ?_ rfl ⟨rfl,rfl⟩
 simp [results,results223,go_sem]
 refine ⟨by omega,?_⟩
 have hd:((x:Int) - (y:Int) - (c:Int)) % 4294967296=(((x+4294967296 - y - c) % 4294967296:Nat):Int):=by omega
 rw [hd,All hx,All hy,All (x:=(x+4294967296 - y - c) % 4294967296) (by omega),AhP,AhN,AhO,AhP,AhN,ArG]
 have key:=Acp (BitVec.ofNat 32 x) (BitVec.ofNat 32 y) (BitVec.ofNat 32 ((x+4294967296 - y - c) % 4294967296)) x y c (by rw [ke,ed hx]) (by rw [ke,ed hy]) (by rw [ke];omega) hc
 rw [←key]
 rfl
theorem AfT (x y c:Nat) (hx:x<4294967296) (hy:y<4294967296) (hc:c≤1):CVF prog Ah 223 [.one (dW x),.one (dW y),.one (dW c)] [.one (dW ((x+4294967296 - y - c) % 4294967296)),.one (dW (Aau x y c))]:=fun w S vs hg hlt hv=>by
 obtain ⟨v,vs',rfl,q1,hv⟩:=hv.uncons
 obtain ⟨v2,vs',rfl,q2,hv⟩:=hv.uncons
 obtain ⟨u,hu,q3⟩:=BM hv
 subst hu
 cases q1
 cases q2
 cases q3
 refine (Acq x y c w hx hy hc).mono fun r w' ⟨he,hw⟩=>?_
 subst hw
 exact ⟨_,he,Na (Bx.val rfl) (Bx.val rfl),ab _ _⟩
section
variable {P:Program} {G:World→Prop} {o:Oper} {F:Frm} {H:List Ob}
theorem Alm {x:Operand} {p:Int} (ho:o.op=.binOp .or t x y t') (hx:F.ev x=.one (.d (.val (.int .u32 p)))) (hy:F.ev y=.one (.d (.val (.int .u32 q)))) (hr:bits .or .u32 p q=r):AZ P G o F H (.one (.d (.val (.int .u32 r)))) []:=by
 subst hr
 refine Dv ho hx hy (fun w=>?_) rfl
 simp [eqGuard,binOp,intBits_or]
theorem Aln {x:Operand} {k:IntKind} {p:Int} (ho:o.op=.binOp .shl t x y t') (hx:F.ev x=.one (.d (.val (.int k p)))) (hy:F.ev y=.one (.d (.val (.int k' (n:Int))))) (hn:n≤k.bits) (hr:k.wrap (p*2 ^ n)=r):AZ P G o F H (.one (.d (.val (.int k r)))) []:=by
 subst hr
 refine Dv ho hx hy (fun w=>?_) rfl
 have h1:¬ ((n:Int)<0):=by omega
 simp [eqGuard,binOp,Op.shift,h1,ff hn]
theorem Acr {x:Operand} {k:IntKind} {p:Int} (ho:o.op=.binOp .quo t x y t') (hx:F.ev x=.one (.d (.val (.int k p)))) (hy:F.ev y=.one (.d (.val (.int k q)))) (h0:q≠0) (hr:k.wrap (p.tdiv q)=r):AZ P G o F H (.one (.d (.val (.int k r)))) []:=hr ▸ Abl ho hx hy h0
theorem Acs {x:Operand} {k:IntKind} {p:Int} (ho:o.op=.binOp .rem t x y t') (hx:F.ev x=.one (.d (.val (.int k p)))) (hy:F.ev y=.one (.d (.val (.int k q)))) (h0:q≠0) (hr:p.tmod q=r):AZ P G o F H (.one (.d (.val (.int k r)))) []:=hr ▸ Abm ho hx hy h0
end
theorem Aoq (h:p:=by
 rw [hv] at TC
 repeat' (with_reducible first|refine qq ?_|(refine Tx 4 ?_;refine gO xLt ?_))
 refine AJ (EG (ds:=o.map dW) 5 0 rfl (by rw [←ArF];rfl)) ?_
 repeat' (with_reducible first|refine qq ?_|(refine Tx 8 ?_;refine gO xM <| gO (xCl func159 (TC)) <| gO xA ?_))
 exact Au rfl (.cons_ (.tmp (.one (Bi rfl fun _=>XM _))) .nil_)):p:=h
theorem Aor (h:p:=by first|exact xCl func213 (A1.cv)|exact xCl func213 (A2.cv)):p:=h
theorem Alo (a b:Nat) (l1:(Ac a).length≤200000) (l2:(Ac b).length≤200000):CV prog Ah 203 [.one (Iu false a),.one (Iu false b)] [.one (Iu false (a+b))]:=by
 refine cvz func203 ntmps203 ?_
 have ha:=AE a
 have hb:=AE b
 repeat' (with_reducible first|refine qq ?_|(refine Tx 0 ?_;refine gO xA ?_)|(refine Tx 1 ?_;refine gO xM <| gO xN <| gO xM <| gO xN <| gO (by exact Lr rfl rfl rfl) <| gO xAd <| gN (by first|exact Mo (n:=(max (Ac a).length (Ac b).length+1)) rfl rfl rfl (by omega) AN DF (by omega) (by decide)|exact BG rfl rfl rfl AN DF (by omega) (by decide)) <| gO xA ?_)|(refine Tx 2 ?_;refine gO xA ?_)|(refine Tx 3 ?_;refine gO xM <| gO xN <| gO xM ?_))
 refine AJ (Be 1) (Al (fun n Fr H=>∃ (k:Nat) (o:List Nat) (c:Nat),k≤(max (Ac a).length (Ac b).length+1)∧n=(max (Ac a).length (Ac b).length+1) - k∧Se (Ac a) (Ac b) (max (Ac a).length (Ac b).length+1) k o c∧Fr=ofL [(0,vd (Iu false a)),(1,vd (Iu false b)),(5,vo 0 ((max (Ac a).length (Ac b).length+1))),(6,vd (dW c)),(16,vi ((max (Ac a).length (Ac b).length+1))),(17,vi ((k:Nat)))]∧H=[.row 143 1 (max (Ac a).length (Ac b).length+1) (cW o)]) (n0:=(max (Ac a).length (Ac b).length+1)) ⟨0,(List.replicate (max (Ac a).length (Ac b).length+1) 0),0,ad _,rfl,Se.start _ _ _,rfl,rfl⟩ ?_)
 rintro n Fr H ⟨k,o,c,hk,rfl,ho,rfl,rfl⟩
 by_cases hlt:k<(max (Ac a).length (Ac b).length+1)
 case pos =>
  have hst:=ho.step ha hb hlt
  have hol:=ho.len
  have A1:=VY false (Ac a) (Ac a).length k rfl (by omega) (by omega)
  have A2:=VY false (Ac b) (Ac b).length k rfl (by omega) (by omega)
  rw [←Acn] at A1 A2
  have AD:=AfP ((Ac a)[k]?.getD 0) ((Ac b)[k]?.getD 0) c (Nh ha k) (Nh hb k) ho.car
  have tl:k<o.length:=by omega
  generalize (Ac a)[k]?.getD 0=x at *
  generalize (Ac b)[k]?.getD 0=y at *
  generalize (x+y+c) % 4294967296=r at *
  generalize (x+y+c) / 4294967296=q at *
  repeat' (with_reducible first|refine qq ?_|(refine Tx 4 ?_;refine gO xLt ?_)|(refine Tx 5 ?_;refine gO xM <| gO xA ?_)|(refine Tx 6 ?_;refine gO xM <| gO xM <| gO xM <| gO xM <| gO Aor <| gO xM <| gO xM <| gO Aor <| gO xM <| gO (xCl func221 (AD.cv)) <| gO xMt <| gO xEx <| gO xEx <| gO (xIo (i:=k) AN) <| gZ AmJ <| gO xA ?_)|(refine Tx 7 ?_;refine gO xAd <| gO xM ?_))
  exact Alh
 obtain rfl:k=(max (Ac a).length (Ac b).length+1):=by omega
 have hv:=ho.done ha hb
 rw [Ao,Ao] at hv
 have hol:=ho.len
 have TC:=Ol (G:=Ah) o (max (Ac a).length (Ac b).length+1) hol.symm ho.ok (by omega)
 exact Aoq
theorem Aos (h:p:=by first|exact xIr AN (hx2)|exact xIo (i:=k) AN):p:=h
theorem Acu (a b:Nat) (hle:b≤a) (l1:(Ac a).length≤200000):CV prog Ah 210 [.one (Iu false a),.one (Iu false b)] [.one (Iu false (a - b))]:=by
 refine cvz func210 ntmps210 ?_
 have ha:=AE a
 have hb:=AE b
 have hlb:(Ac b).length≤(Ac a).length:=AQ hle
 repeat' (with_reducible first|refine qq ?_|(refine Tx 0 ?_;refine gO xA ?_)|(refine Tx 1 ?_;refine gO xM <| gO xN <| gN (by first|exact Mo (n:=(Ac a).length) rfl rfl rfl rfl AN DF (by omega) (by decide)|exact BG rfl rfl rfl AN DF (by omega) (by decide)) <| gO xA ?_)|(refine Tx 2 ?_;refine gO xA ?_)|(refine Tx 3 ?_;refine gO xM <| gO xN <| gO xM ?_))
 refine AJ (Be 1) (Al (fun n Fr H=>∃ (k:Nat) (o:List Nat) (c:Nat),k≤(Ac a).length∧n=(Ac a).length - k∧Sg (Ac a) (Ac b) k o c∧Fr=ofL [(0,vd (Iu false a)),(1,vd (Iu false b)),(5,vo 0 ((Ac a).length)),(6,vd (dW c)),(12,vi ((Ac a).length)),(13,vi ((k:Nat)))]∧H=[.row 143 1 (Ac a).length (cW o)]) (n0:=(Ac a).length) ⟨0,(List.replicate (Ac a).length 0),0,ad _,rfl,Sg.start _ _,rfl,rfl⟩ ?_)
 rintro n Fr H ⟨k,o,c,hk,rfl,ho,rfl,rfl⟩
 by_cases hlt:k<(Ac a).length
 case pos =>
  obtain ⟨x,hx⟩:∃ x,(Ac a)[k]?=some x:=⟨_,gE hlt⟩
  have hx1:=ha x (gM hx)
  have hx2:=QP hx
  have hst:=ho.step ha hb hx
  have hol:=ho.len
  have A2:=VY false (Ac b) (Ac b).length k rfl (by omega) (by omega)
  rw [←Acn] at A2
  have SB:=AfT x ((Ac b)[k]?.getD 0) c hx1 (Nh hb k) ho.car
  have tl:k<o.length:=by omega
  generalize (Ac b)[k]?.getD 0=y at *
  generalize (x+4294967296 - y - c) % 4294967296=r at *
  generalize Aau x y c=q at *
  repeat' (with_reducible first|refine qq ?_|(refine Tx 4 ?_;refine gO xLt ?_)|(refine Tx 5 ?_;refine gO xM <| gO xA ?_)|(refine Im (id:=6) 15 [(15,13)] AC (by kernel_rfl) ?_;dsimp only [List.take,List.drop];refine gP xM <| gP xM <| gP xM <| gP xM <| gP Aos <| gP xD <| gP xM <| gP xM <| gP (xCl func213 (A2.cv)) <| gP xM <| gP (xCl func223 (SB.cv)) <| gP xMt <| gP xEx <| gP xEx <| gP Aos ?_;refine Ke ?_;refine gZ AmJ <| gO xA ?_)|(refine Tx 7 ?_;refine gO xAd <| gO xM ?_))
  exact Alh
 obtain rfl:k=(Ac a).length:=by omega
 have hv:=ho.done ha (by rw [Ao,Ao];exact hle) hlb
 rw [Ao,Ao] at hv
 have hol:=ho.len
 have TC:=Ol (G:=Ah) o (Ac a).length hol.symm ho.ok (by omega)
 exact Aoq
theorem Alp {p':Prop} (k:p') (h:Hd9 p'→p:=by with_reducible first|(intro Z9;refine Tx 0 ?_;refine gO xA ?_;exact Z9.o)|(intro Z9;refine Tx 1 ?_;refine gO xM <| gO xEq <| gO xM ?_;(first|iterate 3 refine Jd ?_|(refine Jy xM1 ?_;refine Jy (xLn AN) ?_;refine Jy xEq ?_));refine gO xPk ?_;exact Z9.o)|fail):p:=h ⟨k⟩
theorem AfU (h:p:=by first|exact xIr AN (hx2)|exact IU (i:=q+k) rfl rfl rfl rfl (by omega) AN (by omega) (by decide)|exact IU (i:=q+k+1) rfl rfl rfl rfl (by omega) AN (by omega) (by decide)):p:=h
theorem Aot (h:p:=by first|exact Acj rfl rfl rfl rfl rfl Cg tl rfl|exact Acj rfl rfl rfl rfl rfl Cg tl2 rfl|exact xS1 Cg|exact xSk Cg):p:=h
theorem Aou (h:p:=by first|exact AhL rfl rfl rfl hcy Cg|exact xLd Cg):p:=h
theorem XN (a n:Nat) (l1:(Ac a).length≤200000) (ln:n≤1000000):CV prog Ah 72 [.one (Iu false a),aI (n:Int)] [.one (Iu false (a*2 ^ n))]:=by
 refine cvz func72 ntmps72 ?_
 have ha:=AE a
 by_cases h0:n=0
 case pos =>
  subst h0
  rw [Nat.pow_zero,de]
  repeat' (with_reducible first|refine qq ?_|refine Alp ?_|(refine Tx 2 ?_;refine gO xM <| gO xA ?_))
  exact AfQ
 by_cases h1:(Ac a).length=0
 case pos =>
  have ha0:a=0:=bu fun h=>by have:=Cy h;omega
  subst ha0
  rw [fm]
  have h1i:((Ac 0).length:Int)=0:=by omega
  repeat' (with_reducible first|refine qq ?_|refine Alp ?_|(refine Tx 2 ?_;refine gO xM <| gO xA ?_))
  exact AfQ
 obtain ⟨q,r,hn,hr⟩:∃ q r,n=32*q+r∧r<32:=⟨n / 32,n % 32,by omega,by omega⟩
 have hq:IntKind.wrap .i64 ((n:Int).tdiv 32)=(q:Int):=by rw [Int.tdiv_eq_ediv_of_nonneg (by omega)];rw [show (n:Int) / 32=(q:Int) by omega];rw [gp];omega
 have hm:(n:Int).tmod 32=(r:Int):=by rw [Int.tmod_eq_emod_of_nonneg (by omega)];omega
 have hmw:IntKind.wrap .u64 (r:Int)=(r:Int):=Fm (by omega) (by omega)
 repeat' (with_reducible first|refine qq ?_|refine Alp ?_|(refine Tx 3 ?_;refine gO xM <| gO (by first|exact Acr rfl rfl rfl (by decide) hq|exact Abl rfl rfl rfl (by omega)) <| gO xM <| gO (by first|exact Acs rfl rfl rfl (by decide) hm|exact Abm rfl rfl rfl (by omega)) <| gO (by first|exact Ez rfl underlying3 underlying149 rfl hmw|exact Fg rfl underlying3 underlying149 rfl) <| gO xA <| gO xA ?_)|(refine Tx 4 ?_;refine gO xM <| gO xN <| gO xM <| gO xAd <| gO xAd <| gN (by first|exact Mo (n:=((Ac a).length+q+1)) rfl rfl rfl (by omega) AN DF (by omega) (by decide)|exact BG rfl rfl rfl AN DF (by omega) (by decide)) <| gO xA ?_)|(refine Tx 5 ?_;refine gO xM <| gO xN <| gO xM ?_))
 refine AJ (Be 1) (Al (fun n Fr H=>∃ (k:Nat) (o:List Nat),k≤(Ac a).length∧n=(Ac a).length - k∧Wa (Ac a) q r k o∧Fr=ofL [(5,vi q),(6,vd (.val (.int .u64 (r:Int)))),(7,vo 0 (((Ac a).length+q+1))),(30,vd (Iu false a)),(31,vi ((Ac a).length)),(32,vi ((k:Nat)))]∧H=[.row 143 1 ((Ac a).length+q+1) (cW o)]) (n0:=(Ac a).length) ⟨0,(List.replicate ((Ac a).length+q+1) 0),ad _,rfl,Wa.start _ _ _,rfl,rfl⟩ ?_)
 rintro nn Fr H ⟨k,o,hk,rfl,ho,rfl,rfl⟩
 by_cases hlt:k<(Ac a).length
 case pos =>
  obtain ⟨x,hx⟩:∃ x,(Ac a)[k]?=some x:=⟨_,gE hlt⟩
  have hx1:=ha x (gM hx)
  have hx2:=QP hx
  obtain ⟨cy,hcy,hcl⟩:=ho.top
  have hol:=ho.len
  obtain ⟨hor,hfit⟩:=Xc (l:=x*2 ^ r % 4294967296) hcl (eo _ (by decide)) (Nat.le_of_lt hr) (Ahp (Nat.le_of_lt hr))
  have hst:=ho.step ha hr hx hcy hcl hfit
  have h32:2 ^ r≤2147483648:=by rw [show (2147483648:Nat)=2 ^ 31 from rfl];exact au (by decide) (by omega)
  have hxm:x*2 ^ r≤4294967295*2147483648:=en (by omega) h32
  have w1:IntKind.wrap .u64 (x:Int)=(x:Int):=Fm (by omega) (by omega)
  have w2:IntKind.wrap .u64 ((x:Int)*2 ^ r)=((x*2 ^ r:Nat):Int):=by rw [show ((x:Int)*2 ^ r)=((x*2 ^ r:Nat):Int) by push_cast;rfl];exact Fm (by omega) (by omega)
  have w3:=Ng (x*2 ^ r)
  have w4:IntKind.wrap .u32 ((x*2 ^ r / 4294967296:Nat):Int)=((x*2 ^ r / 4294967296:Nat):Int):=by rw [Ng,ed (by omega)]
  have tl:q+k<o.length:=by omega
  have tl2:q+k+1<(o.set (q+k) (cy+x*2 ^ r % 4294967296)).length:=by rw [ee];omega
  generalize x*2 ^ r=t at *
  repeat' (with_reducible first|refine qq ?_|(refine Tx 6 ?_;refine gO xLt ?_)|(refine Tx 7 ?_;refine gO xM <| gO AfU <| gO Aou <| gO xA <| gO xA ?_)|(refine Tx 8 ?_;refine gO xM <| gO (by first|exact Ez rfl underlying143 underlying148 rfl w1|exact Fg rfl underlying143 underlying148 rfl) <| gO xM <| gO (by exact Aln rfl rfl rfl (lT (Nat.le_of_lt hr) (by decide)) w2) <| gO xA ?_)|(refine Tx 9 ?_;refine gO xM <| gO xM <| gO xM <| gO xAd <| gO AfU <| gO Aou <| gO xM <| gO (by first|exact Ez rfl underlying148 underlying143 rfl w3|exact Fg rfl underlying148 underlying143 rfl) <| gO (by exact Alm rfl rfl rfl hor) <| gO AfU <| gZ Aot ?_)|(refine Tx 10 ?_;refine gO xM <| gO xM <| gO xM <| gO xAd <| gO xAd <| gO xM <| gO (by exact Sb rfl rfl rfl) <| gO (by first|exact Ez rfl underlying148 underlying143 rfl w4|exact Fg rfl underlying148 underlying143 rfl) <| gO AfU <| gZ Aot ?_)|(refine Tx 11 ?_;refine gO xAd <| gO xM ?_))
  refine ⟨_,_,Be 1,_,by omega,k+1,_,by omega,rfl,hst,rfl,rfl⟩
 obtain rfl:k=(Ac a).length:=by omega
 have hv:=ho.val
 rw [aq,Ao] at hv
 have hv2:AH o=a*2 ^ n:=by rw [hv,hn,bi,dt,aw (2 ^ r)]
 have hol:=ho.len
 have TC:=Ol (G:=Ah) o ((Ac a).length+q+1) hol.symm ho.ok (by omega)
 rw [hv2] at TC
 repeat' (with_reducible first|refine qq ?_|(refine Tx 6 ?_;refine gO xLt ?_))
 refine AJ (EG (ds:=o.map dW) 7 0 rfl (by rw [←ArF];rfl)) ?_
 repeat' (with_reducible first|refine qq ?_|(refine Tx 12 ?_;refine gO xM <| gO (xCl func159 (TC)) <| gO xA ?_))
 exact AfQ
theorem Acv {o:Oper} {x:Operand} {k:IntKind} {p:Int} (ho:o.op=.call { callee:=.builtin .max,args:=#[x,y],argTypes:=ts }) (hx:F.ev x=.one (.d (.val (.int k p)))) (hy:F.ev y=.one (.d (.val (.int k q)))) (hr:max p q=r):AZ P G o F H (.one (.d (.val (.int k r)))) []:=hr ▸ Lr ho hx hy
theorem XO {o:Oper} {x:Operand} {p q r:Bool} (ho:o.op=.binOp .eql t x y t') (ht:P.underlying t=some .bool) (hx:F.ev x=.one (.d (.val (.bool p)))) (hy:F.ev y=.one (.d (.val (.bool q)))) (hr:(p == q)=r):AZ P G o F H (.one (.d (.val (.bool r)))) []:=by
 subst hr
 refine Dv ho hx hy (fun w=>?_) rfl
 have h1:(Op.equal t (.bool p) (.bool q)).run P w=.ok (p == q) w:=by
  have key:∀ d:Nat,(Op.equalIn (d+1) t (.bool p) (.bool q)).run P w=.ok (p == q) w:=fun d=>by simp [Op.equalIn,run_underlying ht]
  exact key 9999
 simp [eqGuard,binOp,h1]
theorem Aov (x:Int):sg (!decide (x<0)) x.natAbs = -x:=by
 unfold sg
 by_cases h:x<0
 ·simp only [h,decide_true,df,fz,if_false];omega
 ·simp only [h,decide_false,dg,if_true];omega
theorem Alq (x:Int):sg (decide (x<0)) x.natAbs=x:=by
 unfold sg
 by_cases h:x<0
 ·simp only [h,decide_true,if_true];omega
 ·simp only [h,decide_false,fz,if_false];omega
theorem AhQ (x:Int) (k:Nat):sg (decide (x<0)) (x.natAbs*2 ^ k)=x*2 ^ k:=by
 have h1:=Alq x
 unfold sg at *
 by_cases h:x<0
 ·simp only [h,decide_true,if_true] at *
  conv=>rhs;rw [←h1]
  rw [iy,di,Int.natCast_pow]
  rfl
 ·simp only [h,decide_false,fz,if_false] at *
  conv=>rhs;rw [←h1]
  rw [iy,Int.natCast_pow]
  rfl
theorem Aow (h:p:=by
 unfold sg
 cases hx:decide (x<0) <;> cases hy:decide (y<0) <;> simp only [hx,hy] at h ⊢ <;> simp at h ⊢ <;> omega):p:=h
theorem AfV (x:Int) (dx:Nat) (y:Int) (dy:Nat) :
  (decide (x<0)=decide (y<0)→CR x dx y dy=nf (sg (decide (x<0)) (x.natAbs*2 ^ (max dx dy - dx)+y.natAbs*2 ^ (max dx dy - dy))) (max dx dy)) ∧
  (¬ decide (x<0)=decide (y<0)→y.natAbs*2 ^ (max dx dy - dy)≤x.natAbs*2 ^ (max dx dy - dx)→CR x dx y dy=nf (sg (decide (x<0)) (x.natAbs*2 ^ (max dx dy - dx) - y.natAbs*2 ^ (max dx dy - dy))) (max dx dy)) ∧
  (¬ decide (x<0)=decide (y<0)→¬ y.natAbs*2 ^ (max dx dy - dy)≤x.natAbs*2 ^ (max dx dy - dx)→CR x dx y dy=nf (sg (decide (y<0)) (y.natAbs*2 ^ (max dx dy - dy) - x.natAbs*2 ^ (max dx dy - dx))) (max dx dy)):=by
 have h1:=AhQ x (max dx dy - dx)
 have h2:=AhQ y (max dx dy - dy)
 unfold CR
 rw [←h1,←h2]
 generalize x.natAbs*2 ^ (max dx dy - dx)=p
 generalize y.natAbs*2 ^ (max dx dy - dy)=q
 refine ⟨fun h=>?_,fun h hle=>?_,fun h hle=>?_⟩
 ·rw [←h]
  congr 1
  unfold sg
  split <;> omega
 ·congr 1
  exact Aow
 ·congr 1
  exact Aow
theorem Ge {x:Int} (h:Nf x d):Af x d 0=(x,d):=by
 unfold Af
 rw [if_neg (by decide)]
 show nf (x*2 ^ 0) d=_
 rw [Int.pow_zero,Int.mul_one]
 exact FO h.2
theorem FS (n:Int) (h1 : -9223372036854775808≤n) (h2:n<9223372036854775808):CV prog Ah 123 [aI n] [aDy false n 0]:=CVF.cv fun w S vs hg hlt ha=>by
 obtain ⟨u,hu,h3⟩:=BM ha
 subst hu
 cases h3
 exact (Abb n h1 h2 w hg).mono fun r w' ⟨v,he,hd,hb⟩=>⟨v,he,FG hd,hb⟩
theorem BW (x:Int) (d:Nat) (n:Int) (hn:Nf x d) (hl:(Ac x.natAbs).length≤50000) (hd:(d:Int) - max (-65536) (min n 65536)≤65536):CV prog Ah 27 [aDy false x d,aI n] [aDy false (Af x d n).1 (Af x d n).2]:=CVF.cv fun w S vs hg hlt ha=>by
 obtain ⟨v,vs',rfl,h1,ha⟩:=ha.uncons
 obtain ⟨u,hu,h2⟩:=BM ha
 subst hu
 cases h2
 exact (Qx (Hd h1 hlt hn) (aa _) hl hd hg).mono fun r w' ⟨v,he,hd,hb⟩=>⟨v,he,FG hd,hb⟩
theorem Acw (x:Int) (dx:Nat) (y:Int) (dy:Nat):Bm x dx y dy=Aat x dx y dy:=by
 unfold Bm Aat CR
 rw [Ach (AaN _ _),di]
 rfl
theorem Ck (x:Int) (dx:Nat) (y:Int) (dy:Nat) (hnx:Nf x dx) (hny:Nf y dy) (lx:(Ac x.natAbs).length≤40000) (ly:(Ac y.natAbs).length≤40000):CV prog Ah 9 [aDy false x dx,aDy false y dy] [aI (Bm x dx y dy)]:=CVF.cv fun w S vs hg hlt ha=>by
 obtain ⟨v,vs',rfl,h1,ha⟩:=ha.uncons
 obtain ⟨u,hu,h2⟩:=BM ha
 subst hu
 exact (Afs (Hd h1 hlt hnx) (Hd h2 hlt hny) (aa _) (lT lx (by decide)) (lT ly (by decide))).mono fun r w' ⟨he,hb⟩=>⟨_,he.trans (by rw [Acw]),Bx.val rfl,hb⟩
theorem Aox (h:p:=by first|exact xCl func72 (LX)|exact xCl func72 (LY)):p:=h
theorem AfW (x:Int) (dx:Nat) (y:Int) (dy:Nat) (hnx:Nf x dx) (hny:Nf y dy) (lx:(Ac x.natAbs).length≤40000) (ly:(Ac y.natAbs).length≤40000):CV prog Ah 29 [aDy false x dx,aDy false y dy] [aB (decide (x<0)),.one (Iu false (x.natAbs*2 ^ ((max dx dy) - dx))),aB (decide (y<0)),.one (Iu false (y.natAbs*2 ^ ((max dx dy) - dy))),aI ((max dx dy):Nat)]:=by
 refine cvz func29 ntmps29 ?_
 have PX:=FH (G:=Ah) x dx hnx (lT lx (by decide))
 have PY:=FH (G:=Ah) y dy hny (lT ly (by decide))
 have hdx:=hnx.1
 have hdy:=hny.1
 have hm:(max (dx:Int) (dy:Int))=(((max dx dy):Nat):Int):=by omega
 have LX:=XN x.natAbs ((max dx dy) - dx) (lT lx (by decide)) (by omega)
 have LY:=XN y.natAbs ((max dx dy) - dy) (lT ly (by decide)) (by omega)
 have e1:(((max dx dy) - dx:Nat):Int)=(((max dx dy):Nat):Int) - (dx:Int):=by omega
 have e2:(((max dx dy) - dy:Nat):Int)=(((max dx dy):Nat):Int) - (dy:Int):=by omega
 rw [e1] at LX
 rw [e2] at LY
 repeat' (with_reducible first|refine qq ?_|(refine Tx 0 ?_;refine gN xBo <| gN xBo <| gO xA <| gO xA <| gO xA <| gO xA <| gO xA ?_)|(refine Tx 1 ?_;refine gO xL <| gO AfS <| gO xMt <| gO xEx <| gO xEx <| gO xEx <| gO xA <| gO xA <| gO xA ?_)|(refine Tx 2 ?_;refine gO xL <| gO AfS <| gO xMt <| gO xEx <| gO xEx <| gO xEx <| gO xA <| gO xA <| gO xA ?_)|(refine Tx 3 ?_;refine gO xM <| gO xM <| gO (by first|exact Acv rfl rfl rfl hm|exact Lr rfl rfl rfl) <| gO xA ?_)|(refine Tx 4 ?_;refine gO xM <| gO xM <| gO xM <| gO xM <| gO xSb <| gO Aox <| gO xM <| gO xM <| gO xM <| gO xM <| gO xSb <| gO Aox <| gO xM <| gO xA <| gO xA <| gO xA <| gO xA <| gO xA ?_))
 exact Au rfl (.cons_ (Db rfl rfl) (.cons_ (.tmp (.one (Bi rfl fun _=>XM _))) (.cons_ (Db rfl rfl) (.cons_ (.tmp (.one (Bi rfl fun _=>XM _))) (.cons_ (Lw rfl rfl) .nil_)))))
theorem Alr {p':Prop} (k:p') (h:Hd9 p'→p:=by with_reducible first|(intro Z9;refine qq ?_;exact Z9.o)|(intro Z9;refine Tx 0 ?_;refine gN xBo <| gN xBo <| gN (xAl Aj) ?_;exact Z9.o)|(intro Z9;refine Tx 1 ?_;refine gO xL <| gO xL <| gO (xCl func29 (AL)) <| gO xMt <| gO xEx <| gO xEx <| gO xEx <| gO xEx <| gO xEx <| gO xA <| gO xA <| gO xA <| gO xA <| gO xA ?_;exact Z9.o)|(intro Z9;refine Tx 2 ?_;refine gO xM <| gO xM <| gO (xCl func30 (CP.cv)) <| gO xA ?_;exact Z9.o)|(intro Z9;refine Tx 3 ?_;refine gO xM <| gO xM <| gO (by first|exact XO rfl underlying4 rfl rfl hsb|exact xEq) <| gO xA ?_;exact Z9.o)|fail):p:=h ⟨k⟩
theorem Eg (x:Int) (dx:Nat) (y:Int) (dy:Nat) (hnx:Nf x dx) (hny:Nf y dy) (lx:(Ac x.natAbs).length≤40000) (ly:(Ac y.natAbs).length≤40000):CV prog Ah 146 [aDy false x dx,aDy false y dy] [aDy false (CR x dx y dy).1 (CR x dx y dy).2]:=by
 refine cvz func146 ntmps146 ?_
 have AL:=AfW x dx y dy hnx hny lx ly
 have hdx:=hnx.1
 have hdy:=hny.1
 have hX:(Ac (x.natAbs*2 ^ ((max dx dy) - dx))).length≤50000:=lT (Bz x.natAbs ((max dx dy) - dx)) (by omega)
 have hY:(Ac (y.natAbs*2 ^ ((max dx dy) - dy))).length≤50000:=lT (Bz y.natAbs ((max dx dy) - dy)) (by omega)
 have CP:=VX (G:=Ah) false false (x.natAbs*2 ^ ((max dx dy) - dx)) (y.natAbs*2 ^ ((max dx dy) - dy)) (by omega) (by omega)
 have SU:=AfV x dx y dy
 generalize (x.natAbs*2 ^ ((max dx dy) - dx))=p at *
 generalize (y.natAbs*2 ^ ((max dx dy) - dy))=q at *
 obtain ⟨S1,S2,S3⟩:=SU
 have hpq:=DX p q
 by_cases hs:decide (x<0)=decide (y<0)
 case pos =>
  have NA:=Alo p q (by omega) (by omega)
  have RS:=Fb false (decide (x<0)) (p+q) (max dx dy) (by omega) (by omega)
  rw [←S1 hs] at RS
  have hsb:=beq_iff_eq.2 hs
  repeat' (with_reducible first|refine Alr ?_|(refine Tx 4 ?_;refine gO xM <| gO xM <| gO xM <| gO (xCl func203 (NA)) <| gO xM <| gO (xCl func73 (RS.cv)) <| gZ (xSk Aa) ?_))
  exact Pm
 have hsb:(decide (x<0) == decide (y<0))=false:=beq_eq_false_iff_ne.2 hs
 by_cases hc:q≤p
 case pos =>
  have NS:=Acu p q hc (by omega)
  have RS:=Fb false (decide (x<0)) (p - q) (max dx dy) (lT (AQ (Nat.sub_le p q)) (by omega)) (by omega)
  rw [←S2 hs hc] at RS
  have hge:0≤sgI ((p:Int) - (q:Int)):=by rw [Dd];(repeat' split) <;> omega
  repeat' (with_reducible first|refine Alr ?_|(refine Tx 5 ?_;refine gO xM <| gO xGe <| gO xA ?_)|(refine Tx 6 ?_;refine gO xM <| gO xM <| gO xM <| gO (xCl func210 (NS)) <| gO xM <| gO (xCl func73 (RS.cv)) <| gZ (xSk Aa) ?_))
  exact Pm
 have NS:=Acu q p (by omega) (by omega)
 have RS:=Fb false (decide (y<0)) (q - p) (max dx dy) (lT (AQ (Nat.sub_le q p)) (by omega)) (by omega)
 rw [←S3 hs hc] at RS
 have hge:¬ 0≤sgI ((p:Int) - (q:Int)):=by rw [Dd];(repeat' split) <;> omega
 repeat' (with_reducible first|refine Alr ?_|(refine Tx 5 ?_;refine gO xM <| gO xGe <| gO xA ?_)|(refine Tx 7 ?_;refine gO xM <| gO xM <| gO xM <| gO (xCl func210 (NS)) <| gO xM <| gO (xCl func73 (RS.cv)) <| gZ (xSk Aa) ?_))
 exact Pm
theorem GA (x:Int) (dx:Nat) (hnx:Nf x dx) (lx:(Ac x.natAbs).length≤40000):CV prog Ah 83 [aDy false x dx] [aDy false (-x) dx]:=by
 refine cvz func83 ntmps83 ?_
 have PX:=FH (G:=Ah) x dx hnx (lT lx (by decide))
 have hdx:=hnx.1
 have RS:=Fb false (!decide (x<0)) x.natAbs dx (lT lx (by decide)) hdx
 rw [show nf (sg (!decide (x<0)) x.natAbs) dx=(-x,dx) by rw [Aov];exact FO fun h=>by have:=hnx.2 h;omega] at RS
 repeat' (with_reducible first|refine qq ?_|(refine Tx 0 ?_;refine gN xBo <| gN (xAl Aj) ?_)|(refine Tx 1 ?_;refine gO xL <| gO (xCl func71 (PX)) <| gO xMt <| gO xEx <| gO xEx <| gO xEx <| gO xA <| gO xA <| gO xA ?_)|(refine Tx 2 ?_;refine gO xM <| gO (by first|exact xNt|exact xNg) <| gO xM <| gO xM <| gO (xCl func73 (RS.cv)) <| gZ (xSk Aa) ?_))
 exact Pm
theorem Sh (x:Int) (dx:Nat) (hnx:Nf x dx) (lx:(Ac x.natAbs).length≤40000):CV prog Ah 150 [aDy false x dx] [aDy false ((x.natAbs:Nat):Int) dx]:=by
 refine cvz func150 ntmps150 ?_
 have PX:=FH (G:=Ah) x dx hnx (lT lx (by decide))
 have hdx:=hnx.1
 have RS:=Fb false false x.natAbs dx (lT lx (by decide)) hdx
 rw [show nf (sg false x.natAbs) dx=(((x.natAbs:Nat):Int),dx) from FO fun h=>by have:=hnx.2 h;show ((x.natAbs:Nat):Int) % 2=1;omega] at RS
 repeat' (with_reducible first|refine qq ?_|(refine Tx 0 ?_;refine gN xBo <| gN (xAl Aj) ?_)|(refine Tx 1 ?_;refine gO xL <| gO (xCl func71 (PX)) <| gO xMt <| gO xEx <| gO xEx <| gO xEx <| gO xA <| gO xA <| gO xA ?_)|(refine Tx 2 ?_;refine gO xM <| gO xM <| gO (xCl func73 (RS.cv)) <| gZ (xSk Aa) ?_))
 exact Pm
theorem Si (x:Int) (dx:Nat) (y:Int) (dy:Nat) (hnx:Nf x dx) (hny:Nf y dy) (lx:(Ac x.natAbs).length≤40000) (ly:(Ac y.natAbs).length≤40000):CV prog Ah 158 [aDy false x dx,aDy false y dy] [aDy false (GW x dx y dy).1 (GW x dx y dy).2]:=by
 refine cvz func158 ntmps158 ?_
 have CM:=Ck x dx y dy hnx hny lx ly
 have SX:=BW x dx 0 hnx (lT lx (by decide)) (by have:=hnx.1;omega)
 have SY:=BW y dy 0 hny (lT ly (by decide)) (by have:=hny.1;omega)
 rw [Ge hnx] at SX
 rw [Ge hny] at SY
 by_cases h:Bm x dx y dy≤0
 case pos =>
  rw [show GW x dx y dy=(x,dx) from if_neg (by omega)]
  repeat' (with_reducible first|refine qq ?_|(refine Tx 0 ?_;refine gN xBo <| gN xBo <| gN (xAl Aj) ?_)|(refine Tx 1 ?_;refine gO xL <| gO xL <| gO (xCl func9 (CM)) <| gO xLe ?_)|(refine Tx 2 ?_;refine gO xL <| gO (xCl func27 (SX)) <| gZ (xSk Aa) ?_))
  exact Pm
 case neg =>
  rw [show GW x dx y dy=(y,dy) from if_pos (by omega)]
  repeat' (with_reducible first|refine qq ?_|(refine Tx 0 ?_;refine gN xBo <| gN xBo <| gN (xAl Aj) ?_)|(refine Tx 1 ?_;refine gO xL <| gO xL <| gO (xCl func9 (CM)) <| gO xLe ?_)|(refine Tx 3 ?_;refine gO xL <| gO (xCl func27 (SY)) <| gZ (xSk Aa) ?_))
  exact Pm
theorem FI (x:Int) (dx:Nat) (y:Int) (dy:Nat) (hnx:Nf x dx) (hny:Nf y dy) (lx:(Ac x.natAbs).length≤40000) (ly:(Ac y.natAbs).length≤40000):CV prog Ah 91 [aDy false x dx,aDy false y dy] [aDy false (FX x dx y dy).1 (FX x dx y dy).2]:=by
 refine cvz func91 ntmps91 ?_
 have CM:=Ck x dx y dy hnx hny lx ly
 have SX:=BW x dx 0 hnx (lT lx (by decide)) (by have:=hnx.1;omega)
 have SY:=BW y dy 0 hny (lT ly (by decide)) (by have:=hny.1;omega)
 rw [Ge hnx] at SX
 rw [Ge hny] at SY
 by_cases h:0≤Bm x dx y dy
 case pos =>
  rw [show FX x dx y dy=(x,dx) from if_neg (by omega)]
  repeat' (with_reducible first|refine qq ?_|(refine Tx 0 ?_;refine gN xBo <| gN xBo <| gN (xAl Aj) ?_)|(refine Tx 1 ?_;refine gO xL <| gO xL <| gO (xCl func9 (CM)) <| gO xGe ?_)|(refine Tx 2 ?_;refine gO xL <| gO (xCl func27 (SX)) <| gZ (xSk Aa) ?_))
  exact Pm
 case neg =>
  rw [show FX x dx y dy=(y,dy) from if_pos (by omega)]
  repeat' (with_reducible first|refine qq ?_|(refine Tx 0 ?_;refine gN xBo <| gN xBo <| gN (xAl Aj) ?_)|(refine Tx 1 ?_;refine gO xL <| gO xL <| gO (xCl func9 (CM)) <| gO xGe ?_)|(refine Tx 3 ?_;refine gO xL <| gO (xCl func27 (SY)) <| gZ (xSk Aa) ?_))
  exact Pm
end Go.Proofs.YtjlkgfeepocjfaaGreatDoor
