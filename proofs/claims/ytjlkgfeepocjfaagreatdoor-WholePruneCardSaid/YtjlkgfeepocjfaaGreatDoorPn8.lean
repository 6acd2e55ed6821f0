/- What the proofs of this claim share, part 8. No conditions. -/
import Derived.Test.YtjlkgfeepocjfaaGreatDoorPn7
import Derived.Test.YtjlkgfeepocjfaaGreatDoorPn6
import Derived.IntWalk
set_option linter.all false
namespace Go.Proofs.YtjlkgfeepocjfaaGreatDoor
open Go.RowKit
variable {ob:Ob} {m:Mm} {u v z:Value} {y:Operand} {b:Bool} {p:Int} {b0 by_ g i j n off s:Nat} {a c w w':World} {e ty:TypeId} {ts:Array TypeId} {U:Nat→Prop} {oi:Oper} {ops:Array Oper}
structure TyK (P:Program) (t:TypeId) (b:Bool) (k:Nat):Prop where
 h:∃ d,P.underlying t=some d∧d.isRow=b
 s:(P.info? t).map (·.size)=some k
structure TyS (P:Program) (t e:TypeId) (k:Nat):Prop where
 h:P.underlying t=some (.slice e)
 s:(P.info? e).map (·.size)=some k
structure TyF (P:Program) (t:TypeId) (f off ft:Nat):Prop where
 h:∃ fs fl,P.underlying t=some (.struct fs)∧fs[f]?=some fl∧fl.offset=off∧fl.type=ft
structure TyZ (P:Program) (t:TypeId) (z:Value) (k by_:Nat):Prop where
 h:(P.info? t).map (fun i=>(i.zero,i.size,i.bytes))=some (some z,k,by_)
 c:z.cells.size=k
 one:z.cells.all (·.oneCell')=true
section
variable {P:Program} {G:World→Prop} {o:Oper} {F:Frm} {H:List Ob}
theorem BS {x:X} (h:∀ (b0:Nat) (m:Mm) (a:Act),H <+: m.H→Cx b0 m→Aml m F a o→∃ v,(execOp a.eval o).run P m.w=.ok (.value v) m.w∧Ey m x v):AU P G o F H x []:=by
 intro b0 m a hp hx hg hb0 hE hor K Q hK
 rw [av] at hp
 obtain ⟨v,h1,h2⟩:=h b0 m a hp hx hor
 unfold Oper.wp
 rw [h1]
 exact hK v m.w [] ⟨rfl,ah _ _,fun k e hk=>by simp at hk,List.Pairwise.nil⟩ (h2.le (GL (ah _ _) hx.lt (fun k hk=>by simp at hk)))
theorem VH {x:X} (hx:x=.one (.ref H.length 0 none)∧ob.k=some none∨∃ n,x=.one (.own H.length n)∧ob.k=some (some n))
  (h:∀ (b0:Nat) (m:Mm) (a:Act),(H++[ob]) <+: m.H→Cx b0 m→b0≤m.w.heap.size→Aml m F a o→∃ vs ty e,(execOp a.eval o).run P m.w=.ok (.value e.hv) (m.w.alloc (.cells vs ty))∧e.at_ (m.w.alloc (.cells vs ty)) b0∧e.own=some m.w.heap.size∧e.hv.oneCell'=true∧Adp m ob e):AU P G o F H x [ob]:=by
 intro b0 m a hp hcx hg hb0 hE hor K Q hK
 obtain ⟨vs,ty,e,h1,h2,h3,h4,h5⟩:=h b0 m a hp hcx hb0 hor
 unfold Oper.wp
 rw [h1]
 have hbel:Below m.w.heap.size m.w (m.w.alloc (.cells vs ty)):=(ah _ _).alloc (aa _) _
 have hle:=GL (es:=[e]) (n:=H.length) hbel hcx.lt (fun k hk=>hE k (by simpa using hk))
 have hobs:m.H[H.length]?=some ob:=getElem?_pre hp (by simp)
 have hEe:(m.plus (m.w.alloc (.cells vs ty)) H.length [e]).E H.length=some e:=by
  show (if H.length≤H.length∧H.length<H.length+[e].length then [e][H.length - H.length]? else _)=some e
  rw [if_pos (by simp)]
  simp
 refine hK e.hv _ [e] ⟨rfl,hbel,fun k e' hk=>?_,List.pairwise_singleton _ _⟩ ?_
 ·rcases k with _|k
  ·simp only [eb,Option.some.injEq] at hk
   subst hk
   exact ⟨h2,fun g hg'=>by rw [h3] at hg';cases hg';exact aa _,ob,rfl,h5.le hle⟩
  ·simp at hk
 ·rcases hx with ⟨rfl,hk⟩|⟨n,rfl,hk⟩
  ·refine ⟨h4,ob,hobs,(fun n n' h _=>by cases h),fun _=>⟨e,m.w.heap.size,hEe,by rw [←Et.at_form h2];exact h3,?_⟩⟩
   cases e with
   | box g vs' t' =>
    simp only [Et.own,Option.some.injEq] at h3
    subst h3
    rfl
   | row v' t' s' n' xs =>
    cases ob <;> simp [Adp,Ob.k] at h5 hk
  ·exact ⟨h4,ob,hobs,(fun p p' h h'=>by rw [hk] at h';cases h;cases h';exact aa _),fun _=>⟨e,hEe,rfl⟩⟩
theorem CA (h:Ey m (.one (.d (.val u))) v):v=u:=by
 have h':Ba m.w m.S (.val u) v:=h
 cases h'
 rfl
theorem XV {x:Operand} (ho:o.op=.move x):AU P G o F H (F.ev x) []:=BS fun b0 m a _ _ hor =>
 ⟨a.eval x,by unfold execOp;rw [ho];rfl,AV hor (by rw [ho];simp [Op.operands])⟩
theorem Adu {x:Operand} (ho:o.op=.assign x):AU P G o F H (F.ev x) []:=BS fun b0 m a _ _ hor =>
 ⟨a.eval x,by unfold execOp;rw [ho];rfl,AV hor (by rw [ho];simp [Op.operands])⟩
theorem Dr {op:BinOp} {t t':TypeId} {x:Operand} {u':Value} (ho:o.op=.binOp op t x y t') (hx:F.ev x=.one (.d (.val u))) (hy:F.ev y=.one (.d (.val u')))
  (hr:∀ w,((do eqGuard op t x y u u';binOp op t u u'):Sem Value).run P w=.ok v w) (h1:v.oneCell'=true):AU P G o F H (.one (.d (.val v))) []:=BS fun b0 m a _ _ hor=>by
 have ex:=CA (m:=m) (v:=a.eval x) (by rw [←hx];exact AV hor (by rw [ho];simp [Op.operands]))
 have ey:=CA (m:=m) (v:=a.eval y) (by rw [←hy];exact AV hor (by rw [ho];simp [Op.operands]))
 refine ⟨v,?_,Ba.val h1⟩
 unfold execOp
 have:=hr m.w
 simp only [ho,ex,ey]
 rw [ai,this]
 rfl
section CR
variable {t t':TypeId} {x y:Operand} {k:IntKind} {p q:Int}
theorem Ake (ho:o.op=.binOp .add t x y t') (hx:F.ev x=.one (.d (.val (.int k p)))) (hy:F.ev y=.one (.d (.val (.int k q)))):AU P G o F H (.one (.d (.val (.int k (k.wrap (p+q)))))) [] :=
 Dr ho hx hy (fun w=>by simp [eqGuard,binOp,Op.intArith]) rfl
theorem Aqv (ho:o.op=.binOp .sub t x y t') (hx:F.ev x=.one (.d (.val (.int k p)))) (hy:F.ev y=.one (.d (.val (.int k q)))):AU P G o F H (.one (.d (.val (.int k (k.wrap (p - q)))))) [] :=
 Dr ho hx hy (fun w=>by simp [eqGuard,binOp,Op.intArith]) rfl
theorem Akf (ho:o.op=.binOp .mul t x y t') (hx:F.ev x=.one (.d (.val (.int k p)))) (hy:F.ev y=.one (.d (.val (.int k q)))):AU P G o F H (.one (.d (.val (.int k (k.wrap (p*q)))))) [] :=
 Dr ho hx hy (fun w=>by simp [eqGuard,binOp,Op.intArith]) rfl
theorem Ahw (ho:o.op=.binOp .add t x y t') (hx:F.ev x=.one (.d (.val (.int .i64 p)))) (hy:F.ev y=.one (.d (.val (.int .i64 q)))) (hb : -9223372036854775808≤p+q∧p+q≤9223372036854775807):AU P G o F H (.one (.d (.val (.int .i64 (p+q))))) []:=by
 have:=Ake (P:=P) (G:=G) (H:=H) ho hx hy
 rwa [ke (p+q) (by omega)] at this
theorem Ahx (ho:o.op=.binOp .sub t x y t') (hx:F.ev x=.one (.d (.val (.int .i64 p)))) (hy:F.ev y=.one (.d (.val (.int .i64 q)))) (hb : -9223372036854775808≤p - q∧p - q≤9223372036854775807):AU P G o F H (.one (.d (.val (.int .i64 (p - q))))) []:=by
 have:=Aqv (P:=P) (G:=G) (H:=H) ho hx hy
 rwa [ke (p - q) (by omega)] at this
theorem Pb (ho:o.op=.binOp .mul t x y t') (hx:F.ev x=.one (.d (.val (.int .i64 p)))) (hy:F.ev y=.one (.d (.val (.int .i64 q)))) (hb : -9223372036854775808≤p*q∧p*q≤9223372036854775807):AU P G o F H (.one (.d (.val (.int .i64 (p*q))))) []:=by
 have:=Akf (P:=P) (G:=G) (H:=H) ho hx hy
 rwa [ke (p*q) (by omega)] at this
theorem Akg (ho:o.op=.binOp .quo t x y t') (hx:F.ev x=.one (.d (.val (.int k p)))) (hy:F.ev y=.one (.d (.val (.int k q)))) (h0:q≠0):AU P G o F H (.one (.d (.val (.int k (k.wrap (p.tdiv q)))))) [] :=
 Dr ho hx hy (fun w=>by simp [eqGuard,binOp,Op.intDiv,h0]) rfl
theorem Akh (ho:o.op=.binOp .rem t x y t') (hx:F.ev x=.one (.d (.val (.int k p)))) (hy:F.ev y=.one (.d (.val (.int k q)))) (h0:q≠0):AU P G o F H (.one (.d (.val (.int k (p.tmod q))))) [] :=
 Dr ho hx hy (fun w=>by simp [eqGuard,binOp,Op.intDiv,h0]) rfl
theorem Aqw (ho:o.op=.binOp .eql t x y t') (hx:F.ev x=.one (.d (.val (.int k p)))) (hy:F.ev y=.one (.d (.val (.int k q)))):AU P G o F H (.one (.d (.val (.bool (p == q))))) [] :=
 Dr ho hx hy (fun w=>by simp [eqGuard,binOp,Op.intCmp]) rfl
theorem Aqx (ho:o.op=.binOp .neq t x y t') (hx:F.ev x=.one (.d (.val (.int k p)))) (hy:F.ev y=.one (.d (.val (.int k q)))):AU P G o F H (.one (.d (.val (.bool (p != q))))) [] :=
 Dr ho hx hy (fun w=>by simp [eqGuard,binOp,Op.intCmp]) rfl
theorem Aki (ho:o.op=.binOp .lss t x y t') (hx:F.ev x=.one (.d (.val (.int k p)))) (hy:F.ev y=.one (.d (.val (.int k q)))):AU P G o F H (.one (.d (.val (.bool (decide (p<q)))))) [] :=
 Dr ho hx hy (fun w=>by simp [eqGuard,binOp,Op.intCmp]) rfl
theorem Aqy (ho:o.op=.binOp .leq t x y t') (hx:F.ev x=.one (.d (.val (.int k p)))) (hy:F.ev y=.one (.d (.val (.int k q)))):AU P G o F H (.one (.d (.val (.bool (decide (p≤q)))))) [] :=
 Dr ho hx hy (fun w=>by simp [eqGuard,binOp,Op.intCmp]) rfl
theorem Akj (ho:o.op=.binOp .gtr t x y t') (hx:F.ev x=.one (.d (.val (.int k p)))) (hy:F.ev y=.one (.d (.val (.int k q)))):AU P G o F H (.one (.d (.val (.bool (decide (q<p)))))) [] :=
 Dr ho hx hy (fun w=>by simp [eqGuard,binOp,Op.intCmp]) rfl
theorem Aqz (ho:o.op=.binOp .geq t x y t') (hx:F.ev x=.one (.d (.val (.int k p)))) (hy:F.ev y=.one (.d (.val (.int k q)))):AU P G o F H (.one (.d (.val (.bool (decide (q≤p)))))) [] :=
 Dr ho hx hy (fun w=>by simp [eqGuard,binOp,Op.intCmp]) rfl
end CR
theorem Adv {t:TypeId} {x:Operand} (ho:o.op=.unOp .not t x) (hx:F.ev x=.one (.d (.val (.bool b)))):AU P G o F H (.one (.d (.val (.bool (!b))))) []:=BS fun b0 m a _ _ hor=>by
 have ex:=CA (m:=m) (v:=a.eval x) (by rw [←hx];exact AV hor (by rw [ho];simp [Op.operands]))
 exact ⟨.bool (!b),by unfold execOp;simp [ho,ex,Op.unary],Ba.val rfl⟩
theorem AqA {t:TypeId} {x:Operand} {k:IntKind} (ho:o.op=.unOp .neg t x) (hx:F.ev x=.one (.d (.val (.int k p)))):AU P G o F H (.one (.d (.val (.int k (k.wrap (0 - p)))))) []:=BS fun b0 m a _ _ hor=>by
 have ex:=CA (m:=m) (v:=a.eval x) (by rw [←hx];exact AV hor (by rw [ho];simp [Op.operands]))
 refine ⟨.int k (k.wrap (0 - p)),?_,Ba.val rfl⟩
 unfold execOp
 simp [ho,ex,Op.unary,Op.intArith]
theorem TG {t:TypeId} {x:Operand} (ho:o.op=.unOp .neg t x) (hx:F.ev x=.one (.d (.val (.int .i64 p)))) (hb : -9223372036854775807≤p∧p≤9223372036854775807):AU P G o F H (.one (.d (.val (.int .i64 (-p))))) []:=by
 have:=AqA (P:=P) (G:=G) (H:=H) ho hx
 rwa [ke (0 - p) (by omega),Int.zero_sub] at this
theorem FY {s t:TypeId} {x:Operand} {k k':IntKind} (ho:o.op=.convert s t x) (hs:P.underlying s=some (.int k)) (ht:P.underlying t=some (.int k')) (hx:F.ev x=.one (.d (.val (.int k p)))):AU P G o F H (.one (.d (.val (.int k' (k'.wrap p))))) []:=BS fun b0 m a _ _ hor=>by
 have ex:=CA (m:=m) (v:=a.eval x) (by rw [←hx];exact AV hor (by rw [ho];simp [Op.operands]))
 refine ⟨_,?_,Ba.val rfl⟩
 unfold execOp
 simp [ho,ex,convert,run_underlying hs,run_underlying ht,Conv.intToInt]
theorem Si {x:Operand} {l:List A} {y:A} (ho:o.op=.extract x i) (hx:F.ev x=.tup l) (hy:l[i]?=some y):AU P G o F H y.x []:=BS fun b0 m a _ _ hor=>by
 have hv:=AV hor (x:=x) (by rw [ho];simp [Op.operands])
 rw [hx] at hv
 obtain ⟨vs,hv1,hl⟩:=hv
 obtain ⟨v,hv2,hr⟩:=hl.at_ hy
 refine ⟨v,?_,A.x_rel hr⟩
 unfold execOp
 simp [ho,hv1,Instr.extract,hv2]
theorem Akk (hx:Cx b0 m) {id ty off s n:Nat} {cs:List C} {v:Value} (hv:VF m id off (some n) v) (hH:m.H[id]?=some (.row ty s n cs)):∃ g c xs,v=.pointer (some ⟨g,off,none⟩)∧m.E id=some (.row (.slice (some ⟨g,0,none⟩) n c) ty s n xs)∧m.w.ownsRow b0 ty s (.slice (some ⟨g,0,none⟩) n c) n xs∧AP (DP m) cs xs:=by
 obtain ⟨_,ob,hob,_,hk⟩:=hv
 rw [hH] at hob
 cases hob
 obtain ⟨e,g,he,hg,rfl⟩:=hk rfl
 obtain ⟨hat,ob,hob,hE⟩:=hx.each id e he
 rw [hH] at hob
 cases hob
 cases e with
 | box g' vs ty'=>exact hE.elim
 | row v' ty' s' n' xs =>
  obtain ⟨rfl,rfl,rfl,hl⟩:=hE
  have hat':m.w.ownsRow b0 ty' s' v' n' xs:=hat
  rcases hat'.2 with ⟨rfl,_⟩|⟨g2,cap,cur,rfl,_⟩
  ·simp [Et.hv,Nn] at hg
  ·have hgg:g2=g:=by simpa [Et.hv,Nn] using hg
   subst hgg
   exact ⟨g2,cap,xs,rfl,he,hat,hl⟩
theorem Pc {ty c:Nat} {xs:List Value} (h:w.ownsRow b0 ty s (.slice (some ⟨g,0,none⟩) n c) n xs) (hj:j<xs.length):w.cell? ⟨g,j,none⟩=xs[j]?:=World.ownsRow.cellAt h j (by have:=h.1;omega)
inductive At (H:List Ob):C→List C→Prop
 | box {id ty off:Nat} {cs:List C} (h:H[id]?=some (.box ty cs)):At H (.ref id off none) (cs.drop off)
 | row {id ty s n off:Nat} {cs:List C} (h:H[id]?=some (.row ty s n cs)):At H (.ref id off (some n)) (cs.drop off)
 | ptr {t:Bool} {ds:List D}:At H (.d (.ptr t ds)) (ds.map .d)
theorem At.get (hx:Cx b0 m) {c:C} {cs:List C} (h:At m.H c cs) {v:Value} (hv:DP m c v):∃ g off xs,v=.pointer (some ⟨g,off,none⟩)∧AP (DP m) cs xs∧∀ (j:Nat) (x:Value),xs[j]?=some x→m.w.cell? ⟨g,off+j,none⟩=some x:=by
 cases h with
 | @box id ty off cs h =>
  obtain ⟨g,vs,rfl,_,_,hg,hl⟩:=Gp hx hv h
  refine ⟨g,off,vs.drop off,rfl,hl.drop_ off,fun j x hj=>?_⟩
  rw [cell_of_row m.w g (off+j) vs.toArray ty (0,0) hg]
  rw [cn] at hj
  simpa using hj
 | @row id ty s n off cs h =>
  obtain ⟨g,c,xs,rfl,_,hat,hl⟩:=Akk hx hv h
  refine ⟨g,off,xs.drop off,rfl,hl.drop_ off,fun j x hj=>?_⟩
  rw [cn] at hj
  rw [Pc hat (gS.1 hj).1]
  exact hj
 | @ptr t ds =>
  have hv':Ba m.w m.S (.ptr t ds) v:=hv
  cases hv' with
  | ptr xs hxl hb hm hr=>exact ⟨_,_,xs,rfl,AP.map_l.2 ⟨hxl,hr⟩,hm⟩
theorem At.pre {H':List Ob} (hp:H <+: H') {c:C} {cs:List C} (h:At H c cs):At H' c cs:=by
 cases h with
 | box h=>exact .box (getElem?_pre hp h)
 | row h=>exact .row (getElem?_pre hp h)
 | ptr=>exact .ptr
theorem RL {a:Addr} {d:TypeDesc} (hu:P.underlying ty=some d) (hd:d.isRow=false) (hc:w.cell? a=some v):(Instr.loadAt ty (.pointer (some a))).run P w=.ok v w:=by
 simp only [Instr.loadAt,Instr.sureAddr,ai,bk,bd,EX hu hd hc]
theorem Pf {t:TypeId} {x:Operand} {p c:C} {cs:List C} {k:Nat} (ho:o.op=.load t x) (hx:F.ev x=.one p) (ha:At H p cs) (hc:cs[0]?=some c) (hk:TyK P t false k):AU P G o F H (.one c) []:=BS fun b0 m a hp hcx hor=>by
 have hv:=AV hor (x:=x) (by rw [ho];simp [Op.operands])
 rw [hx] at hv
 obtain ⟨g,off,xs,he,hl,hm⟩:=(ha.pre hp).get hcx hv
 obtain ⟨v,hv0,hr⟩:=hl.at_ hc
 obtain ⟨d,hu,hd⟩:=hk.h
 refine ⟨v,?_,hr⟩
 unfold execOp
 simp only [ho,he]
 rw [ai,RL (a:=⟨g,off,none⟩) hu hd (hm 0 v hv0)]
 rfl
theorem Pg {t:TypeId} {x:Operand} {p:C} {cs cs':List C} {k:Nat} (ho:o.op=.load t x) (hx:F.ev x=.one p) (ha:At H p cs) (hk:TyK P t true k) (hc:cs.take k=cs') (hlen:cs'.length=k):AU P G o F H (.agg cs') []:=BS fun b0 m a hp hcx hor=>by
 have hv:=AV hor (x:=x) (by rw [ho];simp [Op.operands])
 rw [hx] at hv
 obtain ⟨g,off,xs,he,hl,hm⟩:=(ha.pre hp).get hcx hv
 obtain ⟨d,hu,hd⟩:=hk.h
 subst hc
 have hl':=hl.take_ k
 refine ⟨.agg (xs.take k).toArray,?_,xs.take k,rfl,hl'⟩
 unfold execOp
 simp only [ho,he]
 rw [ai,run_loadAt_mid m.w g off t (xs.take k) d (fun j v hj=>hm j v (by rw [bq] at hj;split at hj;exact hj;cases hj)) hu hd (by rw [hk.s,←hl'.1,hlen])]
 rfl
inductive Off (off:Nat):C→C→Prop
 | ref {id o k}:Off off (.ref id o k) (.ref id (o+off) k)
 | ptr {t ds}:Off off (.d (.ptr t ds)) (.d (.ptr t (ds.drop off)))
theorem Off.get {c c':C} (h:Off off c c') {b0:Nat} {m:Mm} (hx:Cx b0 m) {v:Value} (hv:DP m c v) (hl:∀ id o k,c=.ref id o k→∃ ob,m.H[id]?=some ob∧ob.k=some k):∃ g p,v=.pointer (some ⟨g,p,none⟩)∧DP m c' (.pointer (some ⟨g,p+off,none⟩)):=by
 cases h with
 | @ref id o' k =>
  obtain ⟨_,ob,hob,hok,h2⟩:=hv
  obtain ⟨ob',h3,h4⟩:=hl id o' k rfl
  rw [hob] at h3
  cases h3
  obtain ⟨e,g,he,hg,rfl⟩:=h2 h4
  exact ⟨g,o',rfl,rfl,ob,hob,hok,fun _=>⟨e,g,he,hg,rfl⟩⟩
 | @ptr t ds =>
  have hv':Ba m.w m.S (.ptr t ds) v:=hv
  cases hv' with
  | @ptr _ _ b o' xs hxl hb hm hr =>
   refine ⟨b,o',rfl,Ba.ptr (xs.drop off) (by simp [hxl]) hb (fun j x hj=>?_) (fun j u x hu hj=>?_)⟩
   ·rw [cn] at hj
    rw [gr]
    exact hm _ x hj
   ·rw [cn] at hu hj
    exact hr _ u x hu hj
theorem VJ {t:TypeId} {x:Operand} {f ft k:Nat} {p p':C} {cs:List C} (ho:o.op=.fieldAddr t x f) (hx:F.ev x=.one p) (ha:At H p cs) (hf:TyF P t f off ft) (hk:TyK P ft b (k+1)) (hp':Off off p p'):AU P G o F H (.one p') []:=BS fun b0 m a hp hcx hor=>by
 have hv:=AV hor (x:=x) (by rw [ho];simp [Op.operands])
 rw [hx] at hv
 obtain ⟨g,q,he,hr⟩:=hp'.get hcx hv (fun id o k hpk=>by
  cases ha with
  | box h=>cases hpk;exact ⟨_,getElem?_pre hp h,rfl⟩
  | row h=>cases hpk;exact ⟨_,getElem?_pre hp h,rfl⟩
  | ptr=>cases hpk)
 obtain ⟨fs,fl,h1,h2,rfl,rfl⟩:=hf.h
 refine ⟨_,?_,hr⟩
 have hs:=hk.s
 obtain ⟨i,hi,hi2⟩:=Option.map_eq_some_iff.1 hs
 unfold execOp
 simp [ho,he,Instr.fieldAt,run_underlying h1,h2,Instr.sureAddr,fieldPlace,sizeOf,typeInfo,hi,hi2,mj]
theorem Adw {t:TypeId} {x:Operand} {f ft k:Nat} {cs cs':List C} (ho:o.op=.field t x f) (hx:F.ev x=.agg cs) (hf:TyF P t f off ft) (hk:TyK P ft true k) (hc:(cs.drop off).take k=cs'):AU P G o F H (.agg cs') []:=BS fun b0 m a hp hcx hor=>by
 have hv:=AV hor (x:=x) (by rw [ho];simp [Op.operands])
 rw [hx] at hv
 obtain ⟨xs,he,hl⟩:=hv
 obtain ⟨fs,fl,h1,h2,rfl,rfl⟩:=hf.h
 obtain ⟨d,hu,hd⟩:=hk.h
 obtain ⟨i,hi,hi2⟩:=Option.map_eq_some_iff.1 hk.s
 have hagg:(isAgg fl.type).run P m.w=.ok true m.w:=by
  unfold isAgg
  rw [ai,run_underlying hu m.w]
  cases d <;> simp_all
 subst hc
 refine ⟨.agg ((xs.drop fl.offset).take k).toArray,?_,_,rfl,(hl.drop_ _).take_ _⟩
 unfold execOp
 simp [ho,he,Instr.field,run_underlying h1,h2,asAgg,part,hagg,sizeOf,typeInfo,hi,hi2,List.extract_toArray,List.extract_eq_take_drop]
inductive Len (H:List Ob):C→Nat→Prop
 | own {id ty s n:Nat} {cs:List C} (h:H[id]?=some (.row ty s n cs)):Len H (.own id n) n
 | row {t:Bool} {s n:Nat} {cs:List D}:Len H (.d (.row t s n cs)) n
 | nil:Len H (.d (.val (.slice none 0 0))) 0
 | emp:Len H .emp 0
theorem Mn (hx:Cx b0 m) {id ty s n:Nat} {cs:List C} {v:Value} (hv:DP m (.own id n) v) (hH:m.H[id]?=some (.row ty s n cs)):∃ xs,m.E id=some (.row v ty s n xs)∧m.w.ownsRow b0 ty s v n xs∧AP (DP m) cs xs:=by
 obtain ⟨_,ob,hob,_,hk⟩:=hv
 rw [hH] at hob
 cases hob
 obtain ⟨e,he,rfl⟩:=hk rfl
 obtain ⟨hat,ob,hob,hE⟩:=hx.each id e he
 rw [hH] at hob
 cases hob
 cases e with
 | box g' vs ty'=>exact hE.elim
 | row v' ty' s' n' xs =>
  obtain ⟨rfl,rfl,rfl,hl⟩:=hE
  exact ⟨xs,he,hat,hl⟩
theorem Len.get (hx:Cx b0 m) {c:C} {n:Nat} (h:Len m.H c n) {v:Value} (hv:DP m c v):∃ A cap,v=.slice A n cap∧n≤cap∧(A=none→cap=0):=by
 cases h with
 | emp =>
  obtain ⟨A,rfl⟩:=hv
  exact ⟨A,0,rfl,aa _,fun _=>rfl⟩
 | own h =>
  obtain ⟨xs,_,hat,_⟩:=Mn hx hv h
  rcases hat.2 with ⟨rfl,rfl⟩|⟨g,cap,cur,rfl,_,_,hnc,_⟩
  ·exact ⟨none,0,rfl,aa _,fun _=>rfl⟩
  ·exact ⟨_,cap,rfl,hnc,by simp⟩
 | @row t s n cs =>
  have hv':Ba m.w m.S (.row t s n cs) v:=hv
  cases hv' with
  | row xs hc hA _ _ _ _=>exact ⟨_,_,rfl,hc,hA⟩
 | nil =>
  have hv':Ba m.w m.S (.val (.slice none 0 0)) v:=hv
  cases hv'
  exact ⟨none,0,rfl,aa _,fun _=>rfl⟩
theorem Len.pre {H':List Ob} (hp:H <+: H') {c:C} {n:Nat} (h:Len H c n):Len H' c n:=by
 cases h with
 | own h=>exact .own (getElem?_pre hp h)
 | row=>exact .row
 | nil=>exact .nil
 | emp=>exact .emp
theorem AqB {t:TypeId} {x:Operand} {c:C} {k:Nat} (ho:o.op=.call { callee:=.builtin .len,args:=#[x],argTypes:=#[t] }) (hx:F.ev x=.one c) (hn:Len H c n) (ht:TyS P t e k):AU P G o F H (.one (.d (.val (.int .i64 n)))) []:=BS fun b0 m a hp hcx hor=>by
 have hv:=AV hor (x:=x) (by rw [ho];simp [Op.operands,Call.operands])
 rw [hx] at hv
 obtain ⟨A,cap,he,_,_⟩:=(hn.pre hp).get hcx hv
 refine ⟨.int .i64 n,?_,Ba.val rfl⟩
 unfold execOp
 simp [ho,resolve,invoke,builtin,he,Builtin.len_,run_underlying ht.h,goInt]
theorem Adx {x:Operand} {k:IntKind} {q:Int} (ho:o.op=.call { callee:=.builtin .min,args:=#[x,y],argTypes:=ts }) (hx:F.ev x=.one (.d (.val (.int k p)))) (hy:F.ev y=.one (.d (.val (.int k q)))):AU P G o F H (.one (.d (.val (.int k (min p q))))) []:=BS fun b0 m a hp hcx hor=>by
 have ex:=CA (m:=m) (v:=a.eval x) (by rw [←hx];exact AV hor (by rw [ho];simp [Op.operands,Call.operands]))
 have ey:=CA (m:=m) (v:=a.eval y) (by rw [←hy];exact AV hor (by rw [ho];simp [Op.operands,Call.operands]))
 refine ⟨_,?_,Ba.val rfl⟩
 unfold execOp
 simp [ho,resolve,invoke,builtin,ex,ey,XJ]
theorem FZ {x:Operand} {k:IntKind} {q:Int} (ho:o.op=.call { callee:=.builtin .max,args:=#[x,y],argTypes:=ts }) (hx:F.ev x=.one (.d (.val (.int k p)))) (hy:F.ev y=.one (.d (.val (.int k q)))):AU P G o F H (.one (.d (.val (.int k (max p q))))) []:=BS fun b0 m a hp hcx hor=>by
 have ex:=CA (m:=m) (v:=a.eval x) (by rw [←hx];exact AV hor (by rw [ho];simp [Op.operands,Call.operands]))
 have ey:=CA (m:=m) (v:=a.eval y) (by rw [←hy];exact AV hor (by rw [ho];simp [Op.operands,Call.operands]))
 refine ⟨_,?_,Ba.val rfl⟩
 unfold execOp
 simp [ho,resolve,invoke,builtin,ex,ey,XK]
inductive Ix (H:List Ob) (s i:Nat):C→C→Prop
 | own {id ty n:Nat} {cs:List C} (h:H[id]?=some (.row ty s n cs)):Ix H s i (.own id n) (.ref id (i*s) (some n))
 | row {t:Bool} {n:Nat} {cs es:List D} (h:(cs.drop (i*s)).take s=es):Ix H s i (.d (.row t s n cs)) (.d (.ptr t es))
theorem Ou {t:TypeId} {x:Operand} {c c':C} {k:IntKind} (ho:o.op=.indexAddr t x y) (hx:F.ev x=.one c) (hy:F.ev y=.one (.d (.val (.int k (i:Int))))) (ht:TyS P t e s) (hn:Len H c n) (hi:i<n) (hs:0<s) (h:Ix H s i c c'):AU P G o F H (.one c') []:=BS fun b0 m a hp hcx hor=>by
 have hv:=AV hor (x:=x) (by rw [ho];simp [Op.operands])
 have ey:=CA (m:=m) (v:=a.eval y) (by rw [←hy];exact AV hor (by rw [ho];simp [Op.operands]))
 rw [hx] at hv
 have key:∃ g off cap,a.eval x=.slice (some ⟨g,off,none⟩) n cap∧DP m c' (.pointer (some ⟨g,off+i*s,none⟩)):=by
  cases h with
  | @own id ty n' cs hH =>
   have hH':=getElem?_pre hp hH
   obtain ⟨xs,he,hat,hl⟩:=Mn hcx hv hH'
   have hnn:n'=n:=by cases hn;rfl
   subst hnn
   rcases hat.2 with ⟨_,rfl⟩|⟨g,cap,cur,hve,_⟩
   ·omega
   ·refine ⟨g,0,cap,hve,rfl,_,hH',(fun p p' h h'=>by cases h;cases h';exact aa _),fun _=>⟨_,g,he,by rw [show (Et.row (a.eval x) ty s n' xs).hv=a.eval x from rfl,hve];rfl,by rw [ax]⟩⟩
  | @row t n' cs es hes =>
   have hnn:n'=n:=by cases hn;rfl
   subst hnn
   have hv':Ba m.w m.S (.row t s n' cs) (a.eval x):=hv
   generalize a.eval x=u at hv'
   cases hv' with
   | @row _ _ _ cap _ A xs hc hA hl hxl hm hr =>
    have hne:cs≠[]:=fun h0=>by
     rw [h0] at hl
     have:=Nat.mul_pos (show 0<n' by omega) hs
     simp at hl
     omega
    obtain ⟨b,off,rfl,hb,hcells⟩:=hm hne
    refine ⟨b,off,cap,rfl,Ba.ptr ((xs.drop (i*s)).take s) ?_ hb (fun j x hj=>?_) (fun j u x hu hj=>?_)⟩
    ·rw [←hes];simp [hxl]
    ·rw [bq] at hj
     split at hj
     ·rw [cn] at hj
      rw [gr]
      exact hcells _ x hj
     ·cases hj
    ·rw [←hes] at hu
     rw [bq] at hu hj
     split at hu
     ·rw [if_pos (by assumption)] at hj
      rw [cn] at hu hj
      exact hr _ u x hu hj
     ·cases hu
 obtain ⟨g,off,cap,he,hr⟩:=key
 refine ⟨_,?_,hr⟩
 obtain ⟨ie,hi1,hi2⟩:=Option.map_eq_some_iff.1 ht.s
 have h1:(0:Int)≤(i:Int):=by omega
 have h2:(i:Int)<(n:Int):=by omega
 unfold execOp
 simp [ho,he,ey,Instr.indexAt,asIntOf,run_underlying ht.h,sizeOf,typeInfo,hi1,hi2,hi,mj]
end
def Fu {α:Type} (place:Nat→Option (Nat × Nat)) (cells:List α):List (Nat × List α)→Option (List α)
 | []=>some cells
 | (i,vs)::rest=>match place i with
  | none=>none
  | some (off,size)=>match Nat.beq vs.length size,Nat.ble (off+vs.length) cells.length with
   | true,true=>Fu place (cells.take off++vs++cells.drop (off+vs.length)) rest
   | _,_=>none
theorem nbeq {a b:Nat}:Nat.beq a b=decide (a=b):=by
 cases h:Nat.beq a b with
 | true=>rw [decide_eq_true (di h)]
 | false=>rw [decide_eq_false (Nat.ne_of_beq_eq_false h)]
theorem nble {a b:Nat}:Nat.ble a b=decide (a≤b):=by
 cases h:Nat.ble a b with
 | true=>rw [decide_eq_true (bl h)]
 | false=>rw [decide_eq_false (fun hc=>by rw [Nat.ble_eq_true_of_le hc] at h;cases h)]
theorem Qc (off:Nat):∀ (vs:List Value) (n:Nat) (cells:Array Value),off+n+vs.length≤cells.size →
  ((vs.zipIdx n).foldl (fun (cs:Array Value) (p:Value × Nat)=>cs.setIfInBounds (off+p.2) p.1) cells).toList=cells.toList.take (off+n)++vs++cells.toList.drop (off+n+vs.length)
 | [],n,cells,_=>by simp
 | v::vs,n,cells,h=>by
  have hl:off+n+1+vs.length≤cells.size:=by simp at h;omega
  rw [List.zipIdx_cons,List.foldl_cons,Qc off vs (n+1) _ (by simp;omega)]
  have e:=list_seg_step cells.toList (off+n) v vs (by simp;omega)
  simpa [Array.toList_setIfInBounds,gr] using e
theorem Qd (place:Nat→Option (Nat × Nat)):∀ (parts:List (Nat × Value)) (cells:Array Value),Instr.fill place cells parts=(Fu place cells.toList (parts.map fun p=>(p.1,p.2.cells.toList))).map List.toArray
 | [],cells=>by simp [Instr.fill,Fu]
 | (i,v)::rest,cells=>by
  simp only [Instr.fill,Fu,br]
  cases hp:place i with
  | none=>rfl
  | some q =>
   obtain ⟨off,size⟩:=q
   simp only [lj,nbeq,nble]
   by_cases h1:v.cells.size=size
   ·by_cases h2:off+v.cells.size≤cells.size
    ·rw [decide_eq_true h1,decide_eq_true h2]
     have h3:¬ (v.cells.size≠size || decide (off+v.cells.size > cells.size))=true:=by simp [h1];omega
     rw [if_neg h3,Qd place rest]
     congr 2
     have:=Qc off v.cells.toList 0 cells (by simpa using h2)
     simp only [dv,lj] at this
     rw [←this]
     rw [←Array.foldl_toList]
     simp [Array.toList_zipIdx]
    ·rw [decide_eq_false h2]
     have h3:(v.cells.size≠size || decide (off+v.cells.size > cells.size))=true:=by simp;omega
     rw [if_pos h3]
     cases decide (v.cells.size=size) <;> rfl
   ·rw [decide_eq_false h1]
    have h3:(v.cells.size≠size || decide (off+v.cells.size > cells.size))=true:=by simp [h1]
    rw [if_pos h3]
    rfl
theorem Qe {α β:Type} {R:α→β→Prop} {place:Nat→Option (Nat × Nat)}:∀ {ps:List (Nat × List α)} {qs:List (Nat × List β)} {aS:List α} {bs:List β} {cs:List α},AP (fun p q=>p.1=q.1∧AP R p.2 q.2) ps qs→AP R aS bs→Fu place aS ps=some cs→∃ ds,Fu place bs qs=some ds∧AP R cs ds
 | [],qs,aS,bs,cs,h,hab,hf=>by
  rw [h.unnil]
  simp only [Fu,Option.some.injEq] at hf
  subst hf
  exact ⟨bs,rfl,hab⟩
 | (i,vs)::ps,qs,aS,bs,cs,h,hab,hf=>by
  obtain ⟨⟨j,us⟩,qs',rfl,⟨h1,h2⟩,h3⟩:=h.uncons
  dsimp only at h1 h2
  subst h1
  simp only [Fu] at hf ⊢
  cases hp:place i with
  | none=>rw [hp] at hf;cases hf
  | some q =>
   obtain ⟨off,size⟩:=q
   simp only [hp] at hf ⊢
   rw [←h2.1,←hab.1]
   cases hb1:Nat.beq vs.length size with
   | false=>rw [hb1] at hf;cases hf
   | true =>
    cases hb2:Nat.ble (off+vs.length) aS.length with
    | false=>rw [hb1,hb2] at hf;cases hf
    | true =>
     rw [hb1,hb2] at hf
     exact Qe h3 (((hab.take_ off).app h2).app (hab.drop_ _)) hf
structure TyB (P:Program) (t:TypeId) (pl:List (Nat × Nat)) (zs:List Value):Prop where
 h:∃ fs,P.underlying t=some (.struct fs)∧fs.toList.map (fun f=>(f.offset,(P.info? f.type).map (·.size)))=pl.map fun p=>(p.1,some p.2)
 z:(P.info? t).map (·.zero)=some (some (.agg zs.toArray))
 one:zs.all (·.oneCell')=true
def EY:X→Option (List C)
 | .one c=>some [c]
 | .agg cs=>some cs
 | _=>none
def Lj (F:Frm):List (Nat × Operand)→Option (List (Nat × List C))
 | []=>some []
 | (i,x)::l=>match EY (F.ev x),Lj F l with
  | some cs,some r=>some ((i,cs)::r)
  | _,_=>none
theorem Ns {x:X} {cs:List C} (h:Ey m x v) (hc:EY x=some cs):AP (DP m) cs v.cells.toList:=by
 cases x with
 | one c =>
  simp only [EY,Option.some.injEq] at hc
  subst hc
  have h1:v.cells=#[v]:=by have:=DP.one h;cases v <;> first|rfl|cases this
  rw [h1]
  exact AP.cons_ h AP.nil_
 | agg cs' =>
  simp only [EY,Option.some.injEq] at hc
  subst hc
  obtain ⟨xs,rfl,hl⟩:=h
  exact hl
 | tup l=>cases hc
 | any=>cases hc
 | pin l=>cases hc
 | tupC l=>cases hc
theorem Nt {m:Mm} {F:Frm} {a:Act}:∀ {ps:List (Nat × Operand)} {r:List (Nat × List C)},(∀ p∈ps,Ey m (F.ev p.2) (a.eval p.2))→Lj F ps=some r→AP (fun p q=>p.1=q.1∧AP (DP m) p.2 q.2) r (ps.map fun p=>(p.1,(a.eval p.2).cells.toList))
 | [],r,_,h=>by
  simp only [Lj,Option.some.injEq] at h
  subst h
  exact AP.nil_
 | (i,x)::ps,r,hx,h=>by
  simp only [Lj] at h
  cases hc:EY (F.ev x) with
  | none=>rw [hc] at h;cases h
  | some cs =>
   cases hp:Lj F ps with
   | none=>rw [hc,hp] at h;cases h
   | some r' =>
    rw [hc,hp] at h
    simp only [Option.some.injEq] at h
    subst h
    exact AP.cons_ ⟨rfl,Ns (hx (i,x) (by simp)) hc⟩ (Nt (fun p hp=>hx p (by simp [hp])) hp)
def DW (z:List Value):List C:=z.map fun v=>.d (.val v)
theorem Ht {z:List Value} (h:z.all (·.oneCell')=true):AP (DP m) (DW z) z :=
 ⟨by simp [DW],fun j c v hc hv=>by
  simp only [DW,ag,hv,bp,Option.some.injEq] at hc
  subst hc
  exact Ba.val (List.all_eq_true.1 h v (gM hv))⟩
theorem Qf {P:Program} {w:World}:∀ {fs:List Field} {pl:List (Nat × Nat)},fs.map (fun f=>(f.offset,(P.info? f.type).map (·.size)))=pl.map (fun p=>(p.1,some p.2))→(fs.mapM fun (f:Field)=>do pure (f.offset,←sizeOf f.type)).run P w=.ok pl w
 | [],[],_=>by simp
 | f::fs,p::pl,h=>by
  simp only [br,List.cons.injEq,Prod.mk.injEq] at h
  obtain ⟨⟨h1,h2⟩,h3⟩:=h
  obtain ⟨i,hi,hi2⟩:=Option.map_eq_some_iff.1 h2
  have ih:=Qf (P:=P) (w:=w) h3
  have hel:(do pure (f.offset,←sizeOf f.type):Sem (Nat × Nat)).run P w=.ok p w:=by simp [sizeOf,typeInfo,hi,hi2,h1]
  rw [jz,ai,hel,bd,ai,ih]
  rfl
 | [],p::pl,h=>by simp at h
 | f::fs,[],h=>by simp at h
section
variable {P:Program} {G:World→Prop} {o:Oper} {F:Frm} {H:List Ob}
theorem AH {t:TypeId} {parts:Array (Nat × Operand)} {pl:List (Nat × Nat)} {z:List Value} {ps:List (Nat × List C)} {cs:List C} (ho:o.op=.build t parts) (ht:TyB P t pl z) (hp:Lj F parts.toList=some ps) (hf:Fu (fun i=>pl[i]?) (DW z) ps=some cs):AU P G o F H (.agg cs) []:=BS fun b0 m a _ hcx hor=>by
 obtain ⟨fs,hu,hpl⟩:=ht.h
 have hr:=Nt (m:=m) (a:=a) (fun p hp=>AV hor (by rw [ho];simp only [Op.operands];exact List.mem_map.2 ⟨p,hp,rfl⟩)) hp
 obtain ⟨ds,hd,hl⟩:=Qe hr (Ht (m:=m) ht.one) hf
 refine ⟨.agg ds.toArray,?_,ds,rfl,hl⟩
 obtain ⟨i,hi,hi2⟩:=Option.map_eq_some_iff.1 ht.z
 have hm:(fs.mapM fun (f:Field)=>do pure (f.offset,←sizeOf f.type)).run P m.w=.ok pl.toArray m.w:=by
  rw [←kb (xs:=fs),kc,map_eq_pure_bind,ai,Qf hpl]
  rfl
 have hfill:Instr.fill (fun i=>pl.toArray[i]?) (Value.agg z.toArray).cells (parts.map fun p=>(p.1,a.eval p.2)).toList=some ds.toArray:=by
  rw [Qd]
  have e1:((parts.map fun p=>(p.1,a.eval p.2)).toList.map fun p=>(p.1,p.2.cells.toList))=parts.toList.map fun p=>(p.1,(a.eval p.2).cells.toList):=by simp
  rw [e1]
  have e2:(fun (i:Nat)=>pl.toArray[i]?)=fun (i:Nat)=>pl[i]?:=funext fun i=>lk
  rw [e2,show (Value.agg z.toArray).cells.toList=z from rfl,hd]
  rfl
 have hz:(zeroValue t).run P m.w=.ok (.agg z.toArray) m.w:=by simp [zeroValue,typeInfo,hi,hi2]
 have hrun:(Instr.build t (parts.map fun p=>(p.1,a.eval p.2))).run P m.w=.ok (.agg ds.toArray) m.w:=by
  unfold Instr.build
  rw [ai,hz,bd,ai,run_underlying hu,bd,ai,hm,bd,hfill]
  rfl
 unfold execOp
 simp only [ho]
 rw [ai,hrun]
 rfl
theorem Ahy {t:TypeId} {k:Nat} (ho:o.op=.alloc t) (hz:TyZ P t z k by_):AU P G o F H (.one (.ref H.length 0 none)) [.box t (DW z.cells.toList)] :=
 VH (.inl ⟨rfl,rfl⟩) fun b0 m a hp hcx hb hor=>by
  obtain ⟨i,hi,hi2⟩:=Option.map_eq_some_iff.1 hz.h
  simp only [Prod.mk.injEq] at hi2
  refine ⟨z.cells,t,.box m.w.heap.size z.cells.toList t,?_,⟨hb,by simpa using heap_alloc_new m.w _⟩,rfl,rfl,rfl,Ht (by simpa using hz.one)⟩
  unfold execOp
  simp only [ho,Instr.alloc]
  simp only [ai,zeroValue,typeInfo,run_program,bd,hi,hi2.1,bk,newVar,newRow,run_newObj]
  rfl
theorem AqC {t:TypeId} {x:Operand} {cs:List C} (ho:o.op=.box t x) (hx:EY (F.ev x)=some cs):AU P G o F H (.one (.ref H.length 0 none)) [.box t cs] :=
 VH (.inl ⟨rfl,rfl⟩) fun b0 m a hp hcx hb hor=>by
  have hl:=Ns (m:=m) (AV hor (x:=x) (by rw [ho];simp [Op.operands])) hx
  refine ⟨(a.eval x).cells,t,.box m.w.heap.size (a.eval x).cells.toList t,?_,⟨hb,by simpa using heap_alloc_new m.w _⟩,rfl,rfl,rfl,hl⟩
  unfold execOp
  simp only [ho,Instr.box]
  simp only [ai,bd,bk,newVar,newRow,run_newObj]
  rfl
theorem Bo {t:TypeId} {x:Operand} {k k':IntKind} (ho:o.op=.makeSlice t x y) (hx:F.ev x=.one (.d (.val (.int k (n:Int))))) (hy:F.ev y=.one (.d (.val (.int k' (n:Int))))) (ht:TyS P t e s) (hz:TyZ P e z s by_) (hn:n≤1000000) (hby:by_≤1000) :
  AU P G o F H (.one (.own H.length n)) [.row e s n (DW (madeCells z.cells (n*s)).toList)] :=
 VH (.inr ⟨n,rfl,rfl⟩) fun b0 m a hp hcx hb hor=>by
  have ex:=CA (m:=m) (v:=a.eval x) (by rw [←hx];exact AV hor (by rw [ho];simp [Op.operands]))
  have ey:=CA (m:=m) (v:=a.eval y) (by rw [←hy];exact AV hor (by rw [ho];simp [Op.operands]))
  obtain ⟨i,hi,hi2⟩:=Option.map_eq_some_iff.1 hz.h
  simp only [Prod.mk.injEq] at hi2
  have hb1:(i.bytes:Int)*(n:Int)≤281474976710656:=by
   have:i.bytes*n≤1000*1000000:=du (by omega) hn
   have h2:((i.bytes*n:Nat):Int)≤281474976710656:=by omega
   rwa [ja] at h2
  have hrun:=run_make (P:=P) m.w t e i z ht.h hi hi2.1 k k' (n:Int) (n:Int) (by omega) (dh _) hb1 (by omega)
  rw [hi2.2.1,ar] at hrun
  refine ⟨madeCells z.cells (n*s),e,.row (.slice (some ⟨m.w.heap.size,0,none⟩) n n) e s n (madeCells z.cells (n*s)).toList,?_,?_,rfl,rfl,rfl,rfl,rfl,Ht ?_⟩
  ·unfold execOp
   simp only [ho,ex,ey]
   rw [ai,hrun]
   rfl
  ·refine ⟨by simp [size_madeCells],.inr ⟨m.w.heap.size,n,_,rfl,hb,heap_alloc_new m.w _,aa _,by unfold maxLen;omega,by simp [size_madeCells],?_⟩⟩
   rw [am (by simp [size_madeCells])]
  ·refine List.all_eq_true.2 fun v hv=>?_
   unfold madeCells at hv
   simp only [kg,jb] at hv
   obtain ⟨j,hj,rfl⟩:=hv
   have hj':j<n*s:=by simpa using hj
   have hs:0<z.cells.size:=by
    rw [hz.c]
    rcases co s with h|h
    ·rw [h] at hj';omega
    ·exact h
   have hlt:j % z.cells.size<z.cells.size:=fy _ hs
   have h1:z.cells[j % z.cells.size]! = z.cells[j % z.cells.size]:=by simp [hlt]
   rw [h1]
   exact (Array.all_eq_true_iff_forall_mem.1 hz.one) _ (Array.getElem_mem hlt)
theorem EM {t:TypeId} {len:Nat} {parts:Array (Nat × Operand)} {ps:List (Nat × List C)} {cs:List C} (ho:o.op=.buildSlice t len parts) (ht:TyS P t e s) (hz:TyZ P e z s by_) (hsm:¬ len*s > 16777216) (hln:len≤1000000)
  (hp:Lj F parts.toList=some ps) (hf:Fu (fun i=>some (i*s,s)) (DW (madeCells z.cells (len*s)).toList) ps=some cs) (hcs:cs.length=len*s) (h0:0<s):AU P G o F H (.one (.own H.length len)) [.row e s len cs] :=
 VH (.inr ⟨len,rfl,rfl⟩) fun b0 m a hpr hcx hb hor=>by
  obtain ⟨i,hi,hi2⟩:=Option.map_eq_some_iff.1 hz.h
  simp only [Prod.mk.injEq] at hi2
  have hr:=Nt (m:=m) (a:=a) (fun p hp=>AV hor (by rw [ho];simp only [Op.operands];exact List.mem_map.2 ⟨p,hp,rfl⟩)) hp
  have hone:(madeCells z.cells (len*s)).toList.all (·.oneCell')=true:=List.all_eq_true.2 fun v hv=>by
   unfold madeCells at hv
   simp only [kg,jb] at hv
   obtain ⟨j,hj,rfl⟩:=hv
   have hlt:j % z.cells.size<z.cells.size:=fy _ (by rw [hz.c];exact h0)
   have h1:z.cells[j % z.cells.size]! = z.cells[j % z.cells.size]:=by simp [hlt]
   rw [h1]
   exact (Array.all_eq_true_iff_forall_mem.1 hz.one) _ (Array.getElem_mem hlt)
  obtain ⟨ds,hd,hl⟩:=Qe hr (Ht (m:=m) hone) hf
  have hfill:Instr.fill (fun i=>some (i*s,s)) (madeCells z.cells (len*s)) (parts.map fun p=>(p.1,a.eval p.2)).toList=some ds.toArray:=by
   rw [Qd]
   have e1:((parts.map fun p=>(p.1,a.eval p.2)).toList.map fun p=>(p.1,p.2.cells.toList))=parts.toList.map fun p=>(p.1,(a.eval p.2).cells.toList):=by simp
   rw [e1,hd]
   rfl
  refine ⟨ds.toArray,e,.row (.slice (some ⟨m.w.heap.size,0,none⟩) len len) e s len ds,?_,?_,rfl,rfl,rfl,rfl,rfl,hl⟩
  ·unfold execOp
   simp only [ho]
   by_cases hz0:len*s=0
   ·have hl0:len=0:=by
     rcases co len with h|h
     ·exact h
     ·have:=Nat.mul_pos h h0;omega
    have hm:madeCells z.cells (len*s)=(Array.range (len*i.size)).map (fun x=>(#[]:Array Value)[x % 0]!):=by
     rw [hi2.2.1,hz0]
     simp [madeCells]
    rw [hm] at hfill
    have hi':i.size=s:=hi2.2.1
    simp [Instr.buildSlice,run_underlying ht.h,sizeOf,typeInfo,hi,hi',hz0,newRow] at hfill ⊢
    simp [hfill,Et.hv]
   ·have:=run_buildSlice (P:=P) m.w t e len (parts.map fun p=>(p.1,a.eval p.2)) ds.toArray i z ht.h hi hi2.1 (by rw [hi2.2.1];exact hsm) (by rw [hi2.2.1];exact hz0) (by rw [hi2.2.1];exact hfill)
    rw [ai,this]
    rfl
  ·refine ⟨by rw [←hl.1,hcs],.inr ⟨m.w.heap.size,len,ds.toArray,rfl,hb,heap_alloc_new m.w _,aa _,by unfold maxLen;omega,by simp [←hl.1,hcs],?_⟩⟩
   rw [am (by simp [←hl.1,hcs])]
theorem Ady {c x:Operand} (ho:o.op=.pick c x y) (hc:F.ev c=.one (.d (.val (.bool b)))):AU P G o F H (match b with|true=>F.ev x|false=>F.ev y) []:=BS fun b0 m a _ _ hor=>by
 have ec:=CA (m:=m) (v:=a.eval c) (by rw [←hc];exact AV hor (by rw [ho];simp [Op.operands]))
 have ex:=AV (F:=F) hor (x:=x) (by rw [ho];simp [Op.operands])
 have ey:=AV (F:=F) hor (x:=y) (by rw [ho];simp [Op.operands])
 cases b with
 | true=>exact ⟨a.eval x,by unfold execOp;simp [ho,ec,asBool],ex⟩
 | false=>exact ⟨a.eval y,by unfold execOp;simp [ho,ec,asBool],ey⟩
theorem OQ {t:TypeId} {x:Operand} {d:TypeDesc} (ho:o.op=.makeInterface t x) (hx:F.ev x=.one (.d (.val u))) (hu:P.underlying t=some d) (hd:(match d with|.interface _=>false|_=>true)=true):AU P G o F H (.one (.d (.val (.iface t u)))) []:=BS fun b0 m a _ _ hor=>by
 have ex:=CA (m:=m) (v:=a.eval x) (by rw [←hx];exact AV hor (by rw [ho];simp [Op.operands]))
 refine ⟨.iface t u,?_,Ba.val rfl⟩
 unfold execOp
 cases d <;> simp_all [Instr.makeInterface,run_underlying hu]
end
theorem Cx.write (hx:Cx b0 m) (ht:Tot m) {id:Nat} {e e':Et} {ob ob':Ob} {w':World} (he:m.E id=some e) (hob:m.H[id]?=some ob) (hg:m.w.grownBy w' e.own) (hat:e'.at_ w' b0) (ho:∀ g,e'.own=some g→e.own=some g∨m.w.heap.size≤g)
  (hk:∀ k,ob'.k=some k→(ob.k=some k∧e'.hv=e.hv)∨(∃ n n',k=some n'∧ob.k=some (some n)∧n<n')) (hER:∀ m',Le m m'→Adp m' ob' e') (hbs:b0≤m.w.heap.size) :
  Cx b0 ⟨w',m.S,m.H.set id ob',fun i=>if i=id then some e' else m.E i⟩∧Tot ⟨w',m.S,m.H.set id ob',fun i=>if i=id then some e' else m.E i⟩∧Le m ⟨w',m.S,m.H.set id ob',fun i=>if i=id then some e' else m.E i⟩∧Below b0 m.w w':=by
 have hlt:=(gS.1 hob).1
 have hle:Le m ⟨w',m.S,m.H.set id ob',fun i=>if i=id then some e' else m.E i⟩:=by
  refine ⟨fun _ _ h=>h,rfl,fun t b hS=>hg.block b (hx.lt t b hS) (fun hc=>hx.far id e b t he hc.symm hS),fun i o hi=>?_⟩
  by_cases h:i=id
  ·subst h
   rw [hob] at hi
   cases hi
   refine ⟨ob',by rw [ed hlt],fun k hk'=>?_⟩
   rcases hk k hk' with ⟨h1,h2⟩|h1
   ·refine .inl ⟨h1,fun x hx'=>⟨e',by simp,?_⟩⟩
    rw [he] at hx'
    cases hx'
    exact h2
   ·exact .inr h1
  ·exact ⟨o,by rw [gm (fun hc=>h hc.symm)];exact hi,Np.same fun x hx'=>by simp [h,hx']⟩
 have hfar:∀ i x,i≠id→m.E i=some x→∀ g,x.own=some g→some g≠e.own:=fun i x hi hx' g hg' hc=>hx.apart i id x e hi hx' he g hg' hc.symm
 refine ⟨⟨fun i x hi=>?_,fun i j x y hij hi hj g h1 h2=>?_,fun i x g t hi hg' hS=>?_,fun t b hS=>au (hx.lt t b hS) hg.size⟩,fun i o hi hk'=>?_,hle,⟨hg.os,hg.tape,hg.output,hg.size,fun k hk'=>hg.block k (by omega) (fun hc=>by have:=(Et.lt (hx.each id e he).1 hc.symm).1;omega)⟩⟩
 ·by_cases h:i=id
  ·subst h
   simp only [if_true,Option.some.injEq] at hi
   subst hi
   exact ⟨hat,ob',by rw [ed hlt],hER _ hle⟩
  ·simp only [h,if_false] at hi
   obtain ⟨h1,o,h2,h3⟩:=hx.each i x hi
   exact ⟨Et.same h1 fun g hg'=>hg.block g (Et.lt h1 hg').2 (hfar i x h hi g hg'),o,by rw [gm (fun hc=>h hc.symm)];exact h2,h3.le hle⟩
 ·by_cases hi':i=id
  ·subst hi'
   have hj':¬ j=i:=fun hc=>hij hc.symm
   simp only [if_true,Option.some.injEq] at hi
   simp only [hj',if_false] at hj
   subst hi
   rcases ho g h1 with h3|h3
   ·exact hfar j y hj' hj g h2 h3.symm
   ·have:=(Et.lt (hx.each j y hj).1 h2).2
    omega
  ·simp only [hi',if_false] at hi
   by_cases hj':j=id
   ·subst hj'
    simp only [if_true,Option.some.injEq] at hj
    subst hj
    rcases ho g h2 with h3|h3
    ·exact hfar i x hi' hi g h1 h3.symm
    ·have:=(Et.lt (hx.each i x hi).1 h1).2
     omega
   ·simp only [hj',if_false] at hj
    exact hx.apart i j x y hij hi hj g h1 h2
 ·by_cases h:i=id
  ·subst h
   simp only [if_true,Option.some.injEq] at hi
   subst hi
   rcases ho g hg' with h3|h3
   ·exact hx.far i e g t he h3 hS
   ·have:=hx.lt t g hS
    omega
  ·simp only [h,if_false] at hi
   exact hx.far i x g t hi hg' hS
 ·by_cases h:i=id
  ·subst h
   simp
  ·have hi':(m.H.set id ob')[i]?=some o:=hi
   rw [gm (fun hc=>h hc.symm)] at hi'
   simpa [h] using ht i o hi' hk'
def Ob.cs:Ob→List C
 | .box _ cs=>cs
 | .row _ _ _ cs=>cs
 | .dead=>[]
def Ob.setC:Ob→List C→Ob
 | .box t _,cs=>.box t cs
 | .row t s n _,cs=>.row t s n cs
 | .dead,_=>.dead
theorem AqD (ob:Ob) (cs:List C):(ob.setC cs).k=ob.k:=by cases ob <;> rfl
theorem VK (w:World) (g:Nat) (cs:Array Value):w.grownBy (w.setRow g cs) (some g) :=
 ⟨rfl,rfl,rfl,by simp [World.setRow],fun k hk hne=>setRow_other w g k cs (fun h=>hne (by rw [h]))⟩
theorem Qg {P:Program} {t:Nat} {cur:Array Value} {k:Nat} (hs:(P.info? t).map (·.size)=some k) (hk:v.cells.size=k) (hg:w.heap[g]?=some (.cells cur ty (0,0))) (hl:off+k≤cur.size) (h1:∀ x∈v.cells.toList,x.oneCell'=true) :
  (Instr.storeAt t (.pointer (some ⟨g,off,none⟩)) v).run P w=.ok () (w.setRow g (cur.toList.take off++v.cells.toList++cur.toList.drop (off+k)).toArray):=by
 obtain ⟨i,hi,hi2⟩:=Option.map_eq_some_iff.1 hs
 have hst:=run_storeCells_at P g off ty v.cells.toList 0 cur w hg (by simpa [hk] using hl) h1
 simp only [dv,lj,hk] at hst
 simp [Instr.storeAt,Instr.sureAddr,storeVar,sizeOf,typeInfo,hi,hi2,hk,hst]
theorem XW {α:Type} (l y:List α) (off N:Nat) (h:off+y.length≤N) (hN:N≤l.length):(l.take off++y++l.drop (off+y.length)).take N=(l.take N).take off++y++(l.take N).drop (off+y.length):=by
 rw [List.take_take,ei (by omega),List.drop_take,List.take_append,am (by simp;omega)]
 congr 2
 simp
 omega
section
variable {P:Program} {G:World→Prop} {o:Oper} {F:Frm} {H:List Ob}
theorem Zx {t:TypeId} {x:Operand} {id:Nat} {kk:Option Nat} {cy:List C} (ho:o.op=.store t x y) (hx:F.ev x=.one (.ref id off kk)) (hH:H[id]?=some ob) (hk:ob.k=some kk) (hy:EY (F.ev y)=some cy) (hty:TyK P t b cy.length) (hoff:off+cy.length≤ob.cs.length) :
  TOk P G o F H .any (H.set id (ob.setC (ob.cs.take off++cy++ob.cs.drop (off+cy.length)))):=by
 intro b0 m a hH' hcx ht hg hb hor K Q hK
 subst hH'
 have hv:=AV hor (x:=x) (by rw [ho];simp [Op.operands])
 have hu:=AV hor (x:=y) (by rw [ho];simp [Op.operands])
 rw [hx] at hv
 have hl:=Ns hu hy
 have hone:∀ u∈(a.eval y).cells.toList,u.oneCell'=true:=fun u hm=>by
  obtain ⟨j,hj⟩:=List.mem_iff_getElem?.1 hm
  obtain ⟨c,hc⟩:∃ c,cy[j]?=some c:=⟨_,gE (by have:=(gS.1 hj).1;have:=hl.1;omega)⟩
  exact DP.one (hl.2 j c u hc hj)
 have hlen:(a.eval y).cells.size=cy.length:=by rw [hl.1];simp
 have fin:∀ (e e':Et) (g:Nat) (cur:Array Value) (ty:TypeId),m.E id=some e→e.own=some g→e'.own=some g→e'.hv=e.hv→a.eval x=.pointer (some ⟨g,off,none⟩)→m.w.heap[g]?=some (.cells cur ty (0,0))→off+cy.length≤cur.size →
   e'.at_ (m.w.setRow g (cur.toList.take off++(a.eval y).cells.toList++cur.toList.drop (off+cy.length)).toArray) b0→(∀ m',Le m m'→Adp m' (ob.setC (ob.cs.take off++cy++ob.cs.drop (off+cy.length))) e')→o.wp P a m.w K Q:=fun e e' g cur ty he hown hown' hhv hptr hheap hfit hat hER=>by
  obtain ⟨h1,h2,h3,h4⟩:=hcx.write ht (w':=m.w.setRow g (cur.toList.take off++(a.eval y).cells.toList++cur.toList.drop (off+cy.length)).toArray) (e':=e') (ob':=ob.setC (ob.cs.take off++cy++ob.cs.drop (off+cy.length))) he hH (by rw [hown];exact VK _ _ _) hat (fun g' hg'=>.inl (by rw [hown,←hown',hg'])) (fun k hk'=>.inl ⟨by rw [AqD] at hk';exact hk',hhv⟩) hER hb
  unfold Oper.wp execOp
  simp only [ho,hptr]
  rw [ai,Qg hty.s hlen hheap hfit hone]
  exact hK undef _ rfl h1 h2 h3 h4 (fun b hb'=>.inl hb') trivial
 cases ob with
 | dead=>cases hk
 | box ty cs =>
  cases hk
  obtain ⟨g,vs,hptr,he,hbg,hheap,hlc⟩:=Gp hcx hv hH
  have hlv:=hlc.1
  refine fin _ (.box g (vs.take off++(a.eval y).cells.toList++vs.drop (off+cy.length)) ty) g vs.toArray ty he rfl rfl rfl hptr hheap (by simp only [Ob.cs] at hoff;simp;omega) ⟨hbg,by simpa using setRow_heap m.w g vs.toArray _ ty (0,0) hheap⟩ fun m' hle=>⟨rfl,?_⟩
  exact (((hlc.take_ off).app hl).app (hlc.drop_ _)).imp fun _ _=>DP.le hle
 | row ty s n cs =>
  cases hk
  obtain ⟨g,c,xs,hptr,he,hat,hlc⟩:=Akk hcx hv hH
  have hlv:=hlc.1
  simp only [Ob.cs] at hoff
  rcases hat.2 with ⟨h0,_⟩|⟨g',cap,cur,hve,hbg,hheap,hnc,hcm,hcs,htk⟩
  ·cases h0
  ·cases hve
   have hxl:=hat.1
   have hns:=jo s hnc
   refine fin _ (.row (.slice (some ⟨g,0,none⟩) n c) ty s n (xs.take off++(a.eval y).cells.toList++xs.drop (off+cy.length))) g cur ty he rfl rfl rfl hptr hheap (by omega) ⟨?_,.inr ⟨g,c,_,rfl,hbg,setRow_heap m.w g cur _ ty (0,0) hheap,hnc,hcm,?_,?_⟩⟩ fun m' hle=>⟨rfl,rfl,rfl,?_⟩
   ·simp [hlen];omega
   ·simp [hlen];omega
   ·have:=XW cur.toList (a.eval y).cells.toList off (n*s) (by simp [hlen];omega) (by simp;omega)
    simp only [lj,hlen] at this
    rw [htk] at this
    simpa using this
   ·exact (((hlc.take_ off).app hl).app (hlc.drop_ _)).imp fun _ _=>DP.le hle
theorem Hu {t:TypeId} {x:Operand} {id:Nat} {kk:Option Nat} {c:C} (ho:o.op=.store t x y) (hx:F.ev x=.one (.ref id off kk)) (hH:H[id]?=some ob) (hk:ob.k=some kk) (hy:F.ev y=.one c) (hty:TyK P t b 1) (hoff:off<ob.cs.length) :
  TOk P G o F H .any (H.set id (ob.setC (ob.cs.set off c))):=by
 have:=Zx (P:=P) (G:=G) (cy:=[c]) ho hx hH hk (by rw [hy];rfl) hty (by simp;omega)
 have e:ob.cs.take off++[c]++ob.cs.drop (off+[c].length)=ob.cs.set off c:=by
  rw [List.set_eq_take_append_cons_drop,if_pos hoff]
  simp
 rwa [e] at this
inductive Src (H:List Ob) (id:Nat):C→Nat→List C→Prop
 | own {id' ty s n:Nat} {cs:List C} (h:H[id']?=some (.row ty s n cs)) (hne:id'≠id):Src H id (.own id' n) n cs
 | row {t:Bool} {s n:Nat} {cs:List D}:Src H id (.d (.row t s n cs)) n (cs.map .d)
 | nil:Src H id (.d (.val (.slice none 0 0))) 0 []
 | emp:Src H id .emp 0 []
theorem Src.get (hx:Cx b0 m) {c:C} {n id:Nat} {cs:List C} (h:Src m.H id c n cs) {v:Value} (hv:DP m c v):∃ A cap xs,v=.slice A n cap∧AP (DP m) cs xs∧(cs≠[]→∃ p,A=some p)∧∀ p,A=some p→∀ (j:Nat) (x:Value),xs[j]?=some x→m.w.cell? (p.add j)=some x:=by
 cases h with
 | emp =>
  obtain ⟨A,rfl⟩:=hv
  exact ⟨A,0,[],rfl,AP.nil_,fun h=>absurd rfl h,fun p _ j x hj=>by simp at hj⟩
 | @own id' ty s n cs h hne =>
  obtain ⟨xs,_,hat,hl⟩:=Mn hx hv h
  rcases hat.2 with ⟨rfl,rfl⟩|⟨g,cap,cur,rfl,_,hheap,hnc,_⟩
  ·refine ⟨none,0,xs,rfl,hl,fun hne'=>?_,fun p hp=>by cases hp⟩
   exfalso
   have h1:=hat.1
   have h2:=hl.1
   exact hne' (bj (by simp at h1;rw [h2,h1];rfl))
  ·refine ⟨_,cap,xs,rfl,hl,fun _=>⟨_,rfl⟩,fun p hp j x hj=>?_⟩
   cases hp
   rw [mj,ax,Pc hat (gS.1 hj).1]
   exact hj
 | @row t s n cs =>
  have hv':Ba m.w m.S (.row t s n cs) v:=hv
  cases hv' with
  | @row _ _ _ cap _ A xs hc hA hl hxl hm hr =>
   by_cases hcs:cs=[]
   ·subst hcs
    have hx0:xs=[]:=bj (by simpa using hxl.symm)
    subst hx0
    exact ⟨_,_,[],rfl,AP.nil_,fun h=>absurd rfl h,fun q hq j x hj=>by simp at hj⟩
   ·obtain ⟨b,off,rfl,hb,hcells⟩:=hm hcs
    refine ⟨_,_,xs,rfl,AP.map_l.2 ⟨hxl,hr⟩,fun _=>⟨_,rfl⟩,fun p hp j x hj=>?_⟩
    cases hp
    rw [mj]
    exact hcells j x hj
 | nil =>
  have hv':Ba m.w m.S (.val (.slice none 0 0)) v:=hv
  cases hv'
  exact ⟨none,0,[],rfl,AP.nil_,fun h=>absurd rfl h,fun p hp=>by cases hp⟩
theorem Hv {t:TypeId} {i:TypeInfo} {A B:Option Addr} {c c':Nat} (ht:P.underlying t=some (.slice e)) (hi:P.info? e=some i) (hc:n≤c):(Builtin.append_ #[t,t] ty #[.slice A n c,.slice B 0 c']).run P w=.ok (.slice A n c) w:=by
 cases A <;> cases B <;> simp [Builtin.append_,run_underlying ht,sizeOf,typeInfo,hi,Builtin.lenOf,Builtin.firstCells,hc,loadCells,loadCellsFrom,storeCells]
theorem Mo {t:TypeId} {x:Operand} {id m':Nat} {cs news:List C} {c:C} (ho:o.op=.call { callee:=.builtin .append,args:=#[x,y],argTypes:=#[t,t] }) (hx:F.ev x=.one (.own id n)) (hH:H[id]?=some (.row e s n cs)) (hy:F.ev y=.one c) (hs:Src H id c m' news) (ht:TyS P t e s) (hz:TyZ P e z s by_)
  (hn:n+m'≤100000000000) (h0:0<s) (hby:by_≤1000) (hl:news.length=m'*s):TOk P G o F H (.one (.own id (n+m'))) (H.set id (.row e s (n+m') (cs++news))):=by
 intro b0 m a hH' hcx htot hg hb hor K Q hK
 subst hH'
 have hv:=AV hor (x:=x) (by rw [ho];simp [Op.operands,Call.operands])
 have hu:=AV hor (x:=y) (by rw [ho];simp [Op.operands,Call.operands])
 rw [hx] at hv
 rw [hy] at hu
 obtain ⟨A,cap,ys,hye,hly,hne,hcells⟩:=hs.get hcx hu
 obtain ⟨xs,he,hat,hlx⟩:=Mn hcx hv hH
 obtain ⟨i,hi,hi2⟩:=Option.map_eq_some_iff.1 hz.h
 simp only [Prod.mk.injEq] at hi2
 have hidl:=(gS.1 hH).1
 have hones:∀ u∈ys,u.oneCell'=true:=fun u hm=>by
  obtain ⟨j,hj⟩:=List.mem_iff_getElem?.1 hm
  obtain ⟨q,hq⟩:∃ q,news[j]?=some q:=⟨_,gE (by have:=(gS.1 hj).1;have:=hly.1;omega)⟩
  exact DP.one (hly.2 j q u hq hj)
 have fin:∀ v' w',(Builtin.append_ #[t,t] o.type #[a.eval x,a.eval y]).run P m.w=.ok v' w'→w'.ownsRow b0 e s v' (n+m') (xs++ys)→m.w.grownBy w' (a.eval x).ownBlock→(v'.ownBlock=(a.eval x).ownBlock∨v'.ownBlock=some m.w.heap.size)→(m'=0→v'=a.eval x)→o.wp P a m.w K Q:=fun v' w' hrun hat' hgr hob hsame=>by
  obtain ⟨h1,h2,h3,h4⟩:=hcx.write htot (w':=w') (e':=.row v' e s (n+m') (xs++ys)) (ob':=.row e s (n+m') (cs++news)) he hH hgr hat' (fun g hg'=>by
    have hg'':v'.ownBlock=some g:=hg'
    rcases hob with h|h
    ·exact .inl (h.symm.trans hg'')
    ·rw [h] at hg'';exact .inr (by simp at hg'';omega))
   (fun k hk=>by
    have hk':some (n+m')=k:=by simpa [Ob.k] using hk
    subst hk'
    rcases co m' with h|h
    ·refine .inl ⟨by rw [h];rfl,hsame h⟩
    ·exact .inr ⟨n,n+m',rfl,rfl,by omega⟩)
   (fun m2 hle=>⟨rfl,rfl,rfl,(hlx.app hly).imp fun _ _=>DP.le hle⟩) hb
  unfold Oper.wp execOp
  simp only [ho,resolve,invoke,builtin,ai,bk,bd,js,br,fz,hrun]
  refine hK v' _ rfl h1 h2 h3 h4 (fun b hb'=>.inl hb') ?_
  refine ⟨?_,_,ed hidl,(fun p p' hp hp'=>by cases hp;cases hp';exact aa _),fun _=>⟨.row v' e s (n+m') (xs++ys),by simp,rfl⟩⟩
  rcases hat'.2 with ⟨rfl,_⟩|⟨g,_,_,rfl,_⟩ <;> rfl
 rcases co m' with h|h
 ·subst h
  have hn0:news=[]:=bj (by simpa using hl)
  subst hn0
  have hy0:ys=[]:=bj (by simpa using hly.1.symm)
  subst hy0
  have hform:∃ A' c',a.eval x=.slice A' n c'∧n≤c':=by
   rcases hat.2 with ⟨h1,rfl⟩|⟨g,cap',cur,h1,_,_,h2,_⟩
   ·exact ⟨none,0,h1,aa _⟩
   ·exact ⟨_,_,h1,h2⟩
  obtain ⟨A',c',hxe,hc'⟩:=hform
  refine fin (a.eval x) m.w ?_ (by simpa using hat) ⟨rfl,rfl,rfl,aa _,fun _ _ _=>rfl⟩ (.inl rfl) (fun _=>rfl)
  rw [hxe,hye]
  exact Hv ht.h hi hc'
 ·have hnn:news≠[]:=fun h'=>by
   rw [h'] at hl
   have:=Nat.mul_pos h h0
   simp at hl
   omega
  obtain ⟨p,rfl⟩:=hne hnn
  obtain ⟨v',w',h2,h3,h4,h5,h6⟩:=run_append_own_at (P:=P) m.w b0 t o.type e i z s by_ ht.h hi hi2.1 hi2.2.1 hi2.2.2 hz.c h0 (a.eval x) n xs hat p m' cap ys (by rw [←hly.1,hl]) (hcells p rfl) hones (by unfold maxLen;omega) (by have:=du hn hby;omega) hb
  refine fin v' w' ?_ h3 h4 h6 (fun h'=>by omega)
  rw [hye]
  exact h2
theorem CD {fn:Fn} {caps:Array Operand} {rs:List (Nat × Nat × Option Nat)} (ho:o.op=.makeFunc fn #[] caps) (hc:AP (fun x (p:Nat × Nat × Option Nat)=>F.ev x=.one (.ref p.1 p.2.1 p.2.2)) caps.toList rs):AU P G o F H (.one (.clo fn rs)) []:=BS fun b0 m a _ _ hor=>by
 refine ⟨.func fn #[] (caps.toList.map a.eval).toArray,?_,caps.toList.map a.eval,rfl,by rw [ad];exact hc.1.symm,fun j p v hp hv=>?_⟩
 ·unfold execOp
  simp [ho,Instr.makeFunc]
  exact gb (by simp)
 ·simp only [ag,dg] at hv
  obtain ⟨x,hx,rfl⟩:=hv
  have:=AV (F:=F) hor (x:=x) (by
   rw [ho]
   simp only [Op.operands,ij,eo]
   exact .inr (gM hx))
  rw [hc.2 j x p hx hp] at this
  exact this
theorem Abt {f:FuncId} {fn:Func} {c:Code} {r:Operand} {xs:Array Operand} {rs:List (Nat × Nat × Option Nat)} (ho:o.op=.call { callee:=.value r,args:=xs,argTypes:=ts }) (hr:F.ev r=.one (.clo (.func f) rs))
  (hf : P.funcs[f]? = some fn) (hn : (fn.name == "runtime.NumGoroutine") = false) (hb : fn.body = some c) {args cargs res : List A} (h : CV P G f (args ++ cargs) res) (ha : AP (fun x y => LA true H (F.ev x) y) xs.toList args)
  (hcl:AP (fun (p:Nat × Nat × Option Nat) y=>LA true H (.one (.ref p.1 p.2.1 p.2.2)) y) rs cargs):AU P G o F H (Amt res) []:=by
 intro b0 m a hp hx hg hb0 _ hor K Q hK
 rw [av] at hp
 have hxs:∀ x∈xs.toList,Ey m (F.ev x) (a.eval x):=fun x hm=>AV hor (by
  rw [ho]
  simp only [Op.operands,Call.operands,ij,eo]
  exact .inr hm)
 have hre:=AV (F:=F) hor (x:=r) (by rw [ho];simp [Op.operands,Call.operands])
 rw [hr] at hre
 obtain ⟨vs,hve,hvl⟩:=hre
 let Sx:Dm:=fun t b=>m.S t b∨(t=true∧∃ id e,m.E id=some e∧e.own=some b)
 have h1:∀ b,m.S false b→Sx false b:=fun b hb=>.inl hb
 have h2:true=true→∀ b,m.S true b→Sx true b:=fun _ b hb=>.inl hb
 have h3:∀ id e g,m.E id=some e→e.own=some g→Sx true g:=fun id e g he hg=>.inr ⟨rfl,id,e,he,hg⟩
 have ha':AP (EA m.w Sx) args (xs.toList.map a.eval):=⟨by rw [ad];exact ha.1.symm,fun j y v hy hv=>by
   simp only [ag,dg] at hv
   obtain ⟨x,hxj,rfl⟩:=hv
   exact LA.rel hx h1 h2 h3 ((ha.2 j x y hxj hy).pre hp) (hxs x (gM hxj))⟩
 have hc':AP (EA m.w Sx) cargs vs:=⟨hcl.1.symm.trans hvl.1,fun j y v hy hv=>by
   obtain ⟨p,hpj⟩:∃ p,rs[j]?=some p:=⟨_,gE (by have:=(gS.1 hv).1;have:=hvl.1;omega)⟩
   exact LA.rel (x:=.one (.ref p.1 p.2.1 p.2.2)) hx h1 h2 h3 ((hcl.2 j p y hpj hy).pre hp) (hvl.2 j p v hpj hv)⟩
 have hcalls:=h m.w Sx (xs.toList.map a.eval++vs) hg (fun t b hb=>by
  rcases hb with hb|⟨_,id,e,he,hown⟩
  ·exact hx.lt t b hb
  ·exact (Et.lt (hx.each id e he).1 hown).2) (ha'.app hc')
 unfold Oper.wp execOp
 simp only [ho,resolve,hve,Deferred.ofValue,ai,bk,bd,invoke]
 rw [DD hf hn hb]
 rw [gl]
 have he:((#[]:Array Value)++xs.map a.eval++vs.toArray)=(xs.toList.map a.eval++vs).toArray:=gb (by simp)
 simp only [he]
 refine hcalls.mono fun e w' ⟨v,hev,hres,hbel⟩=>?_
 subst hev
 refine hK v w' [] ⟨rfl,hbel,fun k e hk=>by simp at hk,List.Pairwise.nil⟩ (TF ?_)
 have hmono:∀ t b,Ahe Sx m.w w' t b→(m.plus w' H.length []).S t b:=fun t b hb=>by
  obtain ⟨rfl,h1|⟨h1,h2⟩⟩:=hb
  ·rcases h1 with h1|⟨h1,_⟩
   ·exact .inl h1
   ·cases h1
  ·exact .inr ⟨rfl,h1,h2,fun e he=>by simp at he⟩
 match res,hres with
 | [],hres=>obtain ⟨vs,h1,h2⟩:=hres;exact ⟨vs,h1,h2.imp fun _ _=>EA.mono hmono fun _ _ _=>rfl⟩
 | [x],hres=>exact EA.mono hmono (fun _ _ _=>rfl) hres
 | x::y::l,hres=>obtain ⟨vs,h1,h2⟩:=hres;exact ⟨vs,h1,h2.imp fun _ _=>EA.mono hmono fun _ _ _=>rfl⟩
end
def DQ (w w':World):Prop:=Below w.heap.size w w'
theorem DQ.refl (w:World):DQ w w:=ah _ _
theorem DQ.trans {b:World} (h:DQ a b) (k:DQ b c):DQ a c:=Below.trans h (k.mono h.size)
theorem DQ.alloc (w:World) (o:Obj):DQ w (w.alloc o):=(ah _ w).alloc (aa _) o
theorem DQ.heap {o:Obj} (h:DQ w w') (hg:w.heap[g]?=some o):w'.heap[g]?=some o :=
 (h.block g (Array.getElem?_eq_some_iff.1 hg).1).trans hg
structure DX (U:Nat→Prop) (w w':World):Prop where
 os:w'.os=w.os
 tape:w'.tape=w.tape
 output:w'.output=w.output
 size:w.heap.size≤w'.heap.size
 block:∀ k,k<w.heap.size→¬ U k→w'.heap[k]?=w.heap[k]?
theorem DX.refl (U:Nat→Prop) (w:World):DX U w w:=⟨rfl,rfl,rfl,aa _,fun _ _ _=>rfl⟩
theorem DQ.growU (h:DQ w w'):DX U w w':=⟨h.os,h.tape,h.output,h.size,fun k hk _=>h.block k hk⟩
theorem DX.more {b:World} (h:DQ a b) (k:DX U b c):DX U a c :=
 ⟨k.os.trans h.os,k.tape.trans h.tape,k.output.trans h.output,lT h.size k.size,fun i hi hu=>(k.block i (au hi h.size) hu).trans (h.block i hi)⟩
theorem DX.then_ {U':Nat→Prop} {b:World} (h:DX U a b) (k:DX U' b c) (hU:∀ i,i<a.heap.size→U' i→U i):DX U a c :=
 ⟨k.os.trans h.os,k.tape.trans h.tape,k.output.trans h.output,lT h.size k.size,fun i hi hu=>(k.block i (au hi h.size) (fun hc=>hu (hU i hi hc))).trans (h.block i hi hu)⟩
theorem DX.weak {U':Nat→Prop} {b:World} (h:DX U a b) (hU:∀ i,U i→U' i):DX U' a b:=⟨h.os,h.tape,h.output,h.size,fun i hi hu=>h.block i hi (fun hc=>hu (hU i hc))⟩
theorem DX.heap {o:Obj} (h:DX U w w') (hU:¬ U g) (hg:w.heap[g]?=some o):w'.heap[g]?=some o :=
 (h.block g (Array.getElem?_eq_some_iff.1 hg).1 hU).trans hg
theorem DX.below {B:Nat} (h:DX U w w') (hU:∀ b,U b→B≤b) (hB:B≤w.heap.size):Below B w w' :=
 ⟨h.os,h.tape,h.output,h.size,fun k hk=>h.block k (au hk hB) (fun hc=>by have:=hU k hc;omega)⟩
theorem DX.more0 (h:DX (fun _=>False) w w'):DQ w w':=h.below (fun _ hb=>hb.elim) (aa _)
section
variable {P:Program} {ops:Array Oper} {Q:Exit→Act→World→Prop} {md:Region.Mode}
def wpE (P:Program) (md:Region.Mode) (ops:Array Oper) (Q:Exit→Act→World→Prop) (T:(Nat→Prop)→Act→World→Prop):Nat→Array Bool→(Nat→Prop)→Act→World→Prop
 | 0,l,U,a,w=>Region.ready md ops l=[]∧∀ w',DQ w w'→T U a w'
 | f+1,l,U,a,w=>∀ w',DQ w w'→(Region.ready md ops l=[]→T U a w') ∧
  ∀ j∈Region.ready md ops l,wpOp P ops Q j (fun a2 w2=>DX U w' w2∧wpE P md ops Q T f (l.setIfInBounds j true) (fun b=>U b∨(w'.heap.size≤b∧b<w2.heap.size)) a2 w2) a w'
variable {T:(Nat→Prop)→Act→World→Prop}
theorem wpE.ext {l:Array Bool} {a:Act}:∀ {f:Nat},wpE P md ops Q T f l U a w→DQ w w'→wpE P md ops Q T f l U a w'
 | 0,h,he=>⟨h.1,fun w2 h2=>h.2 w2 (he.trans h2)⟩
 | _+1,h,he=>fun w2 h2=>h w2 (he.trans h2)
theorem Sj:∀ (f:Nat) (l:Array Bool) (U:Nat→Prop) (a:Act) (w:World),wpE P md ops Q (fun _ a w=>Q .normal a w) f l U a w→wpAny P md ops Q f l a w
 | 0,_,_,_,_,h=>⟨h.1,h.2 _ (DQ.refl _)⟩
 | f+1,_,_,_,w,h=>⟨(h w (DQ.refl w)).1,fun i hi=>wpOp_mono (fun a' w' h'=>Sj f _ _ a' w' h'.2) ((h w (DQ.refl w)).2 i hi)⟩
theorem Adz {oj:Oper} (hj:ops[j]?=some oj) (hap:oi.apart ops oj=true) (hsj:∀ cs b,oj.op≠.select cs b)
  (hQ:∀ c a w,Q (.panic c) a w→Q (.panic c) (a.put oi.dst v) w) {K:Act→World→Prop} {a:Act} {w:World} (h:wpOp P ops Q j K a w) :
  wpOp P ops Q j (fun a' w'=>∃ a0,a'=a0.put oi.dst v∧K a0 w') (a.put oi.dst v) w:=by
 obtain ⟨h1,h2,h3⟩:=Oper.apart_spec hap
 unfold wpOp at *
 simp only [hj] at *
 rw [wanted_put oj a oi.dst v h1]
 split
 ·rename_i hw
  simp only [hw,if_true] at h
  rcases h with h|⟨hasks,hlets⟩
  case inr=>exact .inr ⟨by unfold Oper.asks at *;rw [execOp_put oj hsj a oi.dst v h1];exact hasks,hlets⟩
  refine .inl ?_
  unfold Oper.wp at *
  rw [execOp_put oj hsj a oi.dst v h1]
  generalize (execOp a.eval oj).run P w=r at *
  cases r with
  | ok n w' =>
   cases n <;> simp only [Oper.upon] at h ⊢
   case value u=>exact ⟨_,jc a v u h2,h⟩
   case skip=>exact ⟨_,jc a v undef h2,h⟩
   case defer d=>exact ⟨_,by rw [Act.put_defers,jc _ v undef h2],h⟩
   case enter f args =>
    refine Calls.mono h fun e w'' he=>?_
    cases e with
    | returned u=>exact ⟨_,jc a v u h2,he⟩
    | panicked c=>exact hQ _ _ _ he
    | outgrown=>exact he
   case row row args=>exact Rows.mono h fun u w'' he=>⟨_,jc a v u h2,he⟩
  | halt x w' =>
   cases x <;> simp only [Oper.upon] at h ⊢
   case panic u=>exact hQ _ _ _ h
 ·rename_i hw
  simp only [hw] at h
  exact ⟨_,jc a v undef h2,h⟩
def VM (P:Program) (ops:Array Oper) (oi:Oper) (mk:Nat→Value) (o:Obj) (a:Act):Prop :=
 Region.wanted oi (yielded ops a.tmps)=true∧∀ w,(execOp a.eval oi).run P w=.ok (.value (mk w.heap.size)) (w.alloc o)
theorem AdA {oj:Oper} {mk:Nat→Value} {o:Obj} (hj:ops[j]?=some oj) (hap:oi.apart ops oj=true) (hsi:∀ cs b,oi.op≠.select cs b)
  {K:Act→World→Prop} {a:Act} {w:World} (hy:VM P ops oi mk o a) (h:wpOp P ops Q j K a w) :
  wpOp P ops Q j (fun a' w'=>VM P ops oi mk o a'∧K a' w') a w:=by
 obtain ⟨h1,h2,h3⟩:=Oper.apart_spec hap
 have same:∀ a',execOp a'.eval oi=execOp a.eval oi→Region.wanted oi (yielded ops a'.tmps)=Region.wanted oi (yielded ops a.tmps)→VM P ops oi mk o a':=fun a' he hw=>by
  unfold VM at *
  rw [he,hw]
  exact hy
 have keep:∀ u,VM P ops oi mk o (a.put oj.dst u):=fun u=>same _ (execOp_put oi hsi a oj.dst u h3) (wanted_put oi a oj.dst u h3)
 have keepD:∀ d u,VM P ops oi mk o (({ a with defers:=d::a.defers }:Act).put oj.dst u):=fun d u =>
  same _ (execOp_put oi hsi ({ a with defers:=d::a.defers }:Act) oj.dst u h3) (wanted_put oi ({ a with defers:=d::a.defers }:Act) oj.dst u h3)
 unfold wpOp at *
 simp only [hj] at *
 split
 ·rename_i hw
  simp only [hw,if_true] at h
  rcases h with h|h
  case inr=>exact .inr h
  refine .inl ?_
  unfold Oper.wp at *
  generalize (execOp a.eval oj).run P w=r at *
  cases r with
  | ok n w' =>
   cases n <;> simp only [Oper.upon] at h ⊢
   case value u=>exact ⟨keep u,h⟩
   case skip=>exact ⟨keep _,h⟩
   case defer d=>exact ⟨keepD d _,h⟩
   case enter f args =>
    refine Calls.mono h fun e w'' he=>?_
    cases e with
    | returned u=>exact ⟨keep u,he⟩
    | panicked c=>exact he
    | outgrown=>exact he
   case row row args=>exact Rows.mono h fun u w'' he=>⟨keep u,he⟩
  | halt x w'=>cases x <;> simp only [Oper.upon] at h ⊢ <;> exact h
 ·rename_i hw
  simp only [hw] at h
  exact ⟨keep _,h⟩
def Qh (md:Region.Mode) (ops:Array Oper) (oi:Oper) (i:Nat) (l:Array Bool):Prop :=
 ∀ j oj,ops[j]?=some oj→j≠i→l.getD j true=false→oi.apart ops oj=true
theorem Qh.next {l:Array Bool} (h:Qh md ops oi i l):Qh md ops oi i (l.setIfInBounds j true):=fun k ok hk hki hun=>by
 by_cases hjk:j=k
 ·subst hjk
  refine h j ok hk hki ?_
  rcases bf j l.size with h'|h'
  ·simp [h'] at hun
  ·rw [show l.setIfInBounds j true=l from by simp [Array.setIfInBounds,Nat.not_lt.2 h']] at hun
   exact hun
 ·rw [getD_set_ne true hjk] at hun
  exact h k ok hk hki hun
theorem AdB {i g B:Nat} {oi:Oper} {mk:Nat→Value} {o:Obj} (hsel:∀ (j:Nat) (o:Oper) cs b,ops[j]?=some o→o.op≠.select cs b)
  (hQ:∀ v c a w,Q (.panic c) a w→Q (.panic c) (a.put oi.dst v) w) (hB:B≤g) :
  ∀ (f:Nat) (l:Array Bool) (U U':Nat→Prop) (a:Act) (w:World),Qh md ops oi i l→l.getD i true=true→¬ U g→(∀ b,U' b ↔ U b∨b=g)→w.heap[g]?=some o →
   wpE P md ops Q (fun U a w=>∀ g,B≤g→¬ U g→w.heap[g]?=some o→T (fun b=>U b∨b=g) (a.put oi.dst (mk g)) w) f l U a w →
   wpE P md ops Q T f l U' (a.put oi.dst (mk g)) w
 | 0,l,U,U',a,w,hl,hli,hU,hUU,hg,h=>by
  obtain rfl:U'=fun b=>U b∨b=g:=funext fun b=>propext (hUU b)
  exact ⟨h.1,fun w' he=>h.2 w' he g hB hU (he.heap hg)⟩
 | f+1,l,U,U',a,w,hl,hli,hU,hUU,hg,h=>by
  obtain rfl:U'=fun b=>U b∨b=g:=funext fun b=>propext (hUU b)
  intro w' he
  have hg':=he.heap hg
  have hlt:g<w'.heap.size:=(Array.getElem?_eq_some_iff.1 hg').1
  refine ⟨fun h0=>(h w' he).1 h0 g hB hU hg',fun j hj=>?_⟩
  obtain ⟨hjun,oj,hoj,hall⟩:=mem_ready.1 hj
  have hji:j≠i:=fun e=>by rw [e,hli] at hjun;cases hjun
  refine wpOp_mono (fun a' w2 h2=>?_) (Adz hoj (hl j oj hoj hji hjun) (fun cs b=>hsel j oj cs b hoj) (hQ (mk g)) ((h w' he).2 j hj))
  obtain ⟨a0,rfl,hx,hE⟩:=h2
  refine ⟨hx.weak fun _ h=>.inl h,AdB hsel hQ hB f _ _ _ a0 w2 hl.next (by rw [getD_set_ne true hji];exact hli) (fun hc=>?_) (fun b=>?_) (hx.heap hU hg') hE⟩
  ·rcases hc with hc|hc
   ·exact hU hc
   ·omega
  ·constructor
   ·rintro ((h1|h1)|h1)
    ·exact .inl (.inl h1)
    ·exact .inr h1
    ·exact .inl (.inr h1)
   ·rintro ((h1|h1)|h1)
    ·exact .inl (.inl h1)
    ·exact .inr h1
    ·exact .inl (.inr h1)
theorem AqE {B:Nat} {mk:Nat→Value} {o:Obj} (hi:ops[i]?=some oi) (hsel:∀ (j:Nat) (o:Oper) cs b,ops[j]?=some o→o.op≠.select cs b)
  (hQ:∀ v c a w,Q (.panic c) a w→Q (.panic c) (a.put oi.dst v) w) :
  ∀ (f:Nat) (l:Array Bool) (U:Nat→Prop) (a:Act) (w:World),Qh md ops oi i l→i∈Region.ready md ops l→VM P ops oi mk o a→B≤w.heap.size→(∀ b,U b→b<w.heap.size) →
   wpE P md ops Q (fun U a w=>∀ g,B≤g→¬ U g→w.heap[g]?=some o→T (fun b=>U b∨b=g) (a.put oi.dst (mk g)) w) f (l.setIfInBounds i true) U a w →
   wpE P md ops Q T (f+1) l U a w:=by
 have mat:∀ (f:Nat) (l:Array Bool) (U:Nat→Prop) (a:Act) (w w':World),Qh md ops oi i l→i∈Region.ready md ops l→VM P ops oi mk o a→B≤w.heap.size→(∀ b,U b→b<w.heap.size)→DQ w w' →
   wpE P md ops Q (fun U a w=>∀ g,B≤g→¬ U g→w.heap[g]?=some o→T (fun b=>U b∨b=g) (a.put oi.dst (mk g)) w) f (l.setIfInBounds i true) U a w →
   wpOp P ops Q i (fun a2 w2=>DX U w' w2∧wpE P md ops Q T f (l.setIfInBounds i true) (fun b=>U b∨(w'.heap.size≤b∧b<w2.heap.size)) a2 w2) a w':=fun f l U a w w' hl hr hy hB hU he H=>by
  unfold wpOp
  simp only [hi,hy.1,if_true]
  refine .inl ?_
  unfold Oper.wp
  rw [hy.2 w']
  simp only [Oper.upon]
  have hs:=he.size
  have hlt:i<l.size:=by
   have h0:=(mem_ready.1 hr).1
   rcases bf i l.size with h'|h'
   ·exact h'
   ·simp [fb h'] at h0
  refine ⟨(DQ.alloc _ _).growU,AdB hsel hQ (lT hB hs) f _ U _ a _ hl.next (by simp [hlt]) (fun hc=>by have:=hU _ hc;omega) (fun b=>?_) (heap_alloc_new w' o) (H.ext (he.trans (DQ.alloc _ _)))⟩
  simp only [World.size_alloc]
  constructor
  ·rintro (h1|h1)
   ·exact .inl h1
   ·exact .inr (by omega)
  ·rintro (h1|h1)
   ·exact .inl h1
   ·exact .inr (by omega)
 intro f
 induction f with
 | zero =>
  intro l U a w hl hr hy hB hU H w' he
  refine ⟨fun h=>(by rw [h] at hr;cases hr),fun j hj=>?_⟩
  by_cases hji:j=i
  ·subst hji
   exact mat 0 l U a w w' hl hr hy hB hU he H
  ·have:=ready_mono hj hji
   rw [H.1] at this
   cases this
 | succ f ih =>
  intro l U a w hl hr hy hB hU H w' he
  refine ⟨fun h=>(by rw [h] at hr;cases hr),fun j hj=>?_⟩
  by_cases hji:j=i
  ·subst hji
   exact mat (f+1) l U a w w' hl hr hy hB hU he H
  ·obtain ⟨hjun,oj,hoj,hall⟩:=mem_ready.1 hj
   have h1:=(H w' he).2 j (ready_mono hj hji)
   have hs:=he.size
   refine wpOp_mono (fun a' w2 h2=>⟨h2.2.1,ih _ _ a' w2 hl.next (ready_mono hr (Ne.symm hji)) h2.1 (lT hB (lT hs h2.2.1.size)) (fun b hb=>?_) ?_⟩) (AdA hoj (hl j oj hoj hji hjun) (fun cs b=>hsel i oi cs b hi) hy h1)
   ·have:=h2.2.1.size
    rcases hb with hb|hb
    ·have:=hU b hb;omega
    ·exact hb.2
   ·rw [Array.setIfInBounds_comm _ _ hji]
    exact h2.2.2
theorem Amw (hi:ops[i]?=some oi) (hsel:∀ (j:Nat) (o:Oper) cs b,ops[j]?=some o→o.op≠.select cs b)
  (hQ:∀ c a w,Q (.panic c) (a.put oi.dst v) w→Q (.panic c) a w) :
  ∀ (f:Nat) (l:Array Bool) (U:Nat→Prop) (a:Act) (w:World),
   (∀ j oj,ops[j]?=some oj→j≠i→l.getD j true=false→(∀ e∈oj.after,Region.binds md e=true→e.on≠i)→oi.apart ops oj=true) →
   i∈Region.ready md ops l→YieldsIf P ops (DX U w) oi v a →
   wpE P md ops Q T f (l.setIfInBounds i true) U (a.put oi.dst v) w→wpE P md ops Q T (f+1) l U a w:=by
 have sameU:∀ (U:Nat→Prop) (s:Nat),(fun b=>U b∨(s≤b∧b<s))=U:=fun U s=>funext fun b=>propext ⟨fun h=>by
  rcases h with h|h
  ·exact h
  ·omega,.inl⟩
 intro f
 induction f with
 | zero =>
  intro l U a w _ hr hy H w' he
  refine ⟨fun h=>(by rw [h] at hr;cases hr),fun j hj=>?_⟩
  by_cases hji:j=i
  ·subst hji
   exact hy.wpOp hi he.growU ⟨DX.refl _ _,by rw [sameU];exact H.ext he⟩
  ·have:=ready_mono hj hji
   rw [H.1] at this
   cases this
 | succ f ih =>
  intro l U a w hfree hr hy H w' he
  refine ⟨fun h=>(by rw [h] at hr;cases hr),fun j hj=>?_⟩
  by_cases hji:j=i
  ·subst hji
   exact hy.wpOp hi he.growU ⟨DX.refl _ _,by rw [sameU];exact H.ext he⟩
  ·have h1:=(H w' he).2 j (ready_mono hj hji)
   obtain ⟨hjun,oj,hoj,hall⟩:=mem_ready.1 hj
   have hnot:∀ e∈oj.after,Region.binds md e=true→e.on≠i:=fun e he hb heq=>by
    have h1:=hall e he hb
    have h0:=(mem_ready.1 hr).1
    rw [heq] at h1
    rcases bf i l.size with h'|h'
    ·simp [h'] at h0 h1;rw [h0] at h1;cases h1
    ·simp [fb h'] at h1
   have h2:=wpOp_putIf hoj (hfree j oj hoj hji hjun hnot) (fun cs b=>hsel i oi cs b hi) (fun cs b=>hsel j oj cs b hoj) hQ hy h1
   have hfree':∀ k ok,ops[k]?=some ok→k≠i→(l.setIfInBounds j true).getD k true=false →
     (∀ e∈ok.after,Region.binds md e=true→e.on≠i)→oi.apart ops ok=true:=fun k ok hk hki hun hno=>by
    refine hfree k ok hk hki ?_ hno
    by_cases hjk:j=k
    ·subst hjk;exact hjun
    ·rw [getD_set_ne true hjk] at hun;exact hun
   refine wpOp_mono (fun a' w2 h3=>⟨h3.2.1,ih _ _ a' w2 hfree' (ready_mono hr (Ne.symm hji)) ?_ ?_⟩) h2
   ·exact h3.1.imp (fun ⟨x,y⟩=>⟨x,fun w3 h4=>y w3 ((DX.more he h3.2.1).then_ h4 (fun k hk hc=>by
     rcases hc with hc|hc
     ·exact hc
     ·have:=he.size
      omega))⟩) id
   ·rw [Array.setIfInBounds_comm _ _ hji]
    exact h3.2.2
end
section
variable {P:Program} {l:List Oper} {Q:Exit→Act→World→Prop} {md:Region.Mode} {T:(Nat→Prop)→Act→World→Prop} {listed:Array Bool} {f:Nat} {U:Nat→Prop} {a:Act} {w:World}
def Amx (md:Region.Mode) (ops:Array Oper) (listed:Array Bool) (i:Nat):Bool :=
 match ops[i]? with
 | none=>false
 | some oi=>(List.range ops.size).all fun j=>j == i || listed.getD j true || match ops[j]? with
   | some oj=>oi.apart ops oj
   | none=>true
theorem Abu (hi:ops[i]?=some oi) (h:Amx md ops listed i=true):Qh md ops oi i listed:=fun j oj hj hne hun=>by
 simp only [Amx,hi,List.all_eq_true,gc] at h
 have h1:=h j (Array.getElem?_eq_some_iff.1 hj).1
 simpa only [hj,de,beq_iff_eq,hne,false_or,hun,dn] using h1
theorem Aus (i:Nat) (mk:Nat→Value) (o:Obj) (B:Nat) (hi:l[i]?=some oi) (hB:(Region.noSelect l.toArray && Amx md l.toArray listed i && (Region.ready md l.toArray listed).contains i)=true)
  (hQ:∀ v c a w,Q (.panic c) a w→Q (.panic c) (a.put oi.dst v) w) (hw:Region.wanted oi (yielded l.toArray a.tmps)=true) (hy:∀ w,(execOp a.eval oi).run P w=.ok (.value (mk w.heap.size)) (w.alloc o))
  (hb:B≤w.heap.size) (hU:∀ b,U b→b<w.heap.size)
  (h:wpE P md l.toArray Q (fun U a w=>∀ g,B≤g→¬ U g→w.heap[g]?=some o→T (fun b=>U b∨b=g) (a.put oi.dst (mk g)) w) f (listed.setIfInBounds i true) U a w):wpE P md l.toArray Q T (f+1) listed U a w:=by
 simp only [aj] at hB
 have hi':l.toArray[i]?=some oi:=by simpa using hi
 exact AqE hi' (Region.noSelect_spec hB.1.1) hQ f listed U a w (Abu hi' hB.1.2) (by simpa using hB.2) ⟨hw,hy⟩ hb hU h
theorem TH (i:Nat) (v:Value) (hi:l[i]?=some oi) (hB:(Region.noSelect l.toArray && Region.free md l.toArray listed i && (Region.ready md l.toArray listed).contains i)=true)
  (hQ:∀ c a w,Q (.panic c) (a.put oi.dst v) w→Q (.panic c) a w) (hw:Region.wanted oi (yielded l.toArray a.tmps)=true)
  (hy:∀ w',DX U w w'→(execOp a.eval oi).run P w'=.ok (.value v) w')
  (h:wpE P md l.toArray Q T f (listed.setIfInBounds i true) U (a.put oi.dst v) w):wpE P md l.toArray Q T (f+1) listed U a w:=by
 simp only [aj] at hB
 have hi':l.toArray[i]?=some oi:=by simpa using hi
 exact Amw hi' (Region.noSelect_spec hB.1.1) hQ f listed U a w (Region.free_spec hi' hB.1.2) (by simpa using hB.2) (.inl ⟨hw,hy⟩) h
theorem Amy {o:Oper} (i:Nat) (hi:l[i]?=some o) (hr:Region.ready md l.toArray listed=[i]) (hw:Region.wanted o (yielded l.toArray a.tmps)=true)
  (h:∀ w1,DQ w w1→∀ K:Act→World→Prop,Hid (∀ a2 w2,DX U w1 w2→wpE P md l.toArray Q T f (listed.setIfInBounds i true) (fun b=>U b∨(w1.heap.size≤b∧b<w2.heap.size)) a2 w2→K a2 w2)→Oper.wp P o a w1 K Q) :
  wpE P md l.toArray Q T (f+1) listed U a w:=by
 intro w1 he
 refine ⟨fun h0=>(by rw [hr] at h0;cases h0),fun j hj=>?_⟩
 rw [hr] at hj
 obtain rfl:j=i:=by simpa using hj
 have hi':l.toArray[j]?=some o:=by simpa using hi
 unfold wpOp
 simp only [hi',hw,if_true]
 exact .inl (h w1 he _ (mi fun a2 w2 hs h=>⟨hs,h⟩))
theorem endE (hr:Region.ready md l.toArray listed=[]) (h:∀ w',DQ w w'→T U a w'):∀ {f:Nat},wpE P md l.toArray Q T f listed U a w
 | 0=>⟨hr,h⟩
 | _+1=>fun w' he=>⟨fun _=>h w' he,by rw [hr];simp⟩
def AdC (P:Program) (ops:Array Oper) (Q:Exit→Act→World→Prop) (rest:List Oper):Exit→Act→World→Prop
 | .normal,a,w=>wpList P ops Q rest a w
 | .panic _,_,_=>False
 | e,a,w=>Q e a w
theorem AdC.imp {rest:List Oper}:∀ (e:Exit) (a:Act) (w:World),AdC P ops Q rest e a w→OM P ops Q rest e a w:=fun e a w h=>by
 cases e <;> first|exact h|exact (h:False).elim
theorem Ahz {Q':Exit→Act→World→Prop} (hq:∀ e a w,Q e a w→Q' e a w) {j:Nat} {K:Act→World→Prop} {a:Act} {w:World} (h:wpOp P ops Q j K a w):wpOp P ops Q' j K a w:=by
 have hlet:LetsOut Q→LetsOut Q':=fun ⟨a,w,h⟩=>⟨a,w,hq _ _ _ h⟩
 unfold wpOp at *
 split
 ·rename_i ho
  simp only [ho] at h
  exact h
 ·rename_i o ho
  simp only [ho] at h
  split
  ·rename_i hw
   simp only [hw,if_true] at h
   rcases h with h|h
   case inr=>exact .inr ⟨h.1,hlet h.2⟩
   refine .inl ?_
   unfold Oper.wp at *
   generalize (execOp a.eval o).run P w=r at *
   cases r with
   | ok n w' =>
    cases n <;> simp only [Oper.upon] at h ⊢
    case value u=>exact h
    case skip=>exact h
    case defer d=>exact h
    case enter f args =>
     refine Calls.mono h fun e w'' he=>?_
     cases e with
     | returned u=>exact he
     | panicked c=>exact hq _ _ _ he
     | outgrown=>exact hlet he
    case row row args=>exact h
   | halt x w' =>
    cases x <;> simp only [Oper.upon] at h ⊢
    case panic u=>exact hq _ _ _ h
  ·rename_i hw
   simp only [hw] at h
   exact h
theorem VN {ops:Array Oper} {Q':Exit→Act→World→Prop} (hq:∀ e a w,Q e a w→Q' e a w):∀ (f:Nat) (l:Array Bool) (a:Act) (w:World),wpAny P md ops Q f l a w→wpAny P md ops Q' f l a w
 | 0,_,_,_,h=>⟨h.1,hq _ _ _ h.2⟩
 | f+1,_,_,_,h=>⟨fun h0=>hq _ _ _ (h.1 h0),fun i hi=>wpOp_mono (fun a w h=>VN hq f _ a w h) (Ahz hq (h.2 i hi))⟩
end
def Bm (l:List Oper) (k p:Nat):List Oper:=l.modify k fun o=>{ o with after:=o.after.push ⟨p,.data⟩ }
def Qi (o:Oper):Bool:=match o.op with|.extract ..=>true|_=>false
def AhA (md:Region.Mode) (l:List Oper) (k p:Nat):Bool :=
 Region.noSelect l.toArray && match l[p]?,l[k]? with
 | some op,some ok=>decide (p≠k) && Qi op && op.guard.isNone && (op.after.all fun e=>!Region.binds md e || ok.after.any fun e2=>Region.binds md e2 && e2.on == e.on) &&
  (List.range l.length).all fun j=>j == p || op.after.any (fun e=>Region.binds md e && e.on == j) || match l[j]? with
   | some oj=>oj.after.any (fun e=>Region.binds md e && e.on == p) || op.apart l.toArray oj
   | none=>true
 | _,_=>false
theorem LD (l:List Oper) (k p j:Nat):(Bm l k p).toArray[j]?=(l.toArray[j]?).map fun o=>if k=j then { o with after:=o.after.push ⟨p,.data⟩ } else o:=by
 unfold Bm
 simp only [lk,kh]
 by_cases h:k=j
 ·simp [h]
 ·simp [h]
theorem FB (l:List Oper) (k p:Nat):yielded (Bm l k p).toArray=yielded l.toArray:=by
 funext tmps j
 unfold yielded
 rw [LD]
 have:((l.toArray[j]?).map fun o:Oper=>if k=j then { o with after:=o.after.push ⟨p,.data⟩ } else o).bind (·.dst)=(l.toArray[j]?).bind (·.dst):=by
  cases l.toArray[j]? with
  | none=>rfl
  | some o=>by_cases h:k=j <;> simp [h]
 rw [this]
section
variable {P:Program} {Q:Exit→Act→World→Prop} {md:Region.Mode} {l:List Oper} {k p:Nat}
theorem VO (j:Nat) (K:Act→World→Prop) (a:Act) (w:World):wpOp P (Bm l k p).toArray Q j K a w=wpOp P l.toArray Q j K a w:=by
 unfold wpOp
 rw [LD,FB]
 cases l.toArray[j]? with
 | none=>rfl
 | some o=>by_cases h:k=j <;> simp only [bp,h,if_true,if_false] <;> rfl
theorem Nu {listed:Array Bool}:j∈Region.ready md (Bm l k p).toArray listed ↔ j∈Region.ready md l.toArray listed∧(j=k→listed.getD p false=true):=by
 rw [mem_ready,mem_ready,LD]
 cases ho:l.toArray[j]? with
 | none=>simp
 | some o =>
  by_cases h:k=j
  ·subst h
   simp only [bp,if_true,Option.some.injEq,exists_eq_left',Array.mem_push,forall_const]
   constructor
   ·rintro ⟨h0,h1⟩
    exact ⟨⟨h0,fun e he hb=>h1 e (.inl he) hb⟩,h1 ⟨p,.data⟩ (.inr rfl) rfl⟩
   ·rintro ⟨⟨h0,h1⟩,h2⟩
    refine ⟨h0,fun e he hb=>?_⟩
    rcases he with he|rfl
    ·exact h1 e he hb
    ·exact h2
  ·simp only [bp,h,if_false,Option.some.injEq,exists_eq_left']
   constructor
   ·exact fun h1=>⟨h1,fun h2=>absurd h2.symm h⟩
   ·exact fun h1=>h1.1
theorem VP {o:Oper} {a:Act} {K:Act→World→Prop} (h:Qi o=true) (hh:o.wp P a w K Q∨(o.asks P a w∧LetsOut Q)) :
  ∃ v,(∀ w,(execOp a.eval o).run P w=.ok (.value v) w)∧K (a.put o.dst v) w:=by
 obtain ⟨dst,op,type,pos,after,guard⟩:=o
 cases op <;> simp only [Qi,dn] at h
 rename_i x ix
 have hv:(∃ v,execOp a.eval { dst:=dst,op:=.extract x ix,type:=type,pos:=pos,after:=after,guard:=guard }=Sem.pure (.value v))∨(∃ s,execOp a.eval { dst:=dst,op:=.extract x ix,type:=type,pos:=pos,after:=after,guard:=guard }=stuck s):=by
  simp only [execOp]
  generalize a.eval x=y
  by_cases hy:∃ vs v,y=.tuple vs∧vs[ix]?=some v
  ·obtain ⟨vs,v,rfl,hi⟩:=hy
   refine .inl ⟨v,?_⟩
   simp only [Instr.extract,hi]
   rfl
  ·unfold Instr.extract
   split
   ·rename_i vs
    cases hi:vs[ix]? with
    | some v=>exact absurd ⟨vs,v,rfl,hi⟩ hy
    | none=>exact .inr ⟨_,rfl⟩
   ·exact .inr ⟨_,rfl⟩
 rcases hv with ⟨v,hv⟩|⟨s,hs⟩
 ·refine ⟨v,fun w=>by rw [hv];rfl,?_⟩
  rcases hh with hh|⟨⟨hh,_⟩,_⟩
  ·unfold Oper.wp at hh
   rw [hv] at hh
   exact hh
  ·rw [hv] at hh
   exact absurd hh (by show ¬ noRoomEvent∈(#[]:Array Event);simp)
 ·exfalso
  rcases hh with hh|⟨⟨hh,_⟩,_⟩
  ·unfold Oper.wp at hh
   rw [hs] at hh
   exact hh
  ·rw [hs] at hh
   exact absurd hh (by show ¬ noRoomEvent∈(#[]:Array Event);simp)
theorem Sk (hB:AhA md l k p=true) (hQ:∀ (d:Option Tmp) v c a w,Q (.panic c) (Act.put a d v) w→Q (.panic c) a w) :
  ∀ (f:Nat) (listed:Array Bool) (a:Act) (w:World),listed.size=l.length→wpAny P md (Bm l k p).toArray Q f listed a w→wpAny P md l.toArray Q f listed a w:=by
 unfold AhA at hB
 cases hp:l[p]? with
 | none=>simp [hp] at hB
 | some op =>
  cases hk:l[k]? with
  | none=>simp [hp,hk] at hB
  | some ok =>
   simp only [hp,hk,aj,decide_eq_true_eq,List.all_eq_true,gc] at hB
   obtain ⟨hsel,⟨⟨⟨hne,hex⟩,hgd⟩,hsub⟩,hap⟩:=hB
   have hp':l.toArray[p]?=some op:=by simpa using hp
   have hk':l.toArray[k]?=some ok:=by simpa using hk
   have hfree:∀ (listed:Array Bool),p∈Region.ready md l.toArray listed→∀ j oj,l.toArray[j]?=some oj→j≠p→listed.getD j true=false→(∀ e∈oj.after,Region.binds md e=true→e.on≠p)→op.apart l.toArray oj=true:=fun listed hpr j oj hj hjp hun hno=>by
    have hlt:j<l.length:=by simpa using (Array.getElem?_eq_some_iff.1 hj).1
    have h1:=hap j hlt
    have hj2:l[j]?=some oj:=by simpa using hj
    simp only [hj2,de,beq_iff_eq,hjp,false_or] at h1
    rcases h1 with h1|h1|h1
    ·exfalso
     obtain ⟨e,he,hb⟩:=Array.any_eq_true'.1 h1
     simp only [aj,beq_iff_eq] at hb
     obtain ⟨_,o,ho,hall⟩:=mem_ready.1 hpr
     rw [hp'] at ho
     cases ho
     have h2:=hall e he hb.1
     rw [hb.2] at h2
     rcases bf j listed.size with h'|h'
     ·simp [h'] at h2 hun;rw [h2] at hun;cases hun
     ·simp [fb h'] at h2
    ·obtain ⟨e,he,hb⟩:=Array.any_eq_true'.1 h1
     simp only [aj,beq_iff_eq] at hb
     exact absurd hb.2 (hno e he hb.1)
    ·exact h1
   have hkp:∀ (listed:Array Bool),listed.size=l.length→p ∉ Region.ready md l.toArray listed→∀ j,j∈Region.ready md l.toArray listed→j∈Region.ready md (Bm l k p).toArray listed:=fun listed hs hr j hj=>by
    refine Nu.2 ⟨hj,fun hjk=>?_⟩
    subst hjk
    cases hun:listed.getD p false with
    | true=>rfl
    | false =>
     exfalso
     have hlt:p<listed.size:=by rw [hs];simpa using (Array.getElem?_eq_some_iff.1 hp').1
     refine hr (mem_ready.2 ⟨by simpa [hlt] using hun,op,hp',fun e he hb=>?_⟩)
     have h1:=Array.all_eq_true_iff_forall_mem.1 hsub e he
     simp only [hb,ee,fj] at h1
     obtain ⟨e2,he2,hb2⟩:=Array.any_eq_true'.1 h1
     simp only [aj,beq_iff_eq] at hb2
     obtain ⟨_,o,ho,hall⟩:=mem_ready.1 hj
     rw [hk'] at ho
     cases ho
     rw [←hb2.2]
     exact hall e2 he2 hb2.1
   have hpe:∀ (listed:Array Bool),p∈Region.ready md l.toArray listed→p∈Region.ready md (Bm l k p).toArray listed:=fun listed hr=>Nu.2 ⟨hr,fun h=>absurd h hne⟩
   intro f
   induction f with
   | zero =>
    intro listed a w hs h
    refine ⟨?_,h.2⟩
    by_cases hpr:p∈Region.ready md l.toArray listed
    ·have:=hpe listed hpr
     rw [h.1] at this
     cases this
    ·refine List.eq_nil_iff_forall_not_mem.2 fun j hj=>?_
     have:=hkp listed hs hpr j hj
     rw [h.1] at this
     cases this
   | succ f ih =>
    intro listed a w hs h
    by_cases hpr:p∈Region.ready md l.toArray listed
    ·have h1:=h.2 p (hpe listed hpr)
     rw [VO] at h1
     unfold wpOp at h1
     have hwa:Region.wanted op (yielded l.toArray a.tmps)=true:=by unfold Region.wanted;rw [Option.isNone_iff_eq_none.1 hgd]
     simp only [hp',hwa,if_true] at h1
     obtain ⟨v,hv,hK⟩:=VP hex h1
     exact wpAny_first hp' (Region.noSelect_spec hsel) (hQ op.dst v) f listed a w (hfree listed hpr) hpr (.inl ⟨hwa,hv⟩) (ih _ _ _ (by simp [hs]) hK)
    ·refine ⟨fun h0=>h.1 (List.eq_nil_iff_forall_not_mem.2 fun j hj=>by have:=(Nu.1 hj).1;rw [h0] at this;cases this),fun j hj=>?_⟩
     have h1:=h.2 j (hkp listed hs hpr j hj)
     rw [VO] at h1
     exact wpOp_mono (fun a' w' h'=>ih _ _ _ (by simp [hs]) h') h1
theorem Qj {Q':Exit→Act→World→Prop}:∀ (rest:List Oper),wpList P (Bm l k p).toArray Q' rest=wpList P l.toArray Q' rest
 | []=>rfl
 | o::rest=>by
  funext a w
  simp only [wpList,FB,Qj rest]
theorem LF {Q':Exit→Act→World→Prop}:∀ (rest:List Oper) (j:Nat) (a:Act) (w:World),wpList P (Bm l k p).toArray Q' (rest.modify j fun o=>{ o with after:=o.after.push ⟨p,.data⟩ }) a w=wpList P l.toArray Q' rest a w
 | [],j,a,w=>by cases j <;> rfl
 | o::rest,0,a,w=>by
  simp only [List.modify_zero_cons,wpList,FB,Qj]
  rfl
 | o::rest,j+1,a,w=>by
  have ih:wpList P (Bm l k p).toArray Q' (rest.modify j fun o=>{ o with after:=o.after.push ⟨p,.data⟩ })=wpList P l.toArray Q' rest:=funext fun a=>funext fun w=>LF rest j a w
  simp only [List.modify_succ_cons,wpList,FB,ih]
theorem VQ {id:Nat} {a:Act} (n k p:Nat) (hm:P.follows .mixedOrders=true) (hE:AhA .any l k p=true) (hB:Ly .any (Bm l k p).toArray n=true) (hnk:n≤k)
    (h:wpE P .any (l.take n).toArray (AdC P l.toArray (NoPanic Q) (l.drop n)) (fun _ a w=>wpList P l.toArray (NoPanic Q) (l.drop n) a w) n (Array.replicate n false) (fun _=>False) a w.drew):(Code.region id l.toArray true).wp P Q a w:=by
  have hB0:=hB
  simp only [Ly,aj,decide_eq_true_eq] at hB0
  have hn:=hB0.1.1.1.1
  have hlen:(Bm l k p).length=l.length:=by simp [Bm]
  refine wp_region_noPanic (wp_region_any hm ?_)
  have ht:(Bm l k p).take n=l.take n:=by
    refine fk fun j=>?_
    simp only [bq,Bm,kh]
    by_cases hj:j<n
    · rw [if_pos hj,if_pos hj]
      have hkj:¬ k=j:=by omega
      cases l[j]? <;> simp [hkj]
    · rw [if_neg hj,if_neg hj]
  have hd:(Bm l k p).drop n=(l.drop n).modify (k - n) fun o=>{ o with after:=o.after.push ⟨p,.data⟩ }:=by
    refine fk fun j=>?_
    simp only [cn,Bm,kh]
    have hkj:k=n+j ↔ k - n=j:=by omega
    cases l[n+j]? <;> simp [hkj]
  have hPQ:OM P (Bm l k p).toArray (NoPanic Q) ((Bm l k p).drop n)=OM P l.toArray (NoPanic Q) (l.drop n):=by
    funext e a w
    cases e <;> first
      | (show wpList P _ (NoPanic Q) _ a w = wpList P _ (NoPanic Q) _ a w
         rw [hd,LF])
      | rfl
  have h':=VN AdC.imp _ _ _ _ (Sj (Q:=AdC P l.toArray (NoPanic Q) (l.drop n)) _ _ _ _ _ h)
  rw [←ht,←hPQ] at h'
  have inv0:HeadInv .any (Bm l k p).toArray n (Array.replicate (Bm l k p).toArray.size false) :=
    ⟨by simp,fun j oj _ hl=>(by rw [getD_replicate_false] at hl;cases hl),fun t _ ht=>getD_in (by simpa using ht) (getD_replicate_false _ _)⟩
  have h2:=Nm hB n (Array.replicate (Bm l k p).toArray.size false) (Array.replicate n false) a w.drew inv0 (by simp) (fun i _=>by rw [getD_replicate_false,getD_replicate_false]) h'
  rw [show n+((Bm l k p).toArray.size - n)=l.toArray.size by simp [hlen] at hn ⊢;omega,show (Bm l k p).toArray.size=l.toArray.size by simp [hlen]] at h2
  exact Sk hE (by intro _ _ _ _ _ h;exact h) _ _ _ _ (by simp) h2
end
end Go.Proofs.YtjlkgfeepocjfaaGreatDoor
