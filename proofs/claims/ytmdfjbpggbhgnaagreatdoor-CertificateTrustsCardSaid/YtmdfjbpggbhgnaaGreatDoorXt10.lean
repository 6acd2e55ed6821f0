/- What the proofs of this claim share, part 10. No conditions. -/
import Derived.Test.YtmdfjbpggbhgnaaGreatDoorXt9
import Derived.Test.YtmdfjbpggbhgnaaGreatDoorXt6
set_option maxRecDepth 100000
set_option maxHeartbeats 4000000
set_option linter.all false
open Go.Proofs.Tryz
namespace Go.Proofs.YtmdfjbpggbhgnaaGreatDoor
open Go.RowKit
variable {w:World} {S:Du} {v:Value} {c fuel i id n s u:Nat} {a b o o0 ws:List Nat} {t t':TypeId} {y:Operand} {k':IntKind} {q r z:Int} {F:Frm} {H:List Ob} {p:Prop}
def wds (x:Int):List D:=(w32 (Ad x.natAbs)).map D.val
def dDy (t:Bool) (x:Int) (d:Nat):List D:=[.val (.bool (decide (x<0))),.row t 1 (Ad x.natAbs).length (wds x),.val (.int .i64 (d:Int))]
def aDy (t:Bool) (x:Int) (d:Nat):A:=.agg (dDy t x d)
def Nf (x:Int) (d:Nat):Prop:=d≤65536∧(d≠0→x % 2=1)
theorem Ll {t:Bool} {x:Int} {d:Nat} (h:Em w S (aDy t x d) v) (hS:∀ t b,S t b→b<w.heap.size) (hn:Nf x d):DyR w 0 w.heap.size v x d:=by
 obtain ⟨xs,rfl,h1⟩:=h
 obtain ⟨a,l1,rfl,ha,h2⟩:=h1.uncons
 obtain ⟨b,l2,rfl,hb,h3⟩:=h2.uncons
 obtain ⟨c,l3,rfl,hc,h4⟩:=h3.uncons
 rw [h4.unnil]
 cases ha
 cases hc
 cases hb with
 | @row _ _ _ c cs A xs hc hA hl hx hm hr =>
  have hw:xs=w32 (Ad x.natAbs):=Oi (vs:=w32 (Ad x.natAbs)) ⟨hx,hr⟩
  subst hw
  refine ⟨A,c,rfl,hA,hc,fun hne=>?_,fun a _=>ad _,hn.1,hn.2⟩
  obtain ⟨b,off,rfl,hb,hcell⟩:=hm (fun h=>hne (List.map_eq_nil_iff.1 h))
  exact ⟨b,off,rfl,hS _ _ hb,hS _ _ hb,hcell⟩
theorem VT {l:List Nat} (h:v∈w32 l):v.oneCell'=true:=by
 simp only [w32,iy] at h
 obtain ⟨n,_,rfl⟩:=h
 rfl
theorem LZ {w':World} {x:Int} {d:Nat} (h:DyR w' w.heap.size w'.heap.size v x d):Em w' (Aob w w') (aDy false x d) v:=by
 obtain ⟨A,c,rfl,h1,h2,h3,h4,h5,h6⟩:=h
 refine ⟨[.bool (decide (x<0)),.slice A (Ad x.natAbs).length c,.int .i64 (d:Int)],rfl,.cons_ (.val rfl) (.cons_ (.row (w32 (Ad x.natAbs)) h2 h1 ?_ ?_ ?_ ?_) (.cons_ (.val rfl) .nil_))⟩
 ·rw [wds,af,OB,cq]
 ·rw [wds,af]
 ·intro hne
  obtain ⟨b,off,rfl,h7,h8,h9⟩:=h3 (fun h=>hne (by rw [wds,h];rfl))
  exact ⟨b,off,rfl,⟨rfl,h4 _ rfl,h8⟩,h9⟩
 ·intro j u y hu hy
  rw [wds,ag,hy] at hu
  cases hu
  exact .val (VT (gM hy))
theorem Nf.nf {m:Int} {p:Nat} (h:p≤65536):Nf (nf m p).1 (nf m p).2:=⟨lT (AjF m p) h,AaX m p⟩
section
variable {G:World→Prop}
theorem Acp (n:Int) (h1 : -9223372036854775808≤n) (h2:n<9223372036854775808):CVF prog G 39 [aI n] [aDy false n 0]:=fun w S vs hg hlt ha=>by
 obtain ⟨u,hu,h3⟩:=BI ha
 subst hu
 cases h3
 exact (AoD n h1 h2 w).mono fun r w' ⟨v,he,hd,hb⟩=>⟨v,he,LZ hd,hb⟩
theorem Px (t:Bool) (x:Int) (d:Nat) (n:Int) (hn:Nf x d) (hl:(Ad x.natAbs).length≤50000) (hd:(d:Int) - max (-65536) (min n 65536)≤65536):CVF prog G 38 [aDy t x d,aI n] [aDy false (Ac x d n).1 (Ac x d n).2]:=fun w S vs hg hlt ha=>by
 obtain ⟨v,vs',rfl,h1,ha⟩:=ha.uncons
 obtain ⟨u,hu,h2⟩:=BI ha
 subst hu
 cases h2
 exact (Zz (Ll h1 hlt hn) (aa _) hl hd).mono fun r w' ⟨v,he,hd,hb⟩=>⟨v,he,LZ hd,hb⟩
theorem Sn (t t':Bool) (x:Int) (dx:Nat) (y:Int) (dy:Nat) (hn:Nf x dx) (hm:Nf y dy) (l1:(Ad x.natAbs).length≤50000) (l2:(Ad y.natAbs).length≤50000):CVF prog G 29 [aDy t x dx,aDy t' y dy] [aI (Cm x dx y dy)]:=fun w S vs hg hlt ha=>by
 obtain ⟨v,vs',rfl,h1,ha⟩:=ha.uncons
 obtain ⟨u,hu,h2⟩:=BI ha
 subst hu
 exact (VQ (Ll h1 hlt hn) (Ll h2 hlt hm) (aa _) l1 l2).mono fun r w' ⟨he,hb⟩=>⟨_,he,Bh.val rfl,hb⟩
end
theorem Acq {a b:Int} {p q:Nat} (h:a*2 ^ p=b*2 ^ q):sgI a=sgI b:=by rw [←Gp a p,h,Gp b q]
theorem Py {a b A B:Int} {da db q:Nat} (ha:a*2 ^ q=A*2 ^ da) (hb:b*2 ^ q=B*2 ^ db):Cm a da b db=sgI (A - B):=by
 unfold Cm Cb
 rw [Acq (AaY _ _)]
 refine Acq (p:=q) (q:=max da db) ?_
 have e1:a*2 ^ (max da db - da)*2 ^ q=A*2 ^ max da db:=by
  rw [ia,ha,ai,←ao];congr 2;omega
 have e2:b*2 ^ (max da db - db)*2 ^ q=B*2 ^ max da db:=by
  rw [ia,hb,ai,←ao];congr 2;omega
 rw [ic,ct,ct,e1,e2,ej]
 omega
theorem GT {x k:Int} {q:Nat} (h1 : -65536≤k) (h2:k≤65536) (hq:0≤k+q):(Ac x 0 k).1*2 ^ q=x*2 ^ (k+q).toNat*2 ^ (Ac x 0 k).2:=by
 unfold Ac
 rw [show max (-65536) (min k 65536)=k by omega]
 split
 ·rename_i h
  rw [bc]
  have e:=AaY x (-k).toNat
  rw [show q=(-k).toNat+(k+q).toNat by omega,ao,←ai,e,ia]
  congr 3
  omega
 ·rename_i h
  show x*2 ^ k.toNat*2 ^ q=x*2 ^ (k+q).toNat*2 ^ 0
  rw [ai,←ao,Int.pow_zero,je]
  congr 2
  omega
def dW (n:Nat):D:=.val (.int .u32 (n:Int))
def cW (ws:List Nat):List C:=ws.map fun n=>.d (dW n)
theorem ZB (ws:List Nat):(w32 ws).map D.val=ws.map dW:=by simp [w32,dW]
theorem AkQ (n:Nat):Ex (madeCells (Value.int .u32 0).cells (n*1)).toList=cW (List.replicate n 0):=by
 rw [cq,show (Value.int .u32 0).cells=#[Value.int .u32 0] from rfl,toList_madeCells_one]
 simp [Ex,cW,dW]
theorem Aii {l:List Nat}:∀ c∈cW l,C.bel n c:=fun c hc=>by obtain ⟨z,_,rfl⟩:=List.mem_map.1 hc;trivial
theorem AkR {k x:Nat} (h:ws[k]?=some x):((ws.map dW).drop (k*1)).take 1=[dW x]:=AbN h
section
variable {P:Program} {G:World→Prop} {o:Oper} {F:Frm} {H:List Ob}
theorem Ok {e:TypeId} {x:Operand} {by_:Nat} {k:IntKind} (ho:o.op=.makeSlice t x y) (hx:F.ev x=.one (.d (.val (.int k z)))) (hy:F.ev y=.one (.d (.val (.int k' z)))) (hz':z=(n:Int)) (ht:TyS P t e 1) (hz:TyZ P e (.int .u32 0) 1 by_) (hn:n≤1000000) (hby:by_≤1000) :
  Bb P G o F H (.one (.own H.length n)) [.row e 1 n (cW (List.replicate n 0))]:=by
 subst hz'
 have:=BP (P:=P) (G:=G) (H:=H) ho hx hy ht hz hn hby
 rwa [AkQ] at this
theorem Aij {ty:TypeId} {x:Operand} {k:Nat} {xs:List Nat} {z:Nat} (ho:o.op=.load t x) (hx:F.ev x=.one (.ref id (i*1) (some n))) (hH:H[id]?=some (.row ty s n (cW xs))) (hz:xs[i]?=some z) (hk:TyK P t false k):Bb P G o F H (.one (.d (.val (.int .u32 (z:Int))))) [] :=
 Oc ho hx (.row hH) (by simp [cW,hz,dW]) hk
theorem Acr {ty:TypeId} {x:Operand} {xs:List Nat} {b:Bool} (ho:o.op=.store t x y) (hx:F.ev x=.one (.ref id (i*1) (some n))) (hH:H[id]?=some (.row ty s n (cW xs))) (hy:F.ev y=.one (.d (.val (.int .u32 z)))) (hz:z=(u:Int)) (hty:TyK P t b 1) (hi:i<xs.length) {ys:List Nat} (hys:xs.set i u=ys):TOk P G o F H .any (H.set id (.row ty s n (cW ys))):=by
 subst hz
 have:=GJ (P:=P) (G:=G) ho hx hH rfl hy hty (by simp [Ob.cs,cW,hi])
 have e:(cW xs).set (i*1) (.d (.val (.int .u32 (u:Int))))=cW ys:=by rw [←hys,cq];simp [cW,List.map_set,dW]
 simp only [Ob.cs,Ob.setC,e] at this
 exact this
theorem EC {s:TypeId} {x:Operand} {k:IntKind} {p:Int} (ho:o.op=.convert s t x) (hs:P.underlying s=some (.int k)) (ht:P.underlying t=some (.int k')) (hx:F.ev x=.one (.d (.val (.int k p)))) (hr:k'.wrap p=r):Bb P G o F H (.one (.d (.val (.int k' r)))) []:=hr ▸ FI ho hs ht hx
theorem AkS {x:Operand} {k:IntKind} {p:Int} (ho:o.op=.binOp .mul t x y t') (hx:F.ev x=.one (.d (.val (.int k p)))) (hy:F.ev y=.one (.d (.val (.int k q)))) (hr:k.wrap (p*q)=r):Bb P G o F H (.one (.d (.val (.int k r)))) []:=hr ▸ AhW ho hx hy
theorem Acs {x:Operand} {k:IntKind} {p:Int} (ho:o.op=.binOp .add t x y t') (hx:F.ev x=.one (.d (.val (.int k p)))) (hy:F.ev y=.one (.d (.val (.int k q)))) (hr:k.wrap (p+q)=r):Bb P G o F H (.one (.d (.val (.int k r)))) []:=hr ▸ AhV ho hx hy
theorem XQ {x:Operand} {p:Nat} (ho:o.op=.binOp .shr t x (.const (.int k' 32)) t') (hx:F.ev x=.one (.d (.val (.int .u64 (p:Int))))) (hr:((p / 4294967296:Nat):Int)=r):Bb P G o F H (.one (.d (.val (.int .u64 r)))) []:=by
 subst hr
 refine Dn (y:=.const (.int k' 32)) (u':=.int k' 32) ho hx rfl (fun w=>?_) rfl
 have e:(p:Int).fdiv 4294967296=((p / 4294967296:Nat):Int):=by rw [Int.fdiv_eq_ediv_of_nonneg _ (by decide)];rfl
 simp [eqGuard,binOp,Op.shift,IntKind.bits,e]
theorem AkT {x:Operand} {p q:Bool} (ho:o.op=.binOp .neq t x y t') (ht:P.underlying t=some .bool) (hx:F.ev x=.one (.d (.val (.bool p)))) (hy:F.ev y=.one (.d (.val (.bool q)))):Bb P G o F H (.one (.d (.val (.bool (p != q))))) []:=by
 refine Dn ho hx hy (fun w=>?_) rfl
 have h1:(Op.equal t (.bool p) (.bool q)).run P w=.ok (p == q) w:=by
  have key:∀ d:Nat,(Op.equalIn (d+1) t (.bool p) (.bool q)).run P w=.ok (p == q) w:=fun d=>by simp [Op.equalIn,run_underlying ht]
  exact key 9999
 simp [eqGuard,binOp,h1,bne]
end
theorem Ma (h0:0≤z) (h1:z<18446744073709551616):IntKind.wrap .u64 z=z:=by rw [fz];omega
theorem So (n:Nat):IntKind.wrap .u32 (n:Int)=((n % 4294967296:Nat):Int):=by rw [jl];omega
theorem AkU (G:World→Prop) (x:Int) (d:Nat) (hn:Nf x d) (hl:(Ad x.natAbs).length≤100000):CV prog G 105 [aDy false x d] [aDy false x d]:=fun w S vs hg hlt ha=>by
 obtain ⟨u,hu,h3⟩:=BI ha
 subst hu
 refine (Pv (Ll h3 hlt hn) (aa _) hl).mono fun r w' ⟨he,hb⟩=>⟨_,he,?_,hb⟩
 obtain ⟨xs,hv,hl2⟩:=h3
 refine ⟨xs,hv,hl2.1,fun j a b ha hb'=>?_⟩
 have hf:Dg a:=by
  have hm:=gM ha
  simp only [dDy,bo,bp,or_false] at hm
  rcases hm with rfl|rfl|rfl
  ·exact .val _
  ·exact .row fun d hd=>by obtain ⟨v,_,rfl⟩:=List.mem_map.1 hd;exact .val _
  ·exact .val _
 have h5:Bh w (fun t b=>t=false∧S false b) a b:=Bh.free (fun b h=>⟨rfl,h⟩) (hl2.2 j a b ha hb') hf
 exact h5.mono (fun t b h=>⟨h.1,.inl h.2⟩) (fun t b h=>hb.block b (hlt _ _ h.2))
theorem Ol:∀ {j u v:Nat},o[j]?=some v→Ay (o.set j u)+v*4294967296 ^ j=Ay o+u*4294967296 ^ j:=by
 induction o with
 | nil=>intro j u v h;simp at h
 | cons y o ih =>
  intro j u v h
  cases j with
  | zero =>
   simp only [gq,Option.some.injEq] at h
   subst h
   simp only [df,Ay]
   omega
  | succ j =>
   simp only [fg] at h
   have:=ih (u:=u) h
   simp only [di,Ay,bi]
   rw [←au,←au]
   omega
theorem FX {j:Nat} (h:Ao o) (hu:u<4294967296):Ao (o.set j u):=fun x hx=>by
 rcases kj hx with hx|rfl
 ·exact h x hx
 ·exact hu
structure Uk (b o0:List Nat) (i x k:Nat) (o:List Nat) (c:Nat):Prop where
 len:o.length=o0.length
 ok:Ao o
 car:c<4294967296
 val:Ay o+c*4294967296 ^ (i+k)=Ay o0+x*Ay (b.take k)*4294967296 ^ i
 zero:∀ j,i+b.length≤j→j<o0.length→o[j]?=some 0
theorem Uk.fit {x k:Nat} {y:Nat} (h:Uk b o0 i x k o c) (hx:x<4294967296) (hy:y<4294967296) (hu:o[i+k]?=some u):x*y+u<18446744073709551616∧c+(x*y+u)<18446744073709551616:=by
 have h1:x*y≤4294967295*4294967295:=dw (by omega) (by omega)
 have h2:=h.ok u (gM hu)
 have h3:=h.car
 omega
theorem Uk.step {x k:Nat} {y:Nat} (h:Uk b o0 i x k o c) (hx:x<4294967296) (hb:Ao b) (hy:b[k]?=some y) (hu:o[i+k]?=some u):Uk b o0 i x (k+1) (o.set (i+k) ((c+(x*y+u)) % 4294967296)) ((c+(x*y+u)) / 4294967296):=by
 obtain ⟨f1,f2⟩:=h.fit hx (hb y (gM hy)) hu
 have hkb:=(gS.1 hy).1
 refine ⟨by rw [dp];exact h.len,FX h.ok (by omega),by omega,?_,fun j h1 h2=>by rw [bt,if_neg (by omega)];exact h.zero j h1 h2⟩
 have hs:=Ol (u:=(c+(x*y+u)) % 4294967296) hu
 have hv:=h.val
 have ht:=Bf b k
 rw [hy,ci] at ht
 have hdm:=dn (c+(x*y+u)) 4294967296
 rw [ht,dk,bh,show i+(k+1)=(i+k)+1 by omega,bi]
 generalize hP:4294967296 ^ (i+k)=p at hs hv ⊢
 have e1:x*(4294967296 ^ k*y)*4294967296 ^ i=x*y*p:=by
  rw [←hP,bd]
  simp only [au,ar,Nat.mul_left_comm]
 rw [e1]
 generalize (c+(x*y+u)) / 4294967296=q at hdm ⊢
 generalize (c+(x*y+u)) % 4294967296=r at hs hdm ⊢
 have e2:q*(p*4294967296)+r*p=(c+(x*y+u))*p:=by
  rw [←hdm,bh,ar p 4294967296,←au,ar q 4294967296]
 rw [bh,bh] at e2
 omega
structure Mb (a b:List Nat) (i:Nat) (o:List Nat):Prop where
 len:o.length=a.length+b.length
 ok:Ao o
 val:Ay o=Ay (a.take i)*Ay b
 zero:∀ j,i+b.length≤j→j<a.length+b.length→o[j]?=some 0
theorem Mb.start (a b:List Nat):Mb a b 0 (List.replicate (a.length+b.length) 0):=by
 refine ⟨by simp,fun x hx=>by rw [(List.mem_replicate.1 hx).2];decide,by rw [EG];simp [Ay],fun j _ h2=>by simp [h2]⟩
theorem Mb.enter {x:Nat} (h:Mb a b i o):Uk b o i x 0 o 0 :=
 ⟨rfl,h.ok,by decide,by simp [Ay],fun j h1 h2=>h.zero j h1 (by rw [←h.len];exact h2)⟩
theorem Mb.leave {x:Nat} (h:Mb a b i o0) (hx:a[i]?=some x) (h2:Uk b o0 i x b.length o c):Mb a b (i+1) (o.set (i+b.length) c):=by
 have hi:=(gS.1 hx).1
 have hz:=h2.zero (i+b.length) (aa _) (by rw [h.len];omega)
 have hs:=Ol (u:=c) hz
 refine ⟨by rw [dp,h2.len];exact h.len,FX h2.ok h2.car,?_,fun j h3 h4=>by rw [bt,if_neg (by omega)];exact h2.zero j (by omega) (by rw [h.len];exact h4)⟩
 have hv:=h2.val
 rw [ay] at hv
 have ht:=Bf a i
 rw [hx,ci] at ht
 rw [ht,bh,←h.val]
 have e:x*Ay b*4294967296 ^ i=4294967296 ^ i*x*Ay b:=by simp only [au,ar,Nat.mul_left_comm]
 omega
theorem AkV (x y:Int):sg (decide (x<0) != decide (y<0)) (x.natAbs*y.natAbs)=x*y:=by
 unfold sg
 have hx:x=if x<0 then -(x.natAbs:Int) else x.natAbs:=by split <;> omega
 have hy:y=if y<0 then -(y.natAbs:Int) else y.natAbs:=by split <;> omega
 by_cases h1:x<0 <;> by_cases h2:y<0
 all_goals
  simp only [h1,h2,decide_true,decide_false,bne_self_eq_false,dr,if_true,if_false,Bool.true_bne,Bool.false_bne,fd] at hx hy ⊢
  conv=>rhs;rw [hx,hy]
  simp [ct,Int.mul_neg]
def Nd (x:Int) (dx:Nat) (y:Int) (dy:Nat):Int × Nat:=nf (x*y) (dx+dy)
theorem AoL (x:Int):Dg (.row false 1 (Ad x.natAbs).length (wds x)):=.row fun d hd=>by obtain ⟨v,_,rfl⟩:=List.mem_map.1 hd;exact .val _
theorem rvW {P:Program} {t:Tmp} {ty ty' k:Nat} {x:Int} {d:Nat} (hk:TyK P ty true k) (hi:3=k) (hF:F t=.one (.ref id 0 none):=by with_unfolding_all exact rfl) (hH:H[id]?=some (.box ty' ((dDy false x d).map C.d)):=by with_unfolding_all exact rfl):RV P F H (.cell t ty) (aDy false x d) :=
 Ug hF hH hk hi rfl (.cons_ (CA rfl fun _=>.val _) (.cons_ (CA rfl fun _=>AoL x) (.cons_ (CA rfl fun _=>.val _) .nil_)))
theorem Acu {P:Program} {G:World→Prop} {o:Oper} {e:TypeId} {x l:Operand} {tg:Bool} {lo:Nat} {k:IntKind} {cs:List D} (ho:o.op=.slice t x (some l) none none) (hx:F.ev x=.one (.d (.row tg s n cs))) (hl:F.ev l=.one (.d (.val (.int k z)))) (hz:z=(lo:Int)) (ht:TyS P t e s) (h1:lo≤n) :
  Bb P G o F H (.one (.d (.row tg s (n - lo) (cs.drop (lo*s))))) []:=Cc fun b0 m a hp hcx hor=>by
 subst hz
 have hv:=Bg hor (x:=x) (by rw [ho];simp [Op.operands])
 have el:=Dm (m:=m) (v:=a.eval l) (by rw [←hl];exact Bg hor (by rw [ho];simp [Op.operands]))
 rw [hx] at hv
 have hv':Bh m.w m.S (.row tg s n cs) (a.eval x):=hv
 generalize hxe:a.eval x=u at hv'
 cases hv' with
 | @row _ _ _ cap _ A xs hc hA hln hxl hm hr =>
  obtain ⟨ie,hi1,hi2⟩:=Option.map_eq_some_iff.1 ht.s
  have hls:lo*s≤n*s:=Nat.mul_le_mul_right _ h1
  have e3:(n:Int)≤(cap:Int):=by omega
  have e4:(lo:Int)≤(n:Int):=by omega
  have e6:(0:Int)≤(lo:Int):=by omega
  refine ⟨.slice (if cap=lo then A else A.map (·.add (lo*s))) (n - lo) (cap - lo),?_,Bh.row (xs.drop (lo*s)) (by omega) (fun h0=>?_) ?_ ?_ (fun hne=>?_) (fun j u x hu hj=>?_)⟩
  ·unfold execOp
   simp [ho,hxe,el,Instr.sliceAt,Instr.slice,run_underlying ht.h,Instr.sliceBounds,Instr.sliceBound,asIntOf,sizeOf,typeInfo,hi1,hi2,h1,hc]
  ·split at h0
   ·omega
   ·cases A with
    | none=>have:=hA rfl;omega
    | some p=>simp at h0
  ·rw [iv,hln,Nat.sub_mul]
  ·simp [hxl]
  ·have hcne:cs≠[]:=fun h0=>hne (by rw [h0];simp)
   obtain ⟨b,off,rfl,hb,hcells⟩:=hm hcne
   have hcl:cap≠lo:=fun h0=>hne (by
    refine bw ?_
    rw [iv,hln,show n=lo by omega,fy])
   rw [if_neg hcl]
   refine ⟨b,off+lo*s,by simp [mp],hb,fun j x hj=>?_⟩
   rw [cj] at hj
   rw [fq]
   exact hcells _ x hj
  ·rw [cj] at hu hj
   exact hr _ u x hu hj
theorem AkW (G:World→Prop) (t:Bool) (x:Int) (dx:Nat) (hn:Nf x dx) (l1:(Ad x.natAbs).length≤50000):CVF prog G 101 [aDy t x dx] [aDy false (((x.natAbs:Nat):Int)) dx]:=fun w S vs hg hlt ha=>by
 obtain ⟨u,hu,h2⟩:=BI ha
 subst hu
 exact (ArW (Ll h2 hlt hn) (aa _) (lT l1 (by decide))).mono fun r w' ⟨v,he,hd,hb⟩=>⟨v,he,LZ hd,hb⟩
theorem AkX (G:World→Prop) (t t':Bool) (x:Int) (dx:Nat) (y:Int) (dy:Nat) (hn:Nf x dx) (hm:Nf y dy) (l1:(Ad x.natAbs).length≤50000) (l2:(Ad y.natAbs).length≤50000):CVF prog G 42 [aDy t x dx,aDy t' y dy] [aDy false (Cb x dx (-y) dy).1 (Cb x dx (-y) dy).2]:=fun w S vs hg hlt ha=>by
 obtain ⟨v,vs',rfl,h1,ha⟩:=ha.uncons
 obtain ⟨u,hu,h2⟩:=BI ha
 subst hu
 exact (Ack (Ll h1 hlt hn) (Ll h2 hlt hm) (aa _) l1 l2).mono fun r w' ⟨v,he,hd,hb⟩=>⟨v,he,LZ hd,hb⟩
theorem AkY (G:World→Prop) (t t':Bool) (x:Int) (dx:Nat) (y:Int) (dy:Nat) (hn:Nf x dx) (hm:Nf y dy) (l1:(Ad x.natAbs).length≤50000) (l2:(Ad y.natAbs).length≤50000):CVF prog G 255 [aDy t x dx,aDy t' y dy] [aDy false (Dt x dx y dy).1 (Dt x dx y dy).2]:=fun w S vs hg hlt ha=>by
 obtain ⟨v,vs',rfl,h1,ha⟩:=ha.uncons
 obtain ⟨u,hu,h2⟩:=BI ha
 subst hu
 exact (AkK (Ll h1 hlt hn) (Ll h2 hlt hm) (aa _) l1 l2).mono fun r w' ⟨v,he,hd,hb⟩=>⟨v,he,LZ hd,hb⟩
theorem AkZ (G:World→Prop) (t t':Bool) (x:Int) (dx:Nat) (y:Int) (dy:Nat) (hn:Nf x dx) (hm:Nf y dy) (l1:(Ad x.natAbs).length≤50000) (l2:(Ad y.natAbs).length≤50000):CVF prog G 100 [aDy t x dx,aDy t' y dy] [aDy false (Dx x dx y dy).1 (Dx x dx y dy).2]:=fun w S vs hg hlt ha=>by
 obtain ⟨v,vs',rfl,h1,ha⟩:=ha.uncons
 obtain ⟨u,hu,h2⟩:=BI ha
 subst hu
 exact (AkL (Ll h1 hlt hn) (Ll h2 hlt hm) (aa _) l1 l2).mono fun r w' ⟨v,he,hd,hb⟩=>⟨v,he,LZ hd,hb⟩
def Rp (p:Int × Nat) (X:Int):Prop:=p.1*2 ^ 200=X*2 ^ p.2
structure Sm (p:Int × Nat) (n d:Nat):Prop where
 ok:Nf p.1 p.2
 n:p.1.natAbs<2 ^ n
 d:p.2≤d
theorem Ul (k:Nat) (h:n≤32*k):2 ^ n≤4294967296 ^ k:=by
 rw [show (4294967296:Nat)=2 ^ 32 from rfl,←ee]
 exact ax (by decide) h
theorem Sm.len {p:Int × Nat} {d:Nat} (h:Sm p n d) (hn:n≤1600):(Ad p.1.natAbs).length≤50:=AY (al h.n (Ul 50 (by omega)))
theorem Sm.lenN {p:Int × Nat} {d:Nat} (h:Sm p n d) (k:Nat) (hn:n≤32*k):(Ad p.1.natAbs).length≤k:=AY (al h.n (Ul k hn))
theorem Sm.l4 {p:Int × Nat} {d:Nat} (h:Sm p n d) (hn:n≤32*625:=by decide):(Ad p.1.natAbs).length≤40000:=lT (h.lenN 625 hn) (by decide)
theorem Sm.lz {p:Int × Nat} {d k:Nat} (h:Sm p n d) (hn:n≤32*k:=by decide):(Ad p.1.natAbs).length≤k:=h.lenN k hn
theorem Sm.more {p:Int × Nat} {d n' d':Nat} (h:Sm p n d) (h1:n≤n') (h2:d≤d'):Sm p n' d':=⟨h.ok,al h.n (ax (by decide) h1),lT h.d h2⟩
theorem Sm.mk_nf {m:Int} {p d:Nat} (hd:p≤d) (h:p≤65536) (hm:m.natAbs<2 ^ n):Sm (nf m p) n d:=⟨Nf.nf h,io (LD m p) hm,lT (AjF m p) hd⟩
theorem Rp.shift {x k:Int} (h1 : -200≤k) (h2:k≤200):Rp (Ac x 0 k) (x*2 ^ (k+200).toNat):=GT (q:=200) (by omega) (by omega) (by omega)
theorem Sm.shift {x k:Int} (h1 : -200≤k) (h2:k≤200) (hx:x.natAbs<2 ^ n):Sm (Ac x 0 k) (n+200) 200:=by
 unfold Ac
 rw [show max (-65536) (min k 65536)=k by omega]
 split
 ·exact (Sm.mk_nf (by omega) (by omega) hx).more (by omega) (aa _)
 ·refine Sm.mk_nf (by omega) (by omega) ?_
  rw [ff,fx,bd]
  exact io (gk _ (ax (by decide) (show k.toNat≤200 by omega))) (jm hx (Nat.pow_pos (by decide)))
section
variable {p q:Int × Nat} {X Y Z:Int} {n m d:Nat}
theorem Sm.neg (h:Sm p n d):Sm (-p.1,p.2) n d:=⟨⟨h.ok.1,fun h0=>by have:=h.ok.2 h0;show (-p.1) % 2=1;omega⟩,by show (-p.1).natAbs<_;rw [Int.natAbs_neg];exact h.n,h.d⟩
theorem Sm.abs (h:Sm p n d):Sm (((p.1.natAbs:Nat):Int),p.2) n d:=⟨⟨h.ok.1,fun h0=>by have:=h.ok.2 h0;show ((p.1.natAbs:Nat):Int) % 2=1;omega⟩,h.n,h.d⟩
theorem Sm.sum (h:Sm p n d) (h2:Sm q n d) (hd:d≤65536):Sm (Cb p.1 p.2 q.1 q.2) (n+d+1) d:=by
 have e:∀ r:Int × Nat,Sm r n d→(r.1*2 ^ (Max.max p.2 q.2 - r.2)).natAbs<2 ^ (n+d):=fun r hr=>by
  rw [ff,fx,bd]
  have hpd:=h.d
  have hqd:=h2.d
  exact io (gk _ (ax (by decide) (show Max.max p.2 q.2 - r.2≤d by omega))) (jm hr.n (Nat.pow_pos (by decide)))
 have hpd:=h.d
 have hqd:=h2.d
 refine Sm.mk_nf (by omega) (by omega) ?_
 have h3:=e p h
 have h4:=e q h2
 have h5:=Int.natAbs_add_le (p.1*2 ^ (Max.max p.2 q.2 - p.2)) (q.1*2 ^ (Max.max p.2 q.2 - q.2))
 rw [bi]
 omega
theorem Sm.mul (h:Sm p n d) (h2:Sm q n d) (hd:d≤30000):Sm (Nd p.1 p.2 q.1 q.2) (n+n) (d+d):=by
 have hpd:=h.d
 have hqd:=h2.d
 refine Sm.mk_nf (by omega) (by omega) ?_
 rw [ff,bd]
 exact Nat.mul_lt_mul'' h.n h2.n
theorem Sm.min (h:Sm p n d) (h2:Sm q n d):Sm (Dt p.1 p.2 q.1 q.2) n d:=by
 unfold Dt
 split
 ·exact h2
 ·exact h
theorem Sm.max (h:Sm p n d) (h2:Sm q n d):Sm (Dx p.1 p.2 q.1 q.2) n d:=by
 unfold Dx
 split
 ·exact h2
 ·exact h
end
def dyP (p:Int × Nat):List D:=dDy false p.1 p.2
theorem Um {l:List (Int × Nat)} {k:Nat} {p:Int × Nat} (h:l[k]?=some p):((AN dyP l).drop (k*3)).take 3=dyP p:=Fv (f:=dyP) (s:=3) (fun _=>rfl) h
def FL (y:Bk) (l:List (Int × Nat)):Int × Nat :=
 if y.kind=1 then Ac y.vn 0 y.ve
 else if y.kind=3 then Cb (l[0]?.getD (0,0)).1 (l[0]?.getD (0,0)).2 (l[1]?.getD (0,0)).1 (l[1]?.getD (0,0)).2
 else if y.kind=4 then Cb (l[0]?.getD (0,0)).1 (l[0]?.getD (0,0)).2 (-(l[1]?.getD (0,0)).1) (l[1]?.getD (0,0)).2
 else if y.kind=5 then (-(l[0]?.getD (0,0)).1,(l[0]?.getD (0,0)).2)
 else if y.kind=6 then Nd (Ac y.vn 0 y.ve).1 (Ac y.vn 0 y.ve).2 (l[0]?.getD (0,0)).1 (l[0]?.getD (0,0)).2
 else if y.kind=7 then Nd (l[0]?.getD (0,0)).1 (l[0]?.getD (0,0)).2 (l[1]?.getD (0,0)).1 (l[1]?.getD (0,0)).2
 else if y.kind=8 then Dt (l[0]?.getD (0,0)).1 (l[0]?.getD (0,0)).2 (l[1]?.getD (0,0)).1 (l[1]?.getD (0,0)).2
 else if y.kind=9 then Dx (l[0]?.getD (0,0)).1 (l[0]?.getD (0,0)).2 (l[1]?.getD (0,0)).1 (l[1]?.getD (0,0)).2
 else if y.kind=10 then ((((l[0]?.getD (0,0)).1.natAbs:Nat):Int),(l[0]?.getD (0,0)).2)
 else Dt (Dx (l[0]?.getD (0,0)).1 (l[0]?.getD (0,0)).2 (Ac y.vn 0 y.ve).1 (Ac y.vn 0 y.ve).2).1 (Dx (l[0]?.getD (0,0)).1 (l[0]?.getD (0,0)).2 (Ac y.vn 0 y.ve).1 (Ac y.vn 0 y.ve).2).2 (Ac y.un 0 y.ue).1 (Ac y.un 0 y.ue).2
theorem Un {bs:List Bk}:∀ (f:Nat) (out:List Nat),(∀ l1 j l2,out=l1++j::l2→rdy bs l1 j=true)→∀ l1 j l2,Xz bs f out=l1++j::l2→rdy bs l1 j=true
 | 0,out,h,l1,j,l2,e=>h l1 j l2 e
 | f+1,out,h,l1,j,l2,e=>by
  unfold Xz at e
  cases hn:nxt bs out with
  | none=>rw [hn] at e;exact h l1 j l2 e
  | some i =>
   rw [hn] at e
   refine Un f (out++[i]) (fun m1 q m2 he=>?_) l1 j l2 e
   rcases List.eq_nil_or_concat m2 with rfl|⟨m3,q',rfl⟩
   ·have h1:=List.append_inj' he rfl
    obtain ⟨rfl,h2⟩:=h1
    cases h2
    exact (Sc hn).2
   ·have h1:out++[i]=(m1++q::m3)++[q']:=by rw [he];simp
    exact h m1 q m3 (List.append_inj' h1 rfl).1
theorem Om {bs:List Bk} {l1 l2:List Nat} {j:Nat} (h:BH bs=l1++j::l2) {a:Int} (ha:a∈GD bs j):AG bs a.toNat=2∨a.toNat∈l1:=by
 have h1:=Un bs.length [] (fun m1 q m2 he=>by simp at he) l1 j l2 h
 unfold rdy at h1
 rw [ah] at h1
 have h2:=List.all_eq_true.1 h1.2 a ha
 unfold EA at h2
 simpa using h2
theorem VU {bs:List Bk} (h:EZ bs=0) {j:Nat} (hj:j<bs.length) (hk:AG bs j≠2):j∈BH bs:=cw fun hn=>by
 have hlen:(BH bs).length=CQ bs:=by
  unfold EZ at h
  exact cw fun hx=>by rw [if_neg hx] at h;cases h
 have ho:=FJ bs.length (EX.nil bs)
 have:=EX.le (bs:=bs) (out:=j::BH bs) ⟨List.nodup_cons.2 ⟨hn,ho.nodup⟩,fun i hi=>by
  rcases List.mem_cons.1 hi with rfl|hi
  ·exact ⟨hj,hk⟩
  ·exact ho.mem i hi⟩
 rw [bk] at this
 omega
theorem Pz {N:Nat} {ty:Nat} {ds:List D} (t id:Nat) (h:F t=.one (.own id n)) (hH:H[id]?=some (.row ty s n (ds.map C.d))):Wk N F H (F.put (some t) (.one (.d (.row false s n ds)))) (H.set id .dead):=fun b0 w0 S0 a m hm hs=>by
 subst hm
 have hv:=hs.frame t
 rw [h] at hv
 obtain ⟨xs,hE,hat,hl⟩:=LJ hs.cx hv hH
 generalize hvv:a.tmps.getD t undef=v at hv hE hat
 have hidl:=(gS.1 hH).1
 have hset:∀ i ob,(m.H.set id .dead)[i]?=some ob→(i=id∧ob=.dead)∨(i≠id∧m.H[i]?=some ob):=fun i ob hi=>by
  rw [bt] at hi
  by_cases e:id=i
  ·rw [if_pos e,if_pos (by omega)] at hi
   exact .inl ⟨e.symm,(Option.some.inj hi).symm⟩
  ·rw [if_neg e] at hi
   exact .inr ⟨fun h=>e h.symm,hi⟩
 have hget:∀ i e,(if i=id then none else m.E i)=some e→i≠id∧m.E i=some e:=fun i e hi=>by
  by_cases q:i=id
  ·rw [if_pos q] at hi;cases hi
  ·rw [if_neg q] at hi;exact ⟨q,hi⟩
 have hle:Le m { m with S:=fun t b=>m.S t b∨(t=false∧v.ownBlock=some b),H:=m.H.set id .dead,E:=fun i=>if i=id then none else m.E i }:=by
  refine ⟨fun t b h=>.inl h,?_,fun _ _ _=>rfl,fun i ob hob=>?_⟩
  ·funext b
   simp
  ·by_cases q:i=id
   ·subst q
    exact ⟨.dead,by show (m.H.set i .dead)[i]?=_;rw [bt,if_pos rfl,if_pos hidl],fun k hk=>by cases hk⟩
   ·exact ⟨ob,by show (m.H.set id .dead)[i]?=_;rw [bt,if_neg (fun h=>q h.symm)];exact hob,MQ.same fun e he=>by show (if i=id then none else m.E i)=some e;rw [if_neg q];exact he⟩
 refine ⟨{ m with S:=fun t b=>m.S t b∨(t=false∧v.ownBlock=some b),H:=m.H.set id .dead,E:=fun i=>if i=id then none else m.E i },rfl,rfl,⟨⟨fun i e hi=>?_,fun i j e e' hij hi hj=>?_,fun i e g t' hi hg=>?_,fun t' b hb=>?_⟩,fun i ob hob hk=>?_,fun t'=>?_,hs.size,hs.defers,hs.below,hs.base,fun b hb=>?_,?_⟩⟩
 ·obtain ⟨q,hi⟩:=hget i e hi
  obtain ⟨h1,ob,h2,h3⟩:=hs.cx.each i e hi
  exact ⟨h1,ob,by show (m.H.set id .dead)[i]?=_;rw [bt,if_neg (fun h=>q h.symm)];exact h2,h3.le hle⟩
 ·exact hs.cx.apart i j e e' hij (hget i e hi).2 (hget j e' hj).2
 ·obtain ⟨q,hi⟩:=hget i e hi
  rintro (hb|⟨rfl,hb⟩)
  ·exact hs.cx.far i e g t' hi hg hb
  ·exact hs.cx.apart i id e _ q hi hE g hg hb
 ·rcases hb with hb|⟨_,hb⟩
  ·exact hs.cx.lt t' b hb
  ·exact (World.ownsRow.lt hat b hb).2
 ·rcases hset i ob hob with ⟨_,rfl⟩|⟨q,h1⟩
  ·cases hk
  ·show (if i=id then none else m.E i).isSome=true
   rw [if_neg q]
   exact hs.tot i ob h1 hk
 ·rw [FR]
  split
  ·rename_i ht
   cases ht
   rw [hvv]
   have hld:AV (Bh m.w m.S) ds xs:=⟨by have:=hl.1;simpa using this,fun j x y hx hy=>hl.2 j (.d x) y (by simp [hx]) hy⟩
   show Bh _ _ (.row false s n ds) v
   rcases hat.2 with ⟨rfl,h0⟩|⟨g,cap,cur,rfl,hb,hg,hnc,_,hcur,hxs⟩
   ·subst h0
    have hx0:xs=[]:=bw (by have:=hat.1;simpa using this)
    subst hx0
    have hd0:ds=[]:=bw (by have:=hld.1;simpa using this)
    subst hd0
    exact .row [] (aa _) (fun _=>rfl) (by simp) rfl (fun h=>absurd rfl h) (fun j u x hu=>by simp at hu)
   ·refine .row xs hnc (by simp) (by rw [hld.1];exact hat.1) hld.1 (fun _=>⟨g,0,rfl,.inr ⟨rfl,rfl⟩,fun j x hj=>?_⟩) (fun j u x hu hx=>Bh.le hle (hld.2 j u x hu hx))
    rw [bc,cell_of_row _ g j _ ty (0,0) hg]
    have hj':(cur.toList.take (n*s))[j]?=some x:=by rw [hxs];exact hj
    rw [bq] at hj'
    split at hj'
    ·simpa using hj'
    ·cases hj'
  ·exact (hs.frame t').le hle
 ·rcases hb with hb|⟨_,hb⟩
  ·exact hs.S b hb
  ·exact .inr (World.ownsRow.lt hat b hb).1
 ·exact hle.T.trans hs.T
def wdN (n:Nat):List D:=(w32 (Ad n)).map D.val
def Hz (t:Bool) (n:Nat):D:=.row t 1 (Ad n).length (wdN n)
theorem Acv (n:Nat):wdN n=(Ad n).map dW:=ZB _
theorem Uo {k p:Nat} (h:(Ad n)[k]?=some p):((wdN n).drop (k*1)).take 1=[dW p]:=by
 rw [Acv]
 exact AkR h
theorem ArX (ws:List Nat):cW ws=(ws.map dW).map C.d:=by simp [cW]
theorem Oo {t:Bool} (h:Bh w S (.row t 1 n (ws.map dW)) v) (hS:∀ t b,S t b→b<w.heap.size) (hn:n=ws.length):∃ A c,v=.slice A ws.length c∧(A=none→c=0)∧ws.length≤c∧Al w w.heap.size A (w32 ws)∧(ws≠[]→∃ b off,A=some ⟨b,off,none⟩∧S t b∧∀ (j:Nat) (x:Value),(w32 ws)[j]?=some x→w.cell? ⟨b,off+j,none⟩=some x):=by
 subst hn
 cases h with
 | @row _ _ _ c cs A xs hc hA hl hx hm hr =>
  have hw:xs=w32 ws:=Oi (vs:=w32 ws) (by rw [ZB];exact ⟨hx,hr⟩)
  subst hw
  refine ⟨A,c,rfl,hA,hc,fun hne=>?_,fun hne=>hm fun h=>hne (List.map_eq_nil_iff.1 h)⟩
  obtain ⟨b,off,rfl,hb,hcell⟩:=hm (fun h=>hne (by rw [List.map_eq_nil_iff.1 h];rfl))
  exact ⟨b,off,rfl,hS _ _ hb,hS _ _ hb,hcell⟩
theorem Ala {t:Bool} (h:Bh w S (Hz t n) v) (hS:∀ t b,S t b→b<w.heap.size):WdR w w.heap.size v n:=by
 unfold Hz at h
 rw [Acv] at h
 obtain ⟨A,c,rfl,h1,h2,h3,_⟩:=Oo h hS rfl
 exact ⟨A,c,rfl,h1,h2,h3⟩
theorem Acw {t:Bool} {A:Option Addr} (hn:n=ws.length) (hc:n≤c) (hA:A=none→c=0) (hm:ws≠[]→∃ b off,A=some ⟨b,off,none⟩∧S t b∧∀ (j:Nat) (x:Value),(w32 ws)[j]?=some x→w.cell? ⟨b,off+j,none⟩=some x):Bh w S (.row t 1 n (ws.map dW)) (.slice A n c):=by
 subst hn
 refine .row (w32 ws) hc hA (by simp) (by simp [w32]) (fun hne=>hm fun h=>hne (by rw [h];rfl)) (fun j u x hu hx=>?_)
 rw [←ZB,ag,hx] at hu
 cases hu
 exact .val (VT (gM hx))
section
variable {G:World→Prop}
theorem Oq (ws:List Nat) (n:Nat) (hn:n=ws.length) (hw:Ao ws) (hl:ws.length≤1000000):CV prog G 161 [.one (.row false 1 n (ws.map dW))] [.one (Hz false (Ay ws))]:=fun w S vs hg hlt ha=>by
 obtain ⟨u,hu,h2⟩:=BI ha
 subst hu
 obtain ⟨A,c,rfl,h1,h3,h4,h5⟩:=Oo h2 hlt hn
 refine (FQ A ws c w.heap.size w h4 h3 hl).mono fun r w' ⟨he,hww⟩=>?_
 subst hww
 refine ⟨_,he,?_,ab _ _⟩
 show Bh _ _ (Hz false (Ay ws)) _
 have hcan:=CJ hw
 have hle:(IW ws).length≤ws.length:=by rw [Cp];exact DY _ _
 unfold Hz
 rw [Acv,←hcan]
 refine Acw rfl (by omega) h1 fun hne=>?_
 obtain ⟨b,off,hA,hb,hc⟩:=h5 (fun h=>hne (by rw [h];rfl))
 refine ⟨b,off,hA,⟨rfl,.inl hb⟩,fun j x hj=>hc j x ?_⟩
 have:w32 (IW ws)=(w32 ws).take (Ds ws ws.length):=by unfold w32 IW;rw [List.map_take]
 rw [this,bq] at hj
 split at hj
 ·exact hj
 ·cases hj
theorem Fz (x:Int) (d:Nat) (hn:Nf x d) (hl:(Ad x.natAbs).length≤100000):CV prog G 69 [aDy false x d] [aB (decide (x<0)),.one (Hz false x.natAbs),aI (d:Int)]:=fun w S vs hg hlt ha=>by
 obtain ⟨u,hu,h3⟩:=BI ha
 subst hu
 have hD:=Ll h3 hlt hn
 obtain ⟨xs,rfl,h4⟩:=h3
 obtain ⟨a,l1,rfl,q0,h5⟩:=h4.uncons
 obtain ⟨b,l2,rfl,q1,h6⟩:=h5.uncons
 obtain ⟨c,l3,rfl,q2,h7⟩:=h6.uncons
 rw [h7.unnil] at hD ⊢
 refine (Gm hD (aa _) hl).mono fun r w' ⟨nb,A,L,cc,e,he,hb⟩=>?_
 injection e with e
 have e2:=congrArg Array.toList e
 simp only [List.cons.injEq,and_true] at e2
 obtain ⟨rfl,rfl,rfl⟩:=e2
 refine ⟨_,he,⟨[_,_,_],rfl,.cons_ ?_ (.cons_ ?_ (.cons_ ?_ .nil_))⟩,hb⟩
 ·cases q0;exact Bh.val rfl
 ·have h8:Bh w (fun t b=>t=false∧S false b) (Hz false x.natAbs) (.slice A L cc):=Bh.free (fun b h=>⟨rfl,h⟩) q1 (.row fun d hd=>by obtain ⟨v,_,rfl⟩:=List.mem_map.1 hd;exact .val _)
  exact h8.mono (fun t b h=>⟨h.1,.inl h.2⟩) (fun t b h=>hb.block b (hlt _ _ h.2))
 ·exact Bh.val rfl
theorem VW (t t':Bool) (a b:Nat) (l1:(Ad a).length≤100000) (l2:(Ad b).length≤100000):CVF prog G 57 [.one (Hz t a),.one (Hz t' b)] [aI (sgI ((a:Int) - (b:Int)))]:=fun w S vs hg hlt ha=>by
 obtain ⟨v,vs',rfl,h1,ha⟩:=ha.uncons
 obtain ⟨u,hu,h2⟩:=BI ha
 subst hu
 exact (MJ (Ala h1 hlt) (Ala h2 hlt) l1 l2).mono fun r w' ⟨he,hb⟩=>⟨_,he,Bh.val rfl,hb⟩
end
theorem EK (t neg:Bool) (n d:Nat) (hl:(Ad n).length≤100000) (hd:d≤65536):CVF prog An 71 [aB neg,.one (Hz t n),aI (d:Int)] [aDy false (nf (sg neg n) d).1 (nf (sg neg n) d).2]:=fun w S vs hg hlt hv=>by
 obtain ⟨v,vs',rfl,q1,hv⟩:=hv.uncons
 obtain ⟨v2,vs',rfl,q2,hv⟩:=hv.uncons
 obtain ⟨u,hu,q3⟩:=BI hv
 subst hu
 cases q1
 cases q3
 exact (Eg (neg:=neg) (Ala q2 hlt) (aa _) hl hd hg).mono fun r w' ⟨v,he,hd,hb⟩=>⟨v,he,LZ hd,hb⟩
theorem VX (t:Bool) (ws:List Nat) (n i:Nat) (hn:n=ws.length) (hi:i≤1000000) (hl:ws.length≤1000000):CVF prog An 163 [.one (.row t 1 n (ws.map dW)),aI (i:Int)] [.one (dW (ws[i]?.getD 0))]:=fun w S vs hg hlt hv=>by
 obtain ⟨v,vs',rfl,q1,hv⟩:=hv.uncons
 obtain ⟨u,hu,q3⟩:=BI hv
 subst hu
 cases q3
 obtain ⟨A,c,rfl,h1,h3,h4,h5⟩:=Oo q1 hlt hn
 refine (Xj A ws c i w.heap.size w h4 hi hl).mono fun r w' ⟨he,hb⟩=>?_
 subst hb
 exact ⟨_,he,Bh.val rfl,ab _ _⟩
theorem Agk (x y c:Nat) (hx:x<4294967296) (hy:y<4294967296) (hc:c≤1):CVF prog An 164 [.one (dW x),.one (dW y),.one (dW c)] [.one (dW ((x+y+c) % 4294967296)),.one (dW ((x+y+c) / 4294967296))]:=fun w S vs hg hlt hv=>by
 obtain ⟨v,vs',rfl,q1,hv⟩:=hv.uncons
 obtain ⟨v2,vs',rfl,q2,hv⟩:=hv.uncons
 obtain ⟨u,hu,q3⟩:=BI hv
 subst hu
 cases q1
 cases q2
 cases q3
 refine (Tv x y c w hx hy hc).mono fun r w' ⟨he,hw⟩=>?_
 subst hw
 exact ⟨_,he,VP (Bh.val rfl) (Bh.val rfl),ab _ _⟩
theorem XR (n:Nat):Dg (Hz false n):=.row fun d hd=>by obtain ⟨v,_,rfl⟩:=List.mem_map.1 hd;exact .val _
theorem AH:TyS prog 112 126 1:=⟨underlying112,by kernel_rfl⟩
theorem Agl (h:p:=by
 exact Ax rfl (.cons_ (.tmp (.one (CA rfl fun _=>XR _))) .nil_)):p:=h
theorem Alb (h:p:=by
 refine ⟨_,_,Qu _ 1 ?_ ?_ ?_,_,by omega,k+1,_,_,by omega,rfl,hst,rfl,rfl⟩
 ·rfl
 ·exact mB rfl rfl
 ·exact ⟨Aii,trivial⟩):p:=h
theorem Arf (h:p:=by first|exact xIr AH (hp2)|exact xIr AH (hr2)|exact Fw (i:=i+k) rfl rfl rfl rfl (by omega) AH (by omega) (by decide)):p:=h
theorem Arg (h:p:=by first|exact Acr rfl rfl rfl rfl rfl Cr tl rfl|exact xS1 Cr|exact xSk Cr):p:=h
theorem ArY (h:p:=by first|exact Aij rfl rfl rfl hu Cr|exact xLd Cr):p:=h
theorem Alc (a b:Nat) (l1:(Ad a).length≤100000) (l2:(Ad b).length≤100000):CV prog An 230 [.one (Hz false a),.one (Hz false b)] [.one (Hz false (a*b))]:=by
 refine cvz func230 ntmps230 ?_
 have hax:=Az a
 have hay:=Az b
 repeat' (with_reducible first|refine qq ?_|(refine Tx 0 ?_;refine gO xA ?_)|(refine Tx 1 ?_;refine gO xM <| gO xN <| gO xM <| gO xN <| gO xAd <| gN (by first|exact Ok (n:=(Ad a).length+(Ad b).length) rfl rfl rfl (by omega) AH Eh (by omega) (by decide)|exact BP rfl rfl rfl AH Eh (by omega) (by decide)) <| gO xA ?_)|(refine Tx 2 ?_;refine gO xM <| gO xN <| gO xM ?_))
 refine Bi (BE 1) (Aq (fun n Fr H=>∃ (i:Nat) (o:List Nat),i≤(Ad a).length∧n=(Ad a).length - i∧Mb (Ad a) (Ad b) i o∧Fr=ofL [(0,vd (Hz false a)),(1,vd (Hz false b)),(5,vo 0 (((Ad a).length+(Ad b).length))),(17,vi ((Ad a).length)),(18,vi ((i:Nat)))]∧H=[.row 126 1 ((Ad a).length+(Ad b).length) (cW o)]) (n0:=(Ad a).length) ⟨0,(List.replicate ((Ad a).length+(Ad b).length) 0),ad _,rfl,Mb.start _ _,rfl,rfl⟩ ?_)
 rintro n Fr H ⟨i,o,hi,rfl,ho,rfl,rfl⟩
 by_cases hlt:i<(Ad a).length
 case pos =>
  obtain ⟨p,hp⟩:∃ p,(Ad a)[i]?=some p:=⟨_,gE hlt⟩
  have hpk:=hax p (gM hp)
  have hp2:=Uo hp
  repeat' (with_reducible first|refine qq ?_|(refine Tx 3 ?_;refine gO xLt ?_)|(refine Tx 4 ?_;refine gO xM <| gO xA ?_)|(refine Tx 5 ?_;refine gO xA ?_)|(refine Tx 6 ?_;refine gO xM <| gO xN <| gO xM ?_))
  refine Bi (BE 1) (Aq (fun n Fr H=>∃ (k:Nat) (q:List Nat) (c:Nat),k≤(Ad b).length∧n=(Ad b).length - k∧Uk (Ad b) o i p k q c∧Fr=ofL [(0,vd (Hz false a)),(1,vd (Hz false b)),(5,vo 0 (((Ad a).length+(Ad b).length))),(6,vi i),(17,vi ((Ad a).length)),(18,vi ((i:Nat))),(7,vd (.val (.int .u64 ((c:Nat):Int)))),(22,vi ((Ad b).length)),(23,vi ((k:Nat)))]∧H=[.row 126 1 ((Ad a).length+(Ad b).length) (cW q)]) (n0:=(Ad b).length) ⟨0,o,0,ad _,rfl,ho.enter,rfl,rfl⟩ ?_)
  rintro n Fr H ⟨k,q,c,hk,rfl,hq,rfl,rfl⟩
  by_cases hlt2:k<(Ad b).length
  case pos =>
   obtain ⟨r,hr⟩:∃ r,(Ad b)[k]?=some r:=⟨_,gE hlt2⟩
   have hrk:=hay r (gM hr)
   have hr2:=Uo hr
   have hql:=hq.len
   have hol:=ho.len
   obtain ⟨u,hu⟩:∃ u,q[i+k]?=some u:=⟨_,gE (by omega)⟩
   have hu2:=hq.ok u (gM hu)
   obtain ⟨f1,f2⟩:=hq.fit hpk hrk hu
   have hst:=hq.step hpk hay hr hu
   have m1:IntKind.wrap .u64 (p:Int)=(p:Int):=Ma (by omega) (by omega)
   have m2:IntKind.wrap .u64 (r:Int)=(r:Int):=Ma (by omega) (by omega)
   have m3:IntKind.wrap .u64 ((p:Int)*(r:Int))=((p*r:Nat):Int):=by rw [←jx];exact Ma (by omega) (by omega)
   have m4:IntKind.wrap .u64 (u:Int)=(u:Int):=Ma (by omega) (by omega)
   have m5:IntKind.wrap .u64 (((p*r:Nat):Int)+(u:Int))=((p*r+u:Nat):Int):=Ma (by omega) (by omega)
   have m6:IntKind.wrap .u64 (((p*r+u:Nat):Int)+(c:Int))=((c+(p*r+u):Nat):Int):=by rw [Ma (by omega) (by omega)];omega
   have m7:=So (c+(p*r+u))
   have tl:i+k<q.length:=by omega
   generalize hm:p*r+u=m at *
   repeat' (with_reducible first|refine qq ?_|(refine Tx 7 ?_;refine gO xLt ?_)|(refine Tx 8 ?_;refine gO xM <| gO xA ?_)|(refine BX (id:=9) AX (by kernel_rfl) ?_;refine gP xM <| gP xM <| gP Arf <| gP ArY <| gP (by first|exact EC rfl underlying126 underlying159 rfl m1|exact FI rfl underlying126 underlying159 rfl) <| gP xM <| gP xM <| gP Arf <| gP ArY <| gP (by first|exact EC rfl underlying126 underlying159 rfl m2|exact FI rfl underlying126 underlying159 rfl) <| gP (by first|exact AkS rfl rfl rfl m3|exact Ht rfl rfl rfl (by omega)) <| gP xM <| gP xM <| gP xM <| gP xAd <| gP Arf <| gP ArY <| gP (by first|exact EC rfl underlying126 underlying159 rfl m4|exact FI rfl underlying126 underlying159 rfl) <| gP (by first|exact Acs rfl rfl rfl m5|exact xAd) <| gP xM <| gP (by first|exact Acs rfl rfl rfl m6|exact xAd) <| gP xA ?_;refine Ke ?_)|(refine Tx 10 ?_;refine gO xM <| gO xM <| gO xM <| gO xAd <| gO xM <| gO (by first|exact EC rfl underlying159 underlying126 rfl m7|exact FI rfl underlying159 underlying126 rfl) <| gO Arf <| gZ Arg ?_)|(refine Tx 11 ?_;refine gO xM <| gO (by exact XQ rfl rfl rfl) <| gO xA ?_)|(refine Tx 12 ?_;refine gO xAd <| gO xM ?_))
   exact Alb
  obtain rfl:k=(Ad b).length:=by omega
  have hql:=hq.len
  have hol:=ho.len
  have hlv:=ho.leave hp hq
  have tl:i+(Ad b).length<q.length:=by omega
  have hck:=hq.car
  have m8:IntKind.wrap .u32 (c:Int)=(c:Int):=by rw [So,et hck]
  repeat' (with_reducible first|refine qq ?_|(refine Tx 7 ?_;refine gO xLt ?_)|(refine Tx 13 ?_;refine gO xM <| gO xM <| gO xM <| gO xN <| gO xAd <| gO xM <| gO (by first|exact EC rfl underlying159 underlying126 rfl m8|exact FI rfl underlying159 underlying126 rfl) <| gO (by exact Fw (i:=i+(Ad b).length) rfl rfl rfl rfl (by omega) AH (by omega) (by decide)) <| gZ Arg ?_)|(refine Tx 14 ?_;refine gO xAd <| gO xM ?_))
  refine ⟨_,_,BE 1,_,by omega,i+1,_,by omega,rfl,hlv,rfl,rfl⟩
 obtain rfl:i=(Ad a).length:=by omega
 have hv:=ho.val
 rw [ay,Au,Au] at hv
 have hol:=ho.len
 have TC:=Oq (G:=An) o ((Ad a).length+(Ad b).length) hol.symm ho.ok (by omega)
 rw [hv] at TC
 repeat' (with_reducible first|refine qq ?_|(refine Tx 3 ?_;refine gO xLt ?_))
 refine Bi (Pz (ds:=o.map dW) 5 0 rfl (by rw [←ArX];rfl)) ?_
 repeat' (with_reducible first|refine qq ?_|(refine Tx 15 ?_;refine gO xM <| gO (xCl func161 (TC)) <| gO xA ?_))
 exact Agl
theorem Sp {a b:Nat} (ha:(Ad a).length≤40000) (hb:(Ad b).length≤40000):(Ad (a*b)).length≤100000:=by
 have h1:=BO (Az a)
 have h2:=BO (Az b)
 rw [Au] at h1 h2
 refine lT (AY (k:=(Ad a).length+(Ad b).length) ?_) (by omega)
 rw [bd]
 exact Nat.mul_lt_mul'' h1 h2
theorem zh4j (h:p:=by first|exact xCl func69 (PX)|exact xCl func69 (PY)):p:=h
theorem FM (x:Int) (dx:Nat) (y:Int) (dy:Nat) (hnx:Nf x dx) (hny:Nf y dy) (lx:(Ad x.natAbs).length≤40000) (ly:(Ad y.natAbs).length≤40000) (hd:dx+dy≤65536):CV prog An 157 [aDy false x dx,aDy false y dy] [aDy false (Nd x dx y dy).1 (Nd x dx y dy).2]:=by
 refine cvz func157 ntmps157 ?_
 have PX:=Fz (G:=An) x dx hnx (lT lx (by decide))
 have PY:=Fz (G:=An) y dy hny (lT ly (by decide))
 have NM:=Alc x.natAbs y.natAbs (lT lx (by decide)) (lT ly (by decide))
 have hlm:(Ad (x.natAbs*y.natAbs)).length≤100000:=Sp lx ly
 have RS:=EK false (decide (x<0) != decide (y<0)) (x.natAbs*y.natAbs) (dx+dy) hlm hd
 rw [AkV] at RS
 have hdx:=hnx.1
 have hdy:=hny.1
 repeat' (with_reducible first|refine qq ?_|(refine Tx 0 ?_;refine gN xBo <| gN xBo <| gN (xAl Av) ?_)|(refine Tx 1 ?_;refine gO xL <| gO zh4j <| gO xMt <| gO xEx <| gO xEx <| gO xEx <| gO xA <| gO xA <| gO xA ?_)|(refine Tx 2 ?_;refine gO xL <| gO zh4j <| gO xMt <| gO xEx <| gO xEx <| gO xEx <| gO xA <| gO xA <| gO xA ?_)|(refine Tx 3 ?_;refine gO xM <| gO xM <| gO (by first|exact AkT rfl underlying4 rfl rfl|exact xNe) <| gO xM <| gO xM <| gO (xCl func230 (NM)) <| gO xM <| gO xM <| gO xAd <| gO (xCl func71 (RS.cv)) <| gZ (xSk Ae) ?_))
 exact Ax rfl (.cons_ (rvW Ae rfl) .nil_)
theorem VY {k:Nat} (h:o[k]?=some 0):Ay (o.set k u)=Ay o+u*4294967296 ^ k:=by
 have:=Ol (u:=u) h
 omega
structure Sq (a b:List Nat) (L k:Nat) (o:List Nat) (c:Nat):Prop where
 len:o.length=L
 ok:Ao o
 car:c≤1
 val:Ay o+c*4294967296 ^ k=Ay (a.take k)+Ay (b.take k)
 zero:∀ j,k≤j→j<L→o[j]?=some 0
theorem Ng (h:Ao a) (k:Nat):a[k]?.getD 0<4294967296:=by
 cases hx:a[k]? with
 | none=>decide
 | some x=>exact h x (gM hx)
theorem Ot (L:Nat):∀ j,0≤j→j<L→(List.replicate L 0)[j]?=some 0:=fun j _ h=>by simp [h]
theorem Sr (L:Nat):Ao (List.replicate L 0):=fun x hx=>by rw [(List.mem_replicate.1 hx).2];decide
theorem Sq.start (a b:List Nat) (L:Nat):Sq a b L 0 (List.replicate L 0) 0:=⟨by simp,Sr L,by decide,by rw [EG];simp [Ay],Ot L⟩
theorem Sq.step {L k:Nat} (h:Sq a b L k o c) (ha:Ao a) (hb:Ao b) (hk:k<L):Sq a b L (k+1) (o.set k ((a[k]?.getD 0+b[k]?.getD 0+c) % 4294967296)) ((a[k]?.getD 0+b[k]?.getD 0+c) / 4294967296):=by
 have x1:=Ng ha k
 have y1:=Ng hb k
 have hc:=h.car
 refine ⟨by rw [dp];exact h.len,FX h.ok (by omega),by omega,?_,fun j h1 h2=>by rw [bt,if_neg (by omega)];exact h.zero j (by omega) h2⟩
 rw [VY (h.zero k (aa _) hk),Bf,Bf,bi]
 have hv:=h.val
 generalize a[k]?.getD 0=x at *
 generalize b[k]?.getD 0=y at *
 have hd:=dn (x+y+c) 4294967296
 generalize (x+y+c) / 4294967296=q at *
 generalize (x+y+c) % 4294967296=r at *
 generalize 4294967296 ^ k=P at *
 have e:q*(P*4294967296)+r*P=(x+y+c)*P:=by rw [←hd,bh,ar P 4294967296,←au,ar q 4294967296]
 rw [bh,bh] at e
 rw [ar P x,ar P y]
 omega
theorem Sq.done (h:Sq a b (max a.length b.length+1) (max a.length b.length+1) o c) (ha:Ao a) (hb:Ao b):Ay o=Ay a+Ay b:=by
 have hv:=h.val
 rw [aq (by omega),aq (by omega)] at hv
 have h1:=BO ha
 have h2:=BO hb
 have p1:4294967296 ^ a.length≤4294967296 ^ (max a.length b.length):=ax (by decide) (by omega)
 have p2:4294967296 ^ b.length≤4294967296 ^ (max a.length b.length):=ax (by decide) (by omega)
 have hc:=h.car
 rw [bi] at hv
 rcases (show c=0∨c=1 by omega) with rfl|rfl <;> omega
structure Ss (a b:List Nat) (k:Nat) (o:List Nat) (c:Nat):Prop where
 len:o.length=a.length
 ok:Ao o
 car:c≤1
 val:Ay o+Ay (b.take k)=Ay (a.take k)+c*4294967296 ^ k
 zero:∀ j,k≤j→j<a.length→o[j]?=some 0
theorem Ss.start (a b:List Nat):Ss a b 0 (List.replicate a.length 0) 0:=⟨by simp,Sr _,by decide,by rw [EG];simp [Ay],Ot _⟩
def AaH (x y c:Nat):Nat:=if x<y+c then 1 else 0
theorem Ald (x y c:Nat):AaH x y c≤1:=by unfold AaH;split <;> omega
theorem Ss.step {k:Nat} {x:Nat} (h:Ss a b k o c) (ha:Ao a) (hb:Ao b) (hx:a[k]?=some x):Ss a b (k+1) (o.set k ((x+4294967296 - b[k]?.getD 0 - c) % 4294967296)) (AaH x (b[k]?.getD 0) c):=by
 have hk:=(gS.1 hx).1
 have x1:=ha x (gM hx)
 have y1:=Ng hb k
 have hc:=h.car
 refine ⟨by rw [dp];exact h.len,FX h.ok (by omega),Ald _ _ _,?_,fun j h1 h2=>by rw [bt,if_neg (by omega)];exact h.zero j (by omega) h2⟩
 rw [VY (h.zero k (aa _) hk),Bf,Bf,bi,hx,ci]
 have hv:=h.val
 generalize b[k]?.getD 0=y at *
 have hd:(x+4294967296 - y - c) % 4294967296+y+c=x+AaH x y c*4294967296:=by unfold AaH;split <;> omega
 generalize AaH x y c=q at *
 generalize (x+4294967296 - y - c) % 4294967296=r at *
 generalize 4294967296 ^ k=P at *
 have e:(r+y+c)*P=(x+q*4294967296)*P:=by rw [hd]
 rw [bh,bh,bh,au q 4294967296 P,ar 4294967296 P] at e
 rw [ar P x,ar P y]
 omega
theorem Ss.done (h:Ss a b a.length o c) (ha:Ao a) (hle:Ay b≤Ay a) (hl:b.length≤a.length):Ay o=Ay a - Ay b:=by
 have hv:=h.val
 rw [ay,aq hl] at hv
 have h1:=BO h.ok
 rw [h.len] at h1
 have hc:=h.car
 rcases (show c=0∨c=1 by omega) with rfl|rfl <;> omega
structure VZ (a:List Nat) (q r k:Nat) (o:List Nat):Prop where
 len:o.length=a.length+q+1
 ok:Ao o
 val:Ay o=Ay (a.take k)*(2 ^ r*4294967296 ^ q)
 top:∃ cy,o[q+k]?=some cy∧cy<2 ^ r
 zero:∀ j,q+k<j→j<a.length+q+1→o[j]?=some 0
theorem VZ.start (a:List Nat) (q r:Nat):VZ a q r 0 (List.replicate (a.length+q+1) 0):=⟨by simp,Sr _,by rw [EG];simp [Ay],⟨0,by rw [cr];exact Ot _ q (ad _) (by omega),bj r⟩,fun j _ h=>Ot _ j (ad _) h⟩
theorem VZ.step {q r k:Nat} {x cy:Nat} (h:VZ a q r k o) (ha:Ao a) (hr:r<32) (hx:a[k]?=some x) (hcy:o[q+k]?=some cy) (hlt:cy<2 ^ r) (hfit:cy+x*2 ^ r % 4294967296<4294967296) :
  VZ a q r (k+1) ((o.set (q+k) (cy+x*2 ^ r % 4294967296)).set (q+k+1) (x*2 ^ r / 4294967296)):=by
 have hk:=(gS.1 hx).1
 have x1:=ha x (gM hx)
 have hhi:x*2 ^ r / 4294967296<2 ^ r:=by
  rw [jj (by decide),ar (2 ^ r)]
  exact jm x1 (bj r)
 have h32:2 ^ r≤4294967296:=by rw [show (4294967296:Nat)=2 ^ 32 from rfl];exact ax (by decide) (by omega)
 refine ⟨by rw [dp,dp];exact h.len,FX (FX h.ok hfit) (by omega),?_,⟨_,by rw [show q+(k+1)=q+k+1 by omega,bt,if_pos rfl,if_pos (by rw [dp,h.len];omega)],hhi⟩,fun j h1 h2=>by rw [bt,if_neg (by omega),bt,if_neg (by omega)];exact h.zero j (by omega) h2⟩
 have e1:=Ol (u:=cy+x*2 ^ r % 4294967296) hcy
 have e2:Ay ((o.set (q+k) (cy+x*2 ^ r % 4294967296)).set (q+k+1) (x*2 ^ r / 4294967296))=_:=VY (by rw [bt,if_neg (by omega)];exact h.zero _ (by omega) (by omega))
 rw [e2,Bf,hx,ci,bh,←h.val,bi]
 have hd:=dn (x*2 ^ r) 4294967296
 have e3:4294967296 ^ k*x*(2 ^ r*4294967296 ^ q)=(x*2 ^ r)*4294967296 ^ (q+k):=by rw [bd];simp only [au,ar,Nat.mul_left_comm]
 rw [e3]
 generalize x*2 ^ r=t at *
 generalize t / 4294967296=u at *
 generalize t % 4294967296=l at *
 generalize 4294967296 ^ (q+k)=P at *
 have e4:u*(P*4294967296)+l*P=t*P:=by rw [←hd,bh,ar P 4294967296,←au,ar u 4294967296]
 rw [bh] at e1
 omega
theorem Ale (v:BitVec 32):v.toNat / 2147483648=if v.msb=true then 1 else 0:=by
 have h:=ma v
 have hl:=v.isLt
 rw [h]
 by_cases hc:2147483648≤v.toNat
 ·rw [if_pos (decide_eq_true hc)];omega
 ·rw [if_neg (by rw [decide_eq_true_eq];exact hc)];omega
theorem Acx (X Y D:BitVec 32) (x y c:Nat) (hx:X.toNat=x) (hy:Y.toNat=y) (hd:D.toNat=(x+4294967296 - y - c) % 4294967296) (hc:c≤1):((~~~X &&& Y) ||| (~~~(X ^^^ Y) &&& D)).toNat / 2147483648=AaH x y c:=by
 rw [Ale]
 have hX:=ma X
 have hY:=ma Y
 have hD:=ma D
 rw [hx] at hX
 rw [hy] at hY
 rw [hd] at hD
 have lx:=X.isLt
 have ly:=Y.isLt
 rw [hx] at lx
 rw [hy] at ly
 simp only [BitVec.msb_or,BitVec.msb_and,BitVec.msb_not,BitVec.msb_xor,hX,hY,hD]
 unfold AaH
 by_cases h1:2 ^ 31≤x <;> by_cases h2:2 ^ 31≤y <;> by_cases h3:2 ^ 31≤(x+4294967296 - y - c) % 4294967296
 all_goals
  simp only [Nat.reduceSub,h1,h2,h3,decide_true,decide_false]
  by_cases h4:x<y+c
  ·simp [h4]
   try omega
  ·simp [h4]
   try omega
def nB (v:BitVec 32):Int:=(v.toNat:Int)
theorem Nh (v:BitVec 32):BitVec.ofInt 32 (nB v)=v:=by
 unfold nB
 rw [BitVec.ofInt_natCast]
 exact BitVec.eq_of_toNat_eq (by rw [kn];exact et v.isLt)
theorem Wa (v:BitVec 32):IntKind.wrap .u32 ((v.toNat:Nat):Int)=nB v:=by
 have:=v.isLt
 rw [jl]
 unfold nB
 omega
theorem Aik (u v:BitVec 32):bits .and .u32 (nB u) (nB v)=nB (u &&& v):=by
 show IntKind.wrap .u32 (((BitVec.ofInt 32 (nB u) &&& BitVec.ofInt 32 (nB v)).toNat:Nat):Int)=_
 rw [Nh,Nh,Wa]
theorem ArZ (u v:BitVec 32):bits .or .u32 (nB u) (nB v)=nB (u ||| v):=by
 show IntKind.wrap .u32 (((BitVec.ofInt 32 (nB u) ||| BitVec.ofInt 32 (nB v)).toNat:Nat):Int)=_
 rw [Nh,Nh,Wa]
theorem Ail (u v:BitVec 32):bits .xor .u32 (nB u) (nB v)=nB (u ^^^ v):=by
 show IntKind.wrap .u32 (((BitVec.ofInt 32 (nB u) ^^^ BitVec.ofInt 32 (nB v)).toNat:Nat):Int)=_
 rw [Nh,Nh,Wa]
theorem Aim (v:BitVec 32):bits .xor .u32 IntKind.u32.max (nB v)=nB (~~~v):=by
 rw [show IntKind.u32.max=nB (BitVec.allOnes 32) from rfl,Ail,BitVec.allOnes_xor]
theorem Alf {x:Nat} (h:x<4294967296):((x:Nat):Int)=nB (BitVec.ofNat 32 x):=by
 unfold nB
 rw [kn,et h]
theorem Acy (x y c:Nat) (w:World) (hx:x<4294967296) (hy:y<4294967296) (hc:c≤1) :
  Calls prog 254 #[.int .u32 (x:Int),.int .u32 (y:Int),.int .u32 (c:Int)] w fun e w'=>e=.returned (.tuple #[.int .u32 (((x+4294967296 - y - c) % 4294967296:Nat):Int),.int .u32 ((AaH x y c:Nat):Int)])∧w=w':=by
 go_enter func254,ntmps254
 go_wp2_with fail
 refine bodyPost_ret (v:=.tuple #[.int .u32 (((x+4294967296 - y - c) % 4294967296:Nat):Int),.int .u32 ((AaH x y c:Nat):Int)]) ?_ rfl ⟨rfl,rfl⟩
 simp [results,results254,go_sem]
 refine ⟨by omega,?_⟩
 have hd:((x:Int) - (y:Int) - (c:Int)) % 4294967296=(((x+4294967296 - y - c) % 4294967296:Nat):Int):=by omega
 rw [hd,Alf hx,Alf hy,Alf (x:=(x+4294967296 - y - c) % 4294967296) (by omega),Aim,Aik,Ail,Aim,Aik,ArZ]
 have key:=Acx (BitVec.ofNat 32 x) (BitVec.ofNat 32 y) (BitVec.ofNat 32 ((x+4294967296 - y - c) % 4294967296)) x y c (by rw [kn,et hx]) (by rw [kn,et hy]) (by rw [kn];omega) hc
 rw [←key]
 rfl
theorem Agm (x y c:Nat) (hx:x<4294967296) (hy:y<4294967296) (hc:c≤1):CVF prog An 254 [.one (dW x),.one (dW y),.one (dW c)] [.one (dW ((x+4294967296 - y - c) % 4294967296)),.one (dW (AaH x y c))]:=fun w S vs hg hlt hv=>by
 obtain ⟨v,vs',rfl,q1,hv⟩:=hv.uncons
 obtain ⟨v2,vs',rfl,q2,hv⟩:=hv.uncons
 obtain ⟨u,hu,q3⟩:=BI hv
 subst hu
 cases q1
 cases q2
 cases q3
 refine (Acy x y c w hx hy hc).mono fun r w' ⟨he,hw⟩=>?_
 subst hw
 exact ⟨_,he,VP (Bh.val rfl) (Bh.val rfl),ab _ _⟩
section
variable {P:Program} {G:World→Prop} {o:Oper} {F:Frm} {H:List Ob}
theorem Alg {x:Operand} {p:Int} (ho:o.op=.binOp .or t x y t') (hx:F.ev x=.one (.d (.val (.int .u32 p)))) (hy:F.ev y=.one (.d (.val (.int .u32 q)))) (hr:bits .or .u32 p q=r):Bb P G o F H (.one (.d (.val (.int .u32 r)))) []:=by
 subst hr
 refine Dn ho hx hy (fun w=>?_) rfl
 simp [eqGuard,binOp,intBits_or]
theorem Alh {x:Operand} {k:IntKind} {p:Int} (ho:o.op=.binOp .shl t x y t') (hx:F.ev x=.one (.d (.val (.int k p)))) (hy:F.ev y=.one (.d (.val (.int k' (n:Int))))) (hn:n≤k.bits) (hr:k.wrap (p*2 ^ n)=r):Bb P G o F H (.one (.d (.val (.int k r)))) []:=by
 subst hr
 refine Dn ho hx hy (fun w=>?_) rfl
 have h1:¬ ((n:Int)<0):=by omega
 simp [eqGuard,binOp,Op.shift,h1,fv hn]
theorem Ali {x:Operand} {k:IntKind} {p:Int} (ho:o.op=.binOp .quo t x y t') (hx:F.ev x=.one (.d (.val (.int k p)))) (hy:F.ev y=.one (.d (.val (.int k q)))) (h0:q≠0) (hr:k.wrap (p.tdiv q)=r):Bb P G o F H (.one (.d (.val (.int k r)))) []:=hr ▸ AhX ho hx hy h0
theorem Alj {x:Operand} {k:IntKind} {p:Int} (ho:o.op=.binOp .rem t x y t') (hx:F.ev x=.one (.d (.val (.int k p)))) (hy:F.ev y=.one (.d (.val (.int k q)))) (h0:q≠0) (hr:p.tmod q=r):Bb P G o F H (.one (.d (.val (.int k r)))) []:=hr ▸ AhY ho hx hy h0
end
theorem AoM (h:p:=by
 rw [hv] at TC
 repeat' (with_reducible first|refine qq ?_|(refine Tx 4 ?_;refine gO xLt ?_))
 refine Bi (Pz (ds:=o.map dW) 5 0 rfl (by rw [←ArX];rfl)) ?_
 repeat' (with_reducible first|refine qq ?_|(refine Tx 8 ?_;refine gO xM <| gO (xCl func161 (TC)) <| gO xA ?_))
 exact Ax rfl (.cons_ (.tmp (.one (CA rfl fun _=>XR _))) .nil_)):p:=h
theorem zh5j (h:p:=by first|exact xCl func163 (A1.cv)|exact xCl func163 (A2.cv)):p:=h
theorem Alk (a b:Nat) (l1:(Ad a).length≤200000) (l2:(Ad b).length≤200000):CV prog An 73 [.one (Hz false a),.one (Hz false b)] [.one (Hz false (a+b))]:=by
 refine cvz func73 ntmps73 ?_
 have ha:=Az a
 have hb:=Az b
 repeat' (with_reducible first|refine qq ?_|(refine Tx 0 ?_;refine gO xA ?_)|(refine Tx 1 ?_;refine gO xM <| gO xN <| gO xM <| gO xN <| gO (by exact GI rfl rfl rfl) <| gO xAd <| gN (by first|exact Ok (n:=(max (Ad a).length (Ad b).length+1)) rfl rfl rfl (by omega) AH Eh (by omega) (by decide)|exact BP rfl rfl rfl AH Eh (by omega) (by decide)) <| gO xA ?_)|(refine Tx 2 ?_;refine gO xA ?_)|(refine Tx 3 ?_;refine gO xM <| gO xN <| gO xM ?_))
 refine Bi (BE 1) (Aq (fun n Fr H=>∃ (k:Nat) (o:List Nat) (c:Nat),k≤(max (Ad a).length (Ad b).length+1)∧n=(max (Ad a).length (Ad b).length+1) - k∧Sq (Ad a) (Ad b) (max (Ad a).length (Ad b).length+1) k o c∧Fr=ofL [(0,vd (Hz false a)),(1,vd (Hz false b)),(5,vo 0 ((max (Ad a).length (Ad b).length+1))),(6,vd (dW c)),(16,vi ((max (Ad a).length (Ad b).length+1))),(17,vi ((k:Nat)))]∧H=[.row 126 1 (max (Ad a).length (Ad b).length+1) (cW o)]) (n0:=(max (Ad a).length (Ad b).length+1)) ⟨0,(List.replicate (max (Ad a).length (Ad b).length+1) 0),0,ad _,rfl,Sq.start _ _ _,rfl,rfl⟩ ?_)
 rintro n Fr H ⟨k,o,c,hk,rfl,ho,rfl,rfl⟩
 by_cases hlt:k<(max (Ad a).length (Ad b).length+1)
 case pos =>
  have hst:=ho.step ha hb hlt
  have hol:=ho.len
  have A1:=VX false (Ad a) (Ad a).length k rfl (by omega) (by omega)
  have A2:=VX false (Ad b) (Ad b).length k rfl (by omega) (by omega)
  rw [←Acv] at A1 A2
  have AD:=Agk ((Ad a)[k]?.getD 0) ((Ad b)[k]?.getD 0) c (Ng ha k) (Ng hb k) ho.car
  have tl:k<o.length:=by omega
  generalize (Ad a)[k]?.getD 0=x at *
  generalize (Ad b)[k]?.getD 0=y at *
  generalize (x+y+c) % 4294967296=r at *
  generalize (x+y+c) / 4294967296=q at *
  repeat' (with_reducible first|refine qq ?_|(refine Tx 4 ?_;refine gO xLt ?_)|(refine Tx 5 ?_;refine gO xM <| gO xA ?_)|(refine Tx 6 ?_;refine gO xM <| gO xM <| gO xM <| gO xM <| gO zh5j <| gO xM <| gO xM <| gO zh5j <| gO xM <| gO (xCl func164 (AD.cv)) <| gO xMt <| gO xEx <| gO xEx <| gO (xIo (i:=k) AH) <| gZ Arg <| gO xA ?_)|(refine Tx 7 ?_;refine gO xAd <| gO xM ?_))
  exact Alb
 obtain rfl:k=(max (Ad a).length (Ad b).length+1):=by omega
 have hv:=ho.done ha hb
 rw [Au,Au] at hv
 have hol:=ho.len
 have TC:=Oq (G:=An) o (max (Ad a).length (Ad b).length+1) hol.symm ho.ok (by omega)
 exact AoM
theorem zh6j (h:p:=by first|exact xIr AH (hx2)|exact xIo (i:=k) AH):p:=h
theorem Acz (a b:Nat) (hle:b≤a) (l1:(Ad a).length≤200000):CV prog An 229 [.one (Hz false a),.one (Hz false b)] [.one (Hz false (a - b))]:=by
 refine cvz func229 ntmps229 ?_
 have ha:=Az a
 have hb:=Az b
 have hlb:(Ad b).length≤(Ad a).length:=AZ hle
 repeat' (with_reducible first|refine qq ?_|(refine Tx 0 ?_;refine gO xA ?_)|(refine Tx 1 ?_;refine gO xM <| gO xN <| gN (by first|exact Ok (n:=(Ad a).length) rfl rfl rfl rfl AH Eh (by omega) (by decide)|exact BP rfl rfl rfl AH Eh (by omega) (by decide)) <| gO xA ?_)|(refine Tx 2 ?_;refine gO xA ?_)|(refine Tx 3 ?_;refine gO xM <| gO xN <| gO xM ?_))
 refine Bi (BE 1) (Aq (fun n Fr H=>∃ (k:Nat) (o:List Nat) (c:Nat),k≤(Ad a).length∧n=(Ad a).length - k∧Ss (Ad a) (Ad b) k o c∧Fr=ofL [(0,vd (Hz false a)),(1,vd (Hz false b)),(5,vo 0 ((Ad a).length)),(6,vd (dW c)),(12,vi ((Ad a).length)),(13,vi ((k:Nat)))]∧H=[.row 126 1 (Ad a).length (cW o)]) (n0:=(Ad a).length) ⟨0,(List.replicate (Ad a).length 0),0,ad _,rfl,Ss.start _ _,rfl,rfl⟩ ?_)
 rintro n Fr H ⟨k,o,c,hk,rfl,ho,rfl,rfl⟩
 by_cases hlt:k<(Ad a).length
 case pos =>
  obtain ⟨x,hx⟩:∃ x,(Ad a)[k]?=some x:=⟨_,gE hlt⟩
  have hx1:=ha x (gM hx)
  have hx2:=Uo hx
  have hst:=ho.step ha hb hx
  have hol:=ho.len
  have A2:=VX false (Ad b) (Ad b).length k rfl (by omega) (by omega)
  rw [←Acv] at A2
  have SB:=Agm x ((Ad b)[k]?.getD 0) c hx1 (Ng hb k) ho.car
  have tl:k<o.length:=by omega
  generalize (Ad b)[k]?.getD 0=y at *
  generalize (x+4294967296 - y - c) % 4294967296=r at *
  generalize AaH x y c=q at *
  repeat' (with_reducible first|refine qq ?_|(refine Tx 4 ?_;refine gO xLt ?_)|(refine Tx 5 ?_;refine gO xM <| gO xA ?_)|(refine Hu (id:=6) 15 [(15,13)] AX (by kernel_rfl) ?_;dsimp only [List.take,List.drop];refine gP xM <| gP xM <| gP xM <| gP xM <| gP zh6j <| gP xD <| gP xM <| gP xM <| gP (xCl func163 (A2.cv)) <| gP xM <| gP (xCl func254 (SB.cv)) <| gP xMt <| gP xEx <| gP xEx <| gP zh6j ?_;refine Ke ?_;refine gZ Arg <| gO xA ?_)|(refine Tx 7 ?_;refine gO xAd <| gO xM ?_))
  exact Alb
 obtain rfl:k=(Ad a).length:=by omega
 have hv:=ho.done ha (by rw [Au,Au];exact hle) hlb
 rw [Au,Au] at hv
 have hol:=ho.len
 have TC:=Oq (G:=An) o (Ad a).length hol.symm ho.ok (by omega)
 exact AoM
theorem All {p':Prop} (k:p') (h:Hd9 p'→p:=by with_reducible first|(intro Z9;refine Tx 0 ?_;refine gO xA ?_;exact Z9.o)|(intro Z9;refine Tx 1 ?_;refine gO xM <| gO xEq <| gO xM ?_;(first|iterate 3 refine Jd ?_|(refine Jy xM1 ?_;refine Jy (xLn AH) ?_;refine Jy xEq ?_));refine gO xPk ?_;exact Z9.o)|fail):p:=h ⟨k⟩
theorem Arh (h:p:=by first|exact xIr AH (hx2)|exact Fw (i:=q+k) rfl rfl rfl rfl (by omega) AH (by omega) (by decide)|exact Fw (i:=q+k+1) rfl rfl rfl rfl (by omega) AH (by omega) (by decide)):p:=h
theorem zh8j (h:p:=by first|exact Acr rfl rfl rfl rfl rfl Cr tl rfl|exact Acr rfl rfl rfl rfl rfl Cr tl2 rfl|exact xS1 Cr|exact xSk Cr):p:=h
theorem zh9j (h:p:=by first|exact Aij rfl rfl rfl hcy Cr|exact xLd Cr):p:=h
theorem XS (a n:Nat) (l1:(Ad a).length≤200000) (ln:n≤1000000):CV prog An 70 [.one (Hz false a),aI (n:Int)] [.one (Hz false (a*2 ^ n))]:=by
 refine cvz func70 ntmps70 ?_
 have ha:=Az a
 by_cases h0:n=0
 case pos =>
  subst h0
  rw [Nat.pow_zero,cq]
  repeat' (with_reducible first|refine qq ?_|refine All ?_|(refine Tx 2 ?_;refine gO xM <| gO xA ?_))
  exact Agl
 by_cases h1:(Ad a).length=0
 case pos =>
  have ha0:a=0:=cw fun h=>by have:=CO h;omega
  subst ha0
  rw [gx]
  have h1i:((Ad 0).length:Int)=0:=by omega
  repeat' (with_reducible first|refine qq ?_|refine All ?_|(refine Tx 2 ?_;refine gO xM <| gO xA ?_))
  exact Agl
 obtain ⟨q,r,hn,hr⟩:∃ q r,n=32*q+r∧r<32:=⟨n / 32,n % 32,by omega,by omega⟩
 have hq:IntKind.wrap .i64 ((n:Int).tdiv 32)=(q:Int):=by rw [Int.tdiv_eq_ediv_of_nonneg (by omega)];rw [show (n:Int) / 32=(q:Int) by omega];rw [iu];omega
 have hm:(n:Int).tmod 32=(r:Int):=by rw [Int.tmod_eq_emod_of_nonneg (by omega)];omega
 have hmw:IntKind.wrap .u64 (r:Int)=(r:Int):=Ma (by omega) (by omega)
 repeat' (with_reducible first|refine qq ?_|refine All ?_|(refine Tx 3 ?_;refine gO xM <| gO (by first|exact Ali rfl rfl rfl (by decide) hq|exact AhX rfl rfl rfl (by omega)) <| gO xM <| gO (by first|exact Alj rfl rfl rfl (by decide) hm|exact AhY rfl rfl rfl (by omega)) <| gO (by first|exact EC rfl underlying3 underlying160 rfl hmw|exact FI rfl underlying3 underlying160 rfl) <| gO xA <| gO xA ?_)|(refine Tx 4 ?_;refine gO xM <| gO xN <| gO xM <| gO xAd <| gO xAd <| gN (by first|exact Ok (n:=((Ad a).length+q+1)) rfl rfl rfl (by omega) AH Eh (by omega) (by decide)|exact BP rfl rfl rfl AH Eh (by omega) (by decide)) <| gO xA ?_)|(refine Tx 5 ?_;refine gO xM <| gO xN <| gO xM ?_))
 refine Bi (BE 1) (Aq (fun n Fr H=>∃ (k:Nat) (o:List Nat),k≤(Ad a).length∧n=(Ad a).length - k∧VZ (Ad a) q r k o∧Fr=ofL [(5,vi q),(6,vd (.val (.int .u64 (r:Int)))),(7,vo 0 (((Ad a).length+q+1))),(30,vd (Hz false a)),(31,vi ((Ad a).length)),(32,vi ((k:Nat)))]∧H=[.row 126 1 ((Ad a).length+q+1) (cW o)]) (n0:=(Ad a).length) ⟨0,(List.replicate ((Ad a).length+q+1) 0),ad _,rfl,VZ.start _ _ _,rfl,rfl⟩ ?_)
 rintro nn Fr H ⟨k,o,hk,rfl,ho,rfl,rfl⟩
 by_cases hlt:k<(Ad a).length
 case pos =>
  obtain ⟨x,hx⟩:∃ x,(Ad a)[k]?=some x:=⟨_,gE hlt⟩
  have hx1:=ha x (gM hx)
  have hx2:=Uo hx
  obtain ⟨cy,hcy,hcl⟩:=ho.top
  have hol:=ho.len
  obtain ⟨hor,hfit⟩:=Xk (l:=x*2 ^ r % 4294967296) hcl (ew _ (by decide)) (iq hr) (AhT (iq hr))
  have hst:=ho.step ha hr hx hcy hcl hfit
  have h32:2 ^ r≤2147483648:=by rw [show (2147483648:Nat)=2 ^ 31 from rfl];exact ax (by decide) (by omega)
  have hxm:x*2 ^ r≤4294967295*2147483648:=dw (by omega) h32
  have w1:IntKind.wrap .u64 (x:Int)=(x:Int):=Ma (by omega) (by omega)
  have w2:IntKind.wrap .u64 ((x:Int)*2 ^ r)=((x*2 ^ r:Nat):Int):=by rw [show ((x:Int)*2 ^ r)=((x*2 ^ r:Nat):Int) by push_cast;rfl];exact Ma (by omega) (by omega)
  have w3:=So (x*2 ^ r)
  have w4:IntKind.wrap .u32 ((x*2 ^ r / 4294967296:Nat):Int)=((x*2 ^ r / 4294967296:Nat):Int):=by rw [So,et (by omega)]
  have tl:q+k<o.length:=by omega
  have tl2:q+k+1<(o.set (q+k) (cy+x*2 ^ r % 4294967296)).length:=by rw [dp];omega
  generalize x*2 ^ r=t at *
  repeat' (with_reducible first|refine qq ?_|(refine Tx 6 ?_;refine gO xLt ?_)|(refine Tx 7 ?_;refine gO xM <| gO Arh <| gO zh9j <| gO xA <| gO xA ?_)|(refine Tx 8 ?_;refine gO xM <| gO (by first|exact EC rfl underlying126 underlying159 rfl w1|exact FI rfl underlying126 underlying159 rfl) <| gO xM <| gO (by exact Alh rfl rfl rfl (lT (iq hr) (by decide)) w2) <| gO xA ?_)|(refine Tx 9 ?_;refine gO xM <| gO xM <| gO xM <| gO xAd <| gO Arh <| gO zh9j <| gO xM <| gO (by first|exact EC rfl underlying159 underlying126 rfl w3|exact FI rfl underlying159 underlying126 rfl) <| gO (by exact Alg rfl rfl rfl hor) <| gO Arh <| gZ zh8j ?_)|(refine Tx 10 ?_;refine gO xM <| gO xM <| gO xM <| gO xAd <| gO xAd <| gO xM <| gO (by exact XQ rfl rfl rfl) <| gO (by first|exact EC rfl underlying159 underlying126 rfl w4|exact FI rfl underlying159 underlying126 rfl) <| gO Arh <| gZ zh8j ?_)|(refine Tx 11 ?_;refine gO xAd <| gO xM ?_))
  refine ⟨_,_,BE 1,_,by omega,k+1,_,by omega,rfl,hst,rfl,rfl⟩
 obtain rfl:k=(Ad a).length:=by omega
 have hv:=ho.val
 rw [ay,Au] at hv
 have hv2:Ay o=a*2 ^ n:=by rw [hv,hn,bd,ee,ar (2 ^ r)]
 have hol:=ho.len
 have TC:=Oq (G:=An) o ((Ad a).length+q+1) hol.symm ho.ok (by omega)
 rw [hv2] at TC
 repeat' (with_reducible first|refine qq ?_|(refine Tx 6 ?_;refine gO xLt ?_))
 refine Bi (Pz (ds:=o.map dW) 7 0 rfl (by rw [←ArX];rfl)) ?_
 repeat' (with_reducible first|refine qq ?_|(refine Tx 12 ?_;refine gO xM <| gO (xCl func161 (TC)) <| gO xA ?_))
 exact Agl
open Go.ChangeShapes Go.WideShapes Go.ChangeAt Go.Joins Go.Deep
structure Rw where
 nb:Bool
 A:Option Addr
 ws:List Nat
 cap:Nat
 den:Int
def Rw.cells (r:Rw):List Value:=[.bool r.nb,.slice r.A r.ws.length r.cap,.int .i64 r.den]
def Rw.val (r:Rw):Value:=.agg #[.bool r.nb,.slice r.A r.ws.length r.cap,.int .i64 r.den]
def rw0:Rw:=⟨false,none,[],0,0⟩
instance:Inhabited Rw:=⟨rw0⟩
structure Alm (w:World) (m:Nat) (r:Rw):Prop where
 nul:r.A=none→r.cap=0
 fit:r.ws.length≤r.cap
 at_:Al w m r.A (w32 r.ws)
 ok:Ao r.ws
def vdP (r:Rw):Prop:=if r.ws.length=0 then r.nb=false∧r.den=0 else r.ws[r.ws.length - 1]?.getD 0≠0∧0≤r.den∧r.den≤65536∧(r.den=0∨r.ws[0]?.getD 0 % 2=1)
instance (r:Rw):Decidable (vdP r):=by unfold vdP;infer_instance
def vdB (r:Rw):Bool:=decide (vdP r)
def Rw.x (r:Rw):Int:=sg r.nb (Ay r.ws)
def Rw.d (r:Rw):Nat:=r.den.toNat
theorem Agn {r:Rw} (h:r.ws.length=0):vdP r ↔ r.nb=false∧r.den=0:=by unfold vdP;rw [if_pos h]
theorem AcA {r:Rw} (h:¬ r.ws.length=0):vdP r ↔ r.ws[r.ws.length - 1]?.getD 0≠0∧0≤r.den∧r.den≤65536∧(r.den=0∨r.ws[0]?.getD 0 % 2=1):=by unfold vdP;rw [if_neg h]
theorem Re {r:Rw} (h:vdP r):vdB r=true:=decide_eq_true h
theorem Im {r:Rw} (h:¬ vdP r):vdB r=false:=decide_eq_false h
theorem Ago {r:Rw} (hok:Ao r.ws) (h:vdB r=true):Ad (Ay r.ws)=r.ws:=by
 have h:=of_decide_eq_true h
 refine QG hok fun hne=>?_
 have hl:¬ r.ws.length=0:=fun h0=>hne (bw h0)
 exact ((AcA hl).1 h).1
theorem Aln (r:Rw):r.x.natAbs=Ay r.ws:=Iw _ _
structure Iv where
 lo:Rw
 hi:Rw
def Iv.cells (a:Iv):List Value:=[.bool a.lo.nb,.slice a.lo.A a.lo.ws.length a.lo.cap,.int .i64 a.lo.den,.bool a.hi.nb,.slice a.hi.A a.hi.ws.length a.hi.cap,.int .i64 a.hi.den]
def iv0:Iv:=⟨rw0,rw0⟩
instance:Inhabited Iv:=⟨iv0⟩
structure IvAt (w:World) (m:Nat) (a:Iv):Prop where
 lo:Alm w m a.lo
 hi:Alm w m a.hi
def ivP (a:Iv):Prop:=vdB a.lo=true∧vdB a.hi=true∧AaF a.lo.x a.lo.d a.hi.x a.hi.d≤0
instance (a:Iv):Decidable (ivP a):=by unfold ivP;infer_instance
/- What came in. -/
set_option maxRecDepth 100000
section
variable {H:Type} {enc:TypeId × Value→H} {w:World} {spare:Nat→Bool} {held:Bool}
theorem Su {x:DataW H × List MemPlace} (h:DataW.trod enc prog w 0 spare held fuel 41 [v]=some x) :
  ∃ (A:Option Addr) (cap:Nat) (ws:List Nat),v=.slice A ws.length cap∧(A=none→cap=0)∧ws.length≤cap∧ws.length≤maxLen∧Al w w.heap.size A (w32 ws)∧Ao ws:=by
 rcases open_ints underlying41 underlying126 (by kernel_rfl) h with ⟨hcs,_⟩|⟨a,len,cap,zs,hcs,_,hl,hm,hz,_,hcell,hwz⟩
 ·exact ⟨none,0,[],by simpa using hcs,fun _=>rfl,aa _,ad _,Al.nil_,fun _ h=>by cases h⟩
 ·have hle:len≤zs.length:=by rw [hz];split <;> omega
  have hlen:((zs.take len).map Int.toNat).length=len:=by simp;omega
  have hpos:∀ z∈zs,0≤z∧z≤4294967295:=fun z hz=>bounds_u32 (hwz z hz)
  refine ⟨some a,cap,(zs.take len).map Int.toNat,by rw [hlen];simpa using hcs,by simp,by omega,by omega,fun hx=>?_,fun y hy=>?_⟩
  ·have hp:0<len:=by
    rcases cn len with h0|h0
    ·subst h0;simp [w32] at hx
    ·exact h0
   obtain ⟨b,off,rfl,hcell'⟩:=ints_at hcell (by omega)
   have h0:=hcell' 0 (by omega)
   have hb:b<w.heap.size:=by
    rcases ba b w.heap.size with h|h
    ·exact h
    ·simp [World.cell?,ep h] at h0
   refine ⟨b,off,rfl,hb,hb,fun j u hu=>?_⟩
   have hj:j<len:=by
    have:=(gS.1 hu).1
    rw [OB,hlen] at this
    exact this
   have hjz:j<zs.length:=by omega
   rw [hcell' j hjz]
   simp only [w32,ag,bq,if_pos hj,gE hjz,bu,Option.some.injEq] at hu
   rw [←hu]
   have:=(hpos zs[j] (fu hjz)).1
   simp only [List.getD,gE hjz,ci]
   rw [mb this]
  ·obtain ⟨z,hz1,rfl⟩:=List.mem_map.1 hy
   have:=hpos z (dj hz1)
   omega
theorem AcB {cs:List Value} {x:DataW H × List MemPlace} (h:DataW.trod enc prog w 0 spare held fuel 43 cs=some x) :
  ∃ r:Rw,cs=r.cells∧Alm w w.heap.size r∧r.ws.length≤maxLen ∧ -9223372036854775808≤r.den∧r.den≤9223372036854775807:=by
 obtain ⟨xs,n,_,_,hlen,hxl,hg⟩:=lr underlying43 h
 have hl3:cs.length=3:=hlen.trans (by kernel_rfl)
 match cs,hl3 with
 | [c0,c1,c2],_ =>
  have k1:prog.cellsOf 4=1:=by kernel_rfl
  have k2:prog.cellsOf 41=1:=by kernel_rfl
  have k3:prog.cellsOf 3=1:=by kernel_rfl
  have hx3:xs.length=3:=hxl
  match xs,hx3 with
  | [x0,x1,x2],_ =>
   have g0:DataW.trod enc prog w 0 spare held n 4 (([c0,c1,c2].drop 0).take (prog.cellsOf 4))=some x0:=hg 0 _ rfl
   have g1:DataW.trod enc prog w 0 spare held n 41 (([c0,c1,c2].drop 1).take (prog.cellsOf 41))=some x1:=hg 1 _ rfl
   have g2:DataW.trod enc prog w 0 spare held n 3 (([c0,c1,c2].drop 2).take (prog.cellsOf 3))=some x2:=hg 2 _ rfl
   rw [k1] at g0
   rw [k2] at g1
   rw [k3] at g2
   obtain ⟨nb,hn,_⟩:=DataW.trod_bool underlying4 g0
   obtain ⟨A,cap,ws,ha,hA0,hc1,hc2,hc3,hc4⟩:=Su g1
   obtain ⟨den,hd,_,hdb⟩:=DataW.trod_int underlying3 g2
   have e0:[c0]=[Value.bool nb]:=hn
   have e2:[c2]=[Value.int .i64 den]:=hd
   simp only [List.cons.injEq,and_true] at e0 e2
   refine ⟨⟨nb,A,ws,cap,den⟩,?_,⟨hA0,hc1,hc3,hc4⟩,hc2,bounds_i64 hdb⟩
   rw [e0,ha,e2]
   rfl
theorem AoN {cs:List Value} {x:DataW H × List MemPlace} (h:DataW.trod enc prog w 0 spare held fuel 45 cs=some x) :
  ∃ a:Iv,cs=a.cells∧IvAt w w.heap.size a∧a.lo.ws.length≤maxLen∧a.hi.ws.length≤maxLen∧(-9223372036854775808≤a.lo.den∧a.lo.den≤9223372036854775807) ∧ -9223372036854775808≤a.hi.den∧a.hi.den≤9223372036854775807:=by
 obtain ⟨xs,n,_,_,hlen,hxl,hg⟩:=lr underlying45 h
 have hl6:cs.length=6:=hlen.trans (by kernel_rfl)
 match cs,hl6 with
 | [c0,c1,c2,c3,c4,c5],_ =>
  have k1:prog.cellsOf 43=3:=by kernel_rfl
  have hx2:xs.length=2:=hxl
  match xs,hx2 with
  | [x0,x1],_ =>
   have g0:DataW.trod enc prog w 0 spare held n 43 (([c0,c1,c2,c3,c4,c5].drop 0).take (prog.cellsOf 43))=some x0:=hg 0 _ rfl
   have g1:DataW.trod enc prog w 0 spare held n 43 (([c0,c1,c2,c3,c4,c5].drop 3).take (prog.cellsOf 43))=some x1:=hg 1 _ rfl
   rw [k1] at g0 g1
   obtain ⟨r,hr,h1,h2,h3⟩:=AcB g0
   obtain ⟨s,hs,h4,h5,h6⟩:=AcB g1
   have e0:[c0,c1,c2]=r.cells:=hr
   have e1:[c3,c4,c5]=s.cells:=hs
   simp only [Rw.cells,List.cons.injEq,and_true] at e0 e1
   refine ⟨⟨r,s⟩,?_,⟨h1,h4⟩,h2,h5,h3,h6⟩
   rw [e0.1,e0.2.1,e0.2.2,e1.1,e1.2.1,e1.2.2]
   rfl
end
theorem Fj (h:p:=by
  go_wp2_with fail
  all_goals first
    | (exfalso;omega)
    | (go_ret
       exact ⟨by rw [HV.out];rfl,al_ _ _⟩)):p:=h
theorem ZC (r:Rw) (m:Nat) (w:World) (hm:m≤w.heap.size) (h:Alm w m r) (hl:r.ws.length≤1000000) :
  Calls prog 123 #[r.val] w fun e w'=>e=.returned (.bool (vdB r))∧Below w.heap.size w w':=by
 have hat:=h.at_
 have hok:=h.ok
 obtain ⟨nb,A,ws,cap,den⟩:=r
 dsimp only at hat hok hl
 simp only [Rw.val]
 have key:den<0∨den=0∨(0<den∧den≤65536)∨65536<den:=by omega
 by_cases h0:ws.length=0
 ·have hp:=Agn (r:=⟨nb,A,ws,cap,den⟩) h0
  dsimp only at hp
  have hz:(ws.length:Int)=0:=by omega
  have hzb:((ws.length:Int) == 0)=true:=by rw [hz];rfl
  rw [h0] at hzb ⊢
  clear hat hok hl h hz h0
  cases nb with
  | true =>
   rcases key with k1|k1|k1|k1
   all_goals
    have HV:=mo (show vdB ⟨true,A,ws,cap,den⟩=false from Im (fun hv=>by have:=(hp.1 hv).1;cases this))
    clear hp
    go_enter func123,ntmps123
    exact Fj
  | false =>
   rcases key with k1|k1|k1|k1
   ·have d0:(den == 0)=false:=by rw [beq_eq_false_iff_ne];omega
    have HV:=mo (show vdB ⟨false,A,ws,cap,den⟩=false from Im (fun hv=>by have:=(hp.1 hv).2;omega))
    clear hp
    go_enter func123,ntmps123
    exact Fj
   ·have d0:(den == 0)=true:=by simp;omega
    have HV:=mo (show vdB ⟨false,A,ws,cap,den⟩=true from Re (hp.2 ⟨rfl,k1⟩))
    clear hp
    go_enter func123,ntmps123
    exact Fj
   ·have d0:(den == 0)=false:=by rw [beq_eq_false_iff_ne];omega
    have HV:=mo (show vdB ⟨false,A,ws,cap,den⟩=false from Im (fun hv=>by have:=(hp.1 hv).2;omega))
    clear hp
    go_enter func123,ntmps123
    exact Fj
   ·have d0:(den == 0)=false:=by rw [beq_eq_false_iff_ne];omega
    have HV:=mo (show vdB ⟨false,A,ws,cap,den⟩=false from Im (fun hv=>by have:=(hp.1 hv).2;omega))
    clear hp
    go_enter func123,ntmps123
    exact Fj
 ·have hp:=AcA (r:=⟨nb,A,ws,cap,den⟩) h0
  dsimp only at hp
  obtain ⟨b,off,z,hA,q1,q2,hz,g1⟩:=hat.w32_ (k:=ws.length - 1) (by omega)
  subst hA
  obtain ⟨b',off',y,hA',_,_,hy,g0⟩:=hat.w32_ (k:=0) (by omega)
  cases hA'
  rw [cr] at g0
  obtain ⟨L,hL⟩:∃ L,L=ws.length - 1:=⟨_,rfl⟩
  have hlen:ws.length=L+1:=by omega
  have hl':L≤1000000:=by omega
  have e0:((L:Int)+1 == 0)=false:=by simp;omega
  rw [←hL] at g1
  rw [hz,hy] at hp
  simp only [ci] at hp
  rw [hlen]
  clear hat hok hl h hz hy hL q1 q2 h0 hlen
  by_cases hz0:z=0
  ·subst hz0
   have hzb:(((0:Nat):Int) != 0)=false:=by rfl
   rcases key with k1|k1|k1|k1
   all_goals
    have HV:=mo (show vdB ⟨nb,some ⟨b,off,none⟩,ws,cap,den⟩=false from Im (fun hv=>(hp.1 hv).1 rfl))
    clear hp
    go_enter func123,ntmps123
    exact Fj
  ·have hzb:((z:Int) != 0)=true:=by simp;omega
   rcases key with k1|k1|k1|k1
   ·have HV:=mo (show vdB ⟨nb,some ⟨b,off,none⟩,ws,cap,den⟩=false from Im (fun hv=>by have:=(hp.1 hv).2.1;omega))
    clear hp
    go_enter func123,ntmps123
    exact Fj
   ·have d0:(den == 0)=true:=by simp;omega
    have HV:=mo (show vdB ⟨nb,some ⟨b,off,none⟩,ws,cap,den⟩=true from Re (hp.2 ⟨hz0,by omega,by omega,.inl k1⟩))
    clear hp
    go_enter func123,ntmps123
    exact Fj
   ·have d0:(den == 0)=false:=by rw [beq_eq_false_iff_ne];omega
    have d1:decide (den≤65536)=true:=decide_eq_true k1.2
    have d2:decide (0≤den)=true:=decide_eq_true (by omega)
    by_cases ho:y % 2=1
    ·have hoi:(y:Int) % 2=1:=by omega
     have HV:=mo (show vdB ⟨nb,some ⟨b,off,none⟩,ws,cap,den⟩=true from Re (hp.2 ⟨hz0,by omega,k1.2,.inr ho⟩))
     clear hp
     go_enter func123,ntmps123
     exact Fj
    ·have hoi:(y:Int) % 2=0:=by omega
     have HV:=mo (show vdB ⟨nb,some ⟨b,off,none⟩,ws,cap,den⟩=false from Im (fun hv=>by have:=(hp.1 hv).2.2.2;omega))
     clear hp
     go_enter func123,ntmps123
     exact Fj
   ·have HV:=mo (show vdB ⟨nb,some ⟨b,off,none⟩,ws,cap,den⟩=false from Im (fun hv=>by have:=(hp.1 hv).2.2.1;omega))
    clear hp
    go_enter func123,ntmps123
    exact Fj
theorem ZD (r:Rw) (m:Nat) (w:World) (hm:m≤w.heap.size) (h:Alm w m r) (hl:r.ws.length≤1000000) :
  Calls prog 81 #[r.val] w fun e w'=>e=.returned (.bool (vdB r))∧Below w.heap.size w w':=by
 have hat:=h.at_
 have hok:=h.ok
 obtain ⟨nb,A,ws,cap,den⟩:=r
 dsimp only at hat hok hl
 simp only [Rw.val]
 have key:den<0∨den=0∨(0<den∧den≤65536)∨65536<den:=by omega
 by_cases h0:ws.length=0
 ·have hp:=Agn (r:=⟨nb,A,ws,cap,den⟩) h0
  dsimp only at hp
  have hz:(ws.length:Int)=0:=by omega
  have hzb:((ws.length:Int) == 0)=true:=by rw [hz];rfl
  rw [h0] at hzb ⊢
  clear hat hok hl h hz h0
  cases nb with
  | true =>
   rcases key with k1|k1|k1|k1
   all_goals
    have HV:=mo (show vdB ⟨true,A,ws,cap,den⟩=false from Im (fun hv=>by have:=(hp.1 hv).1;cases this))
    clear hp
    go_enter func81,ntmps81
    exact Fj
  | false =>
   rcases key with k1|k1|k1|k1
   ·have d0:(den == 0)=false:=by rw [beq_eq_false_iff_ne];omega
    have HV:=mo (show vdB ⟨false,A,ws,cap,den⟩=false from Im (fun hv=>by have:=(hp.1 hv).2;omega))
    clear hp
    go_enter func81,ntmps81
    exact Fj
   ·have d0:(den == 0)=true:=by simp;omega
    have HV:=mo (show vdB ⟨false,A,ws,cap,den⟩=true from Re (hp.2 ⟨rfl,k1⟩))
    clear hp
    go_enter func81,ntmps81
    exact Fj
   ·have d0:(den == 0)=false:=by rw [beq_eq_false_iff_ne];omega
    have HV:=mo (show vdB ⟨false,A,ws,cap,den⟩=false from Im (fun hv=>by have:=(hp.1 hv).2;omega))
    clear hp
    go_enter func81,ntmps81
    exact Fj
   ·have d0:(den == 0)=false:=by rw [beq_eq_false_iff_ne];omega
    have HV:=mo (show vdB ⟨false,A,ws,cap,den⟩=false from Im (fun hv=>by have:=(hp.1 hv).2;omega))
    clear hp
    go_enter func81,ntmps81
    exact Fj
 ·have hp:=AcA (r:=⟨nb,A,ws,cap,den⟩) h0
  dsimp only at hp
  obtain ⟨b,off,z,hA,q1,q2,hz,g1⟩:=hat.w32_ (k:=ws.length - 1) (by omega)
  subst hA
  obtain ⟨b',off',y,hA',_,_,hy,g0⟩:=hat.w32_ (k:=0) (by omega)
  cases hA'
  rw [cr] at g0
  obtain ⟨L,hL⟩:∃ L,L=ws.length - 1:=⟨_,rfl⟩
  have hlen:ws.length=L+1:=by omega
  have hl':L≤1000000:=by omega
  have e0:((L:Int)+1 == 0)=false:=by simp;omega
  rw [←hL] at g1
  rw [hz,hy] at hp
  simp only [ci] at hp
  rw [hlen]
  clear hat hok hl h hz hy hL q1 q2 h0 hlen
  by_cases hz0:z=0
  ·subst hz0
   have hzb:(((0:Nat):Int) != 0)=false:=by rfl
   rcases key with k1|k1|k1|k1
   all_goals
    have HV:=mo (show vdB ⟨nb,some ⟨b,off,none⟩,ws,cap,den⟩=false from Im (fun hv=>(hp.1 hv).1 rfl))
    clear hp
    go_enter func81,ntmps81
    exact Fj
  ·have hzb:((z:Int) != 0)=true:=by simp;omega
   rcases key with k1|k1|k1|k1
   ·have HV:=mo (show vdB ⟨nb,some ⟨b,off,none⟩,ws,cap,den⟩=false from Im (fun hv=>by have:=(hp.1 hv).2.1;omega))
    clear hp
    go_enter func81,ntmps81
    exact Fj
   ·have d0:(den == 0)=true:=by simp;omega
    have HV:=mo (show vdB ⟨nb,some ⟨b,off,none⟩,ws,cap,den⟩=true from Re (hp.2 ⟨hz0,by omega,by omega,.inl k1⟩))
    clear hp
    go_enter func81,ntmps81
    exact Fj
   ·have d0:(den == 0)=false:=by rw [beq_eq_false_iff_ne];omega
    have d1:decide (den≤65536)=true:=decide_eq_true k1.2
    have d2:decide (0≤den)=true:=decide_eq_true (by omega)
    by_cases ho:y % 2=1
    ·have hoi:(y:Int) % 2=1:=by omega
     have HV:=mo (show vdB ⟨nb,some ⟨b,off,none⟩,ws,cap,den⟩=true from Re (hp.2 ⟨hz0,by omega,k1.2,.inr ho⟩))
     clear hp
     go_enter func81,ntmps81
     exact Fj
    ·have hoi:(y:Int) % 2=0:=by omega
     have HV:=mo (show vdB ⟨nb,some ⟨b,off,none⟩,ws,cap,den⟩=false from Im (fun hv=>by have:=(hp.1 hv).2.2.2;omega))
     clear hp
     go_enter func81,ntmps81
     exact Fj
   ·have HV:=mo (show vdB ⟨nb,some ⟨b,off,none⟩,ws,cap,den⟩=false from Im (fun hv=>by have:=(hp.1 hv).2.2.1;omega))
    clear hp
    go_enter func81,ntmps81
    exact Fj
end Go.Proofs.YtmdfjbpggbhgnaaGreatDoor
