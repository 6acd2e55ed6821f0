/- What the proofs of this claim share, part 15. No conditions. -/
import Derived.Test.YtmdfjbpggbhgnaaGreatDoorHd10
import Derived.Test.YtmdfjbpggbhgnaaGreatDoorHd9
import Derived.Test.YtmdfjbpggbhgnaaGreatDoorHd11
import Derived.Test.YtmdfjbpggbhgnaaGreatDoorHd14
import Derived.Test.YtmdfjbpggbhgnaaGreatDoorHd12
import Derived.Test.YtmdfjbpggbhgnaaGreatDoorHd8
import Derived.Test.YtmdfjbpggbhgnaaGreatDoorHd5
import Derived.Test.YtmdfjbpggbhgnaaGreatDoorHd6
import Derived.Tactics2
set_option maxRecDepth 100000
set_option maxHeartbeats 4000000
set_option linter.all false
open Go.Proofs.Tryz
namespace Go.Proofs.YtmdfjbpggbhgnaaGreatDoor
open Go.RowKit
variable {q:Int × Nat} {P:Program} {F:Frm} {H:List Ob} {den i id j n t ty ty' u:Nat} {p p':Prop} {f:Nat→Int} {e z:Int} {bs:List Bk} {y:Bk} {ps:List Prt} {l:List (Option (Int × Nat))} {st:List (Int × Nat)} {ins os zs:List Int} {r:Rv} {g:FuncId} {fn:Func} {c:Code}
theorem Aev (g1 g2 g3:Nat) (w:World):CallsD prog 131 #[FU g1,FU g2,FU g3] .returning w fun e u' w'=>e=.returned (.tuple #[])∧u'=.returning∧w'=w:=by
 refine callsD_of_wpS func131 rfl fun c₀ cs hu=>?_
 apply wpS_seq
 apply wpS_region
 simp [wpOpsS,go_sem,recoverD,hu,ntmps131,Exit.thenS]
 apply wpS_seq
 apply wpS_region
 simp [wpOpsS,go_sem,Exit.thenS]
 refine wpS_cond (t:=false) (by simp [Act.eval,Array.replicate]) ?_
 simp only [du,if_false]
 refine wpS_of_wp (wp_skip ?_)
 cases c₀
 simp_all [bodyPostS,results,results131]
theorem Aew (b0:Nat) (w:World) (g1 g2 g3:Nat) (v1 v2 v3:Value) (l1:b0≤g1) (l2:b0≤g2) (l3:b0≤g3) (n12:g1≠g2) (n13:g1≠g3) (n23:g2≠g3) (hb:b0≤w.heap.size)
  (h1:w.heap[g1]?=some (.cells #[v1] 28 (0,0))) (h2:w.heap[g2]?=some (.cells #[v2] 28 (0,0))) (h3:w.heap[g3]?=some (.cells #[v3] 36 (0,0))) :
  CallsD prog 131 #[FU g1,FU g2,FU g3] (.panicking [{ v:=.iface 176 (.agg #[]),recovered:=false }]) w fun e u' w'=>(∃ v,e=.returned v)∧settle u'=.returning∧Below b0 w w'∧w'.cell? ⟨g1,0,none⟩=some (.slice none 0 0)∧w'.cell? ⟨g2,0,none⟩=some (.slice none 0 0)∧w'.cell? ⟨g3,0,none⟩=some (.iface 109 (.int .i64 4)):=by
 refine callsD_of_wpS func131 rfl fun c₀ cs hu=>?_
 apply wpS_seq
 apply wpS_region
 simp [wpOpsS,go_sem,recoverD,hu,ntmps131,Exit.thenS]
 apply wpS_seq
 apply wpS_region
 simp [wpOpsS,go_sem,Exit.thenS]
 refine wpS_cond (t:=true) (by simp [Act.eval,Array.replicate]) ?_
 simp only [if_true]
 apply wpS_seq
 apply wpS_seq
 apply wpS_region
 simp [wpOpsS,go_sem,Exit.thenS,Instr.typeAssert,run_underlying underlying176]
 apply wpS_seq
 apply wpS_region
 simp [wpOpsS,go_sem,Exit.thenS]
 refine wpS_cond (t:=false) (by simp [Act.eval,Array.replicate]) ?_
 simp only [du,if_false]
 refine wpS_of_wp (wp_skip ?_)
 show Code.wpS _ _ _ _ _ _
 have k1:=(Below.heap_alloc w (.cells #[] 176 (0,0)) g1 (Array.getElem?_eq_some_iff.1 h1).1).trans h1
 have k2:=(Below.heap_alloc w (.cells #[] 176 (0,0)) g2 (Array.getElem?_eq_some_iff.1 h2).1).trans h2
 have k3:=(Below.heap_alloc w (.cells #[] 176 (0,0)) g3 (Array.getElem?_eq_some_iff.1 h3).1).trans h3
 have hbel:Below b0 w (w.alloc (.cells #[] 176 (0,0))):=(ab _ _).alloc hb _
 generalize w.alloc (.cells #[] 176 (0,0))=W at k1 k2 k3 hbel ⊢
 have m1:=one_setCell (u:=.slice none 0 0) k1
 have m2:=(jp W ⟨g1,0,none⟩ (.slice none 0 0) g2 (fun h=>n12 h.symm)).trans k2
 have m3:=(jp W ⟨g1,0,none⟩ (.slice none 0 0) g3 (fun h=>n13 h.symm)).trans k3
 have hb1:=hbel.setCell (p:=⟨g1,0,none⟩) l1 (.slice none 0 0)
 have c1:W.cell? ⟨g1,0,none⟩=some v1:=by rw [cell_of_row W g1 0 _ _ (0,0) k1];rfl
 have z1:W.frozen? ⟨g1,0,none⟩=false:=by unfold World.frozen?;rw [k1];rfl
 generalize hW1:W.setCell ⟨g1,0,none⟩ (.slice none 0 0)=W1 at m1 m2 m3 hb1
 have q1:=(jp W1 ⟨g2,0,none⟩ (.slice none 0 0) g1 n12).trans m1
 have q2:=one_setCell (u:=.slice none 0 0) m2
 have q3:=(jp W1 ⟨g2,0,none⟩ (.slice none 0 0) g3 (fun h=>n23 h.symm)).trans m3
 have hb2:=hb1.setCell (p:=⟨g2,0,none⟩) l2 (.slice none 0 0)
 have c2:W1.cell? ⟨g2,0,none⟩=some v2:=by rw [cell_of_row W1 g2 0 _ _ (0,0) m2];rfl
 have z2:W1.frozen? ⟨g2,0,none⟩=false:=by unfold World.frozen?;rw [m2];rfl
 generalize hW2:W1.setCell ⟨g2,0,none⟩ (.slice none 0 0)=W2 at q1 q2 q3 hb2
 have r1:=(jp W2 ⟨g3,0,none⟩ (.iface 109 (.int .i64 4)) g1 n13).trans q1
 have r2:=(jp W2 ⟨g3,0,none⟩ (.iface 109 (.int .i64 4)) g2 n23).trans q2
 have r3:=one_setCell (u:=.iface 109 (.int .i64 4)) q3
 have hb3:=hb2.setCell (p:=⟨g3,0,none⟩) l3 (.iface 109 (.int .i64 4))
 have c3:W2.cell? ⟨g3,0,none⟩=some v3:=by rw [cell_of_row W2 g3 0 _ _ (0,0) q3];rfl
 have z3:W2.frozen? ⟨g3,0,none⟩=false:=by unfold World.frozen?;rw [q3];rfl
 generalize hW3:W2.setCell ⟨g3,0,none⟩ (.iface 109 (.int .i64 4))=W3 at r1 r2 r3 hb3
 have d1:W3.cell? ⟨g1,0,none⟩=some (.slice none 0 0):=by rw [cell_of_row W3 g1 0 _ _ (0,0) r1];rfl
 have d2:W3.cell? ⟨g2,0,none⟩=some (.slice none 0 0):=by rw [cell_of_row W3 g2 0 _ _ (0,0) r2];rfl
 have d3:W3.cell? ⟨g3,0,none⟩=some (.iface 109 (.int .i64 4)):=by rw [cell_of_row W3 g3 0 _ _ (0,0) r3];rfl
 have hse:settle (.panicking [{ v:=.iface 176 (.agg #[]),recovered:=true }])=.returning:=rfl
 apply wpS_region
 simp [wpOpsS,go_sem,FU,c1,z1,hW1,c2,z2,hW2,c3,z3,hW3,d1,d2,d3,hb3,hse,bodyPostS,results,results131]
theorem QS {p:Int × Nat} {X:Int} {Q:Nat} (h1:Nf p.1 p.2) (h2:Nf q.1 q.2) (e1:p.1*2 ^ Q=X*2 ^ p.2) (e2:q.1*2 ^ Q=X*2 ^ q.2):p=q:=by
 have key:∀ p q:Int × Nat,Nf q.1 q.2→p.1*2 ^ Q=X*2 ^ p.2→q.1*2 ^ Q=X*2 ^ q.2→p.2≤q.2→q.1=p.1*2 ^ (q.2 - p.2):=fun p q _ e1 e2 hle=>by
  have pw:(2:Int) ^ Q≠0:=fy (iq (by decide))
  refine ew pw ?_
  rw [e2,iz,e1,ah,←al]
  congr 2;omega
 have fin:∀ p q:Int × Nat,Nf q.1 q.2→p.1*2 ^ Q=X*2 ^ p.2→q.1*2 ^ Q=X*2 ^ q.2→p.2≤q.2→p=q:=fun p q hq e1 e2 hle=>by
  have h:=key p q hq e1 e2 hle
  by_cases hd:p.2=q.2
  ·rw [hd,fg] at h
   refine Prod.ext ?_ hd
   rw [h];show p.1=p.1*1;omega
  ·exfalso
   have ho:=hq.2 (by omega)
   obtain ⟨k,hk⟩:∃ k,q.2 - p.2=k+1:=⟨q.2 - p.2 - 1,by omega⟩
   rw [hk,Int.pow_succ,←ah] at h
   omega
 rcases Nat.le_total p.2 q.2 with h|h
 ·exact fin p q h2 e1 e2 h
 ·exact (fin q p h1 e2 e1 h).symm
theorem Uj (p:Int × Nat) {Q:Nat} (h:p.2≤Q):p.1*2 ^ Q=p.1*2 ^ (Q - p.2)*2 ^ p.2:=by
 rw [ah,←al]
 congr 2;omega
theorem AnE {x v u:Int × Nat} (hx:Nf x.1 x.2) (hv:Nf v.1 v.2) (hu:Nf u.1 u.2) (h:BM v.1 v.2 u.1 u.2≤0) :
  DS v.1 v.2 (DR u.1 u.2 x.1 x.2).1 (DR u.1 u.2 x.1 x.2).2=DR (DS x.1 x.2 v.1 v.2).1 (DS x.1 x.2 v.1 v.2).2 u.1 u.2:=by
 obtain ⟨Q,q1,q2,q3⟩:∃ Q,x.2≤Q∧v.2≤Q∧u.2≤Q:=⟨max x.2 (max v.2 u.2),by omega,by omega,by omega⟩
 have ex:=Uj x q1
 have ev:=Uj v q2
 have eu:=Uj u q3
 generalize x.1*2 ^ (Q - x.2)=X at ex
 generalize v.1*2 ^ (Q - v.2)=V at ev
 generalize u.1*2 ^ (Q - u.2)=U at eu
 have cm:∀ {a b:Int × Nat} {A B:Int},a.1*2 ^ Q=A*2 ^ a.2→b.1*2 ^ Q=B*2 ^ b.2→BM a.1 a.2 b.1 b.2=sgI (A - B):=fun ha hb=>QP ha hb
 rw [cm ev eu,Dz] at h
 have hVU:V≤U:=by (repeat' split at h) <;> omega
 have mn:∀ {a b:Int × Nat} {A B:Int},a.1*2 ^ Q=A*2 ^ a.2→b.1*2 ^ Q=B*2 ^ b.2→DR a.1 a.2 b.1 b.2=if B<A then b else a:=fun {a b A B} ha hb=>by
  unfold DR
  rw [cm ha hb,Dz]
  by_cases h1:A<B
  ·rw [if_pos h1,if_neg (by decide),if_neg (by omega)]
  ·by_cases h2:B<A
   ·rw [if_neg h1,if_pos h2,if_pos (by decide),if_pos h2]
   ·rw [if_neg h1,if_neg h2,if_neg (by decide),if_neg h2]
 have mx:∀ {a b:Int × Nat} {A B:Int},a.1*2 ^ Q=A*2 ^ a.2→b.1*2 ^ Q=B*2 ^ b.2→DS a.1 a.2 b.1 b.2=if A<B then b else a:=fun {a b A B} ha hb=>by
  unfold DS
  rw [cm ha hb,Dz]
  by_cases h1:A<B
  ·rw [if_pos h1,if_pos (by decide),if_pos h1]
  ·by_cases h2:B<A
   ·rw [if_neg h1,if_pos h2,if_neg (by decide),if_neg h1]
   ·rw [if_neg h1,if_neg h2,if_neg (by decide),if_neg h1]
 rw [mn eu ex,mx ex ev]
 by_cases h1:X<U
 ·rw [if_pos h1,mx ev ex]
  by_cases h2:X<V
  ·rw [if_pos h2,mn ev eu,if_neg (by omega),if_neg (by omega)]
  ·rw [if_neg h2,mn ex eu,if_neg (c:=U<X) (by omega)]
   by_cases h3:V<X
   ·rw [if_pos h3]
   ·rw [if_neg h3]
    have:X=V:=by omega
    subst this
    exact QS hv hx ev ex
 ·rw [if_neg h1,mx ev eu]
  by_cases h2:X<V
  ·omega
  ·rw [if_neg h2,mn ex eu]
   by_cases h3:U<X
   ·rw [if_pos h3]
    by_cases h4:V<U
    ·rw [if_pos h4]
    ·rw [if_neg h4]
     have:V=U:=by omega
     subst this
     exact QS hv hu ev eu
   ·rw [if_neg h3]
    have hXU:X=U:=by omega
    subst hXU
    by_cases h4:V<X
    ·rw [if_pos h4]
     exact QS hu hx eu ex
    ·rw [if_neg h4]
     have:V=X:=by omega
     subst this
     exact QS hv hx ev ex
theorem Ml:aDy false 0 0=.agg [.val (.bool false),.row false 1 0 [],.val (.int .i64 0)]:=by
 unfold aDy dDy wds
 rw [show (0:Int).natAbs=0 from rfl,AV]
 rfl
theorem Avi {t:Tmp} {k:Nat} (hk:TyK P ty true k) (hi:3=k) (hF:F t=.one (.ref id 0 none):=by with_unfolding_all exact rfl) (hH:H[id]?=some (.box ty' [.d (.val (.bool false)),.d (.val (.slice none 0 0)),.d (.val (.int .i64 0))]):=by with_unfolding_all exact rfl):RV P F H (.cell t ty) (.agg [.val (.bool false),.row false 1 0 [],.val (.int .i64 0)]):=by
 obtain ⟨⟨dd,hu,hd⟩,hz⟩:=hk
 exact .cellA hF hH hu hd (by rw [hz,←hi];rfl) (.cons_ (.d fun _=>.val _) (.cons_ .nil (.cons_ (.d fun _=>.val _) .nil_)))
def Dt (y:Bk) (l:List (Int × Nat)) (ps:List Prt) (ins:List Int):Int × Nat :=
 if y.kind=0 then Ac (ins[((y.args[0]?).getD 0).toNat]?.getD 0) 0 (-((ps[((y.args[0]?).getD 0).toNat]?.map Prt.fr).getD 0)) else Gm y l
theorem Aex (k:p') (h:Hd9 p'→p:=by with_reducible first|(intro Z9;refine qq ?_;exact Z9.o)|(intro Z9;refine Tx 0 ?_;refine gN xBo <| gN (xAl Ao) <| gO xA ?_;exact Z9.o)|(intro Z9;refine Tx 1 ?_;refine gO xF <| gO xD <| gO xLe <| gO xM ?_;(first|iterate 3 refine Jd ?_|(refine Jy (xFa Oj Ar) ?_;refine Jy (xLd Ar) ?_;refine Jy xGe ?_));refine gO xPk <| gO xM ?_;(first|iterate 3 refine Jd ?_|(refine Jy (xFa Gu Ar) ?_;refine Jy (xLd Ar) ?_;refine Jy xLt ?_));refine gO xPk <| gO xM ?_;(first|iterate 3 refine Jd ?_|(refine Jy (xFa Gu Ar) ?_;refine Jy (xLd Ar) ?_;refine Jy xGt ?_));refine gO xPk ?_;exact Z9.o)|fail):p:=h ⟨k⟩
theorem Ain (k:p') (h:Hd9 p'→p:=by with_reducible first|(intro Z9;refine Tx 2 ?_;refine gO (by exact Az rfl MT rfl rfl) <| gO (xMi underlying109) <| gZ (xSk Ad) <| gO xA ?_;exact Z9.o)|fail):p:=h ⟨k⟩
theorem Aio (h:p:=by
 exact AH rfl (.cons_ (Avi Ad rfl) (.cons_ (.tmp (.one (Bs rfl fun _=>.val _))) .nil_))):p:=h
theorem Uk (n e:Int):CV prog An 20 [.agg [dI n,dI e]] [aDy false (if Dn n e then Ac n 0 e else (0,0)).1 (if Dn n e then Ac n 0 e else (0,0)).2,aE (if Dn n e then 0 else 3)]:=by
 refine cvz func20 ntmps20 ?_
 by_cases hs:Dn n e
 case pos =>
  rw [if_pos hs,if_pos hs]
  obtain ⟨s1,s2,s3,s4⟩:=hs
  have OF:=Ft n (by omega) (by omega)
  have SH:=BE n 0 e ⟨by decide,fun h=>absurd rfl h⟩ (lT (AJ (k:=2) (by omega)) (by decide)) (by omega)
  repeat' (with_reducible first|refine Aex ?_|(refine AE (id:=3) 6 AN (by kernel_rfl) ?_;dsimp only [List.take,List.drop];refine gP xF <| gP xD <| gP (xCl func68 (OF)) <| gP xF <| gP xD <| gP (xCl func21 (SH)) ?_;refine Ke ?_;refine gZ (xSk Ad) <| gO xA ?_))
  exact AH rfl (.cons_ (rvW Ad rfl) (.cons_ (Gk rfl rfl) .nil_))
 rw [if_neg hs,if_neg hs,Ml]
 unfold Dn at hs
 by_cases c:n ≤ -2147483648
 case pos =>
  repeat' (with_reducible first|refine Aex ?_|refine Ain ?_)
  exact Aio
 have ca:=c
 clear c
 by_cases c:2147483648≤n
 case pos =>
  repeat' (with_reducible first|refine Aex ?_|refine Ain ?_)
  exact Aio
 have cb:=c
 clear c
 by_cases c:e < -62
 case pos =>
  repeat' (with_reducible first|refine Aex ?_|refine Ain ?_)
  exact Aio
 have cc:=c
 clear c
 have cd:30<e:=by omega
 repeat' (with_reducible first|refine Aex ?_|refine Ain ?_)
 exact Aio
theorem Ln (h:p:=by
 exact AH rfl (.cons_ (rvW Ad rfl) .nil_)):p:=h
theorem GB (n e:Int) (hs:Dn n e):CV prog An 130 [.agg [dI n,dI e]] [aDy false (Ac n 0 e).1 (Ac n 0 e).2]:=by
 refine cvz func130 ntmps130 ?_
 have VA:=Uk n e
 rw [if_pos hs,if_pos hs] at VA
 repeat' (with_reducible first|refine qq ?_|(refine Tx 0 ?_;refine gN xBo <| gN (xAl Ao) ?_)|(refine Tx 1 ?_;refine gO xL <| gO (xCl func20 (VA)) <| gO xMt <| gO (by exact EO rfl rfl rfl) <| gO xEx <| gN (xAl Ao) <| gZ (xSk Ad) <| gO xA ?_)|(refine Tx 2 ?_;refine gO xL <| gZ (xSk Ad) ?_))
 exact Ln
theorem FZ (t u:Bool) (y:Bk) (vals:List (Int × Nat)) (k:Nat) {i:Nat} {p:Int × Nat} (hk:y.args[k]?=some (i:Int)) (hp:vals[i]?=some p) (ha:y.args.length≤1000000) (hv:vals.length≤1000000):CV prog An 223 [aI (k:Int),.one (.ptr true [.row u 3 vals.length (Ay dyP vals)]),.one (.ptr true (dBk t y))] [aDy false p.1 p.2]:=by
 refine cvz func223 ntmps223 ?_
 have l1:=(gS.1 hk).1
 have l2:=(gS.1 hp).1
 repeat' (with_reducible first|refine qq ?_|(refine Tx 0 ?_;refine gN (xAl Ao) ?_)|(refine AE (id:=1) 8 AN (by kernel_rfl) ?_;dsimp only [List.take,List.drop];refine gP xD <| gP xF <| gP xD <| gP xM <| gP (by first|exact xIr Af (AG hk)|exact xIr Af (Ug hp)) <| gP xD <| gP (xIr Ah (Ug hp)) <| gP xL ?_;refine Ke ?_;refine gZ (xSk Ad) ?_))
 exact Ln
theorem QT (k:p') (h:Hd9 p'→p:=by with_reducible first|(intro Z9;refine qq ?_;exact Z9.o)|(intro Z9;refine Tx 0 ?_;refine gN xBo <| gN xBo <| gN xBo <| gN (xAl Ao) ?_;exact Z9.o)|(intro Z9;refine Tx 1 ?_;refine gO (by first|exact xMf [(2,0,none),(1,0,none)]|exact CS rfl (by repeat' first|exact BJ rfl rfl|refine AZ rfl rfl rfl ?_)) <| gO xA ?_;exact Z9.o)|(intro Z9;refine Tx 2 ?_;refine gO xF <| gO xD ?_;exact Z9.o)|(intro Z9;refine Tx 3 ?_;refine gO xEq <| gO xA ?_;exact Z9.o)|fail):p:=h ⟨k⟩
theorem RM (k:p') (h:Hd9 p'→p:=by with_reducible first|(intro Z9;refine Tx 5 ?_;refine gO xEq <| gO xA ?_;exact Z9.o)|fail):p:=h ⟨k⟩
theorem ArO (h:p:=by first|exact xCl func130 (RV)|exact xCl func130 (RU)):p:=h
theorem Aey (t v:Bool) (ps:List Prt) (bs:List Bk) (os:List Int) (y:Bk) (vals l:List (Int × Nat)) (ins:List Int) (hk:y.kind=0∨y.kind=1∨y.kind=3∨y.kind=4∨y.kind=5∨y.kind=6∨y.kind=7∨y.kind=8∨y.kind=9∨y.kind=10∨y.kind=11) (ha:y.args.length≤1000000) (hvl:vals.length≤1000000) (hil:ins.length≤1000000) (hpl:ps.length≤1000000)
  (hl:∀ k:Nat,(k=0∧y.kind≠0∧y.kind≠1∨k=1∧(y.kind=3∨y.kind=4∨y.kind=7∨y.kind=8∨y.kind=9))→∃ p i,l[k]?=some p∧y.args[k]?=some ((i:Nat):Int)∧vals[i]?=some p) (hs:∀ p∈l,Sm p 20000 20000)
  (hin:y.kind=0→∃ (i:Nat) (z:Int) (pp:Prt),y.args[0]?=some (i:Int)∧ins[i]?=some z∧ps[i]?=some pp ∧ -9223372036854775808≤z∧z<9223372036854775808 ∧ -100≤pp.fr∧pp.fr≤100)
  (hsv:(y.kind=1∨y.kind=6∨y.kind=11)→Dn y.vn y.ve) (hsu:y.kind=11→Dn y.un y.ue) (hcl:y.kind=11→BM (Ac y.vn 0 y.ve).1 (Ac y.vn 0 y.ve).2 (Ac y.un 0 y.ue).1 (Ac y.un 0 y.ue).2≤0):CV prog An 133 [aDg t ps bs os,.agg (dBk t y),.one (.row true 3 vals.length (Ay dyP vals)),.one (AU v ins)] [aDy false (Dt y l ps ins).1 (Dt y l ps ins).2]:=by
 refine cvz func133 ntmps133 ?_
 rcases hk with h|h|h|h|h|h|h|h|h|h|h
 ·
  obtain ⟨i0,z,pp,q0,r0,w0,z0,z1,f0,f1⟩:=hin h
  have l1:=(gS.1 q0).1
  have l2:=(gS.1 r0).1
  have l3:=(gS.1 w0).1
  have OF:=Ft z z0 z1
  have SH:=BE z 0 (-pp.fr) ⟨by decide,fun h=>absurd rfl h⟩ (lT (AJ (k:=2) (by omega)) (by decide)) (by omega)
  have hb:Dt y l ps ins=Ac z 0 (-pp.fr):=by unfold Dt;rw [if_pos h,q0];simp [r0,w0]
  rw [hb]
  repeat' (with_reducible first|refine QT ?_|(refine AE (id:=4) 19 AN (by kernel_rfl) ?_;dsimp only [List.take,List.drop];refine gP xM <| gP xF <| gP xD <| gP (xIr Af (AG q0)) <| gP xD <| gP (by first|exact xIr Af (AG q0)|exact xIr Af (AG r0)) <| gP xD <| gP (xCl func68 (OF)) <| gP xF <| gP xD <| gP xF <| gP xD <| gP (xIr Af (AG q0)) <| gP xD <| gP (xIr BI (FX w0)) <| gP xF <| gP xD <| gP (by first|exact TG rfl rfl (by omega)|exact AcY rfl rfl) <| gP (xCl func21 (SH)) ?_;refine Ke ?_;refine gZ (xSk Ad) ?_))
  exact Ln
 ·
  have hv:=hsv (by omega)
  have RV:=GB y.vn y.ve hv
  obtain ⟨v0,v1,e0,e1⟩:=hv
  have sv:Sm (Ac y.vn 0 y.ve) (32+200) 200:=Sm.shift (by omega) (by omega) (by omega)
  have lv:=lT (sv.len (by decide)) (show 50≤40000 by decide)
  have hb:Dt y l ps ins=(Ac y.vn 0 y.ve):=by unfold Dt Gm;simp [h]
  rw [hb]
  repeat' (with_reducible first|refine QT ?_|refine RM ?_|(refine Tx 6 ?_;refine gO xF <| gO xL <| gO (xCl func130 (RV)) <| gZ (xSk Ad) ?_))
  exact Ln
 ·
  obtain ⟨p,i0,h0,q0,r0⟩:=hl 0 (by omega)
  have sp:=hs p (gM h0)
  have lp:=sp.l4
  have A0:=FZ t true y vals 0 q0 r0 ha hvl
  obtain ⟨q,i1,h1,q1,r1⟩:=hl 1 (by omega)
  have sq:=hs q (gM h1)
  have lq:=sq.l4
  have A1:=FZ t true y vals 1 q1 r1 ha hvl
  have C:=Ds p.1 p.2 q.1 q.2 sp.ok sq.ok lp lq
  have hb:Dt y l ps ins=Ck p.1 p.2 q.1 q.2:=by unfold Dt Gm;simp [h,h0,h1]
  rw [hb]
  repeat' (with_reducible first|refine QT ?_|refine RM ?_|(refine Tx 7 ?_;refine gO xEq <| gO xA ?_)|(refine Tx 8 ?_;refine gO xM <| gO (xCc func223 A0 (args:=[_]) rfl) <| gO xM <| gO (xCc func223 A1 (args:=[_]) rfl) <| gO (xCl func152 (C)) <| gZ (xSk Ad) ?_))
  exact Ln
 ·
  obtain ⟨p,i0,h0,q0,r0⟩:=hl 0 (by omega)
  have sp:=hs p (gM h0)
  have lp:=sp.l4
  have A0:=FZ t true y vals 0 q0 r0 ha hvl
  obtain ⟨q,i1,h1,q1,r1⟩:=hl 1 (by omega)
  have sq:=hs q (gM h1)
  have lq:=sq.l4
  have A1:=FZ t true y vals 1 q1 r1 ha hvl
  have C:=Aig p.1 p.2 q.1 q.2 sp.ok sq.ok lp lq
  have hb:Dt y l ps ins=Ck p.1 p.2 (-q.1) q.2:=by unfold Dt Gm;simp [h,h0,h1]
  rw [hb]
  repeat' (with_reducible first|refine QT ?_|refine RM ?_|(refine Tx 7 ?_;refine gO xEq <| gO xA ?_)|(refine Tx 9 ?_;refine gO xEq <| gO xA ?_)|(refine Tx 10 ?_;refine gO xM <| gO (xCc func223 A0 (args:=[_]) rfl) <| gO xM <| gO (xCc func223 A1 (args:=[_]) rfl) <| gO (xCl func224 (C)) <| gZ (xSk Ad) ?_))
  exact Ln
 ·
  obtain ⟨p,i0,h0,q0,r0⟩:=hl 0 (by omega)
  have sp:=hs p (gM h0)
  have lp:=sp.l4
  have A0:=FZ t true y vals 0 q0 r0 ha hvl
  have C:=Fc p.1 p.2 sp.ok lp
  have hb:Dt y l ps ins=(-p.1,p.2):=by unfold Dt Gm;simp [h,h0]
  rw [hb]
  repeat' (with_reducible first|refine QT ?_|refine RM ?_|(refine Tx 7 ?_;refine gO xEq <| gO xA ?_)|(refine Tx 9 ?_;refine gO xEq <| gO xA ?_)|(refine Tx 11 ?_;refine gO xEq <| gO xA ?_)|(refine Tx 13 ?_;refine gO xEq <| gO xA ?_)|(refine Tx 14 ?_;refine gO xM <| gO (xCc func223 A0 (args:=[_]) rfl) <| gO (xCl func176 (C)) <| gZ (xSk Ad) ?_))
  exact Ln
 ·
  obtain ⟨p,i0,h0,q0,r0⟩:=hl 0 (by omega)
  have sp:=hs p (gM h0)
  have lp:=sp.l4
  have A0:=FZ t true y vals 0 q0 r0 ha hvl
  have hv:=hsv (by omega)
  have RV:=GB y.vn y.ve hv
  obtain ⟨v0,v1,e0,e1⟩:=hv
  have sv:Sm (Ac y.vn 0 y.ve) (32+200) 200:=Sm.shift (by omega) (by omega) (by omega)
  have lv:=lT (sv.len (by decide)) (show 50≤40000 by decide)
  have C:=Gl (Ac y.vn 0 y.ve).1 (Ac y.vn 0 y.ve).2 p.1 p.2 sv.ok sp.ok lv lp (by have:=sv.d;have:=sp.d;omega)
  have hb:Dt y l ps ins=Ou (Ac y.vn 0 y.ve).1 (Ac y.vn 0 y.ve).2 p.1 p.2:=by unfold Dt Gm;simp [h,h0]
  rw [hb]
  repeat' (with_reducible first|refine QT ?_|refine RM ?_|(refine Tx 7 ?_;refine gO xEq <| gO xA ?_)|(refine Tx 9 ?_;refine gO xEq <| gO xA ?_)|(refine Tx 11 ?_;refine gO xEq <| gO xA ?_)|(refine Tx 13 ?_;refine gO xEq <| gO xA ?_)|(refine Tx 15 ?_;refine gO xEq <| gO xA ?_)|(refine Tx 17 ?_;refine gO xEq <| gO xA ?_)|(refine Tx 18 ?_;refine gO xF <| gO xL <| gO (xCl func130 (RV)) <| gO xM <| gO (xCc func223 A0 (args:=[_]) rfl) <| gO (xCl func157 (C)) <| gZ (xSk Ad) ?_))
  exact Ln
 ·
  obtain ⟨p,i0,h0,q0,r0⟩:=hl 0 (by omega)
  have sp:=hs p (gM h0)
  have lp:=sp.l4
  have A0:=FZ t true y vals 0 q0 r0 ha hvl
  obtain ⟨q,i1,h1,q1,r1⟩:=hl 1 (by omega)
  have sq:=hs q (gM h1)
  have lq:=sq.l4
  have A1:=FZ t true y vals 1 q1 r1 ha hvl
  have C:=Gl p.1 p.2 q.1 q.2 sp.ok sq.ok lp lq (by have:=sp.d;have:=sq.d;omega)
  have hb:Dt y l ps ins=Ou p.1 p.2 q.1 q.2:=by unfold Dt Gm;simp [h,h0,h1]
  rw [hb]
  repeat' (with_reducible first|refine QT ?_|refine RM ?_|(refine Tx 7 ?_;refine gO xEq <| gO xA ?_)|(refine Tx 9 ?_;refine gO xEq <| gO xA ?_)|(refine Tx 11 ?_;refine gO xEq <| gO xA ?_)|(refine Tx 12 ?_;refine gO xM <| gO (xCc func223 A0 (args:=[_]) rfl) <| gO xM <| gO (xCc func223 A1 (args:=[_]) rfl) <| gO (xCl func157 (C)) <| gZ (xSk Ad) ?_))
  exact Ln
 ·
  obtain ⟨p,i0,h0,q0,r0⟩:=hl 0 (by omega)
  have sp:=hs p (gM h0)
  have lp:=sp.l4
  have A0:=FZ t true y vals 0 q0 r0 ha hvl
  obtain ⟨q,i1,h1,q1,r1⟩:=hl 1 (by omega)
  have sq:=hs q (gM h1)
  have lq:=sq.l4
  have A1:=FZ t true y vals 1 q1 r1 ha hvl
  have C:=Nc p.1 p.2 q.1 q.2 sp.ok sq.ok lp lq
  have hb:Dt y l ps ins=DR p.1 p.2 q.1 q.2:=by unfold Dt Gm;simp [h,h0,h1]
  rw [hb]
  repeat' (with_reducible first|refine QT ?_|refine RM ?_|(refine Tx 7 ?_;refine gO xEq <| gO xA ?_)|(refine Tx 9 ?_;refine gO xEq <| gO xA ?_)|(refine Tx 11 ?_;refine gO xEq <| gO xA ?_)|(refine Tx 13 ?_;refine gO xEq <| gO xA ?_)|(refine Tx 15 ?_;refine gO xEq <| gO xA ?_)|(refine Tx 17 ?_;refine gO xEq <| gO xA ?_)|(refine Tx 19 ?_;refine gO xEq <| gO xA ?_)|(refine Tx 20 ?_;refine gO xM <| gO (xCc func223 A0 (args:=[_]) rfl) <| gO xM <| gO (xCc func223 A1 (args:=[_]) rfl) <| gO (xCl func225 (C)) <| gZ (xSk Ad) ?_))
  exact Ln
 ·
  obtain ⟨p,i0,h0,q0,r0⟩:=hl 0 (by omega)
  have sp:=hs p (gM h0)
  have lp:=sp.l4
  have A0:=FZ t true y vals 0 q0 r0 ha hvl
  obtain ⟨q,i1,h1,q1,r1⟩:=hl 1 (by omega)
  have sq:=hs q (gM h1)
  have lq:=sq.l4
  have A1:=FZ t true y vals 1 q1 r1 ha hvl
  have C:=Eu p.1 p.2 q.1 q.2 sp.ok sq.ok lp lq
  have hb:Dt y l ps ins=DS p.1 p.2 q.1 q.2:=by unfold Dt Gm;simp [h,h0,h1]
  rw [hb]
  repeat' (with_reducible first|refine QT ?_|refine RM ?_|(refine Tx 7 ?_;refine gO xEq <| gO xA ?_)|(refine Tx 9 ?_;refine gO xEq <| gO xA ?_)|(refine Tx 11 ?_;refine gO xEq <| gO xA ?_)|(refine Tx 13 ?_;refine gO xEq <| gO xA ?_)|(refine Tx 15 ?_;refine gO xEq <| gO xA ?_)|(refine Tx 17 ?_;refine gO xEq <| gO xA ?_)|(refine Tx 19 ?_;refine gO xEq <| gO xA ?_)|(refine Tx 21 ?_;refine gO xEq <| gO xA ?_)|(refine Tx 22 ?_;refine gO xM <| gO (xCc func223 A0 (args:=[_]) rfl) <| gO xM <| gO (xCc func223 A1 (args:=[_]) rfl) <| gO (xCl func156 (C)) <| gZ (xSk Ad) ?_))
  exact Ln
 ·
  obtain ⟨p,i0,h0,q0,r0⟩:=hl 0 (by omega)
  have sp:=hs p (gM h0)
  have lp:=sp.l4
  have A0:=FZ t true y vals 0 q0 r0 ha hvl
  have C:=PO p.1 p.2 sp.ok lp
  have hb:Dt y l ps ins=(((p.1.natAbs:Nat):Int),p.2):=by unfold Dt Gm;simp [h,h0]
  rw [hb]
  repeat' (with_reducible first|refine QT ?_|refine RM ?_|(refine Tx 7 ?_;refine gO xEq <| gO xA ?_)|(refine Tx 9 ?_;refine gO xEq <| gO xA ?_)|(refine Tx 11 ?_;refine gO xEq <| gO xA ?_)|(refine Tx 13 ?_;refine gO xEq <| gO xA ?_)|(refine Tx 15 ?_;refine gO xEq <| gO xA ?_)|(refine Tx 16 ?_;refine gO xM <| gO (xCc func223 A0 (args:=[_]) rfl) <| gO (xCl func158 (C)) <| gZ (xSk Ad) ?_))
  exact Ln
 ·
  obtain ⟨p,i0,h0,q0,r0⟩:=hl 0 (by omega)
  have sp:=hs p (gM h0)
  have lp:=sp.l4
  have A0:=FZ t true y vals 0 q0 r0 ha hvl
  have hv:=hsv (by omega)
  have RV:=GB y.vn y.ve hv
  obtain ⟨v0,v1,e0,e1⟩:=hv
  have sv:Sm (Ac y.vn 0 y.ve) (32+200) 200:=Sm.shift (by omega) (by omega) (by omega)
  have lv:=lT (sv.len (by decide)) (show 50≤40000 by decide)
  have hu:=hsu h
  have RU:=GB y.un y.ue hu
  obtain ⟨u0,u1,d0,d1⟩:=hu
  have su:Sm (Ac y.un 0 y.ue) (32+200) 200:=Sm.shift (by omega) (by omega) (by omega)
  have lu:=lT (su.len (by decide)) (show 50≤40000 by decide)
  have sm:Sm (DR (Ac y.un 0 y.ue).1 (Ac y.un 0 y.ue).2 p.1 p.2) 20000 20000:=Sm.min (su.more (by decide) (by decide)) sp
  have lm:=sm.l4
  have C:=Nc (Ac y.un 0 y.ue).1 (Ac y.un 0 y.ue).2 p.1 p.2 su.ok sp.ok lu lp
  have C2:=Eu (Ac y.vn 0 y.ve).1 (Ac y.vn 0 y.ve).2 (DR (Ac y.un 0 y.ue).1 (Ac y.un 0 y.ue).2 p.1 p.2).1 (DR (Ac y.un 0 y.ue).1 (Ac y.un 0 y.ue).2 p.1 p.2).2 sv.ok sm.ok lv lm
  rw [AnE sp.ok sv.ok su.ok (hcl h)] at C2
  have hb:Dt y l ps ins=DR (DS p.1 p.2 (Ac y.vn 0 y.ve).1 (Ac y.vn 0 y.ve).2).1 (DS p.1 p.2 (Ac y.vn 0 y.ve).1 (Ac y.vn 0 y.ve).2).2 (Ac y.un 0 y.ue).1 (Ac y.un 0 y.ue).2:=by unfold Dt Gm;simp [h,h0]
  rw [hb]
  repeat' (with_reducible first|refine QT ?_|refine RM ?_|(refine Tx 7 ?_;refine gO xEq <| gO xA ?_)|(refine Tx 9 ?_;refine gO xEq <| gO xA ?_)|(refine Tx 11 ?_;refine gO xEq <| gO xA ?_)|(refine Tx 13 ?_;refine gO xEq <| gO xA ?_)|(refine Tx 15 ?_;refine gO xEq <| gO xA ?_)|(refine Tx 17 ?_;refine gO xEq <| gO xA ?_)|(refine Tx 19 ?_;refine gO xEq <| gO xA ?_)|(refine Tx 21 ?_;refine gO xEq <| gO xA ?_)|(refine AE (id:=23) 10 AN (by kernel_rfl) ?_;dsimp only [List.take,List.drop];refine gP xF <| gP xL <| gP ArO <| gP xF <| gP xL <| gP ArO <| gP xM <| gP (xCc func223 A0 (args:=[_]) rfl) <| gP (xCl func225 (C)) <| gP (xCl func156 (C2)) ?_;refine Ke ?_;refine gZ (xSk Ad) ?_))
  exact Ln
def PQ (bs:List Bk) (j:Nat):Bk:=bs[j]?.getD bk0
def scA (F:List Int) (j:Nat):Int:=F[j]?.getD 0
def Ga (ps:List Prt) (a:Int):Int:=(ps[a.toNat]?.getD ⟨0,0,0⟩).fr
def Nh (bs:List Bk) (F:List Int) (j:Nat):Int:=DM (PQ bs j).vn (PQ bs j).ve (scA F j)
def Aip (bs:List Bk) (F:List Int) (j:Nat):Int:=DM (PQ bs j).un (PQ bs j).ue (scA F j)
def RN (bs:List Bk) (F:List Int) (j:Nat):Int:=BX (PQ bs j).vn (PQ bs j).ve (scA F j)
def Aiq (bs:List Bk) (F:List Int) (j:Nat):Int:=BX (PQ bs j).un (PQ bs j).ue (scA F j)
def LF (bs:List Bk) (F:List Int) (j:Nat):Int :=
 if AK bs j=1∨AK bs j=2 then RN bs F j else if AK bs j=11 then (if RN bs F j=0 then Aiq bs F j else RN bs F j) else 0
def Ev (bs:List Bk) (F:List Int) (j:Nat):Int:=if AK bs j=1∨AK bs j=2∨AK bs j=11 then Nh bs F j else 0
def Hi (bs:List Bk) (F:List Int) (j:Nat):Int:=if AK bs j=11 then Aip bs F j else 0
def tab (n:Nat) (f:Nat→Int):List Int:=(List.range n).map f
theorem Fu (n:Nat) (f:Nat→Int):(tab n f).length=n:=by simp [tab]
theorem HG (h:j<n):(tab n f)[j]?=some (f j):=by simp [tab,h]
theorem XT {k:Nat} {g:Nat→Int} (hz:g k=z) (h:∀ j,j≠k→g j=f j):(tab n f).set k z=tab n g:=by
 refine ep fun j=>?_
 simp only [tab,bk,af,fz,ag,gy]
 by_cases hkj:k=j
 ·subst hkj
  by_cases hk:k<n
  ·simp [hk,hz]
  ·simp [hk]
 ·rw [if_neg hkj]
  by_cases hj:j<n
  ·simp [hj,h j (Ne.symm hkj)]
  ·simp [hj]
theorem IT {g:Nat→Int} (h:∀ j,j<n→g j=f j):tab n f=tab n g:=by
 unfold tab
 exact ej fun j hj=>(h j (List.mem_range.1 hj)).symm
theorem Air (n:Nat):tab n (fun _=>0)=List.replicate n 0:=by simp [tab,List.map_const']
def LH (p:Nat→Bool) (j:Nat):Nat:=((List.range j).filter p).length
theorem Ni (p:Nat→Bool) (t j:Nat):∀ n,((List.range n).filter p)[t]?=some j ↔ j<n∧p j=true∧LH p j=t
 | 0=>by simp
 | n+1=>by
  rw [ct,ku]
  have ih:=Ni p t j n
  by_cases hn:p n=true
  ·simp only [mq,hn,if_true,List.filter_nil]
   by_cases ht:t<((List.range n).filter p).length
   ·rw [dn ht,ih]
    constructor
    ·exact fun h=>⟨by omega,h.2⟩
    ·rintro ⟨h1,h2,h3⟩
     refine ⟨?_,h2,h3⟩
     rcases bh j n with h|h
     ·exact h
     ·obtain rfl:j=n:=by omega
      unfold LH at h3
      omega
   ·rw [dw (by omega)]
    constructor
    ·intro h
     have h0:t - ((List.range n).filter p).length=0:=by
      rcases de (t - ((List.range n).filter p).length) with h1|h1
      ·exact h1
      ·rw [dq (by simp;omega)] at h
       cases h
     rw [h0] at h
     have e:n=j:=by simpa using h
     subst e
     exact ⟨by omega,hn,by unfold LH;omega⟩
    ·rintro ⟨h1,h2,h3⟩
     rcases bh j n with h|h
     ·have h4:=ih.2 ⟨h,h2,h3⟩
      have:=(gS.1 h4).1
      omega
     ·obtain rfl:j=n:=by omega
      have:t - ((List.range j).filter p).length=0:=by unfold LH at h3;omega
      rw [this]
      rfl
  ·simp only [mq,hn,List.filter_nil,ba]
   simp only [du,if_false,ba]
   rw [ih]
   constructor
   ·exact fun h=>⟨by omega,h.2⟩
   ·rintro ⟨h1,h2,h3⟩
    refine ⟨?_,h2,h3⟩
    rcases bh j n with h|h
    ·exact h
    ·obtain rfl:j=n:=by omega
     exact absurd h2 hn
def dlB (bs:List Bk) (i:Nat):Bool:=AK bs i == 2
def cpB (bs:List Bk) (i:Nat):Bool:=AK bs i == 11
def dlK (bs:List Bk) (k:Nat):List Nat:=(List.range k).filter (dlB bs)
def cpK (bs:List Bk) (k:Nat):List Nat:=(List.range k).filter (cpB bs)
theorem HH (bs:List Bk):AI bs=dlK bs bs.length:=rfl
theorem IU (bs:List Bk) (k:Nat):dlK bs (k+1)=if AK bs k=2 then dlK bs k++[k] else dlK bs k:=by
 unfold dlK
 rw [ct,ku]
 by_cases h:AK bs k=2
 ·rw [if_pos h];simp [dlB,h]
 ·rw [if_neg h];simp [dlB,h]
theorem IV (bs:List Bk) (k:Nat):cpK bs (k+1)=if AK bs k=11 then cpK bs k++[k] else cpK bs k:=by
 unfold cpK
 rw [ct,ku]
 by_cases h:AK bs k=11
 ·rw [if_pos h];simp [cpB,h]
 ·rw [if_neg h];simp [cpB,h]
theorem XU (bs:List Bk) (k:Nat):(dlK bs k).length≤k:=by
 have:=kt (dlB bs) (List.range k)
 simpa [dlK] using this
theorem XV (bs:List Bk) (k:Nat):(cpK bs k).length≤k:=by
 have:=kt (cpB bs) (List.range k)
 simpa [cpK] using this
def AY (bs:List Bk) (j:Nat):Int :=
 if AK bs j=2 then (bs.length:Int)+(LH (dlB bs) j:Int) else if AK bs j=11 then (bs.length:Int)+((dlK bs bs.length).length:Int)+2*(LH (cpB bs) j:Int) else 0
def opM (k:Int):Int:=if k=3 then 3 else if k=4 then 4 else if k=8 then 8 else if k=9 then 9 else if k=5 then 5 else 10
def Bi (b:Bk):Int:=b.args[0]?.getD 0
def Dk (b:Bk):Int:=b.args[1]?.getD 0
def Fv (ps:List Prt) (bs:List Bk) (F:List Int) (j:Nat) (c:Int):List Ins :=
 let b:=PQ bs j
 let s:=scA F j
 let s0:=scA F (Bi b).toNat
 let s1:=scA F (Dk b).toNat
 if b.kind=0 then [⟨0,j,Bi b,0,s - Ga ps (Bi b),0,0⟩]
 else if b.kind=1 then [⟨1,j,0,0,0,0,Nh bs F j⟩]
 else if b.kind=6 then [⟨6,j,Bi b,0,s - s0+b.ve,0,b.vn⟩]
 else if b.kind=7 then [⟨7,j,Bi b,Dk b,s - s0 - s1,0,0⟩]
 else if b.kind=11 then [⟨9,j,Bi b,c,s - s0,0,0⟩,⟨8,j,j,c+1,0,0,0⟩]
 else if b.args.length=2 then [⟨opM b.kind,j,Bi b,Dk b,s - s0,s - s1,0⟩]
 else [⟨opM b.kind,j,Bi b,0,s - s0,0,0⟩]
def mv1 (bs:List Bk) (F:List Int) (j:Nat):Ins:=⟨2,AY bs j,Bi (PQ bs j),0,scA F j - scA F (Bi (PQ bs j)).toNat,0,0⟩
def mv2 (bs:List Bk) (j:Nat):Ins:=⟨2,j,AY bs j,0,0,0,0⟩
def Cr (ps:List Prt) (bs:List Bk) (F:List Int):List Ins :=
 (Bn bs).flatMap (fun j=>Fv ps bs F j (AY bs j))++(AI bs).map (mv1 bs F)++(AI bs).map (mv2 bs)
def CD (bs:List Bk) (F:List Int):List Int :=
 tab bs.length (fun j=>if AK bs j=2 then Ev bs F j else 0)++List.replicate (AI bs).length 0++(cpK bs bs.length).flatMap (fun j=>[Ev bs F j,Hi bs F j])
def Ais (x:Ins):Bool:=decide (-62≤x.sa∧x.sa≤30 ∧ -62≤x.sb∧x.sb≤30)
def HJ (z:Int):Bool:=decide (0≤z∧z≤30)
def HM (ps:List Prt) (bs:List Bk) (F:List Int):Int :=
 if ¬ F.length=bs.length then 11 else if ¬ F.all HJ=true then 3 else if ¬ Ak ((List.range bs.length).map (LF bs F))=0 then Ak ((List.range bs.length).map (LF bs F))
 else if (Cr ps bs F).all Ais=true then 0 else 3
theorem QU {l:List Int} {k:Nat} (h:∀ j x,j<k→l[j]?=some x→x=0) (hk:l[k]?=some e) (he:e≠0):Ak l=e:=by
 induction l generalizing k with
 | nil=>simp at hk
 | cons x l ih =>
  unfold Ak
  cases k with
  | zero =>
   have:x=e:=by simpa using hk
   rw [if_neg (by rw [this];exact he),this]
  | succ k =>
   have hx:x=0:=h 0 x (by omega) rfl
   rw [if_pos hx]
   exact ih (k:=k) (fun j y hj hy=>h (j+1) y (by omega) (by simpa using hy)) (by simpa using hk)
theorem Nj {l:List Int} (h:∀ x∈l,x=0):Ak l=0:=by
 induction l with
 | nil=>rfl
 | cons x l ih =>
  unfold Ak
  rw [if_pos (h x (by simp))]
  exact ih fun y hy=>h y (by simp [hy])
theorem ArP {F:List Int} {k:Nat} (hk:k<bs.length) (h:∀ j,j<k→LF bs F j=0) (he:LF bs F k≠0):Ak ((List.range bs.length).map (LF bs F))=LF bs F k :=
 QU (k:=k) (fun j x hj hx=>by
  have hjn:j<bs.length:=by omega
  simp [hjn] at hx
  rw [←hx]
  exact h j hj) (by simp [hk]) he
theorem AnF {F:List Int} (h:∀ j,j<bs.length→LF bs F j=0):Ak ((List.range bs.length).map (LF bs F))=0 :=
 Nj fun x hx=>by
  obtain ⟨j,hj,rfl⟩:=List.mem_map.1 hx
  exact h j (List.mem_range.1 hj)
section
variable {ps:List Prt} {bs:List Bk} {F:List Int}
theorem cp_1 (h:¬ F.length=bs.length):HM ps bs F=11:=if_pos h
theorem cp_2 (h:F.length=bs.length) (h2:¬ F.all HJ=true):HM ps bs F=3:=by unfold HM;rw [if_neg (not_not_intro h),if_pos h2]
theorem Auj (h:F.length=bs.length) (h2:F.all HJ=true) {k:Nat} (hk:k<bs.length) (h3:∀ j,j<k→LF bs F j=0) (he:LF bs F k≠0):HM ps bs F=LF bs F k:=by
 unfold HM
 rw [if_neg (not_not_intro h),if_neg (not_not_intro h2),ArP hk h3 he,if_pos he]
theorem cp_4 (h:F.length=bs.length) (h2:F.all HJ=true) (h3:∀ j,j<bs.length→LF bs F j=0):HM ps bs F=if (Cr ps bs F).all Ais=true then 0 else 3:=by
 unfold HM
 rw [if_neg (not_not_intro h),if_neg (not_not_intro h2),AnF h3,if_neg (by simp)]
theorem DE (h2:F.all HJ=true) (j:Nat):0≤scA F j∧scA F j≤30:=by
 unfold scA
 cases hj:F[j]? with
 | none=>simp
 | some z =>
  have:=List.all_eq_true.1 h2 z (gM hj)
  have:=of_decide_eq_true this
  simpa using this
theorem CX (h:bs[j]?=some y):PQ bs j=y:=by unfold PQ;rw [h];rfl
theorem Cw (h:bs[j]?=some y):AK bs j=y.kind:=by unfold AK;rw [h];rfl
theorem GD (h:F[j]?=some z):scA F j=z:=by unfold scA;rw [h];rfl
end
section
variable {ps:List Prt} {bs:List Bk} {os:List Int}
theorem XW (h:AO ps bs os=0) {i:Nat} {y:Bk} (hy:bs[i]?=some y):Cp ps.length bs.length y=0 :=
 CC (AdH (Lz h).2.1) _ (List.mem_map.2 ⟨y,gM hy,rfl⟩)
theorem Co (h:AO ps bs os=0) {i:Nat} {y:Bk} (hy:bs[i]?=some y):0≤Bc y.kind∧((y.args.length:Nat):Int)=Bc y.kind∧∀ a∈y.args,0≤a∧a<(Cy ps.length bs.length y.kind:Int):=Zp (XW h hy)
theorem HW (h:AO ps bs os=0) {i:Nat} {y:Bk} (hy:bs[i]?=some y) (hv:Sv y.kind=true):Dn y.vn y.ve:=by
 have h1:=XW h hy
 have ha:=Co h hy
 unfold Cp at h1
 rw [if_neg (by omega),if_neg (not_not_intro ha.2.1)] at h1
 by_cases h3:Ak (y.args.map (QL (Cy ps.length bs.length y.kind)))=0
 ·rw [if_neg (not_not_intro h3)] at h1
  by_cases h4:DT y.vn y.ve (Sv y.kind)=0
  ·rw [hv] at h4
   unfold DT at h4
   rw [if_pos rfl] at h4
   by_cases h5:Dn y.vn y.ve
   ·exact h5
   ·rw [if_neg h5] at h4;cases h4
  ·rw [if_pos h4] at h1
   exact absurd h1 h4
 ·rw [if_pos h3] at h1
  cases h1
theorem Nk (h:AO ps bs os=0) {i:Nat} {p:Prt} (hp:ps[i]?=some p):Gj p=0:=by
 have h1:=(Lz h).2.1
 unfold ER at h1
 rw [AQ] at h1
 by_cases h2:Ak (ps.map Gj)=0
 ·exact CC h2 _ (List.mem_map.2 ⟨p,gM hp,rfl⟩)
 ·rw [if_neg h2] at h1
  exact absurd h1 h2
theorem Ia (h:(Bn bs)[u]?=some i):i<bs.length∧AK bs i≠2:=(GR bs.length (Gi.nil bs)).mem i (gM h)
theorem Ul:(Bn bs).length≤bs.length:=lT (GR bs.length (Gi.nil bs)).le (QJ bs)
end
theorem Aez {F:List Int} (h:(Bn bs)[u]?=some i) :
  ((Bn bs).take (u+1)).flatMap (fun j=>Fv ps bs F j (AY bs j))=((Bn bs).take u).flatMap (fun j=>Fv ps bs F j (AY bs j))++Fv ps bs F i (AY bs i):=by
 rw [aq,h]
 simp
theorem Ait {F:List Int} (j:Nat) (c:Int):(Fv ps bs F j c).length≤2:=by
 unfold Fv
 dsimp only
 repeat' split
 all_goals simp
theorem Aiu {F:List Int} (l:List Nat):(l.flatMap (fun j=>Fv ps bs F j (AY bs j))).length≤2*l.length:=by
 induction l with
 | nil=>simp
 | cons x l ih =>
  have:=Ait (ps:=ps) (bs:=bs) (F:=F) x (AY bs x)
  simp only [List.flatMap_cons,ak,bi]
  omega
theorem Avj {a b:Int} (h:a=b):Ending.returned (.int .i64 a)=.returned (.int .i64 b):=by rw [h]
theorem Um (k:Int) (w:World):Calls prog 118 #[.int .i64 k] w fun e w'=>e=.returned (.int .i64 (opM k))∧w=w':=by
 go_enter func118,ntmps118
 go_wp2
 all_goals
  go_ret
  exact ⟨Avj (by unfold opM;simp_all),rfl⟩
theorem Abf:TyB prog 176 [] []:=⟨⟨_,underlying176,by kernel_rfl⟩,by kernel_rfl,by kernel_rfl⟩
abbrev CQ (p:Int × Nat):Bool:=AnC p.1.natAbs p.2
def tlV:Value:=.iface 176 (.agg #[])
def tlC:List PanicEntry:=[{ v:=tlV,recovered:=false }]
def cV:Option (Int × Nat)→List C
 | none=>[.d (.val (.bool false)),.d (.val (.slice none 0 0)),.d (.val (.int .i64 0))]
 | some p=>(dDy false p.1 p.2).map C.d
def cVs (l:List (Option (Int × Nat))):List C:=(l.map cV).flatten
def gV (l:List (Option (Int × Nat))):List (Int × Nat):=l.map (·.getD (0,0))
theorem QV (o:Option (Int × Nat)):(cV o).length=3:=by cases o <;> rfl
theorem AnG (l:List (Option (Int × Nat))):(cVs l).length=l.length*3:=by
 induction l with
 | nil=>rfl
 | cons o l ih =>
  have:(cVs (o::l)).length=(cV o).length+(cVs l).length:=by simp [cVs]
  rw [this,ih,QV,bi];omega
theorem GT (o:Option (Int × Nat)) (l:List (Option (Int × Nat))):cVs (o::l)=cV o++cVs l:=by simp [cVs]
theorem Akk:∀ {l:List (Option (Int × Nat))} {i:Nat} {o:Option (Int × Nat)},l[i]?=some o→((cVs l).drop (i*3)).take 3=cV o
 | [],i,o,h=>by simp at h
 | q::l,0,o,h=>by
  simp only [gk,Option.some.injEq] at h
  subst h
  rw [GT,fx,ji,kp (by rw [QV];omega),ar (by rw [QV];omega)]
 | q::l,i+1,o,h=>by
  simp only [fh] at h
  rw [GT,show (i+1)*3=(cV q).length+i*3 by rw [QV];omega,←jq,jr]
  exact Akk h
theorem AeA:∀ {l:List (Option (Int × Nat))} {i:Nat} (p:Int × Nat),i<l.length→(cVs l).take (i*3)++(dDy false p.1 p.2).map C.d++(cVs l).drop (i*3+3)=cVs (l.set i (some p))
 | [],i,p,h=>by simp at h
 | q::l,0,p,h=>by
  rw [GT,fx,gq,ef,bf,dg,GT,show (3:Nat)=(cV q).length from (QV q).symm,jr]
  rfl
 | q::l,i+1,p,h=>by
  have ih:=AeA (l:=l) (i:=i) p (by simpa using h)
  rw [GT,dm,GT,←ih,show (i+1)*3+3=(cV q).length+(i*3+3) by rw [QV];omega,←jq,jr,show (i+1)*3=(cV q).length+i*3 by rw [QV];omega,List.take_length_add_append]
  simp
theorem AnH (n:Nat):Ey (madeCells (Value.agg #[.bool false,.slice none 0 0,.int .i64 0]).cells (n*3)).toList=cVs (List.replicate n none):=by
 have h1:∀ a:Nat,(madeCells (Value.agg #[.bool false,.slice none 0 0,.int .i64 0]).cells a).toList=(List.range a).map (fun j=>#[Value.bool false,.slice none 0 0,.int .i64 0][j % 3]!):=fun a=>by
  unfold madeCells
  rw [mi,Array.toList_range]
  rfl
 rw [h1]
 induction n with
 | zero=>rfl
 | succ n ih =>
  rw [show (n+1)*3=n*3+1+1+1 by omega,ct,ct,ct,List.replicate_succ']
  simp only [et,Ey] at ih ⊢
  rw [ih]
  simp only [cVs,et,List.flatten_append,bp,fv,show n*3 % 3=0 by omega,show (n*3+1) % 3=1 by omega,show (n*3+1+1) % 3=2 by omega,ja]
  rfl
theorem AeB:∀ c∈cVs l,C.bel n c:=fun c hc=>by
 obtain ⟨cs,hcs,hc⟩:=List.mem_flatten.1 hc
 obtain ⟨o,_,rfl⟩:=List.mem_map.1 hcs
 cases o with
 | none=>simp [cV] at hc;rcases hc with rfl|rfl|rfl <;> trivial
 | some p=>exact AnB c hc
theorem Ox (x:Int) (d:Nat):∀ u∈dDy false x d,Dh u:=fun u hu=>by
 simp only [dDy,bz,ce,or_false] at hu
 rcases hu with rfl|rfl|rfl
 ·exact .val _
 ·refine .row fun u hu=>?_
  obtain ⟨v,_,rfl⟩:=List.mem_map.1 hu
  exact .val _
 ·exact .val _
theorem ArQ {t:Bool} (o:Option (Int × Nat)):Ba (FD t H) (cV o) (dyP (o.getD (0,0))):=by
 cases o with
 | none =>
  show Ba (FD t H) _ (dDy false 0 0)
  have e:dDy false 0 0=[.val (.bool false),.row false 1 0 [],.val (.int .i64 0)]:=A.agg.inj Ml
  rw [e]
  exact .cons_ (.d fun _=>.val _) (.cons_ .nil (.cons_ (.d fun _=>.val _) .nil_))
 | some p=>exact Ba.map_l.2 ⟨rfl,fun j a b ha hb=>by
   have:(dDy false p.1 p.2)[j]?=some b:=hb
   rw [ha] at this
   cases this
   exact .d fun _=>Ox _ _ a (gM ha)⟩
theorem AnI {t:Bool} (l:List (Option (Int × Nat))):Ba (FD t H) (cVs l) (Ay dyP (gV l)):=by
 induction l with
 | nil=>exact Ba.nil_
 | cons o l ih =>
  rw [GT]
  exact (ArQ o).app ih
theorem AeC (l:List (Option (Int × Nat))):(gV l).length=l.length:=af ..
theorem Abg {p:Int × Nat} (h:l[i]?=some (some p)):(gV l)[i]?=some p:=by
 unfold gV
 rw [ag,h]
 rfl
theorem Un {t:Bool} {c:C} {y:D} (hc:c=.own id n) (hH:H[id]?=some (.row ty 3 n (cVs l))) (hy:y=.row t 3 n (Ay dyP (gV l))):FD t H c y:=Dx hc hH hy (AnI l)
theorem AeD {t:Bool} {c:C} {y:D} {l:List (Int × Nat)} (hc:c=.own id n) (hH:H[id]?=some (.row ty 3 n ((Ay dyP l).map C.d))) (hy:y=.row t 3 n (Ay dyP l)):FD t H c y :=
 Dx hc hH hy (Ba.map_l.2 ⟨rfl,fun j a b ha hb=>by
  rw [ha] at hb
  cases hb
  exact .d fun _=>Ce (f:=dyP) (fun p=>Ox _ _) l a (gM ha)⟩)
section
variable {P:Program} {G:World→Prop} {o:Oper} {F:Frm} {H:List Ob}
theorem ZA {t e:TypeId} {x y:Operand} {by_:Nat} {k k':IntKind} (ho:o.op=.makeSlice t x y) (hx:F.ev x=.one (.d (.val (.int k (n:Int))))) (hy:F.ev y=.one (.d (.val (.int k' (n:Int))))) (ht:TyS P t e 3) (hz:TyZ P e (.agg #[.bool false,.slice none 0 0,.int .i64 0]) 3 by_) (hn:n≤1000000) (hby:by_≤1000) :
  Bd P G o F H (.one (.own H.length n)) [.row e 3 n (cVs (List.replicate n none))]:=by
 have:=Br (P:=P) (G:=G) (H:=H) ho hx hy ht hz hn hby
 rwa [AnH] at this
theorem ZB {t ty:TypeId} {x:Operand} {p:Int × Nat} (ho:o.op=.load t x) (hx:F.ev x=.one (.ref id (i*3) (some n))) (hH:H[id]?=some (.row ty 3 n (cVs l))) (hp:l[i]?=some (some p)) (hk:TyK P t true 3):Bd P G o F H (.agg ((dDy false p.1 p.2).map C.d)) [] :=
 PC ho hx (.row hH) hk (Akk hp) rfl
theorem Akl {t ty:TypeId} {x y:Operand} {l':List (Option (Int × Nat))} {p:Int × Nat} (ho:o.op=.store t x y) (hx:F.ev x=.one (.ref id (i*3) (some n))) (hH:H[id]?=some (.row ty 3 n (cVs l))) (hy:F.ev y=.agg ((dDy false p.1 p.2).map C.d)) (hty:TyK P t true 3) (hi:i<l.length) (hl:l.set i (some p)=l'):TOk P G o F H .any (H.set id (.row ty 3 n (cVs l'))):=by
 have h3:((dDy false p.1 p.2).map C.d).length=3:=rfl
 have:=QH (P:=P) (G:=G) ho hx hH rfl (show Fm (F.ev y)=some ((dDy false p.1 p.2).map C.d) by rw [hy];rfl) hty rfl (by rw [h3];show i*3+3≤(cVs l).length;rw [AnG];omega)
 rw [h3] at this
 simp only [Ob.cs,Ob.setC] at this
 rw [AeA p hi,hl] at this
 exact this
end
def LB:Nat:=4096
theorem LBx:LB≤20000:=by decide
def LC:Nat:=9000
theorem Auk:LB≤LC:=by decide
theorem Abh {p:Int × Nat} (hn:Nf p.1 p.2) (h:CQ p=false):Sm p LB LB:=by
 have h1:¬ 4096<max (Bu p.1.natAbs) p.2:=of_decide_eq_false h
 exact ⟨hn,DD.1 (by unfold LB;omega),by unfold LB;omega⟩
def Nl (vs:List (Option (Int × Nat))) (y:Bk):List (Int × Nat):=if y.kind=0 then [] else y.args.map fun a=>(vs[a.toNat]?.getD none).getD (0,0)
def tkV (ps:List Prt) (bs:List Bk) (ins:List Int) (vs:List (Option (Int × Nat))) (i:Nat):Int × Nat:=match bs[i]? with
 | some y=>Dt y (Nl vs y) ps ins
 | none=>(0,0)
def AnJ (ps:List Prt) (bs:List Bk) (ins:List Int) (vs:List (Option (Int × Nat))) (l:List Nat):List (Option (Int × Nat)):=l.foldl (fun v i=>v.set i (some (tkV ps bs ins v i))) vs
def XY (dl:List Nat) (st:List (Int × Nat)) (vs:List (Option (Int × Nat))):List (Option (Int × Nat)):=(dl.zip st).foldl (fun v p=>v.set p.1 (some p.2)) vs
theorem ZC (ps:List Prt) (bs:List Bk) (ins:List Int):∀ (l:List Nat) (vs:List (Option (Int × Nat))),(AnJ ps bs ins vs l).length=vs.length
 | [],vs=>rfl
 | i::l,vs=>by show (AnJ ps bs ins _ l).length=_;rw [ZC ps bs ins l];simp
theorem Nm:∀ (dl:List Nat) (st:List (Int × Nat)) (vs:List (Option (Int × Nat))),(XY dl st vs).length=vs.length
 | [],st,vs=>rfl
 | i::dl,[],vs=>rfl
 | i::dl,x::st,vs=>by show (XY dl st _).length=_;rw [Nm dl st];simp
theorem AeE (ps:List Prt) (bs:List Bk) (ins:List Int) (vs:List (Option (Int × Nat))) {l:List Nat} {t j:Nat} (h:l[t]?=some j):AnJ ps bs ins vs (l.take (t+1))=(AnJ ps bs ins vs (l.take t)).set j (some (tkV ps bs ins (AnJ ps bs ins vs (l.take t)) j)):=by
 unfold AnJ
 rw [aq,h,eb,fa]
 rfl
theorem QW (vs:List (Option (Int × Nat))) {dl:List Nat} {st:List (Int × Nat)} {t j:Nat} {p:Int × Nat} (h:dl[t]?=some j) (h2:st[t]?=some p):XY (dl.take (t+1)) (st.take (t+1)) vs=(XY (dl.take t) (st.take t) vs).set j (some p):=by
 have l1:=(gS.1 h).1
 have l2:=(gS.1 h2).1
 unfold XY
 rw [aq,aq,h,h2,eb,eb,List.zip_append (by simp;omega),fa]
 rfl
def Mn (ps:List Prt) (bs:List Bk) (st:List (Int × Nat)) (ins:List Int) (t:Nat):List (Option (Int × Nat)):=AnJ ps bs ins (XY (AI bs) st (List.replicate bs.length none)) ((Bn bs).take t)
def Wb (ps:List Prt) (bs:List Bk) (st:List (Int × Nat)) (ins:List Int) (t:Nat):Int × Nat:=tkV ps bs ins (Mn ps bs st ins t) ((Bn bs)[t]?.getD 0)
def DZ (ps:List Prt) (bs:List Bk) (st:List (Int × Nat)) (ins:List Int):Bool:=st.any CQ || (List.range (Bn bs).length).any fun t=>CQ (Wb ps bs st ins t)
def RB (ps:List Prt) (bs:List Bk) (st:List (Int × Nat)) (ins:List Int):List (Int × Nat):=gV (Mn ps bs st ins (Bn bs).length)
def Aiv (bs:List Bk) (i:Nat):Nat:=(((bs[i]?.map Bk.args).getD [])[0]?.getD 0).toNat
def FH (ps:List Prt) (bs:List Bk) (st:List (Int × Nat)) (ins:List Int):List (Int × Nat):=(AI bs).map fun i=>((RB ps bs st ins)[Aiv bs i]?).getD (0,0)
theorem IW (ps:List Prt) (bs:List Bk) (st:List (Int × Nat)) (ins:List Int) (t:Nat):(Mn ps bs st ins t).length=bs.length:=by unfold Mn;rw [ZC,Nm,dt]
theorem Nn (h:(Bn bs)[t]?=some j):Mn ps bs st ins (t+1)=(Mn ps bs st ins t).set j (some (Wb ps bs st ins t)):=by
 unfold Wb
 rw [h]
 exact AeE ps bs ins _ h
theorem ZD (ps:List Prt) (bs:List Bk) (st:List (Int × Nat)) (ins:List Int):Mn ps bs st ins 0=XY (AI bs) st (List.replicate bs.length none):=rfl
structure Has (vs:List (Option (Int × Nat))) (D:Nat→Prop):Prop where
 at_:∀ i,D i→∃ p,vs[i]?=some (some p)∧Sm p LB LB
theorem Has.set {vs:List (Option (Int × Nat))} {D D':Nat→Prop} (h:Has vs D) {j:Nat} {p:Int × Nat} (hj:j<vs.length) (hp:Sm p LB LB) (hD:∀ i,D' i→D i∨i=j):Has (vs.set j (some p)) D':=⟨fun i hi=>by
 rw [bk]
 by_cases hij:j=i
 ·rw [if_pos hij,if_pos hj]
  exact ⟨p,rfl,hp⟩
 ·rw [if_neg hij]
  rcases hD i hi with h1|h1
  ·exact h.at_ i h1
  ·exact absurd h1.symm hij⟩
theorem Sm.zero (n d:Nat):Sm (0,0) n d:=⟨⟨by decide,fun h=>absurd rfl h⟩,bu n,ad d⟩
theorem CY {l:List (Int × Nat)} {d:Nat} (h:∀ p∈l,Sm p n d) (k:Nat):Sm (l[k]?.getD (0,0)) n d:=by
 cases hk:l[k]? with
 | none=>exact Sm.zero n d
 | some p=>exact h p (gM hk)
theorem ArR {l:List (Int × Nat)} (hl:∀ p∈l,Sm p LB LB) (hv:(y.kind=1∨y.kind=6∨y.kind=11)→Dn y.vn y.ve) (hu:y.kind=11→Dn y.un y.ue) (hk:y.kind=1∨y.kind=3∨y.kind=4∨y.kind=5∨y.kind=6∨y.kind=7∨y.kind=8∨y.kind=9∨y.kind=10∨y.kind=11):Sm (Gm y l) LC LC:=by
 have a:=CY hl 0
 have b:=CY hl 1
 have sc:∀ {n e:Int},Dn n e→Sm (Ac n 0 e) LB LB:=fun h=>by
  obtain ⟨h1,h2,h3,h4⟩:=h
  exact (Sm.shift (n:=32) (by omega) (by omega) (by omega)).more (by decide) (by decide)
 have up:∀ {r:Int × Nat},Sm r LB LB→Sm r LC LC:=fun h=>h.more (by decide) (by decide)
 unfold Gm
 generalize l[0]?.getD (0,0)=p at a ⊢
 generalize l[1]?.getD (0,0)=q at b ⊢
 rcases hk with h|h|h|h|h|h|h|h|h|h <;> simp only [h,Int.reduceEq,if_true,if_false,reduceIte]
 ·exact up (sc (hv (.inl h)))
 ·exact (Sm.sum a b (by decide:LB≤65536)).more (by decide:LB+LB+1≤LC) Auk
 ·exact (Sm.sum a b.neg (by decide:LB≤65536)).more (by decide:LB+LB+1≤LC) Auk
 ·exact up a.neg
 ·exact (Sm.mul (sc (hv (.inr (.inl h)))) a (by decide:LB≤30000)).more (by decide:LB+LB≤LC) (by decide:LB+LB≤LC)
 ·exact (Sm.mul a b (by decide:LB≤30000)).more (by decide:LB+LB≤LC) (by decide:LB+LB≤LC)
 ·exact up (Sm.min a b)
 ·exact up (Sm.max a b)
 ·exact up a.abs
 ·exact up (Sm.min (Sm.max a (sc (hv (.inr (.inr h))))) (sc (hu h)))
theorem GU (h:AO ps bs os=0) {i:Nat} {y:Bk} (hy:bs[i]?=some y) (hk:y.kind=11):Dn y.vn y.ve∧Dn y.un y.ue∧BM (Ac y.vn 0 y.ve).1 (Ac y.vn 0 y.ve).2 (Ac y.un 0 y.ue).1 (Ac y.un 0 y.ue).2≤0:=by
 have h1:=XW h hy
 have ha:=Co h hy
 have hv:=HW h hy (by unfold Sv;rw [hk];rfl)
 unfold Cp at h1
 rw [if_neg (by omega),if_neg (not_not_intro ha.2.1)] at h1
 by_cases h3:Ak (y.args.map (QL (Cy ps.length bs.length y.kind)))=0
 ·rw [if_neg (not_not_intro h3)] at h1
  by_cases h4:DT y.vn y.ve (Sv y.kind)=0
  ·rw [if_neg (not_not_intro h4)] at h1
   by_cases h5:DT y.un y.ue (Pt y.kind)=0
   ·rw [if_neg (not_not_intro h5)] at h1
    have hc:Pt y.kind=true:=by unfold Pt;rw [hk];rfl
    rw [hc] at h5
    have hu:=XH h5
    refine ⟨hv,hu,?_⟩
    rw [QP (IP hv.2.2.1 hv.2.2.2) (IP hu.2.2.1 hu.2.2.2)]
    by_cases h6:0<VK y.vn y.ve y.un y.ue
    ·rw [if_pos ⟨hc,h6⟩] at h1;cases h1
    ·exact Int.not_lt.1 h6
   ·rw [if_pos h5] at h1;exact absurd h1 h5
  ·rw [if_pos h4] at h1;exact absurd h1 h4
 ·rw [if_pos h3] at h1;cases h1
theorem Np (h:AO ps bs os=0) {i:Nat} {y:Bk} (hy:bs[i]?=some y):y.kind=0∨y.kind=1∨y.kind=2∨y.kind=3∨y.kind=4∨y.kind=5∨y.kind=6∨y.kind=7∨y.kind=8∨y.kind=9∨y.kind=10∨y.kind=11:=by
 have:=(Co h hy).1
 unfold Bc at this
 (repeat' split at this) <;> omega
theorem GV (h:bs[i]?=some y):AK bs i=y.kind:=by unfold AK;rw [h];rfl
theorem Uo (h:bs[i]?=some y) (h0:y.kind≠0):Lk bs i=y.args:=by
 unfold Lk Su
 rw [GV h,if_neg h0,h]
 rfl
def ApB (ps:List Prt) (ins:List Int) (i:Nat):Bool:=match ps[i]?,ins[i]? with
 | some p,some z=>decide (p.lo≤z∧z≤p.hi)
 | _,_=>true
def Wc (ps:List Prt) (ins:List Int):Bool:=(List.range ins.length).all (ApB ps ins)
theorem Akm (h:Wc ps ins=true) {i:Nat} {p:Prt} {z:Int} (hp:ps[i]?=some p) (hz:ins[i]?=some z):p.lo≤z∧z≤p.hi:=by
 have:=List.all_eq_true.1 h i (List.mem_range.2 (gS.1 hz).1)
 unfold ApB at this
 rw [hp,hz] at this
 exact of_decide_eq_true this
def Wd (bs:List Bk) (t:Nat) (i:Nat):Prop:=(i<bs.length∧AK bs i=2)∨i∈(Bn bs).take t
structure Tick (ps:List Prt) (bs:List Bk) (ins:List Int) (vs:List (Option (Int × Nat))) (y:Bk):Prop where
 hk:y.kind=0∨y.kind=1∨y.kind=3∨y.kind=4∨y.kind=5∨y.kind=6∨y.kind=7∨y.kind=8∨y.kind=9∨y.kind=10∨y.kind=11
 args:y.kind≠0→∀ (k:Nat) (a:Int),y.args[k]?=some a→∃ p,0≤a∧a.toNat<bs.length∧vs[a.toNat]?=some (some p)∧(Nl vs y)[k]?=some p
 len:y.args.length≤2
 hl:∀ k:Nat,(k=0∧y.kind≠0∧y.kind≠1∨k=1∧(y.kind=3∨y.kind=4∨y.kind=7∨y.kind=8∨y.kind=9))→∃ p i,(Nl vs y)[k]?=some p∧y.args[k]?=some ((i:Nat):Int)∧(gV vs)[i]?=some p
 hs:∀ p∈Nl vs y,Sm p LB LB
 hin:y.kind=0→∃ (i:Nat) (z:Int) (pp:Prt),y.args[0]?=some (i:Int)∧ins[i]?=some z∧ps[i]?=some pp ∧ -9223372036854775808≤z∧z<9223372036854775808 ∧ -100≤pp.fr∧pp.fr≤100
 hsv:(y.kind=1∨y.kind=6∨y.kind=11)→Dn y.vn y.ve
 hsu:y.kind=11→Dn y.un y.ue
 hcl:y.kind=11→BM (Ac y.vn 0 y.ve).1 (Ac y.vn 0 y.ve).2 (Ac y.un 0 y.ue).1 (Ac y.un 0 y.ue).2≤0
 sm:Sm (Dt y (Nl vs y) ps ins) LC LC
theorem Aiw (he:AO ps bs os=0) {ins:List Int} (hi:Wc ps ins=true) (hil:ins.length=ps.length) {vs:List (Option (Int × Nat))} {j:Nat} {y:Bk} (hy:bs[j]?=some y) (hk2:y.kind≠2) (hv:y.kind≠0→∀ a∈y.args,0≤a→a<(bs.length:Int)→∃ p,vs[a.toNat]?=some (some p)∧Sm p LB LB):Tick ps bs ins vs y:=by
 have hK:=Np he hy
 have hA:=Co he hy
 have hlen:y.args.length≤2:=by
  have h1:=hA.1
  have h2:=hA.2.1
  unfold Bc at h1 h2
  (repeat' split at h2) <;> omega
 have args:y.kind≠0→∀ (k:Nat) (a:Int),y.args[k]?=some a→∃ p,0≤a∧a.toNat<bs.length∧vs[a.toNat]?=some (some p)∧(Nl vs y)[k]?=some p∧Sm p LB LB:=fun h0 k a ha=>by
  have hm:=gM ha
  have hb:=hA.2.2 a hm
  rw [show Cy ps.length bs.length y.kind=bs.length from if_neg h0] at hb
  obtain ⟨p,hp,hsm⟩:=hv h0 a hm hb.1 hb.2
  exact ⟨p,hb.1,by omega,hp,by unfold Nl;rw [if_neg h0,ag,ha,bo,hp];rfl,hsm⟩
 have hs:y.kind≠0→∀ p∈Nl vs y,Sm p LB LB:=fun h0 p hp=>by
  obtain ⟨k,hk⟩:=List.mem_iff_getElem?.1 hp
  have hk':=hk
  unfold Nl at hk'
  rw [if_neg h0,ag,dk] at hk'
  obtain ⟨a,ha,_⟩:=hk'
  obtain ⟨q,_,_,_,h4,h5⟩:=args h0 k a ha
  rw [hk] at h4
  cases h4
  exact h5
 have hin:y.kind=0→∃ (i:Nat) (z:Int) (pp:Prt),y.args[0]?=some (i:Int)∧ins[i]?=some z∧ps[i]?=some pp ∧ -9223372036854775808≤z∧z<9223372036854775808 ∧ -100≤pp.fr∧pp.fr≤100:=fun h0=>by
  have h1:=hA.2.1
  rw [h0] at h1
  have hl1:y.args.length=1:=by unfold Bc at h1;(repeat' split at h1) <;> omega
  obtain ⟨a,ha⟩:∃ a,y.args[0]?=some a:=⟨_,gE (by omega)⟩
  have hb:=hA.2.2 a (gM ha)
  rw [show Cy ps.length bs.length y.kind=ps.length from if_pos h0] at hb
  obtain ⟨z,hz⟩:∃ z,ins[a.toNat]?=some z:=⟨_,gE (by omega)⟩
  obtain ⟨p,hp⟩:∃ p,ps[a.toNat]?=some p:=⟨_,gE (by omega)⟩
  have hr:=Akm hi hp hz
  have hpp:=Nk he hp
  have h3 : -2147483648≤p.lo∧p.lo≤p.hi∧p.hi<2147483648∧0≤p.fr∧p.fr≤30:=bw fun hn=>by unfold Gj at hpp;rw [if_neg hn] at hpp;cases hpp
  exact ⟨a.toNat,z,p,by rw [ha];congr 1;omega,hz,hp,by omega,by omega,by omega,by omega⟩
 have hsv:(y.kind=1∨y.kind=6∨y.kind=11)→Dn y.vn y.ve:=fun h=>HW he hy (by unfold Sv;rcases h with h|h|h <;> rw [h] <;> rfl)
 have hsu:y.kind=11→Dn y.un y.ue:=fun h=>(GU he hy h).2.1
 have h0s:y.kind=0→∀ p∈([]:List (Int × Nat)),Sm p LB LB:=fun _ p hp=>by cases hp
 have hk3:y.kind=0∨y.kind=1∨y.kind=3∨y.kind=4∨y.kind=5∨y.kind=6∨y.kind=7∨y.kind=8∨y.kind=9∨y.kind=10∨y.kind=11:=by clear hin args hs;omega
 refine ⟨hk3,fun h0 k a ha=>?_,hlen,fun k hk=>?_,?_,hin,hsv,hsu,fun h=>(GU he hy h).2.2,?_⟩
 ·obtain ⟨p,h1,h2,h3,h4,_⟩:=args h0 k a ha
  exact ⟨p,h1,h2,h3,h4⟩
 ·have h0:y.kind≠0:=by omega
  have hkl:k<y.args.length:=by
   have h1:=hA.2.1
   unfold Bc at h1
   (repeat' split at h1) <;> omega
  obtain ⟨a,ha⟩:∃ a,y.args[k]?=some a:=⟨_,gE hkl⟩
  obtain ⟨p,h1,h2,h3,h4,_⟩:=args h0 k a ha
  exact ⟨p,a.toNat,h4,by rw [ha];congr 1;omega,Abg h3⟩
 ·by_cases h0:y.kind=0
  ·unfold Nl;rw [if_pos h0];exact h0s h0
  ·exact hs h0
 ·unfold Dt
  by_cases h0:y.kind=0
  ·rw [if_pos h0]
   obtain ⟨i,z,pp,q1,q2,q3,q4,q5,q6,q7⟩:=hin h0
   rw [q1]
   simp only [bd,ao,q2,q3,bo]
   exact (Sm.shift (n:=64) (by omega) (by omega) (by omega)).more (by decide) (by decide)
  ·rw [if_neg h0]
   exact ArR (hs h0) hsv hsu (by clear hin args hs;omega)
theorem XZ (he:AO ps bs os=0) {ins:List Int} (hi:Wc ps ins=true) (hil:ins.length=ps.length) {vs:List (Option (Int × Nat))} {t j:Nat} (hj:(Bn bs)[t]?=some j) (hv:Has vs (Wd bs t)):∃ y,bs[j]?=some y∧y.kind≠2∧Tick ps bs ins vs y:=by
 obtain ⟨hjl,hk2⟩:=Ia hj
 obtain ⟨y,hy⟩:∃ y,bs[j]?=some y:=⟨_,gE hjl⟩
 rw [GV hy] at hk2
 refine ⟨y,hy,hk2,Aiw he hi hil hy hk2 fun h0 a ha a0 a1=>?_⟩
 have hsplit:Bn bs=(Bn bs).take t++j::(Bn bs).drop (t+1):=by
  obtain ⟨hlt,he⟩:=gS.1 hj
  rw [←he,←dp hlt,fp]
 have hd:=Nd hsplit (a:=a) (by rw [Uo hy h0];exact ha)
 exact hv.at_ a.toNat (hd.imp (fun h=>⟨by omega,h⟩) id)
theorem ArS (h:p:=by first|exact Ael rfl rfl rfl hm|exact Gf rfl rfl rfl):p:=h
theorem We (p:Int × Nat) (hn:Nf p.1 p.2) (lp:(Ae p.1.natAbs).length≤40000) (h:CQ p=false):CV prog An 132 [aDy false p.1 p.2] [aDy false p.1 p.2]:=by
 refine cvz func132 ntmps132 ?_
 have BT:=IR p.1 p.2 hn lp
 have hm:max ((Bu p.1.natAbs:Nat):Int) (p.2:Int)=((max (Bu p.1.natAbs) p.2:Nat):Int):=by omega
 have hl:¬ 4096<max (Bu p.1.natAbs) p.2:=of_decide_eq_false h
 repeat' (with_reducible first|refine qq ?_|(refine Tx 0 ?_;refine gN xBo <| gN (xAl Ao) ?_)|(refine BU (id:=1) AN (by kernel_rfl) ?_;refine gP xL <| gP (xCl func212 (BT)) <| gP xF <| gP xD <| gP ArS <| gP xGt ?_;refine Ke ?_)|(refine Tx 3 ?_;refine gO xL <| gZ (xSk Ad) ?_))
 exact Ln
theorem SO (p:Int × Nat) (hn:Nf p.1 p.2) (lp:(Ae p.1.natAbs).length≤40000) (h:CQ p=true):CVP prog An 132 [aDy false p.1 p.2] tlC:=by
 refine AqK RL func132 rfl ntmps132 (bg rfl) ?_
 have BT:=IR p.1 p.2 hn lp
 have hm:max ((Bu p.1.natAbs:Nat):Int) (p.2:Int)=((max (Bu p.1.natAbs) p.2:Nat):Int):=by omega
 have hl:4096<max (Bu p.1.natAbs) p.2:=of_decide_eq_true h
 repeat' (with_reducible first|(refine Ads (id:=2) (chain:=tlC) 2 (by kernel_rfl) (by with_unfolding_all exact rfl) (by with_unfolding_all exact rfl) ?_;dsimp only [List.take];refine gO (by exact Az rfl Abf rfl rfl) <| gO (by exact XF rfl rfl underlying176 rfl) ?_;refine Je ?_;exact ⟨by with_unfolding_all exact AhF rfl rfl,by with_unfolding_all exact rfl⟩)|refine qq ?_|(refine Tx 0 ?_;refine gN xBo <| gN (xAl Ao) ?_)|(refine BU (id:=1) AN (by kernel_rfl) ?_;refine gP xL <| gP (xCl func212 (BT)) <| gP xF <| gP xD <| gP ArS <| gP xGt ?_;refine Ke ?_))
theorem Ib {l:List Nat} (h:l[t]?=some j):(BZ l)[t]?=some (j:Int):=by simp [BZ,h]
def okQ {α:Type} (e:Int) (l:List α):List α:=if e=0 then l else []
theorem Gn {α:Type} (h:e≠0) (l:List α):okQ e l=[]:=if_neg h
theorem RP {α:Type} (h:e=0) (l:List α):okQ e l=l:=if_pos h
def Akn (l:List (Int × Nat)):A:=.one (.row false 3 l.length (Ay dyP l))
def rvP (r:Rv):Int × Nat:=(r.rw.x,r.rw.d)
def Acc (rs:List Rv):D:=.row false 3 rs.length (Ay (dRv false) rs)
theorem Ya {rs:List Rv} {k:Nat} (h:rs[k]?=some r):((Ay (dRv false) rs).drop (k*3)).take 3=dRv false r:=FQ (f:=dRv false) (s:=3) (fun _=>rfl) h
def stE (ps:List Prt) (bs:List Bk) (os:List Int) (rs:List Rv) (ins:List Int):Int :=
 if AO ps bs os≠0 then AO ps bs os else if rs.length≠(AI bs).length then 11 else if rs.all (fun r=>vdB r.rw)=false then 2
 else if ins.length≠ps.length then 11 else if Wc ps ins=false then 3 else if DZ ps bs (rs.map rvP) ins=true then 4 else 0
section
variable {ps:List Prt} {bs:List Bk} {os:List Int} {rs:List Rv} {ins:List Int}
theorem stE1 (h:AO ps bs os≠0):stE ps bs os rs ins=AO ps bs os:=by unfold stE;rw [if_pos h]
theorem stE2 (h:AO ps bs os=0) (h2:rs.length≠(AI bs).length):stE ps bs os rs ins=11:=by unfold stE;rw [if_neg (not_not_intro h),if_pos h2]
theorem stE3 (h:AO ps bs os=0) (h2:rs.length=(AI bs).length) (h3:rs.all (fun r=>vdB r.rw)=false):stE ps bs os rs ins=2:=by unfold stE;rw [if_neg (not_not_intro h),if_neg (not_not_intro h2),if_pos h3]
theorem stE4 (h:AO ps bs os=0) (h2:rs.length=(AI bs).length) (h3:¬ rs.all (fun r=>vdB r.rw)=false) (h4:ins.length≠ps.length):stE ps bs os rs ins=11:=by unfold stE;rw [if_neg (not_not_intro h),if_neg (not_not_intro h2),if_neg h3,if_pos h4]
theorem stE5 (h:AO ps bs os=0) (h2:rs.length=(AI bs).length) (h3:¬ rs.all (fun r=>vdB r.rw)=false) (h4:ins.length=ps.length) (h5:Wc ps ins=false):stE ps bs os rs ins=3:=by unfold stE;rw [if_neg (not_not_intro h),if_neg (not_not_intro h2),if_neg h3,if_neg (not_not_intro h4),if_pos h5]
theorem stE6 (h:AO ps bs os=0) (h2:rs.length=(AI bs).length) (h3:¬ rs.all (fun r=>vdB r.rw)=false) (h4:ins.length=ps.length) (h5:¬ Wc ps ins=false):stE ps bs os rs ins=if DZ ps bs (rs.map rvP) ins=true then 4 else 0:=by unfold stE;rw [if_neg (not_not_intro h),if_neg (not_not_intro h2),if_neg h3,if_neg (not_not_intro h4),if_neg h5]
end
theorem ED {α:Type} {p:α→Prop} {l:List α} {k:Nat} {x:α} (h:∀ q∈l.take k,p q) (hx:l[k]?=some x) (hp:p x):∀ q∈l.take (k+1),p q:=fun q hq=>by
 rw [aq,hx] at hq
 rcases List.mem_append.1 hq with hq|hq
 ·exact h q hq
 ·simp only [eb,bz,ce,or_false] at hq
  rw [hq];exact hp
theorem Up {p:Nat→Prop} {k:Nat} (h:∀ i,i<k→p i) (hk:p k):∀ i,i<k+1→p i:=fun i hi=>by
 by_cases hik:i=k
 ·rw [hik];exact hk
 ·exact h i (by omega)
theorem AnK {rs:List Rv} {k:Nat} (h:rs[k]?=some r) (hv:vdB r.rw=false):rs.all (fun r=>vdB r.rw)=false:=by
 rw [List.all_eq_false]
 exact ⟨r,gM h,by rw [hv];decide⟩
theorem AeF {k:Nat} {p:Prt} (hp:ps[k]?=some p) (hz:ins[k]?=some z) (h:z<p.lo∨p.hi<z):Wc ps ins=false:=by
 unfold Wc
 rw [List.all_eq_false]
 refine ⟨k,List.mem_range.2 (gS.1 hz).1,?_⟩
 unfold ApB
 rw [hp,hz]
 simp only [decide_eq_true_eq]
 omega
theorem AnL {k:Nat} {p:Int × Nat} (h:st[k]?=some p) (hl:CQ p=true):DZ ps bs st ins=true:=by
 unfold DZ
 rw [eg]
 exact .inl (List.any_eq_true.2 ⟨p,gM h,hl⟩)
theorem AnM (h:t<(Bn bs).length) (hl:CQ (Wb ps bs st ins t)=true):DZ ps bs st ins=true:=by
 unfold DZ
 rw [eg]
 exact .inr (List.any_eq_true.2 ⟨t,List.mem_range.2 h,hl⟩)
theorem AnN (h1:∀ p∈st,CQ p=false) (h2:∀ t,t<(Bn bs).length→CQ (Wb ps bs st ins t)=false):DZ ps bs st ins=false:=by
 unfold DZ
 rw [iu]
 exact ⟨List.any_eq_false.2 fun p hp=>by rw [h1 p hp];decide,List.any_eq_false.2 fun t ht=>by rw [h2 t (List.mem_range.1 ht)];decide⟩
theorem AeG (hn:∀ p∈st,Nf p.1 p.2∧CQ p=false) (hl:st.length=(AI bs).length):Has (XY (AI bs) st (List.replicate bs.length none)) (Wd bs 0):=by
 have key:∀ t,t≤(AI bs).length→Has (XY ((AI bs).take t) (st.take t) (List.replicate bs.length none)) (fun i=>i∈(AI bs).take t):=fun t=>by
  induction t with
  | zero=>intro _;exact ⟨fun i hi=>by simp at hi⟩
  | succ t ih =>
   intro ht
   obtain ⟨j,hj⟩:∃ j,(AI bs)[t]?=some j:=⟨_,gE (by omega)⟩
   obtain ⟨p,hp⟩:∃ p,st[t]?=some p:=⟨_,gE (by omega)⟩
   obtain ⟨h1,h2⟩:=hn p (gM hp)
   rw [QW _ hj hp]
   refine (ih (by omega)).set (by rw [Nm,dt];have:=gM hj;unfold AI at this;rw [lc,io] at this;exact this.1) (Abh h1 h2) fun i hi=>?_
   rw [aq,hj] at hi
   simpa using hi
 have h:=key (AI bs).length (aa _)
 rw [au,ar (by omega)] at h
 refine ⟨fun i hi=>h.at_ i ?_⟩
 rcases hi with ⟨h1,h2⟩|h1
 ·unfold AI
  rw [lc,io,h2]
  exact ⟨h1,rfl⟩
 ·simp at h1
theorem ZE (h:Has (Mn ps bs st ins t) (Wd bs t)) (hj:(Bn bs)[t]?=some j) (hsm:Sm (Wb ps bs st ins t) LB LB):Has (Mn ps bs st ins (t+1)) (Wd bs (t+1)):=by
 rw [Nn hj]
 refine h.set (by rw [IW];exact (Ia hj).1) hsm fun i hi=>?_
 rcases hi with h1|h1
 ·exact .inl (.inl h1)
 ·rw [aq,hj] at h1
  rcases List.mem_append.1 h1 with h1|h1
  ·exact .inl (.inr h1)
  ·exact .inr (by simpa using h1)
theorem GE {k:Nat} (h:(AI bs)[k]?=some i):i<bs.length∧AK bs i=2:=by
 have:=gM h
 unfold AI at this
 rw [lc,io] at this
 exact ⟨this.1,by simpa using this.2⟩
theorem AeH (he:AO ps bs os=0) {st:List (Int × Nat)} {ins:List Int} (h:Has (Mn ps bs st ins (Bn bs).length) (Wd bs (Bn bs).length)) {i:Nat} (hi:i<bs.length):∃ p,(Mn ps bs st ins (Bn bs).length)[i]?=some (some p)∧Sm p LB LB:=by
 refine h.at_ i ?_
 by_cases hk:AK bs i=2
 ·exact .inl ⟨hi,hk⟩
 ·refine .inr ?_
  rw [au]
  exact Uh (Lz he).2.2 hi hk
theorem AeI (w:World) (S:DH):Bo w S (.row false 3 0 []) (.slice none 0 0):=.row [] (aa _) (fun _=>rfl) rfl rfl (fun h=>absurd rfl h) (fun j u x h=>by simp at h)
theorem Yb (h:AO ps bs os=0) {i:Nat} {y:Bk} (hy:bs[i]?=some y) (hk:y.kind=2):∃ b:Nat,y.args[0]?=some (b:Int)∧b<bs.length:=by
 have hA:=Co h hy
 have h1:=hA.2.1
 rw [hk] at h1
 have hl1:y.args.length=1:=by unfold Bc at h1;(repeat' split at h1) <;> omega
 obtain ⟨a,ha⟩:∃ a,y.args[0]?=some a:=⟨_,gE (by omega)⟩
 have hb:=hA.2.2 a (gM ha)
 rw [show Cy ps.length bs.length y.kind=bs.length from if_neg (by omega)] at hb
 exact ⟨a.toNat,by rw [ha];congr 1;omega,by omega⟩
theorem Yc {b:Nat} (hy:bs[i]?=some y) (ha:y.args[0]?=some (b:Int)):Aiv bs i=b:=by
 unfold Aiv
 rw [hy,bo,bd,ha]
 rfl
theorem Oy (h:p:=by first|exact xS1 Aw|exact xSk Aw):p:=h
theorem Abi (h:p:=by first|exact xS1 FM|exact xSk FM):p:=h
theorem ArT (h:p:=by
 rw [hE,Gn (by decide),Gn (by decide)]
 repeat' (with_reducible first|apply Gg|refine qq ?_|(refine Tx 15 ?_;refine gO xLt ?_)|(refine Tx 16 ?_;refine gO xM <| gO (xIr Af (AG hz)) <| gO xD <| gO xA <| gO xA ?_)|(refine Tx 17 ?_;refine gO xM <| gO xF <| gO xD <| gO xM <| gO (xIr BI (FX hp)) <| gO xF <| gO xD <| gO xLt <| gO xM ?_;(first|iterate 8 refine Jd ?_|(refine Jy xM1 ?_;refine Jy (xFa Mi DY) ?_;refine Jy (xLd DY) ?_;refine Jy xM1 ?_;refine Jy (xIr BI (FX hp)) ?_;refine Jy (xFa IM Ar) ?_;refine Jy (xLd Ar) ?_;refine Jy xGt ?_));refine gO xPk ?_)|(refine Tx 18 ?_;refine gO (xMi underlying109) <| gZ Oy <| gZ Oy <| gZ Abi ?_))
 exact AH rfl (.cons_ (rvB Aw (EQ rfl rfl)) (.cons_ (rvB Aw (EQ rfl rfl)) (.cons_ (rvB FM (Bs rfl fun _=>.val _)) .nil_)))):p:=h
theorem Aix (h:p:=by
 exact AH rfl (.cons_ (rvB Aw (EQ rfl rfl)) (.cons_ (rvB Aw (EQ rfl rfl)) (.cons_ (rvB FM (Bs rfl fun _=>.val _)) .nil_)))):p:=h
theorem ArU (h:p:=by first|exact xIr Af (AG (Ib hi))|exact xIr Af (hra)|exact xIo (i:=i) Af):p:=h
theorem ArV (h:p:=by first|exact xIr Af (AG (Ib hj))|exact xIo (i:=j) Af):p:=h
theorem ArW (h:p:=by first|exact Akl rfl rfl rfl rfl Ad tl stV|exact xSk Ad):p:=h
theorem ArX (h:p:=by first|exact xIr Al (Fb hy)|exact xIo (i:=j) Al):p:=h
theorem Aiy (h:p:=by first|exact xIr Ah (hra)|exact xIo (i:=i) Ah):p:=h
theorem AnO (h:p:=by first|exact xNt|exact xNg):p:=h
theorem Aiz (t v:Bool) {ps:List Prt} {bs:List Bk} {os:List Int} (hl:Fa ps bs os) (rs:List Rv) (hw:∀ r∈rs,Au r.ws∧r.ws.length≤1000) (hrl:rs.length≤1000000) (ins:List Int) (hil:ins.length≤1000000):CV prog An 54 [aDg t ps bs os,.one (Acc rs),.one (AU v ins)] [Akn (okQ (stE ps bs os rs ins) (FH ps bs (rs.map rvP) ins)),Akn (okQ (stE ps bs os rs ins) (RB ps bs (rs.map rvP) ins)),aE (stE ps bs os rs ins)]:=by
 refine AqL RL func54 rfl ntmps54 (bg rfl) (fc:=131) func131 (by kernel_rfl) rfl (i1:=1) (i2:=2) (i3:=3) (t1:=6) (t2:=7) (t3:=8) (chain:=tlC) (d1:=.row false 3 0 []) (d2:=.row false 3 0 []) (d3:=.val (Hf 4)) (r1:=.slice none 0 0) (r2:=.slice none 0 0) (r3:=.iface 109 (.int .i64 4)) results54 underlying28 underlying28 underlying36 rfl rfl rfl (by decide) (fun w g1 g2 g3=>(Aev g1 g2 g3 w).mono fun e u' w' h=>⟨⟨_,h.1⟩,h.2.1,h.2.2 ▸ ab _ _⟩) (fun b0 w g1 g2 g3 v1 v2 v3 a1 a2 a3 a4 a5 a6 a7 a8 a9 b1=>Aew b0 w g1 g2 g3 v1 v2 v3 a1 a2 a3 a4 a5 a6 a7 a8 a9 b1) (fun w S=>AeI w S) (fun w S=>AeI w S) (fun w S=>.val rfl) ?_
 have DL:=(Hz t hl (ps:=ps) (bs:=bs) (os:=os)).cv
 have OL:=(PP t hl (ps:=ps) (bs:=bs) (os:=os)).cv
 have hnl:=Dr (AI bs)
 have hol:=Dr (Bn bs)
 have hl1:=hl.l1
 have hl2:=hl.l2
 have hl3:=hl.l3
 have hob:=Ul (bs:=bs)
 by_cases h0:AO ps bs os=0
 case neg =>
  rw [if_neg h0] at DL
  have hE:=stE1 (rs:=rs) (ins:=ins) h0
  rw [hE,Gn h0,Gn h0]
  repeat' (with_reducible first|apply Gg|refine qq ?_|(refine Tx 0 ?_;refine gN xBo <| gN (xAl Ej) <| gN (xAl Ej) <| gN (xAl TJ) ?_)|(refine Tx 1 ?_;refine gO xL <| gO (xCl func19 (DL)) <| gO xMt <| gO xEx <| gO xEx <| gO xA <| gO xA ?_)|(refine Tx 2 ?_;refine gO xM <| gO (xNE Ai) ?_)|(refine Tx 3 ?_;refine gO xM <| gZ Oy <| gZ Oy <| gZ Abi ?_))
  exact Aix
 rw [if_pos h0,h0] at DL
 rw [if_pos h0,h0] at OL
 by_cases hL:rs.length=(AI bs).length
 case neg =>
  have hE:=stE2 (os:=os) (ins:=ins) h0 hL
  rw [hE,Gn (by decide),Gn (by decide)]
  repeat' (with_reducible first|apply Gg|refine qq ?_|(refine Tx 0 ?_;refine gN xBo <| gN (xAl Ej) <| gN (xAl Ej) <| gN (xAl TJ) ?_)|(refine Tx 1 ?_;refine gO xL <| gO (xCl func19 (DL)) <| gO xMt <| gO xEx <| gO xEx <| gO xA <| gO xA ?_)|(refine Tx 2 ?_;refine gO xM <| gO (xNE Ai) ?_)|(refine Tx 4 ?_;refine gO xM <| gO xN <| gO xM <| gO xN <| gO xNe ?_)|(refine Tx 5 ?_;refine gO (xMi underlying109) <| gZ Oy <| gZ Oy <| gZ Abi ?_))
  exact Aix
 repeat' (with_reducible first|apply Gg|refine qq ?_|(refine Tx 0 ?_;refine gN xBo <| gN (xAl Ej) <| gN (xAl Ej) <| gN (xAl TJ) ?_)|(refine Tx 1 ?_;refine gO xL <| gO (xCl func19 (DL)) <| gO xMt <| gO xEx <| gO xEx <| gO xA <| gO xA ?_)|(refine Tx 2 ?_;refine gO xM <| gO (xNE Ai) ?_)|(refine Tx 4 ?_;refine gO xM <| gO xN <| gO xM <| gO xN <| gO xNe ?_)|(refine Tx 6 ?_;refine gO xM <| gO xN <| gO xM ?_))
 refine Bj (BK 4) (Av (fun n Fr H=>∃ k:Nat,k≤rs.length∧n=rs.length - k∧(∀ r∈rs.take k,vdB r.rw=true)∧Fr=ofL [(1,vd (Acc rs)),(2,vd (AU v ins)),(3,vr 0),(6,vr 1),(7,vr 2),(8,vr 3),(9,vd (AU false (BZ (AI bs)))),(36,vd (Acc rs)),(37,vi rs.length),(38,vi ((k:Nat)))]∧H=[.box 26 [.d (Di t ps),.d (DK t bs),.d (AU t os)],.box 28 [.d (.val (.slice none 0 0))],.box 28 [.d (.val (.slice none 0 0))],.box 36 [.d (.val .nilIface)]]) (n0:=rs.length) ⟨0,ad _,rfl,(fun r hr=>by simp at hr),rfl,rfl⟩ ?_)
 rintro n Fr H ⟨k,hk,rfl,hv,rfl,rfl⟩
 by_cases hlt:k<rs.length
 case pos =>
  obtain ⟨r,hr⟩:∃ r,rs[k]?=some r:=⟨_,gE hlt⟩
  have hrm:=hw r (gM hr)
  have VA:=Ng (G:=An) false r hrm.1 (by omega)
  cases hb:vdB r.rw
  case false =>
   rw [hb] at VA
   have hE:=stE3 (os:=os) (ins:=ins) h0 hL (AnK hr hb)
   rw [hE,Gn (by decide),Gn (by decide)]
   repeat' (with_reducible first|apply Gg|refine qq ?_|(refine Tx 7 ?_;refine gO xLt ?_)|(refine Tx 8 ?_;refine gO (xIr Ah (Ya hr)) <| gO xL <| gN (xAl Ao) <| gZ (xSk Ad) ?_)|(refine Tx 9 ?_;refine gO xL <| gO (xCl func123 (VA.cv)) <| gO AnO ?_)|(refine Tx 10 ?_;refine gO (xMi underlying109) <| gZ Oy <| gZ Oy <| gZ Abi ?_))
   exact Aix
  case true =>
   rw [hb] at VA
   repeat' (with_reducible first|apply Gg|refine qq ?_|(refine Tx 7 ?_;refine gO xLt ?_)|(refine Tx 8 ?_;refine gO (xIr Ah (Ya hr)) <| gO xL <| gN (xAl Ao) <| gZ (xSk Ad) ?_)|(refine Tx 9 ?_;refine gO xL <| gO (xCl func123 (VA.cv)) <| gO AnO ?_)|(refine Tx 11 ?_;refine gO xAd <| gO xM ?_))
   refine ⟨_,_,BK 4,_,by omega,k+1,by omega,rfl,ED hv hr hb,rfl,rfl⟩
 obtain rfl:k=rs.length:=by omega
 rw [au] at hv
 clear hlt hk
 have hva:¬ rs.all (fun r=>vdB r.rw)=false:=by rw [ia];exact List.all_eq_true.2 hv
 by_cases hI:ins.length=ps.length
 case neg =>
  have hE:=stE4 (os:=os) h0 hL hva hI
  rw [hE,Gn (by decide),Gn (by decide)]
  repeat' (with_reducible first|apply Gg|refine qq ?_|(refine Tx 7 ?_;refine gO xLt ?_)|(refine Tx 12 ?_;refine gO xM <| gO xN <| gO xF <| gO xD <| gO xN <| gO xNe ?_)|(refine Tx 13 ?_;refine gO (xMi underlying109) <| gZ Oy <| gZ Oy <| gZ Abi ?_))
  exact Aix
 repeat' (with_reducible first|apply Gg|refine qq ?_|(refine Tx 7 ?_;refine gO xLt ?_)|(refine Tx 12 ?_;refine gO xM <| gO xN <| gO xF <| gO xD <| gO xN <| gO xNe ?_)|(refine Tx 14 ?_;refine gO xM <| gO xN <| gO xM ?_))
 refine Bj (BK 4) (Av (fun n Fr H=>∃ k:Nat,k≤ins.length∧n=ins.length - k∧(∀ i,i<k→ApB ps ins i=true)∧Fr=ofL [(1,vd (Acc rs)),(2,vd (AU v ins)),(3,vr 0),(6,vr 1),(7,vr 2),(8,vr 3),(9,vd (AU false (BZ (AI bs)))),(54,vd (AU v ins)),(55,vi ins.length),(56,vi ((k:Nat)))]∧H=[.box 26 [.d (Di t ps),.d (DK t bs),.d (AU t os)],.box 28 [.d (.val (.slice none 0 0))],.box 28 [.d (.val (.slice none 0 0))],.box 36 [.d (.val .nilIface)]]) (n0:=ins.length) ⟨0,ad _,rfl,(fun i hi=>absurd hi (fb i)),rfl,rfl⟩ ?_)
 rintro n Fr H ⟨k,hk,rfl,hr,rfl,rfl⟩
 by_cases hlt:k<ins.length
 case pos =>
  obtain ⟨z,hz⟩:∃ z,ins[k]?=some z:=⟨_,gE hlt⟩
  obtain ⟨p,hp⟩:∃ p,ps[k]?=some p:=⟨_,gE (by omega)⟩
  by_cases cl:z<p.lo
  case pos =>
   have hE:=stE5 (os:=os) h0 hL hva hI (AeF hp hz (.inl cl))
   exact ArT
  by_cases ch:p.hi<z
  case pos =>
   have hE:=stE5 (os:=os) h0 hL hva hI (AeF hp hz (.inr ch))
   exact ArT
  repeat' (with_reducible first|apply Gg|refine qq ?_|(refine Tx 15 ?_;refine gO xLt ?_)|(refine Tx 16 ?_;refine gO xM <| gO (xIr Af (AG hz)) <| gO xD <| gO xA <| gO xA ?_)|(refine Tx 17 ?_;refine gO xM <| gO xF <| gO xD <| gO xM <| gO (xIr BI (FX hp)) <| gO xF <| gO xD <| gO xLt <| gO xM ?_;(first|iterate 8 refine Jd ?_|(refine Jy xM1 ?_;refine Jy (xFa Mi DY) ?_;refine Jy (xLd DY) ?_;refine Jy xM1 ?_;refine Jy (xIr BI (FX hp)) ?_;refine Jy (xFa IM Ar) ?_;refine Jy (xLd Ar) ?_;refine Jy xGt ?_));refine gO xPk ?_)|(refine Tx 19 ?_;refine gO xAd <| gO xM ?_))
  refine ⟨_,_,BK 4,_,by omega,k+1,by omega,rfl,Up hr (by unfold ApB;rw [hp,hz];exact decide_eq_true (by omega)),rfl,rfl⟩
 obtain rfl:k=ins.length:=by omega
 clear hlt hk
 have hin:Wc ps ins=true:=List.all_eq_true.2 fun i hi=>hr i (List.mem_range.1 hi)
 clear hr
 have hino:¬ Wc ps ins=false:=by rw [hin];decide
 have hE:=stE6 (os:=os) h0 hL hva hI hino
 repeat' (with_reducible first|refine Adu ?_|apply Gg|refine qq ?_|(refine Tx 15 ?_;refine gO xLt ?_)|(refine Tx 20 ?_;refine gO xL <| gO (xCl func60 (OL)) <| gO xMt <| gO xEx <| gO xEx <| gO xA <| gO xA ?_)|(refine Tx 21 ?_;refine gO xM <| gO (xNE Ai) ?_))
 intro g1 g2 g3
 have hnf:∀ p∈rs.map rvP,Nf p.1 p.2∧(Ae p.1.natAbs).length≤1000:=fun p hp=>by
  obtain ⟨r,hr,rfl⟩:=List.mem_map.1 hp
  have h1:=Ui (t:=false) (hw r hr).1 (hv r hr)
  exact ⟨h1.2.1,lT (gr h1.2.2) (hw r hr).2⟩
 have hsl:(rs.map rvP).length=(AI bs).length:=by rw [af];exact hL
 repeat' (with_reducible first|refine qq ?_|(refine Tx 24 ?_;refine gO xF <| gO xD <| gO xN <| gN (by first|exact ZA (n:=bs.length) rfl rfl rfl Ah Ao (by omega) (by decide)|exact Br rfl rfl rfl Ah Ao (by omega) (by decide)) <| gZ Oy ?_)|(refine Tx 25 ?_;refine gO xM <| gO xN <| gO xM ?_))
 refine Bj (BK 5 (h:=by rw [←hnl];exact mB rfl rfl)) (Av (fun n Fr H=>∃ k:Nat,k≤(AI bs).length∧n=(AI bs).length - k∧(∀ p∈(rs.map rvP).take k,CQ p=false)∧Fr=ofL [(1,vd (Acc rs)),(2,vd (AU v ins)),(3,vr 0),(6,vr 1),(7,vr 2),(8,vr 3),(9,vd (AU false (BZ (AI bs)))),(15,vd (AU false (BZ (Bn bs)))),(155,Amz 1 2 3 g1 g2 g3),(94,vd (AU false (BZ (AI bs)))),(95,vi ((AI bs).length)),(96,vi ((k:Nat)))]∧H=[.box 26 [.d (Di t ps),.d (DK t bs),.d (AU t os)],.box 28 [.d (.val (.slice none 0 0))],.box 28 [.own 4 bs.length],.box 36 [.d (.val .nilIface)],.row 43 3 bs.length (cVs (XY ((AI bs).take (k)) ((rs.map rvP).take (k)) (List.replicate bs.length none)))]) (n0:=(AI bs).length) ⟨0,ad _,rfl,(fun r hr=>by simp at hr),rfl,rfl⟩ ?_)
 rintro n Fr H ⟨k,hk,rfl,hnl2,rfl,rfl⟩
 by_cases hlt:k<(AI bs).length
 case pos =>
  obtain ⟨i,hi⟩:∃ i,(AI bs)[k]?=some i:=⟨_,gE hlt⟩
  obtain ⟨r,hr⟩:∃ r,rs[k]?=some r:=⟨_,gE (by omega)⟩
  have hrm:=gM hr
  have hdy:=Ui (t:=false) (hw r hrm).1 (hv r hrm)
  have hst:(rs.map rvP)[k]?=some (rvP r):=by rw [ag,hr];rfl
  have hra:=Ya hr
  rw [hdy.1] at hra
  have lp:(Ae (rvP r).1.natAbs).length≤40000:=lT (gr hdy.2.2) (by have:=(hw r hrm).2;omega)
  have hil2:=(GE hi).1
  have hn2:Nf (rvP r).1 (rvP r).2:=hdy.2.1
  have hra:((Ay (dRv false) rs).drop (k*3)).take 3=dDy false (rvP r).1 (rvP r).2:=hra
  generalize rvP r=p at *
  by_cases hlg:CQ p=true
  case pos =>
   have PB:=SO p hn2 lp hlg
   rw [AnL hst hlg,if_pos rfl] at hE
   rw [hE,Gn (by decide),Gn (by decide)]
   repeat' (with_reducible first|(refine Adt (id:=28) (chain:=tlC) 6 AN (by kernel_rfl) ?_ ?_;refine Po (xLd Aw) ?_;refine Po xM1 ?_;refine Po xM1 ?_;refine Po xM1 ?_;refine Po Aiy ?_;refine Po (xLa Ad) ?_;refine Pp (xPn func132 PB) ?_;refine Pd ?_;(first|refine Pd ?_|refine Po Aiy ?_);refine Pd ?_;exact Pe;with_unfolding_all exact And.intro (by with_unfolding_all exact rfl) (Or.inr (And.intro rfl (And.intro ⟨rfl,rfl,rfl⟩ (And.intro ⟨(by with_unfolding_all exact rfl),(by with_unfolding_all exact rfl),(by with_unfolding_all exact rfl)⟩ ⟨⟨_,(by with_unfolding_all exact rfl)⟩,⟨_,(by with_unfolding_all exact rfl)⟩,⟨_,(by with_unfolding_all exact rfl)⟩⟩)))))|refine qq ?_|(refine Tx 26 ?_;refine gO xLt ?_)|(refine Tx 27 ?_;refine gO xM <| gO ArU <| gO xD <| gO xA <| gO xA ?_))
  rw [bc] at hlg
  have PB:=We p hn2 lp hlg
  have SH:=BE p.1 p.2 0 hn2 (lT lp (by decide)) (by have:=hn2.1;omega)
  rw [El hn2] at SH
  have tl:i<(XY ((AI bs).take (k)) ((rs.map rvP).take (k)) (List.replicate bs.length none)).length:=by rw [Nm,dt];exact hil2
  have stV:(XY ((AI bs).take (k)) ((rs.map rvP).take (k)) (List.replicate bs.length none)).set i (some p)=(XY ((AI bs).take (k+1)) ((rs.map rvP).take (k+1)) (List.replicate bs.length none)):=(QW _ hi hst).symm
  repeat' (with_reducible first|refine qq ?_|(refine Tx 26 ?_;refine gO xLt ?_)|(refine Tx 27 ?_;refine gO xM <| gO ArU <| gO xD <| gO xA <| gO xA ?_)|(refine AE (id:=28) 9 AN (by kernel_rfl) ?_;dsimp only [List.take,List.drop];refine gP xD <| gP xM <| gP xM <| gP xM <| gP Aiy <| gP xL <| gP (xCl func132 (PB)) <| gP (xCl func21 (SH)) <| gP Aiy ?_;refine Ke ?_;refine gZ ArW ?_)|(refine Tx 29 ?_;refine gO xAd <| gO xM ?_))
  refine ⟨_,_,BK 5,_,by omega,k+1,by omega,rfl,ED hnl2 hst hlg,rfl,rfl⟩
 obtain rfl:k=(AI bs).length:=by omega
 clear hlt hk
 rw [ar (by omega)] at hnl2
 have HD:=AeG (bs:=bs) (st:=(rs.map rvP)) (fun p hp=>⟨(hnf p hp).1,hnl2 p hp⟩) hsl
 rw [←ZD ps bs (rs.map rvP) ins] at HD
 rw [au,ar (l:=(rs.map rvP)) (by omega),←ZD ps bs (rs.map rvP) ins]
 repeat' (with_reducible first|refine qq ?_|(refine Tx 26 ?_;refine gO xLt ?_)|(refine Tx 30 ?_;refine gO xM <| gO xN <| gO xM ?_))
 refine Bj (BK 5 (h:=by rw [←hol];exact mB rfl rfl)) (Av (fun n Fr H=>∃ k:Nat,k≤(Bn bs).length∧n=(Bn bs).length - k∧Has (Mn ps bs (rs.map rvP) ins (k)) (Wd bs k)∧(∀ s,s<k→CQ (Wb ps bs (rs.map rvP) ins s)=false)∧Fr=ofL [(1,vd (Acc rs)),(2,vd (AU v ins)),(3,vr 0),(6,vr 1),(7,vr 2),(8,vr 3),(9,vd (AU false (BZ (AI bs)))),(15,vd (AU false (BZ (Bn bs)))),(155,Amz 1 2 3 g1 g2 g3),(111,vd (AU false (BZ (Bn bs)))),(112,vi ((Bn bs).length)),(113,vi ((k:Nat)))]∧H=[.box 26 [.d (Di t ps),.d (DK t bs),.d (AU t os)],.box 28 [.d (.val (.slice none 0 0))],.box 28 [.own 4 bs.length],.box 36 [.d (.val .nilIface)],.row 43 3 bs.length (cVs (Mn ps bs (rs.map rvP) ins (k)))]) (n0:=(Bn bs).length) ⟨0,ad _,rfl,HD,(fun s hs=>absurd hs (fb s)),rfl,rfl⟩ ?_)
 rintro n Fr H ⟨k,hk,rfl,HK,hgd,rfl,rfl⟩
 by_cases hlt:k<(Bn bs).length
 case pos =>
  obtain ⟨j,hj⟩:∃ j,(Bn bs)[k]?=some j:=⟨_,gE hlt⟩
  obtain ⟨y,hy,hk2,T⟩:=XZ h0 hin hI hj HK
  have hjl:=(Ia hj).1
  have hvn:Wb ps bs (rs.map rvP) ins k=Dt y (Nl (Mn ps bs (rs.map rvP) ins (k)) y) ps ins:=by unfold Wb tkV;rw [hj];simp only [bd];rw [hy]
  have hgl:(gV (Mn ps bs (rs.map rvP) ins (k))).length=bs.length:=by rw [AeC,IW]
  have BL:=Aey t v ps bs os y (gV (Mn ps bs (rs.map rvP) ins (k))) (Nl (Mn ps bs (rs.map rvP) ins (k)) y) ins T.hk (by have:=T.len;omega) (by omega) hil (by omega) T.hl (fun p hp=>(T.hs p hp).more (by decide) (by decide)) T.hin T.hsv T.hsu T.hcl
  have TS:=T.sm
  rw [←hvn] at BL TS
  rw [hgl] at BL
  have lp:=TS.lenN 282 (by decide)
  have lp:=lT lp (show 282≤40000 by decide)
  have hn2:=TS.ok
  have tl:j<(Mn ps bs (rs.map rvP) ins (k)).length:=by rw [IW];exact hjl
  have stV:(Mn ps bs (rs.map rvP) ins (k)).set j (some (Wb ps bs (rs.map rvP) ins k))=(Mn ps bs (rs.map rvP) ins (k+1)):=(Nn hj).symm
  have hbad:=AnM (ps:=ps) (st:=(rs.map rvP)) (ins:=ins) hlt
  have hnx:=ZE HK hj
  skip
  by_cases hlg:CQ (Wb ps bs (rs.map rvP) ins k)=true
  case pos =>
   have PB:=SO (Wb ps bs (rs.map rvP) ins k) hn2 lp hlg
   rw [hbad hlg,if_pos rfl] at hE
   rw [hE,Gn (by decide),Gn (by decide)]
   repeat' (with_reducible first|(refine Adt (id:=33) (chain:=tlC) 11 AN (by kernel_rfl) ?_ ?_;refine Po (xLd Aw) ?_;refine Po xM1 ?_;refine Po (xLa Cc) ?_;refine Po (xFa BO AX) ?_;refine Po (xLd AX) ?_;refine Po xM1 ?_;refine Po ArX ?_;refine Po (xLa BW) ?_;refine Po (xLd Aw) ?_;refine Po xM1 ?_;refine Po (xCl func133 BL (ha:=by with_unfolding_all first|((repeat' first|exact BJ rfl rfl|refine AZ rfl rfl ?_ ?_|refine EP rfl rfl ?_|refine CZ rfl rfl ?_|exact Bs rfl (fun h=>by cases h)|exact Un rfl rfl rfl) <;> fail)|fail)) ?_;refine Pp (xPn func132 PB) ?_;(first|refine Pd ?_|refine Po (xIo (i:=j) Ah) ?_);refine Pd ?_;exact Pe;with_unfolding_all exact And.intro (by with_unfolding_all exact rfl) (Or.inr (And.intro rfl (And.intro ⟨rfl,rfl,rfl⟩ (And.intro ⟨(by with_unfolding_all exact rfl),(by with_unfolding_all exact rfl),(by with_unfolding_all exact rfl)⟩ ⟨⟨_,(by with_unfolding_all exact rfl)⟩,⟨_,(by with_unfolding_all exact rfl)⟩,⟨_,(by with_unfolding_all exact rfl)⟩⟩)))))|refine qq ?_|(refine Tx 31 ?_;refine gO xLt ?_)|(refine Tx 32 ?_;refine gO ArV <| gO xD <| gO xA ?_))
  rw [bc] at hlg
  have PB:=We (Wb ps bs (rs.map rvP) ins k) hn2 lp hlg
  repeat' (with_reducible first|refine qq ?_|(refine Tx 31 ?_;refine gO xLt ?_)|(refine Tx 32 ?_;refine gO ArV <| gO xD <| gO xA ?_)|(refine AE (id:=33) 13 AN (by kernel_rfl) ?_;dsimp only [List.take,List.drop];refine gP xD <| gP xM <| gP xL <| gP xF <| gP xD <| gP xM <| gP ArX <| gP xL <| gP xD <| gP xM <| gP (xCl func133 BL (ha:=by with_unfolding_all first|((repeat' first|exact BJ rfl rfl|refine AZ rfl rfl ?_ ?_|refine EP rfl rfl ?_|refine CZ rfl rfl ?_|exact Bs rfl (fun h=>by cases h)|exact Un rfl rfl rfl) <;> fail)|fail)) <| gP (xCl func132 (PB)) <| gP (xIo (i:=j) Ah) ?_;refine Ke ?_;refine gZ ArW ?_)|(refine Tx 34 ?_;refine gO xAd <| gO xM ?_))
  refine ⟨_,_,BK 5,_,by omega,k+1,by omega,rfl,hnx (Abh hn2 hlg),Up hgd hlg,rfl,rfl⟩
 obtain rfl:k=(Bn bs).length:=by omega
 clear hlt hk
 rw [AnN hnl2 hgd,if_neg (by decide)] at hE
 rw [hE,RP rfl,RP rfl]
 repeat' (with_reducible first|refine qq ?_|(refine Tx 31 ?_;refine gO xLt ?_)|(refine Tx 35 ?_;refine gO xM <| gO xN <| gO xM ?_))
 refine Bj (Qx 1 0 43 3 rfl rfl) ?_
 refine Bj (BK 6 (h:=by rw [←hnl];exact mB rfl rfl)) (Av (fun n Fr H=>∃ k:Nat,k≤(AI bs).length∧n=(AI bs).length - k∧Fr=ofL [(1,vd (Acc rs)),(2,vd (AU v ins)),(3,vr 0),(6,vr 1),(7,vr 2),(8,vr 3),(9,vd (AU false (BZ (AI bs)))),(15,vd (AU false (BZ (Bn bs)))),(155,Amz 1 2 3 g1 g2 g3),(131,vd (AU false (BZ (AI bs)))),(132,vi ((AI bs).length)),(133,vi ((k:Nat)))]∧H=[.box 26 [.d (Di t ps),.d (DK t bs),.d (AU t os)],.box 28 [.own 5 ((FH ps bs (rs.map rvP) ins).take (k)).length],.box 28 [.own 4 bs.length],.box 36 [.d (.val .nilIface)],.row 43 3 bs.length (cVs (Mn ps bs (rs.map rvP) ins ((Bn bs).length))),.row 43 3 ((FH ps bs (rs.map rvP) ins).take (k)).length ((Ay dyP ((FH ps bs (rs.map rvP) ins).take (k))).map C.d)]) (n0:=(AI bs).length) ⟨0,ad _,rfl,rfl,rfl⟩ ?_)
 rintro n Fr H ⟨k,hk,rfl,rfl,rfl⟩
 by_cases hlt:k<(AI bs).length
 case pos =>
  obtain ⟨i,hi⟩:∃ i,(AI bs)[k]?=some i:=⟨_,gE hlt⟩
  have hil2:=(GE hi).1
  obtain ⟨y,hy⟩:∃ y,bs[i]?=some y:=⟨_,gE hil2⟩
  obtain ⟨b,hA0,hbl⟩:=Yb h0 hy (by rw [←GV hy];exact (GE hi).2)
  obtain ⟨p,hp,hsm⟩:=AeH h0 HK hbl
  have hal:=(gS.1 hA0).1
  have hpl:b<(Mn ps bs (rs.map rvP) ins ((Bn bs).length)).length:=(gS.1 hp).1
  have lp:=lT (hsm.lenN 128 (by decide)) (show 128≤50000 by decide)
  have SH:=BE p.1 p.2 0 hsm.ok lp (by have:=hsm.ok.1;omega)
  rw [El hsm.ok] at SH
  have hne:(FH ps bs (rs.map rvP) ins)[k]?=some p:=by unfold FH;rw [ag,hi,bo,Yc hy hA0];unfold RB;rw [Abg hp];rfl
  have hap:(Ay dyP ((FH ps bs (rs.map rvP) ins).take (k))).map C.d++(dDy false p.1 p.2).map C.d=(Ay dyP ((FH ps bs (rs.map rvP) ins).take (k+1))).map C.d:=by rw [aq,hne,eb,EA,et];rfl
  have hap2:((FH ps bs (rs.map rvP) ins).take (k)).length+1=((FH ps bs (rs.map rvP) ins).take (k+1)).length:=by rw [aq,hne,ak];rfl
  have hoL:((FH ps bs (rs.map rvP) ins).take (k)).length≤k:=by rw [dj];omega
  repeat' (with_reducible first|refine qq ?_|(refine Tx 36 ?_;refine gO xLt ?_)|(refine Tx 37 ?_;refine gO (by first|exact xIr Af (AG (Ib hi))|exact xIo (i:=b) Af) <| gO xD <| gO xA ?_)|(refine AE (id:=38) 14 AN (by kernel_rfl) ?_;dsimp only [List.take,List.drop];refine gP xD <| gP xD <| gP xF <| gP xD <| gP xM <| gP (by first|exact xIr Al (Fb hy)|exact xIo (i:=b) Al) <| gP xF <| gP xD <| gP (by first|exact xIr Af (AG hA0)|exact xIo (i:=b) Af) <| gP xD <| gP (xIo (i:=b) Ah) <| gP (by first|exact ZB rfl rfl rfl hp Ad|exact xLa Ad) <| gP (xCl func21 (SH)) <| gQ (by exact Bp rfl Ah Ao rfl rfl (by decide) (by decide)) ?_;refine Ke ?_;refine gT (by exact Gx rfl rfl rfl rfl rfl rfl Ah Ao (by omega) (by decide) (by decide) rfl hap hap2) <| gZ Oy ?_)|(refine Tx 39 ?_;refine gO xAd <| gO xM ?_))
  refine ⟨_,_,BK 6,_,by omega,k+1,by omega,rfl,rfl,rfl⟩
 obtain rfl:k=(AI bs).length:=by omega
 clear hlt hk
 have hnE:(FH ps bs (rs.map rvP) ins).length=(AI bs).length:=by unfold FH;rw [af]
 rw [←hnE,au]
 have hvE:(RB ps bs (rs.map rvP) ins).length=bs.length:=by unfold RB;rw [AeC,IW]
 unfold Akn
 rw [hvE]
 repeat' (with_reducible first|refine qq ?_|(refine Tx 36 ?_;refine gO xLt ?_)|(refine AjW (id:=40) 2 1 28 [.own 5 (FH ps bs (rs.map rvP) ins).length] AN (by kernel_rfl) ?_;dsimp only [List.take,List.drop];refine TP rfl rfl (xLd Aw) (xLd Aw) ?_;refine TP rfl rfl (xLd Aw) (xLd Aw) ?_;refine AjV ?_;refine AqJ rfl rfl rfl (by exact VE rfl rfl rfl rfl rfl Aw (bg rfl) rfl) ?_;refine gZ Oy <| gZ Abi ?_))
 exact ⟨by with_unfolding_all exact rfl,.inl (AH rfl (.cons_ (rvB Aw (AeD rfl rfl rfl)) (.cons_ (rvB Aw (Un rfl rfl rfl)) (.cons_ (rvB FM (Bs rfl fun _=>.val _)) .nil_))))⟩
section
variable {P:Program}
def Ako (P:Program) (g:FuncId) (vs:List Value) (p:Int→Bool) (zs:List Int) (w:World):Prop:=∀ w',Below w.heap.size w w'→∀ z∈zs,Calls P g (Value.int .i64 z::vs).toArray w' fun e w2=>e=.returned (.bool (p z))∧Below w'.heap.size w' w2
theorem fn_G {vs:List Value} {p:Int→Bool}:∀ w w',Below w.heap.size w w'→Ako P g vs p zs w→Ako P g vs p zs w':=fun _ _ hb h w2 hb2=>h w2 (hb.trans (hb2.mono hb.size))
variable {o:Oper} {F:Frm} {H:List Ob}
theorem SQ {vs : List Value} {p : Int → Bool} {r x : Operand} {ts : Array TypeId} (hf : P.funcs[g]? = some fn) (hz : z ∈ zs) (hn : (fn.name == "runtime.NumGoroutine") = false := by kernel_rfl) (hb : fn.body = some c := by with_unfolding_all exact rfl)
  (ho:o.op=.call { callee:=.value r,args:=#[x],argTypes:=ts }:=by with_unfolding_all exact rfl) (hr:F.ev r=.one (.d (.val (.func (.func g) #[] vs.toArray))):=by with_unfolding_all exact rfl) (hx:F.ev x=.one (.d (.val (.int .i64 z))):=by with_unfolding_all exact rfl) :
  Bd P (Ako P g vs p zs) o F H (.one (.d (.val (.bool (p z))))) []:=by
 intro b0 m a hp hcx hg hb0 _ hor K Q hK
 have er:=Df (m:=m) (v:=a.eval r) (by rw [←hr];exact Be hor (by rw [ho];simp [Op.operands,Call.operands]))
 have ex:=Df (m:=m) (v:=a.eval x) (by rw [←hx];exact Be hor (by rw [ho];simp [Op.operands,Call.operands]))
 unfold Oper.wp execOp
 simp only [ho,resolve,er,Deferred.ofValue,ai,bl,az,invoke]
 rw [DW hf hn hb]
 rw [gl]
 have he:((#[]:Array Value)++#[x].map a.eval++vs.toArray)=(Value.int .i64 z::vs).toArray:=fw (by simp [ex])
 rw [he]
 refine (hg m.w (ab _ _) z hz).mono fun e w' ⟨hev,hbel⟩=>?_
 subst hev
 exact hK _ w' [] ⟨rfl,hbel,fun k e hk=>by simp at hk,List.Pairwise.nil⟩ (Bo.val rfl)
theorem AiA {f:FuncId} {x y:Operand} {ts:Array TypeId} {t:Bool} {p:Int→Bool} {rs:List (Nat × Nat × Option Nat)} {cargs:List A} {b:Bool} {Gt:World→Prop} (hG:∀ w w',Below w.heap.size w w'→Gt w→Gt w') (hf:P.funcs[f]?=some fn) (h:∀ vs,CV P (Ako P g vs p zs) f [.one (AU t zs),.one (.val (.func (.func g) #[] vs.toArray))] [aB b]) (hC:∀ z∈zs,CV P Gt g (aI z::cargs) [aB (p z)])
  (hn : (fn.name == "runtime.NumGoroutine") = false := by kernel_rfl) (hb : fn.body = some c := by with_unfolding_all exact rfl)
  (ho:o.op=.call { callee:=.value (.func f),args:=#[x,y],argTypes:=ts }:=by with_unfolding_all exact rfl) (hx:F.ev x=.one (.d (AU t zs)):=by with_unfolding_all exact rfl) (hy:F.ev y=.one (.clo (.func g) rs):=by with_unfolding_all exact rfl)
  (hcl:Ba (fun (p:Nat × Nat × Option Nat) y=>Lj true H (.one (.ref p.1 p.2.1 p.2.2)) y) rs cargs:=by with_unfolding_all first|((repeat' first|exact BJ rfl rfl|refine AZ rfl rfl ?_ ?_|exact VG rfl) <;> fail)|fail):Bd P Gt o F H (.one (.d (.val (.bool b)))) []:=by
 intro b0 m a hp hcx hg hb0 _ hor K Q hK
 rw [ba] at hp
 have h1:=Be (F:=F) hor (x:=x) (by rw [ho];simp [Op.operands,Call.operands])
 have h2:=Be (F:=F) hor (x:=y) (by rw [ho];simp [Op.operands,Call.operands])
 rw [hx] at h1
 rw [hy] at h2
 obtain ⟨vs,hve,hvl⟩:=h2
 let Sx:DH:=fun t b=>m.S t b∨(t=true∧∃ id e,m.E id=some e∧e.own=some b)
 have hlt:∀ t b,Sx t b→b<m.w.heap.size:=fun t b hb=>by
  rcases hb with hb|⟨_,id,e,he,hown⟩
  ·exact hcx.lt t b hb
  ·exact (Et.lt (hcx.each id e he).1 hown).2
 have hc':Ba (EK m.w Sx) cargs vs:=⟨hcl.1.symm.trans hvl.1,fun j y v hy hv=>by
   obtain ⟨p,hpj⟩:∃ p,rs[j]?=some p:=⟨_,gE (by have:=(gS.1 hv).1;have:=hvl.1;omega)⟩
   exact Lj.rel (x:=.one (.ref p.1 p.2.1 p.2.2)) hcx (fun b hb=>.inl hb) (fun _ b hb=>.inl hb) (fun id e g he hg=>.inr ⟨rfl,id,e,he,hg⟩) ((hcl.2 j p y hpj hy).pre hp) (hvl.2 j p v hpj hv)⟩
 have hfn:Ako P g vs p zs m.w:=fun w' hb' z hz =>
  (hC z hz w' Sx (Value.int .i64 z::vs) (hG _ _ hb' hg) (fun t b hb=>am (hlt t b hb) hb'.size) (.cons_ (Bo.val rfl) (hc'.imp fun _ _=>EK.mono (fun _ _ h=>h) fun t b hb=>hb'.block b (hlt t b hb)))).mono fun e w2 ⟨v,he,hr,hbl⟩=>by
   have h4:Bo w2 _ (dB (p z)) v:=hr
   cases h4
   exact ⟨he,hbl⟩
 have hcalls:=h vs m.w Sx [a.eval x,.func (.func g) #[] vs.toArray] hfn hlt (.cons_ (Bo.mono (fun t b hb=>.inl hb) (fun _ _ _=>rfl) h1) (.cons_ (Bo.val rfl) .nil_))
 unfold Oper.wp execOp
 simp only [ho,resolve,Act.eval,Deferred.ofValue,ai,bl,az,invoke]
 rw [DW hf hn hb]
 rw [gl]
 have he:((#[]:Array Value)++#[x,y].map a.eval++#[])=[a.eval x,.func (.func g) #[] vs.toArray].toArray:=fw (by simp [hve])
 rw [he]
 refine hcalls.mono fun e w' ⟨v,hev,hr,hbel⟩=>?_
 subst hev
 have h4:Bo w' _ (dB b) v:=hr
 cases h4
 exact hK _ w' [] ⟨rfl,hbel,fun k e hk=>by simp at hk,List.Pairwise.nil⟩ (Bo.val rfl)
end
def AiB (p:Int→Bool):List Int→Nat→Int
 | [],_ => -1
 | z::l,k=>if p z=true then (k:Int) else AiB p l (k+1)
theorem Uq {p:Int→Bool} {zs:List Int}:∀ {k:Nat},(∀ z∈zs.take k,p z=false)→k≤zs.length→AiB p zs 0=AiB p (zs.drop k) k
 | 0,_,_=>rfl
 | k+1,h,hk=>by
  obtain ⟨z,hz⟩:∃ z,zs[k]?=some z:=⟨_,gE (by omega)⟩
  rw [Uq (k:=k) (fun z hz=>h z (by rw [aq];exact mr _ hz)) (by omega),dp (by omega)]
  have he:zs[k]=z:=by obtain ⟨h1,h2⟩:=gS.1 hz;exact h2
  rw [he]
  have:=h z (by rw [aq,hz];simp)
  show (if p z=true then (k:Int) else AiB p (zs.drop (k+1)) (k+1))=_
  rw [this]
  rfl
theorem AeJ {p:Int→Bool}:∀ (zs:List Int) (k:Nat),decide (0≤AiB p zs k)=zs.any p
 | [],_=>rfl
 | z::l,k=>by
  unfold AiB
  rw [List.any_cons]
  cases h:p z with
  | true=>simp
  | false=>simpa using AeJ l (k+1)
theorem AiC (hf : prog.funcs[g]? = some fn) (hn : (fn.name == "runtime.NumGoroutine") = false) (hbd : fn.body = some c) (t : Bool) (vs : List Value) (p : Int → Bool) (zs : List Int) (hl : zs.length ≤ 1000000) : CV prog (Ako prog g vs p zs) 253 [.one (AU t zs), .one (.val (.func (.func g) #[] vs.toArray))] [aI (AiB p zs 0)] := by
 refine Amk fn_G func253 rfl ntmps253 (bg rfl) ?_
 repeat' (with_reducible first|refine qq ?_|(refine Tx 0 ?_;refine gO xA ?_)|(refine Tx 1 ?_;refine gO xM <| gO xN <| gO xM ?_))
 refine Bj (BK 0) (Av (fun n Fr H=>∃ k:Nat,k≤zs.length∧n=zs.length - k∧(∀ z∈zs.take k,p z=false)∧Fr=ofL [(0,vd (AU t zs)),(1,vd (.val (.func (.func g) #[] vs.toArray))),(7,vi zs.length),(8,vi ((k:Nat)))]∧H=[]) (n0:=zs.length) ⟨0,ad _,rfl,(fun z hz=>by simp at hz),rfl,rfl⟩ ?_)
 rintro n Fr H ⟨k,hk,rfl,hall,rfl,rfl⟩
 by_cases hlt:k<zs.length
 case pos =>
  obtain ⟨z,hz⟩:∃ z,zs[k]?=some z:=⟨_,gE hlt⟩
  have hzm:=gM hz
  have hsk:=Uq hall hk
  rw [dp hlt,(gS.1 hz).2,show AiB p (z::zs.drop (k+1)) k=if p z=true then (k:Int) else AiB p (zs.drop (k+1)) (k+1) from rfl] at hsk
  cases hp:p z
  case true =>
   rw [hp,if_pos rfl] at hsk
   repeat' (with_reducible first|refine qq ?_|(refine Tx 2 ?_;refine gO xLt ?_)|(refine Tx 3 ?_;refine gO xM <| gO xA ?_)|(refine Tx 4 ?_;refine gO xM <| gO xM <| gO xM <| gO (xIr Af (AG hz)) <| gO xD <| gO (by exact (hp ▸ SQ (p:=p) hf hzm hn hbd)) ?_)|(refine Tx 5 ?_;refine gO xM <| gO xA ?_))
   exact AH rfl (.cons_ (Ado rfl hsk.symm) .nil_)
  rw [hp,if_neg (by decide)] at hsk
  repeat' (with_reducible first|refine qq ?_|(refine Tx 2 ?_;refine gO xLt ?_)|(refine Tx 3 ?_;refine gO xM <| gO xA ?_)|(refine Tx 4 ?_;refine gO xM <| gO xM <| gO xM <| gO (xIr Af (AG hz)) <| gO xD <| gO (by exact (hp ▸ SQ (p:=p) hf hzm hn hbd)) ?_)|(refine Tx 6 ?_;refine gO xAd <| gO xM ?_))
  refine ⟨_,_,BK 0,_,by omega,k+1,by omega,rfl,ED hall hz hp,rfl,rfl⟩
 obtain rfl:k=zs.length:=by omega
 have hsk:=Uq hall hk
 rw [ij] at hsk
 repeat' (with_reducible first|refine qq ?_|(refine Tx 2 ?_;refine gO xLt ?_)|(refine Tx 7 ?_;refine gO xA ?_))
 exact AH rfl (.cons_ (Ado rfl hsk.symm) .nil_)
theorem Yd (hf : prog.funcs[g]? = some fn) (hn : (fn.name == "runtime.NumGoroutine") = false) (hbd : fn.body = some c) (t : Bool) (vs : List Value) (p : Int → Bool) (zs : List Int) (hl : zs.length ≤ 1000000) : CV prog (Ako prog g vs p zs) 213 [.one (AU t zs), .one (.val (.func (.func g) #[] vs.toArray))] [aB (zs.any p)] := by
 refine Amk fn_G func213 rfl ntmps213 (bg rfl) ?_
 have IX:=AiC hf hn hbd t vs p zs hl
 rw [←AeJ zs 0]
 repeat' (with_reducible first|refine qq ?_|(refine Tx 0 ?_;refine gO xA ?_)|(refine Tx 1 ?_;refine gO xM <| gO xM <| gO (xCl func253 (IX)) <| gO xGe <| gO xA ?_))
 exact AH rfl (.cons_ (Fi rfl rfl) .nil_)
def GQ:Nat:=65536
def gv (p:Int × Nat):Int:=p.1*2 ^ (GQ - p.2)
theorem Pa (n:Nat):(2:Int) ^ n≠0:=fy (iq (by decide))
theorem Bg (n:Nat):(0:Int)<2 ^ n:=iq (by decide)
theorem QX {p:Int × Nat} (h:p.2≤GQ):p.1*2 ^ GQ=gv p*2 ^ p.2:=Uj p h
theorem Nf.le {x:Int} {d:Nat} (h:Nf x d):d≤GQ:=h.1
theorem Abj {m:Int} {d:Nat} (h:d≤GQ):gv (nf m d)=m*2 ^ (GQ - d):=by
 have e:=Acy m d
 have l:=AlN m d
 refine ew (Pa d) ?_
 unfold gv
 rw [iz,e,ah,ah,←al,←al]
 congr 2
 omega
theorem EE (p:Int × Nat):gv (-p.1,p.2) = -gv p:=cz ..
theorem Ic:gv (0,0)=0:=Int.zero_mul _
theorem Nq (p:Int × Nat):gv (((p.1.natAbs:Nat):Int),p.2)=((gv p).natAbs:Int):=by
 unfold gv
 rw [fq,kj,fu]
 congr 1
theorem CL {p:Int × Nat} (hp:p.2≤GQ) (hq:q.2≤GQ):gv (Ck p.1 p.2 q.1 q.2)=gv p+gv q:=by
 unfold Ck
 rw [Abj (by omega),gx,ah,ah,←al,←al,show max p.2 q.2 - p.2+(GQ - max p.2 q.2)=GQ - p.2 by omega,show max p.2 q.2 - q.2+(GQ - max p.2 q.2)=GQ - q.2 by omega]
 rfl
theorem GZ {p:Int × Nat} (h:p.2+q.2≤GQ):gv (Ou p.1 p.2 q.1 q.2)*2 ^ GQ=gv p*gv q:=by
 unfold Ou
 rw [Abj h]
 unfold gv
 have e1:p.1*q.1*2 ^ (GQ - (p.2+q.2))*2 ^ GQ=p.1*q.1*2 ^ (GQ - (p.2+q.2)+GQ):=by rw [ah,←al]
 have e2:p.1*2 ^ (GQ - p.2)*(q.1*2 ^ (GQ - q.2))=p.1*q.1*2 ^ (GQ - p.2+(GQ - q.2)):=by rw [al];simp only [ah,Int.mul_left_comm,cj]
 rw [e1,e2]
 congr 2
 omega
theorem AeK {p:Int × Nat} (hp:p.2≤GQ) (hq:q.2≤GQ):BM p.1 p.2 q.1 q.2=sgI (gv p - gv q):=QP (QX hp) (QX hq)
theorem SR {p:Int × Nat} (hp:Nf p.1 p.2) (hq:Nf q.1 q.2) (h:gv p=gv q):p=q:=QS hp hq (QX hp.le) (by rw [h];exact QX hq.le)
theorem LI {p:Int × Nat} (hp:p.2≤GQ) (hq:q.2≤GQ):BM p.1 p.2 q.1 q.2≤0 ↔ gv p≤gv q:=by
 rw [AeK hp hq,Dz]
 by_cases h1:gv p<gv q
 ·rw [if_pos h1];exact ⟨fun _=>ay h1,fun _=>by decide⟩
 ·rw [if_neg h1]
  by_cases h2:gv q<gv p
  ·rw [if_pos h2];exact ⟨fun h=>absurd h (by decide),fun h=>by omega⟩
  ·rw [if_neg h2];exact ⟨fun _=>by omega,fun _=>by decide⟩
theorem ArY {p:Int × Nat} (hp:p.2≤GQ) (hq:q.2≤GQ):BM p.1 p.2 q.1 q.2=0 ↔ gv p=gv q:=by
 rw [AeK hp hq,Dz]
 by_cases h1:gv p<gv q
 ·rw [if_pos h1];exact ⟨fun h=>absurd h (by decide),fun h=>by omega⟩
 ·rw [if_neg h1]
  by_cases h2:gv q<gv p
  ·rw [if_pos h2];exact ⟨fun h=>absurd h (by decide),fun h=>by omega⟩
  ·rw [if_neg h2];exact ⟨fun _=>by omega,fun _=>rfl⟩
theorem Wf {p:Int × Nat} (hp:p.2≤GQ) (hq:q.2≤GQ):0≤BM p.1 p.2 q.1 q.2 ↔ gv q≤gv p:=by
 rw [AeK hp hq,Dz]
 by_cases h1:gv p<gv q
 ·rw [if_pos h1];exact ⟨fun h=>absurd h (by decide),fun h=>by omega⟩
 ·rw [if_neg h1]
  by_cases h2:gv q<gv p
  ·rw [if_pos h2];exact ⟨fun _=>by omega,fun _=>by decide⟩
  ·rw [if_neg h2];exact ⟨fun _=>by omega,fun _=>by decide⟩
theorem ArZ {p:Int × Nat} (hp:p.2≤GQ) (hq:q.2≤GQ):DR p.1 p.2 q.1 q.2=if gv q<gv p then q else p:=by
 unfold DR
 by_cases h:gv q<gv p
 ·rw [if_pos h,if_pos (Int.not_le.1 fun hc=>by have:=(LI hp hq).1 hc;omega)]
 ·rw [if_neg h,if_neg (by have:=(LI hp hq).2 (by omega);omega)]
theorem Asa {p:Int × Nat} (hp:p.2≤GQ) (hq:q.2≤GQ):DS p.1 p.2 q.1 q.2=if gv p<gv q then q else p:=by
 unfold DS
 by_cases h:gv p<gv q
 ·rw [if_pos h,if_pos (Int.not_le.1 fun hc=>by have:=(Wf hp hq).1 hc;omega)]
 ·rw [if_neg h,if_neg (by have:=(Wf hp hq).2 (by omega);omega)]
theorem Gb {p:Int × Nat} (hp:p.2≤GQ) (hq:q.2≤GQ):gv (DR p.1 p.2 q.1 q.2)=min (gv p) (gv q):=by
 rw [ArZ hp hq]
 split <;> omega
theorem Dl {p:Int × Nat} (hp:p.2≤GQ) (hq:q.2≤GQ):gv (DS p.1 p.2 q.1 q.2)=max (gv p) (gv q):=by
 rw [Asa hp hq]
 split <;> omega
theorem Ie {p:Int × Nat} (hp:p.2≤GQ) (hn:n≤65536):gv (Ac p.1 p.2 (n:Int))=gv p*2 ^ n:=by
 unfold Ac
 rw [if_neg (by omega),Abj hp,show (max (-65536) (min ((n:Nat):Int) 65536)).toNat=n by omega]
 exact iz ..
theorem Ns {p:Int × Nat} (hp:p.2+n≤GQ) (hn:n≤65536):gv (Ac p.1 p.2 (-(n:Int)))*2 ^ n=gv p:=by
 unfold Ac
 by_cases h0:n=0
 ·subst h0
  rw [if_neg (by omega),Abj (by omega)]
  show p.1*2 ^ (max (-65536) (min (-((0:Nat):Int)) 65536)).toNat*2 ^ (GQ - p.2)*2 ^ 0=gv p
  rw [show (max (-65536) (min (-((0:Nat):Int)) 65536)).toNat=0 by omega,Int.pow_zero,iy,iy]
  rfl
 ·rw [if_pos (by omega),Abj (by omega),show (-(max (-65536) (min (-(n:Int)) 65536))).toNat=n by omega,ah,←al]
  unfold gv
  congr 2
  omega
theorem LJ (n:Int):gv (n,0)=n*2 ^ GQ:=rfl
theorem Ur {p:Int × Nat} (hp:p.2≤GQ) (hd:den≤GQ):gv (Cl p.1 p.2 den)≤gv p∧gv p<gv (Cl p.1 p.2 den)+2 ^ (GQ - den)∧∃ k:Int,gv (Cl p.1 p.2 den)=k*2 ^ (GQ - den):=by
 unfold Cl
 by_cases h:p.2≤den
 ·rw [if_pos h]
  show gv p≤gv p∧gv p<gv p+2 ^ (GQ - den)∧∃ k:Int,gv p=k*2 ^ (GQ - den)
  refine ⟨ck _,by have:=Bg (GQ - den);omega,p.1*2 ^ (den - p.2),?_⟩
  unfold gv
  rw [ah,←al]
  congr 2
  omega
 ·rw [if_neg h,Abj hd]
  have e:gv p=p.1*2 ^ (GQ - p.2):=rfl
  have hk:(2:Int) ^ (GQ - den)=2 ^ (p.2 - den)*2 ^ (GQ - p.2):=by rw [←al];congr 1;omega
  have h1:=kw p.1 (2 ^ (p.2 - den))
  have h2:=kx p.1 (Pa (p.2 - den))
  have h3:=ky p.1 (Bg (p.2 - den))
  have e2:p.1 / 2 ^ (p.2 - den)*2 ^ (GQ - den)=p.1 / 2 ^ (p.2 - den)*2 ^ (p.2 - den)*2 ^ (GQ - p.2):=by rw [hk,ah]
  refine ⟨?_,?_,_,rfl⟩
  ·rw [e2,e]
   refine ci ?_ (ay (Bg _))
   rw [cj];omega
  ·rw [e2,e,hk,←gx]
   refine ld ?_ (Bg _)
   rw [cj (p.1 / _)];omega
abbrev Pq:=Int × Nat
abbrev Du (p q:Pq):Pq:=Ck p.1 p.2 q.1 q.2
abbrev GF (p:Pq):Pq:=(-p.1,p.2)
abbrev Ha (p:Pq):Pq:=(((p.1.natAbs:Nat):Int),p.2)
abbrev BR (p q:Pq):Pq:=Ou p.1 p.2 q.1 q.2
abbrev Pb (p q:Pq):Pq:=DR p.1 p.2 q.1 q.2
abbrev Fw (p q:Pq):Pq:=DS p.1 p.2 q.1 q.2
abbrev Nt (p q:Pq):Int:=BM p.1 p.2 q.1 q.2
abbrev ES (p:Pq) (n:Int):Pq:=Ac p.1 p.2 n
abbrev SW (p:Pq) (n:Nat):Pq:=Cl p.1 p.2 n
abbrev AiD (p:Pq) (n:Nat):Pq:=GF (SW (GF p) n)
abbrev Iq:=Pq × Pq
def dIw (t:Bool) (a:Iq):List D:=dDy t a.1.1 a.1.2++dDy t a.2.1 a.2.2
def aIw (t:Bool) (a:Iq):A:=.agg (dIw t a)
structure IwS (a:Iq) (n d:Nat):Prop where
 s1:Sm a.1 n d
 s2:Sm a.2 n d
 le:gv a.1≤gv a.2
theorem IwS.more {a:Iq} {d n' d':Nat} (h:IwS a n d) (h1:n≤n') (h2:d≤d'):IwS a n' d':=⟨h.s1.more h1 h2,h.s2.more h1 h2,h.le⟩
def Ig (a:Iq) (x:Pq):Iq:=(Pb a.1 x,Fw a.2 x)
def Dc:List Pq→Iq
 | []=>((0,0),(0,0))
 | p::l=>l.foldl Ig (p,p)
def AeL (a:Iq):Iq:=(GF a.2,GF a.1)
def Ahe (a b:Iq):Iq:=(Du a.1 b.1,Du a.2 b.2)
def AnP (a b:Iq):Iq:=Ahe a (AeL b)
def Xf (a b:Iq):Iq:=Dc [BR a.1 b.1,BR a.1 b.2,BR a.2 b.1,BR a.2 b.2]
def Pc (a:Iq) (f:Pq):Iq:=Xf a (f,f)
def Ahf (a b:Iq):Iq:=(Pb a.1 b.1,Pb a.2 b.2)
def AeM (a b:Iq):Iq:=(Fw a.1 b.1,Fw a.2 b.2)
def Lo (a b:Iq):Iq:=Dc [a.1,a.2,b.1,b.2]
def RQ (a:Iq):Iq:=if a.1.1<0∧0<a.2.1 then ((0,0),(Dc [Ha a.1,Ha a.2]).2) else Dc [Ha a.1,Ha a.2]
def Ye (a:Iq) (v u:Pq):Iq:=Ahf (AeM a (v,v)) (u,u)
def Ih (a:Iq) (den:Nat):Iq:=(SW a.1 den,AiD a.2 den)
def iIn (a b:Iq):Bool:=decide (Nt b.1 a.1≤0) && decide (Nt a.2 b.2≤0)
def DA (a:Iq):Pq:=(RQ a).2
theorem Sm.le {p:Pq} {d:Nat} (h:Sm p n d):p.2≤GQ:=h.ok.le
section
variable {a b:Iq} {n d:Nat}
theorem Ii {p q:Pq} (hp:Sm p n d) (hq:Sm q n d):gv (Dc [p,q]).1=min (gv p) (gv q)∧gv (Dc [p,q]).2=max (gv p) (gv q)∧IwS (Dc [p,q]) n d:=by
 have e1:gv (Pb p q)=min (gv p) (gv q):=Gb hp.le hq.le
 have e2:gv (Fw p q)=max (gv p) (gv q):=Dl hp.le hq.le
 refine ⟨e1,e2,Sm.min hp hq,Sm.max hp hq,?_⟩
 show gv (Pb p q)≤gv (Fw p q)
 omega
theorem Em {p q r s:Pq} (hp:Sm p n d) (hq:Sm q n d) (hr:Sm r n d) (hs:Sm s n d):gv (Dc [p,q,r,s]).1=min (min (min (gv p) (gv q)) (gv r)) (gv s)∧gv (Dc [p,q,r,s]).2=max (max (max (gv p) (gv q)) (gv r)) (gv s)∧IwS (Dc [p,q,r,s]) n d:=by
 have m1:Sm (Pb p q) n d:=Sm.min hp hq
 have m2:Sm (Pb (Pb p q) r) n d:=Sm.min m1 hr
 have x1:Sm (Fw p q) n d:=Sm.max hp hq
 have x2:Sm (Fw (Fw p q) r) n d:=Sm.max x1 hr
 have e1:gv (Pb (Pb (Pb p q) r) s)=min (min (min (gv p) (gv q)) (gv r)) (gv s):=by rw [Gb m2.le hs.le,Gb m1.le hr.le,Gb hp.le hq.le]
 have e2:gv (Fw (Fw (Fw p q) r) s)=max (max (max (gv p) (gv q)) (gv r)) (gv s):=by rw [Dl x2.le hs.le,Dl x1.le hr.le,Dl hp.le hq.le]
 refine ⟨e1,e2,Sm.min m2 hs,Sm.max x2 hs,?_⟩
 show gv (Pb (Pb (Pb p q) r) s)≤gv (Fw (Fw (Fw p q) r) s)
 omega
theorem IwS.neg (h:IwS a n d):IwS (AeL a) n d:=⟨h.s2.neg,h.s1.neg,by show gv (GF a.2)≤gv (GF a.1);rw [EE,EE];have:=h.le;omega⟩
theorem IwS.add (h:IwS a n d) (k:IwS b n d) (hd:d≤65536):IwS (Ahe a b) (n+d+1) d:=⟨Sm.sum h.s1 k.s1 hd,Sm.sum h.s2 k.s2 hd,by
 show gv (Du a.1 b.1)≤gv (Du a.2 b.2)
 rw [CL h.s1.le k.s1.le,CL h.s2.le k.s2.le]
 have:=h.le;have:=k.le;omega⟩
theorem IwS.sub (h:IwS a n d) (k:IwS b n d) (hd:d≤65536):IwS (AnP a b) (n+d+1) d:=h.add k.neg hd
theorem IwS.min (h:IwS a n d) (k:IwS b n d):IwS (Ahf a b) n d:=⟨Sm.min h.s1 k.s1,Sm.min h.s2 k.s2,by
 show gv (Pb a.1 b.1)≤gv (Pb a.2 b.2)
 rw [Gb h.s1.le k.s1.le,Gb h.s2.le k.s2.le]
 have:=h.le;have:=k.le;omega⟩
theorem IwS.max (h:IwS a n d) (k:IwS b n d):IwS (AeM a b) n d:=⟨Sm.max h.s1 k.s1,Sm.max h.s2 k.s2,by
 show gv (Fw a.1 b.1)≤gv (Fw a.2 b.2)
 rw [Dl h.s1.le k.s1.le,Dl h.s2.le k.s2.le]
 have:=h.le;have:=k.le;omega⟩
theorem IwS.pt {p:Pq} (h:Sm p n d):IwS (p,p) n d:=⟨h,h,ck _⟩
theorem IwS.mul (h:IwS a n d) (k:IwS b n d) (hd:d≤30000):IwS (Xf a b) (n+n) (d+d):=(Em (Sm.mul h.s1 k.s1 hd) (Sm.mul h.s1 k.s2 hd) (Sm.mul h.s2 k.s1 hd) (Sm.mul h.s2 k.s2 hd)).2.2
theorem IwS.hull (h:IwS a n d) (k:IwS b n d):IwS (Lo a b) n d:=(Em h.s1 h.s2 k.s1 k.s2).2.2
theorem IwS.clip {v u:Pq} (h:IwS a n d) (hv:Sm v n d) (hu:Sm u n d):IwS (Ye a v u) n d:=(h.max (.pt hv)).min (.pt hu)
theorem Akp {p:Pq}:p.1<0 ↔ gv p<0:=by
 unfold gv
 exact ⟨fun h=>ks h (Bg _),fun h=>Int.not_le.1 fun hc=>by have:=gu hc (ay (Bg (GQ - p.2)));omega⟩
theorem Akq {p:Pq}:0<p.1 ↔ 0<gv p:=by
 unfold gv
 exact ⟨fun h=>Int.mul_pos h (Bg _),fun h=>Int.not_le.1 fun hc=>by have:=Int.mul_nonpos_of_nonpos_of_nonneg hc (ay (Bg (GQ - p.2)));omega⟩
theorem IwS.abs (h:IwS a n d):IwS (RQ a) n d:=by
 obtain ⟨h1,h2,h3⟩:=Ii h.s1.abs h.s2.abs
 unfold RQ
 split
 ·refine ⟨Sm.zero n d,h3.s2,?_⟩
  show gv (0,0)≤gv (Dc [Ha a.1,Ha a.2]).2
  rw [Ic,h2,Nq,Nq]
  omega
 ·exact h3
theorem Ij (h:IwS a n d):gv (RQ a).1=(if gv a.1<0∧0<gv a.2 then 0 else min ((gv a.1).natAbs:Int) (gv a.2).natAbs)∧gv (RQ a).2=max ((gv a.1).natAbs:Int) (gv a.2).natAbs:=by
 obtain ⟨h1,h2,h3⟩:=Ii h.s1.abs h.s2.abs
 rw [Nq,Nq] at h1 h2
 unfold RQ
 by_cases hc:a.1.1<0∧0<a.2.1
 ·rw [if_pos hc,if_pos ⟨Akp.1 hc.1,Akq.1 hc.2⟩]
  exact ⟨Ic,h2⟩
 ·rw [if_neg hc,if_neg (fun h=>hc ⟨Akp.2 h.1,Akq.2 h.2⟩)]
  exact ⟨h1,h2⟩
theorem AeN (h:IwS a n d) (k:IwS b n d):iIn a b=decide (gv b.1≤gv a.1∧gv a.2≤gv b.2):=by
 unfold iIn
 rw [lg,aj,decide_eq_true_eq,decide_eq_true_eq,decide_eq_true_eq,LI k.s1.le h.s1.le,LI h.s2.le k.s2.le]
end
theorem Ik (a:Iq):∀ u∈dIw false a,Dh u:=fun u hu=>by
 rcases List.mem_append.1 hu with h|h <;> exact Ox _ _ u h
theorem rvJ {t:Tmp} {k:Nat} {a:Iq} (hk:TyK P ty true k) (hi:6=k) (hF:F t=.one (.ref id 0 none):=by with_unfolding_all exact rfl) (hH:H[id]?=some (.box ty' ((dIw false a).map C.d)):=by with_unfolding_all exact rfl):RV P F H (.cell t ty) (aIw false a):=by
 obtain ⟨⟨dd,hu,hd⟩,hz⟩:=hk
 refine .cellA hF hH hu hd (by rw [hz,←hi];rfl) (Ba.map_l.2 ⟨rfl,fun j x y hx hy=>?_⟩)
 rw [hx] at hy
 cases hy
 exact .d fun _=>Ik a x (gM hx)
theorem AeO:dIw false ((0,0),(0,0))=[.val (.bool false),.row false 1 0 [],.val (.int .i64 0),.val (.bool false),.row false 1 0 [],.val (.int .i64 0)]:=by
 have e:dDy false 0 0=[.val (.bool false),.row false 1 0 [],.val (.int .i64 0)]:=A.agg.inj Ml
 show dDy false 0 0++dDy false 0 0=_
 rw [e]
 rfl
def Mo (ps:List Prt) (bs:List Bk) (st:List (Int × Nat)) (ins:List Int):Int :=
 if ins.length≠ps.length then 11 else if Wc ps ins=false then 3 else if DZ ps bs st ins=true then 4 else 0
structure ApC (bs:List Bk) (st:List (Int × Nat)):Prop where
 len:st.length=(AI bs).length
 sm:∀ p∈st,Sm p LB LB
theorem Wg (h:Mo ps bs st ins=0):ins.length=ps.length∧Wc ps ins=true∧DZ ps bs st ins=false:=by
 unfold Mo at h
 by_cases h1:ins.length≠ps.length
 ·rw [if_pos h1] at h;cases h
 ·rw [if_neg h1] at h
  by_cases h2:Wc ps ins=false
  ·rw [if_pos h2] at h;cases h
  ·rw [if_neg h2] at h
   by_cases h3:DZ ps bs st ins=true
   ·rw [if_pos h3] at h;cases h
   ·exact ⟨Decidable.not_not.1 h1,by simpa using h2,by simpa using h3⟩
theorem AeP (h:DZ ps bs st ins=false):(∀ p∈st,CQ p=false)∧∀ t,t<(Bn bs).length→CQ (Wb ps bs st ins t)=false:=by
 unfold DZ at h
 rw [iu] at h
 exact ⟨fun p hp=>by simpa using List.any_eq_false.1 h.1 p hp,fun t ht=>by simpa using List.any_eq_false.1 h.2 t (List.mem_range.2 ht)⟩
theorem AeQ (hj:(Bn bs)[t]?=some j) (hy:bs[j]?=some y):Wb ps bs st ins t=Dt y (Nl (Mn ps bs st ins t) y) ps ins:=by
 unfold Wb tkV
 rw [hj,bd,hy]
section
variable {ps:List Prt} {bs:List Bk} {os:List Int} {st:List (Int × Nat)} {ins:List Int}
theorem ZF (he:AO ps bs os=0) (hl:st.length=(AI bs).length) (hn:∀ p∈st,Nf p.1 p.2) (h:Mo ps bs st ins=0):∀ t,t≤(Bn bs).length→Has (Mn ps bs st ins t) (Wd bs t):=by
 obtain ⟨h1,h2,h3⟩:=Wg h
 obtain ⟨h4,h5⟩:=AeP h3
 intro t
 induction t with
 | zero=>intro _;rw [ZD];exact AeG (fun p hp=>⟨hn p hp,h4 p hp⟩) hl
 | succ t ih =>
  intro ht
  obtain ⟨j,hj⟩:∃ j,(Bn bs)[t]?=some j:=⟨_,gE (by omega)⟩
  have hv:=ih (by omega)
  obtain ⟨y,hy,hk,T⟩:=XZ he h2 h1 hj hv
  refine ZE hv hj (Abh ?_ (h5 t (by omega)))
  rw [AeQ hj hy]
  exact T.sm.ok
theorem Abk (bs:List Bk):(AI bs).Nodup:=List.Pairwise.filter _ List.nodup_range
theorem Wh (bs:List Bk):(Bn bs).Nodup:=(GR bs.length (Gi.nil bs)).nodup
theorem Us {l:List Nat} (h:l.Nodup) {i j x:Nat} (hi:l[i]?=some x) (hj:l[j]?=some x):i=j:=by
 obtain ⟨h1,e1⟩:=gS.1 hi
 obtain ⟨h2,e2⟩:=gS.1 hj
 exact (List.getElem_inj (h₀:=h1) (h₁:=h2) h).1 (e1.trans e2.symm)
theorem ZG (htu:t≤u) (hu:u≤(Bn bs).length) (h:∀ v,t≤v→v<u→(Bn bs)[v]?≠some i):(Mn ps bs st ins u)[i]?=(Mn ps bs st ins t)[i]?:=by
 induction u with
 | zero=>rw [show t=0 by omega]
 | succ u ih =>
  by_cases e:t=u+1
  ·rw [e]
  ·obtain ⟨j,hj⟩:∃ j,(Bn bs)[u]?=some j:=⟨_,gE (by omega)⟩
   have hne:j≠i:=fun hji=>h u (by omega) (by omega) (by rw [hj,hji])
   rw [Nn hj,gn hne]
   exact ih (by omega) (by omega) fun v h1 h2=>h v h1 (by omega)
theorem ZH (htu:t≤u) (hu:u≤(Bn bs).length) (h:Wd bs t i):(Mn ps bs st ins u)[i]?=(Mn ps bs st ins t)[i]?:=by
 refine ZG htu hu fun v h1 h2 hv=>?_
 rcases h with ⟨_,hk⟩|hm
 ·exact (Ia hv).2 hk
 ·obtain ⟨w,hw⟩:=List.mem_iff_getElem?.1 hm
  rw [cn] at hw
  split at hw
  ·have:=Us (Wh bs) hw hv
   omega
  ·cases hw
def DU (V:List (Int × Nat)) (y:Bk):List (Int × Nat):=if y.kind=0 then [] else y.args.map fun a=>V[a.toNat]?.getD (0,0)
theorem ZI:(RB ps bs st ins).length=bs.length:=by unfold RB;rw [AeC,IW]
theorem Wi:(FH ps bs st ins).length=(AI bs).length:=by unfold FH;rw [af]
theorem AeR (he:AO ps bs os=0) (hl:st.length=(AI bs).length) (hn:∀ p∈st,Nf p.1 p.2) (h:Mo ps bs st ins=0) {i:Nat} {y:Bk} (hy:bs[i]?=some y) (hk:y.kind≠2) :
  (RB ps bs st ins)[i]?=some (Dt y (DU (RB ps bs st ins) y) ps ins):=by
 have H:=ZF he hl hn h
 obtain ⟨h1,h2,_⟩:=Wg h
 have hil:=(gS.1 hy).1
 obtain ⟨t,ht⟩:=List.mem_iff_getElem?.1 (Uh (Lz he).2.2 hil (by rw [GV hy];exact hk))
 have htl:=(gS.1 ht).1
 obtain ⟨y',hy',_,T⟩:=XZ he h2 h1 ht (H t (by omega))
 obtain rfl:y'=y:=Option.some.inj (hy'.symm.trans hy)
 have e1:(Mn ps bs st ins (Bn bs).length)[i]?=some (some (Wb ps bs st ins t)):=by
  rw [ZG (t:=t+1) htl (aa _) fun v k1 k2 kv=>by have:=Us (Wh bs) ht kv;omega]
  rw [Nn ht,fi (by rw [IW];exact hil)]
 rw [show RB ps bs st ins=gV (Mn ps bs st ins (Bn bs).length) from rfl,Abg e1,AeQ ht hy']
 congr 2
 unfold Nl DU
 by_cases h0:y'.kind=0
 ·rw [if_pos h0,if_pos h0]
 ·rw [if_neg h0,if_neg h0]
  refine ej fun a ha=>?_
  obtain ⟨k,hk'⟩:=List.mem_iff_getElem?.1 ha
  obtain ⟨p,a0,a1,a2,_⟩:=T.args h0 k a hk'
  have hst:Wd bs t a.toNat:=by
   have hsplit:Bn bs=(Bn bs).take t++i::(Bn bs).drop (t+1):=by
    obtain ⟨hlt,he⟩:=gS.1 ht
    rw [←he,←dp hlt,fp]
   exact (Nd hsplit (a:=a) (by rw [Uo hy h0];exact ha)).imp (fun q=>⟨a1,q⟩) id
  have e2:=ZH (ps:=ps) (st:=st) (ins:=ins) (jf htl) (aa _) hst
  rw [a2] at e2
  rw [a2,Abg e2]
  rfl
theorem AiE {dl:List Nat} (hd:dl.Nodup) {st:List (Int × Nat)} {vs:List (Option (Int × Nat))} (hl:st.length=dl.length) (hb:∀ i∈dl,i<vs.length) {k i:Nat} (hk:dl[k]?=some i):(XY dl st vs)[i]?=(st[k]?).map some:=by
 have key:∀ t,t≤dl.length→k<t→(XY (dl.take t) (st.take t) vs)[i]?=(st[k]?).map some:=fun t=>by
  induction t with
  | zero=>intro _ h;omega
  | succ t ih =>
   intro ht hkt
   obtain ⟨j,hj⟩:∃ j,dl[t]?=some j:=⟨_,gE (by omega)⟩
   obtain ⟨p,hp⟩:∃ p,st[t]?=some p:=⟨_,gE (by omega)⟩
   rw [QW _ hj hp]
   by_cases e:k=t
   ·subst e
    obtain rfl:j=i:=Option.some.inj (hj.symm.trans hk)
    rw [fi (by rw [Nm];exact hb j (gM hj)),hp]
    rfl
   ·have hne:j≠i:=fun h=>e (Us hd hk (h ▸ hj))
    rw [gn hne]
    exact ih (by omega) (by omega)
 have:=key dl.length (aa _) (gS.1 hk).1
 rwa [au,ar (by omega)] at this
theorem Akr (h:i∈AI bs):i<bs.length∧AK bs i=2:=by
 obtain ⟨k,hk⟩:=List.mem_iff_getElem?.1 h
 exact GE hk
theorem AeS (hl:st.length=(AI bs).length) {k i:Nat} (hk:(AI bs)[k]?=some i):(RB ps bs st ins)[i]?=st[k]?:=by
 have hkl:=(gS.1 hk).1
 have hi:=GE hk
 have e1:=ZH (ps:=ps) (st:=st) (ins:=ins) (ad (Bn bs).length) (aa _) (.inl hi:Wd bs 0 i)
 rw [ZD,AiE (Abk bs) hl (fun i hi=>by rw [dt];exact (Akr hi).1) hk] at e1
 obtain ⟨p,hp⟩:∃ p,st[k]?=some p:=⟨_,gE (by omega)⟩
 rw [hp] at e1 ⊢
 exact Abg e1
theorem AeT (he:AO ps bs os=0) (hl:st.length=(AI bs).length) (hn:∀ p∈st,Nf p.1 p.2) (h:Mo ps bs st ins=0):∀ p∈RB ps bs st ins,Sm p LB LB:=fun p hp=>by
 obtain ⟨i,hi⟩:=List.mem_iff_getElem?.1 hp
 have hil:=(gS.1 hi).1
 rw [ZI] at hil
 obtain ⟨q,h1,h2⟩:=AeH he (ZF he hl hn h _ (aa _)) hil
 rw [show RB ps bs st ins=gV (Mn ps bs st ins (Bn bs).length) from rfl,Abg h1] at hi
 cases hi
 exact h2
theorem AeU {k:Nat} (hk:(AI bs)[k]?=some i):(FH ps bs st ins)[k]?=some (((RB ps bs st ins)[Aiv bs i]?).getD (0,0)):=by
 unfold FH
 rw [ag,hk,bo]
theorem AnQ (he:AO ps bs os=0) (hl:st.length=(AI bs).length) (hn:∀ p∈st,Nf p.1 p.2) (h:Mo ps bs st ins=0):ApC bs (FH ps bs st ins):=⟨Wi,fun p hp=>by
 obtain ⟨k,hk⟩:=List.mem_iff_getElem?.1 hp
 have hkl:=(gS.1 hk).1
 rw [Wi] at hkl
 obtain ⟨i,hi⟩:∃ i,(AI bs)[k]?=some i:=⟨_,gE hkl⟩
 rw [AeU hi] at hk
 cases hk
 exact CY (AeT he hl hn h) _⟩
theorem ApC.nf (h:ApC bs st):∀ p∈st,Nf p.1 p.2:=fun p hp=>(h.sm p hp).ok
end
def Avk (bs:List Bk) (i:Nat):Int:=(bs[i]?.getD bk0).vn
def Avl (bs:List Bk) (i:Nat):Int:=(bs[i]?.getD bk0).ve
def CN (bs:List Bk):List (Int × Nat):=(AI bs).map fun i=>Ac (Avk bs i) 0 (Avl bs i)
theorem Nu (he:AO ps bs os=0):ApC bs (CN bs):=⟨by unfold CN;rw [af],fun p hp=>by
 obtain ⟨i,hi,rfl⟩:=List.mem_map.1 hp
 obtain ⟨h1,h2⟩:=Akr hi
 obtain ⟨y,hy⟩:∃ y,bs[i]?=some y:=⟨_,gE h1⟩
 rw [GV hy] at h2
 obtain ⟨s1,s2,s3,s4⟩:=HW he hy (by unfold Sv;rw [h2];rfl)
 unfold Avk Avl
 rw [hy]
 exact (Sm.shift (n:=32) (by simp only [bd];omega) (by simp only [bd];omega) (by simp only [bd];omega)).more (by decide) (by decide)⟩
def EL (p:Int × Nat):Rv:=⟨decide (p.1<0),Ae p.1.natAbs,p.2⟩
theorem Asb (p:Int × Nat):(EL p).rw.x=p.1:=by
 show sg (decide (p.1<0)) (AC (Ae p.1.natAbs))=p.1
 rw [Ax]
 unfold sg
 split <;> rename_i h
 ·have:=of_decide_eq_true h;omega
 ·have:¬ p.1<0:=by simpa using h
  omega
theorem Il (p:Int × Nat):rvP (EL p)=p:=by
 unfold rvP
 rw [Asb]
 show (p.1,((p.2:Nat):Int).toNat)=p
 rw [ao]
theorem Nv (t:Bool) (p:Int × Nat):dRv t (EL p)=dDy t p.1 p.2:=by
 unfold dRv dDy wds
 rw [Aec]
 rfl
theorem Ut {p:Int × Nat} (h:Nf p.1 p.2):vdB (EL p).rw=true:=by
 refine decide_eq_true ?_
 by_cases h0:(Ae p.1.natAbs).length=0
 ·refine (Aij (r:=(EL p).rw) h0).2 ?_
  have hz:p.1.natAbs=0:=by
   have:=Ax p.1.natAbs
   rw [cq h0] at this
   exact this.symm
  have hd:p.2=0:=bw fun hne=>by have:=h.2 hne;omega
  exact ⟨decide_eq_false (by omega),by show ((p.2:Nat):Int)=0;omega⟩
 ·refine (Aet (r:=(EL p).rw) h0).2 ⟨?_,by show (0:Int)≤(p.2:Nat);omega,by have:=h.1;show ((p.2:Nat):Int)≤65536;omega,?_⟩
  ·have hne:p.1.natAbs≠0:=fun hz=>h0 (by rw [hz,AV];rfl)
   obtain ⟨q,L,hL,hq,q0,_,_⟩:=SN hne
   show _≠_
   simp only [EL,Rv.rw]
   first|(rw [hL];simpa [hq] using q0)|simp_all
  ·by_cases hd:p.2=0
   ·left;show ((p.2:Nat):Int)=0;omega
   ·right
    have:=h.2 hd
    have hb:=MI (AF p.1.natAbs) 0
    rw [Ax] at hb
    simp only [Nat.pow_zero,Nat.div_one,Nat.zero_div,Nat.zero_mod] at hb
    show (Ae p.1.natAbs)[0]?.getD 0 % 2=1
    omega
theorem ZJ (l:List (Int × Nat)):(l.map EL).map rvP=l:=by
 rw [dv]
 exact (ej fun p _=>Il p).trans (List.map_id l)
theorem Uu (l:List (Int × Nat)):Acc (l.map EL)=.row false 3 l.length (Ay dyP l):=by
 unfold Acc Ay
 rw [af,dv]
 congr 2
 exact ej fun p _=>Nv false p
theorem Asc (he:AO ps bs os=0) (h:ApC bs st):stE ps bs os (st.map EL) ins=Mo ps bs st ins:=by
 unfold stE Mo
 rw [if_neg (not_not_intro he),if_neg (not_not_intro (by rw [af];exact h.len)),if_neg (by rw [ia];exact List.all_eq_true.2 fun r hr=>by obtain ⟨p,hp,rfl⟩:=List.mem_map.1 hr;exact Ut (h.nf p hp)),ZJ]
theorem Mp (bs:List Bk):(AI bs).length≤bs.length:=by unfold AI;exact lT (kt _ _) (gr fz)
theorem ZK {k:Nat} (hi:(AI bs)[k]?=some i) (hy:bs[i]?=some y):(CN bs)[k]?=some (Ac y.vn 0 y.ve):=by
 unfold CN Avk Avl
 rw [ag,hi,bo,hy]
 rfl
theorem Wj {l:List (Int × Nat)} {k:Nat} {p:Int × Nat} (h:l[k]?=some p):(Ay dyP (l.take k)).map C.d++(dDy false p.1 p.2).map C.d=(Ay dyP (l.take (k+1))).map C.d∧(l.take k).length+1=(l.take (k+1)).length∧(l.take k).length≤k:=by
 refine ⟨?_,?_,by rw [dj];omega⟩
 ·rw [aq,h,eb,EA,et];rfl
 ·rw [aq,h,ak];rfl
def Yf (u:Bool) (ls:List (List Int)):D:=.row u 1 ls.length (ls.map (AU u))
theorem AeV {u:Bool} {ls:List (List Int)} {k:Nat} {l:List Int} (h:ls[k]?=some l):((ls.map (AU u)).drop (k*1)).take 1=[AU u l]:=Adn h
theorem Wl (t:Bool) {ps:List Prt} {bs:List Bk} {os:List Int} (hl:Fa ps bs os):CV prog An 53 [aDg t ps bs os] [Akn (okQ (AO ps bs os) (CN bs)),aE (AO ps bs os)]:=by
 refine cvz func53 ntmps53 ?_
 have DL:=(Hz t hl (ps:=ps) (bs:=bs) (os:=os)).cv
 have hnl:=Dr (AI bs)
 by_cases h0:AO ps bs os=0
 case neg =>
  rw [if_neg h0] at DL
  rw [Gn h0]
  repeat' (with_reducible first|refine qq ?_|(refine Tx 0 ?_;refine gN xBo <| gO xA <| gO xA ?_)|(refine Tx 1 ?_;refine gO xL <| gO (xCl func19 (DL)) <| gO xMt <| gO xEx <| gO xEx <| gO xA <| gO xA ?_)|(refine Tx 2 ?_;refine gO xM <| gO (xNE Ai) ?_)|(refine Tx 3 ?_;refine gO xM <| gO xA <| gO xA ?_))
  exact AH rfl (.cons_ (.tmp (.one (EQ rfl rfl))) (.cons_ (Aca rfl rfl) .nil_))
 rw [if_pos h0,h0] at DL
 rw [h0,RP rfl]
 repeat' (with_reducible first|refine qq ?_|(refine Tx 0 ?_;refine gN xBo <| gO xA <| gO xA ?_)|(refine Tx 1 ?_;refine gO xL <| gO (xCl func19 (DL)) <| gO xMt <| gO xEx <| gO xEx <| gO xA <| gO xA ?_)|(refine Tx 2 ?_;refine gO xM <| gO (xNE Ai) ?_)|(refine Tx 4 ?_;refine gO xA ?_)|(refine Tx 5 ?_;refine gO xM <| gO xN <| gO xM ?_))
 refine Bj (MS 6 43 3 rfl) ?_
 have hl2:=hl.l2
 have hdb:=Mp bs
 have hsl:(CN bs).length=(AI bs).length:=(Nu h0).len
 refine Bj (BK 2) (Av (fun n Fr H=>∃ k:Nat,k≤(AI bs).length∧n=(AI bs).length - k∧Fr=ofL [(1,vr 0),(6,vo 1 (((CN bs).take k).length)),(17,vd (AU false (BZ (AI bs)))),(18,vi ((BZ (AI bs)).length)),(19,vi ((k:Nat)))]∧H=[.box 26 [.d (Di t ps),.d (DK t bs),.d (AU t os)],.row 43 3 ((CN bs).take (k)).length ((Ay dyP ((CN bs).take (k))).map C.d)]) (n0:=(AI bs).length) ⟨0,ad _,rfl,rfl,rfl⟩ ?_)
 rintro n Fr H ⟨k,hk,rfl,rfl,rfl⟩
 by_cases hlt:k<(AI bs).length
 case pos =>
  obtain ⟨i,hi⟩:∃ i,(AI bs)[k]?=some i:=⟨_,gE hlt⟩
  have hid:=GE hi
  have hil:=hid.1
  obtain ⟨y,hy⟩:∃ y,bs[i]?=some y:=⟨_,gE hil⟩
  have hk2:=hid.2
  rw [GV hy] at hk2
  have hsc:=HW h0 hy (by unfold Sv;rw [hk2];rfl)
  have NU:=GB y.vn y.ve hsc
  obtain ⟨hap,hap2,hoL⟩:=Wj (ZK hi hy)
  repeat' (with_reducible first|refine qq ?_|(refine Tx 6 ?_;refine gO xLt ?_)|(refine Tx 7 ?_;refine gO (xIr Af (AG (Ib hi))) <| gO xD <| gO xA ?_)|(refine Tx 8 ?_;refine gO xM <| gO xF <| gO xD <| gO xM <| gO (xIr Al (Fb hy)) <| gO xF <| gO xL <| gO (xCl func130 (NU)) <| gN (by exact Bp rfl Ah Ao rfl rfl (by decide) (by decide)) <| gT (by exact Gx rfl rfl rfl rfl rfl rfl Ah Ao (by omega) (by decide) (by decide) rfl hap hap2) <| gO xA ?_)|(refine Tx 9 ?_;refine gO xAd <| gO xM ?_))
  refine ⟨_,_,BK 2,_,?_,k+1,by omega,rfl,rfl,rfl⟩
  ·omega
 obtain rfl:k=(AI bs).length:=by omega
 clear hlt hk
 rw [←hsl,au]
 unfold Akn
 repeat' (with_reducible first|refine qq ?_|(refine Tx 6 ?_;refine gO xLt ?_)|(refine Tx 10 ?_;refine gO xM <| gO xA <| gO xA ?_))
 exact AH rfl (.cons_ (.tmp (.one (AeD rfl rfl rfl))) (.cons_ (Gk rfl rfl) .nil_))
theorem Abl (h:AO ps bs os=0):FW ps bs os:=by
 unfold AO at h
 by_cases hs:FW ps bs os
 ·exact hs
 ·rw [if_pos hs] at h
  cases h
def Pf (ps:List Prt) (bs:List Bk) (os:List Int):Bool:=decide (ps.length≤40∧bs.length≤80∧os.length≤40) && bs.all fun b=>decide (b.args.length≤10)
theorem AiF (k:p') (h:Hd9 p'→p:=by with_reducible first|(intro Z9;refine Tx 0 ?_;refine gN xBo <| gO xA ?_;exact Z9.o)|(intro Z9;refine Tx 1 ?_;refine gO xF <| gO xD <| gO xN <| gO xGt <| gO xM ?_;(first|iterate 4 refine Jd ?_|(refine Jy (xFa BO AX) ?_;refine Jy (xLd AX) ?_;refine Jy (xLn Al) ?_;refine Jy xGt ?_));refine gO xPk <| gO xM ?_;(first|iterate 4 refine Jd ?_|(refine Jy (xFa Mj Bm) ?_;refine Jy (xLd Bm) ?_;refine Jy (xLn Af) ?_;refine Jy xGt ?_));refine gO xPk ?_;exact Z9.o)|fail):p:=h ⟨k⟩
theorem AnR (h:p:=by
 exact AH rfl (.cons_ (Fi rfl (by unfold Pf;rw [decide_eq_false (by omega)];rfl)) .nil_)):p:=h
theorem AeW (t:Bool) (ps:List Prt) (bs:List Bk) (os:List Int):CV prog An 31 [aDg t ps bs os] [aB (Pf ps bs os)]:=by
 refine cvz func31 ntmps31 ?_
 by_cases cp:40<ps.length
 case pos =>
  repeat' (with_reducible first|refine qq ?_|refine AiF ?_|(refine Tx 2 ?_;refine gO xA ?_))
  exact AnR
 by_cases cb:80<bs.length
 case pos =>
  repeat' (with_reducible first|refine qq ?_|refine AiF ?_|(refine Tx 2 ?_;refine gO xA ?_))
  exact AnR
 by_cases co:40<os.length
 case pos =>
  repeat' (with_reducible first|refine qq ?_|refine AiF ?_|(refine Tx 2 ?_;refine gO xA ?_))
  exact AnR
 repeat' (with_reducible first|refine qq ?_|refine AiF ?_|(refine Tx 3 ?_;refine gO xF <| gO xD <| gO xN <| gO xM ?_))
 refine Bj (BK 1) (Av (fun n Fr H=>∃ k:Nat,k≤bs.length∧n=bs.length - k∧(bs.take k).all (fun b:Bk=>decide (b.args.length≤10))=true∧Fr=ofL [(1,vr 0),(22,vd (DK t bs)),(23,vi bs.length),(24,vi ((k:Nat)))]∧H=[.box 26 [.d (Di t ps),.d (DK t bs),.d (AU t os)]]) (n0:=bs.length) ⟨0,ad _,rfl,rfl,rfl,rfl⟩ ?_)
 rintro n Fr H ⟨k,hk,rfl,hall,rfl,rfl⟩
 by_cases hlt:k<bs.length
 case pos =>
  obtain ⟨y,hy⟩:∃ y,bs[k]?=some y:=⟨_,gE hlt⟩
  by_cases hy10:y.args.length≤10
  case pos =>
   repeat' (with_reducible first|refine qq ?_|(refine Tx 4 ?_;refine gO xLt ?_)|(refine Tx 5 ?_;refine gO (xIr Al (Fb hy)) <| gO xL <| gN (xAl Cm) <| gZ (xSk BW) ?_)|(refine Tx 6 ?_;refine gO xF <| gO xD <| gO xN <| gO xGt ?_)|(refine Tx 8 ?_;refine gO xAd <| gO xM ?_))
   refine ⟨_,_,BK 1,_,?_,k+1,by omega,rfl,MW hy hall (decide_eq_true hy10),rfl,rfl⟩
   ·omega
  case neg =>
   repeat' (with_reducible first|refine qq ?_|(refine Tx 4 ?_;refine gO xLt ?_)|(refine Tx 5 ?_;refine gO (xIr Al (Fb hy)) <| gO xL <| gN (xAl Cm) <| gZ (xSk BW) ?_)|(refine Tx 6 ?_;refine gO xF <| gO xD <| gO xN <| gO xGt ?_)|(refine Tx 7 ?_;refine gO xA ?_))
   exact AH rfl (.cons_ (Fi rfl (by unfold Pf;rw [show bs.all (fun b:Bk=>decide (b.args.length≤10))=false from List.all_eq_false.2 ⟨y,gM hy,by rw [decide_eq_false hy10];exact Bool.false_ne_true⟩,Bool.and_false])) .nil_)
 obtain rfl:k=bs.length:=by omega
 rw [au] at hall
 repeat' (with_reducible first|refine qq ?_|(refine Tx 4 ?_;refine gO xLt ?_)|(refine Tx 9 ?_;refine gO xA ?_))
 exact AH rfl (.cons_ (Fi rfl (by unfold Pf;rw [hall,decide_eq_true (by omega)];rfl)) .nil_)
theorem AiG (ps:List Prt) (bs:List Bk) (os:List Int):CV prog An 31 [aDg true ps bs os] [aB (Pf ps bs os)]:=AeW true ps bs os
theorem AeX (h:Pf ps bs os=true):Fa ps bs os∧bs.length≤80:=by
 unfold Pf at h
 rw [aj] at h
 have h1:=of_decide_eq_true h.1
 exact ⟨⟨by omega,by omega,by omega,fun b hb=>by have:=of_decide_eq_true (List.all_eq_true.1 h.2 b hb);omega⟩,h1.2.1⟩
theorem Asd (n k:Int):CVF prog An 115 [aE n,aI k] [aB (isB n k)]:=fun w S vs hg hlt ha=>by
 obtain ⟨v,vs',rfl,h1,ha⟩:=ha.uncons
 obtain ⟨u,hu,h2⟩:=BQ ha
 subst hu
 cases h1
 cases h2
 refine (AqS n k w).mono fun r w' ⟨he,hw⟩=>?_
 subst hw
 exact ⟨_,he,Bo.val rfl,ab _ _⟩
theorem ZL (x lo hi:Int):CVF prog An 208 [aI x,aI lo,aI hi] [aI (Tv x lo hi)]:=fun w S vs hg hlt ha=>by
 obtain ⟨v,vs',rfl,q1,ha⟩:=ha.uncons
 obtain ⟨v2,vs',rfl,q2,ha⟩:=ha.uncons
 obtain ⟨u,hu,q3⟩:=BQ ha
 subst hu
 cases q1
 cases q2
 cases q3
 refine (Ack x lo hi w).mono fun r w' ⟨he,hw⟩=>?_
 subst hw
 exact ⟨_,he,Bo.val rfl,ab _ _⟩
def prtD:Prt:=⟨0,0,0⟩
def ME (ps:List Prt) (inn:List Int) (n:Nat):List Int:=(List.range n).map fun i=>Tv (inn[i]?.getD 0) (ps[i]?.getD prtD).lo (ps[i]?.getD prtD).hi
theorem AiH (ps:List Prt) (inn:List Int) (k:Nat):(ME ps inn k).length≤k:=by simp [ME]
theorem Wm {inn:List Int} {k:Nat} {p:Prt} (hp:ps[k]?=some p) (hz:inn[k]?.getD 0=z):ME ps inn (k+1)=ME ps inn k++[Tv z p.lo p.hi]:=by
 unfold ME
 rw [ct,et]
 simp [hp,hz]
theorem Yg (ps:List Prt) (inn:List Int):(ME ps inn ps.length).length=ps.length:=by simp [ME]
theorem AeY {p:Int × Nat} {k:Nat} (h:Nf p.1 p.2) (hl:(Ae p.1.natAbs).length≤k) (hn:32*k≤n):Sm p n 65536:=by
 refine ⟨h,?_,h.1⟩
 have hlt:p.1.natAbs<2 ^ (32*(Ae p.1.natAbs).length):=by have:=Ca (AF p.1.natAbs);rw [Ax] at this;rw [em];exact this
 exact am hlt (av (by decide) (by omega))
theorem AnS (k:p') (h:Hd9 p'→p:=by with_reducible first|(intro Z9;refine qq ?_;exact Z9.o)|(intro Z9;refine Tx 0 ?_;refine gN xBo <| gO xA ?_;exact Z9.o)|(intro Z9;refine Tx 1 ?_;refine gO xL <| gO (xCl func69 (PX)) <| gO xMt <| gO xEx <| gO xEx <| gO xEx <| gO xA <| gO xA <| gO xA ?_;exact Z9.o)|(intro Z9;refine Tx 2 ?_;refine gO xM <| gO xN <| gO xEq <| gO xA ?_;exact Z9.o)|fail):p:=h ⟨k⟩
theorem Nx (x:Int) (dx:Nat) (hnx:Nf x dx) (lx:(Ae x.natAbs).length≤40000):CV prog An 55 [aDy false x dx] [aI (sgI x)]:=by
 refine cvz func55 ntmps55 ?_
 have PX:=FY (G:=An) x dx hnx (lT lx (by decide))
 by_cases c0:x=0
 case pos =>
  have l0:((Ae x.natAbs).length:Int)=0:=by rw [show x.natAbs=0 by omega,AV];rfl
  rw [show decide (x<0)=false by rw [decide_eq_false (by omega)]] at PX
  rw [show sgI x=0 by unfold sgI;(repeat' split) <;> omega]
  repeat' (with_reducible first|refine AnS ?_|(refine Tx 3 ?_;refine gO xA ?_))
  exact AH rfl (.cons_ (Ado rfl rfl) .nil_)
 by_cases cm1:x<0
 case pos =>
  have l0:¬ ((Ae x.natAbs).length:Int)=0:=fun hc=>by have:=De (n:=x.natAbs) (by omega);omega
  rw [show decide (x<0)=true by rw [decide_eq_true (by omega)]] at PX
  rw [show sgI x = -1 by unfold sgI;(repeat' split) <;> omega]
  repeat' (with_reducible first|refine AnS ?_|(refine Tx 4 ?_;refine gO xM <| gO xA ?_)|(refine Tx 5 ?_;refine gO xA ?_))
  exact AH rfl (.cons_ (Ado rfl rfl) .nil_)
 have l0:¬ ((Ae x.natAbs).length:Int)=0:=fun hc=>by have:=De (n:=x.natAbs) (by omega);omega
 rw [show decide (x<0)=false by rw [decide_eq_false (by omega)]] at PX
 rw [show sgI x=1 by unfold sgI;(repeat' split) <;> omega]
 repeat' (with_reducible first|refine AnS ?_|(refine Tx 4 ?_;refine gO xM <| gO xA ?_)|(refine Tx 6 ?_;refine gO xA ?_))
 exact AH rfl (.cons_ (Ado rfl rfl) .nil_)
theorem SZ (x:Int) (d den:Nat) (hn:Nf x d) (hl:(Ae x.natAbs).length≤40000) (hd:den≤65536):CVF prog An 22 [aDy false x d,aI (den:Int)] [aDy false (Cl x d den).1 (Cl x d den).2,aE 0]:=fun w S vs hg hlt ha=>by
 obtain ⟨v,vs',rfl,h1,ha⟩:=ha.uncons
 obtain ⟨u,hu,h2⟩:=BQ ha
 subst hu
 cases h2
 exact (Sh (Ll h1 hlt hn) (aa _) (lT hl (by decide)) hd hg).mono fun r w' ⟨v,he,hd,hb⟩=>⟨_,he,TW (LA hd) (Bo.val rfl),hb⟩
theorem AiI {x:Int} {d:Nat} (hn:Nf x d) (hd:den≤65536):Nf (Cl x d den).1 (Cl x d den).2:=by
 unfold Cl
 split
 ·exact hn
 ·exact Nf.nf hd
theorem Wn {x:Int} {k:Nat}:(x / 2 ^ k).natAbs≤x.natAbs:=by
 have h1:=kw x (2 ^ k)
 have h2:=kx x (Pa k)
 have h3:=ky x (Bg k)
 have hp:=Bg k
 generalize (2:Int) ^ k=P at *
 generalize hq:x / P=q at *
 rcases Int.lt_or_le q 0 with hlt|hge
 ·have:P*q≤q:=by
   have:=Int.mul_le_mul_of_nonpos_right (show (1:Int)≤P by omega) (ay hlt)
   omega
  rcases Int.lt_or_le x 0 with hx|hx
  ·by_cases hP:P=1
   ·subst hP;omega
   ·have h4:2*(-q)≤P*(-q):=ci (by omega) (by omega)
    rw [Int.mul_neg] at h4
    by_cases hq1:q = -1
    ·subst hq1;omega
    ·have h5:P*(-q - 1) ≥ 1*(-q - 1):=ci (by omega) (by omega)
     rw [Int.mul_sub,Int.mul_neg] at h5
     omega
  ·exfalso
   have:0≤q:=by rw [←hq];exact Int.ediv_nonneg hx (by omega)
   omega
 ·have:1*q≤P*q:=ci (by omega) hge
  omega
theorem AeZ {x:Int} {d k:Nat} (hl:(Ae x.natAbs).length≤k):(Ae (Cl x d den).1.natAbs).length≤k:=by
 unfold Cl
 split
 ·exact hl
 ·exact lT (Bb (lT (Hl _ _) Wn)) hl
theorem Ase (h:p:=by first|exact xCl func176 (NG)|exact xCl func176 (NH)):p:=h
theorem Wo (x:Int) (d den:Nat) (hn:Nf x d) (hl:(Ae x.natAbs).length≤40000) (hd:den≤65536):CV prog An 153 [aDy false x d,aI (den:Int)] [aDy false (AiD (x,d) den).1 (AiD (x,d) den).2,aE 0]:=by
 refine cvz func153 ntmps153 ?_
 have NG:=Fc x d hn hl
 have hnn:Nf (-x) d:=⟨hn.1,fun h=>by have:=hn.2 h;omega⟩
 have FL:=(SZ (-x) d den hnn (by rw [jo];exact hl) hd).cv
 have NH:=Fc (Cl (-x) d den).1 (Cl (-x) d den).2 (AiI hnn hd) (AeZ (by rw [jo];exact hl))
 repeat' (with_reducible first|refine qq ?_|(refine Tx 0 ?_;refine gN xBo <| gN (xAl Ao) <| gO xA ?_)|(refine Tx 1 ?_;refine gO xL <| gO Ase <| gO xM <| gO (xCl func22 (FL)) <| gO xMt <| gO (by exact EO rfl rfl rfl) <| gO xEx <| gN (xAl Ao) <| gZ (xSk Ad) <| gO xA ?_)|(refine Tx 2 ?_;refine gO xL <| gO Ase <| gO xM <| gZ (xSk Ad) <| gO xA ?_))
 exact AH rfl (.cons_ (rvW Ad rfl) (.cons_ (Gk rfl rfl) .nil_))
def ivR (r s:Rv):Bool:=vdB r.rw && vdB s.rw && decide (BM r.rw.x r.rw.d s.rw.x s.rw.d≤0)
def RvL (r:Rv):Prop:=Au r.ws∧r.ws.length≤40000
def dIr (t:Bool) (a:Rv × Rv):List D:=dRv t a.1++dRv t a.2
theorem Asf (k:p') (h:Hd9 p'→p:=by with_reducible first|(intro Z9;refine Tx 1 ?_;refine gO xF <| gO xL <| gO (xCl func123 (V1)) <| gO xM ?_;(first|iterate 3 refine Jd ?_|(refine Jy (xFa Bf Ad) ?_;refine Jy (xLa Ad) ?_;refine Jy (xCl func123 (V2)) ?_));refine gO xPk <| gO xM ?_;(first|iterate 6 refine Jd ?_|(refine Jy (xFa CR Ad) ?_;refine Jy (xLa Ad) ?_;refine Jy (xFa Bf Ad) ?_;refine Jy (xLa Ad) ?_;refine Jy (xCl func15 (CM)) ?_;refine Jy xLe ?_));refine gO xPk <| gO xA ?_;exact Z9.o)|fail):p:=h ⟨k⟩
theorem IY (r s:Rv) (hr:RvL r) (hs:RvL s):CV prog An 122 [.agg (dIr false (r,s))] [aB (ivR r s)]:=by
 refine cvz func122 ntmps122 ?_
 have V1:=(Ng (G:=An) false r hr.1 (lT hr.2 (by decide))).cv
 have V2:=(Ng (G:=An) false s hs.1 (lT hs.2 (by decide))).cv
 by_cases c1:vdB r.rw=true
 case neg =>
  rw [bc] at c1
  rw [c1] at V1
  repeat' (with_reducible first|refine qq ?_|(refine Tx 0 ?_;refine gN xBo <| gO xA ?_)|(refine Tx 1 ?_;refine gO xF <| gO xL <| gO (xCl func123 (V1)) <| gO xM ?_;(first|iterate 3 refine Jd ?_|(refine Jy (xFa Bf Ad) ?_;refine Jy (xLa Ad) ?_;refine Jy (xCl func123 (V1)) ?_));refine gO xPk <| gO xM ?_;(first|iterate 4 refine Jd ?_|(refine Jy (xFa CR Ad) ?_;refine Jy (xLa Ad) ?_;refine Jy (xFa Bf Ad) ?_;refine Jy (xLa Ad) ?_));refine Jd ?_;(first|refine Jd ?_|refine Jy xLe ?_);refine gO xPk <| gO xA ?_))
  exact AH rfl (.cons_ (Fi rfl (by unfold ivR;rw [c1];rfl)) .nil_)
 by_cases c2:vdB s.rw=true
 case neg =>
  rw [bc] at c2
  rw [c1] at V1
  rw [c2] at V2
  repeat' (with_reducible first|refine qq ?_|(refine Tx 0 ?_;refine gN xBo <| gO xA ?_)|(refine Tx 1 ?_;refine gO xF <| gO xL <| gO (xCl func123 (V1)) <| gO xM ?_;(first|iterate 3 refine Jd ?_|(refine Jy (xFa Bf Ad) ?_;refine Jy (xLa Ad) ?_;refine Jy (xCl func123 (V2)) ?_));refine gO xPk <| gO xM ?_;(first|iterate 4 refine Jd ?_|(refine Jy (xFa CR Ad) ?_;refine Jy (xLa Ad) ?_;refine Jy (xFa Bf Ad) ?_;refine Jy (xLa Ad) ?_));refine Jd ?_;(first|refine Jd ?_|refine Jy xLe ?_);refine gO xPk <| gO xA ?_))
  exact AH rfl (.cons_ (Fi rfl (by unfold ivR;rw [c1,c2];rfl)) .nil_)
 rw [c1] at V1
 rw [c2] at V2
 obtain ⟨e1,n1,k1⟩:=Ui (t:=false) hr.1 c1
 obtain ⟨e2,n2,k2⟩:=Ui (t:=false) hs.1 c2
 have CM:=Cv r.rw.x r.rw.d s.rw.x s.rw.d n1 n2 (lT (gr k1) hr.2) (lT (gr k2) hs.2)
 unfold aDy at CM
 rw [←e1,←e2] at CM
 by_cases c3:BM r.rw.x r.rw.d s.rw.x s.rw.d≤0
 case pos =>
  repeat' (with_reducible first|refine qq ?_|(refine Tx 0 ?_;refine gN xBo <| gO xA ?_)|refine Asf ?_)
  exact AH rfl (.cons_ (Fi rfl (by unfold ivR;rw [c1,c2,decide_eq_true c3];rfl)) .nil_)
 case neg =>
  repeat' (with_reducible first|refine qq ?_|(refine Tx 0 ?_;refine gN xBo <| gO xA ?_)|refine Asf ?_)
  exact AH rfl (.cons_ (Fi rfl (by unfold ivR;rw [c1,c2,decide_eq_false c3];rfl)) .nil_)
theorem Ny {p:Pq} {d:Nat} (h:Sm p n d) (hn:n≤1280000):RvL (EL p):=⟨AF _,h.lenN 40000 (by omega)⟩
theorem Afa {a:Iq} {d:Nat} (h:IwS a n d):ivR (EL a.1) (EL a.2)=true:=by
 unfold ivR
 rw [Ut h.s1.ok,Ut h.s2.ok]
 have:BM (EL a.1).rw.x (EL a.1).rw.d (EL a.2).rw.x (EL a.2).rw.d=Nt (rvP (EL a.1)) (rvP (EL a.2)):=rfl
 rw [Il,Il] at this
 rw [this,decide_eq_true ((LI h.s1.le h.s2.le).2 h.le)]
 rfl
theorem Abm (a:Iq) {n d:Nat} (h:IwS a n d) (hn:n≤1280000):CV prog An 122 [aIw false a] [aB true]:=by
 have:=IY (EL a.1) (EL a.2) (Ny h.s1 hn) (Ny h.s2 hn)
 rw [Afa h] at this
 unfold dIr at this
 rwa [Nv,Nv] at this
theorem QY (x:Int) (d:Nat) (hn:Nf x d) (hl:(Ae x.natAbs).length≤40000):CV prog An 227 [aDy false x d] [aDy false x d]:=by
 refine cvz func227 ntmps227 ?_
 have SH:=BE x d 0 hn (lT hl (by decide)) (by have:=hn.1;omega)
 rw [El hn] at SH
 repeat' (with_reducible first|refine qq ?_|(refine Tx 0 ?_;refine gN xBo <| gN (xAl Ao) ?_)|(refine Tx 1 ?_;refine gO xL <| gO (xCl func21 (SH)) <| gZ (xSk Ad) ?_))
 exact Ln
theorem Hj (h:p:=by
 exact AH rfl (.cons_ (rvJ Ag rfl) .nil_)):p:=h
theorem Asg (h:p:=by first|exact xCl func227 (S1)|exact xCl func227 (S2)):p:=h
theorem AiJ (a:Iq) {n d:Nat} (h:IwS a n d) (hn:n≤1280000) (l1:(Ae a.1.1.natAbs).length≤40000) (l2:(Ae a.2.1.natAbs).length≤40000):CV prog An 228 [aIw false a] [aIw false a]:=by
 refine cvz func228 ntmps228 ?_
 have V:=Abm a h hn
 have S1:=QY a.1.1 a.1.2 h.s1.ok l1
 have S2:=QY a.2.1 a.2.2 h.s2.ok l2
 repeat' (with_reducible first|refine qq ?_|(refine Tx 0 ?_;refine gN xBo <| gN (xAl Ap) ?_)|(refine Tx 1 ?_;refine gO xL <| gO (xCl func122 (V)) <| gO AnO ?_)|(refine AE (id:=3) 7 AN (by kernel_rfl) ?_;dsimp only [List.take,List.drop];refine gP xF <| gP xL <| gP Asg <| gP xF <| gP xL <| gP Asg <| gP (by exact Az rfl CU rfl rfl) ?_;refine Ke ?_;refine gZ (xSk Ag) ?_))
 exact Hj
theorem DG (a:Iq) (h:IwS a 20000 20000):CV prog An 228 [aIw false a] [aIw false a]:=AiJ a h (by decide) h.s1.lz h.s2.lz
theorem DN (p:Pq) (hn:Nf p.1 p.2) (hl:(Ae p.1.natAbs).length≤40000):CV prog An 140 [aDy false p.1 p.2] [aIw false (p,p)]:=by
 refine cvz func140 ntmps140 ?_
 have S1:=QY p.1 p.2 hn hl
 repeat' (with_reducible first|refine qq ?_|(refine Tx 0 ?_;refine gN xBo <| gN (xAl Ap) ?_)|(refine AE (id:=1) 5 AN (by kernel_rfl) ?_;dsimp only [List.take,List.drop];refine gP xL <| gP (xCl func227 (S1)) <| gP xL <| gP (xCl func227 (S1)) <| gP (by exact Az rfl CU rfl rfl) ?_;refine Ke ?_;refine gZ (xSk Ag) ?_))
 exact Hj
theorem ZM {l:List Pq} {k:Nat} {p:Pq} (h:l[k]?=some p):((Ay dyP l).drop (k*3)).take 3=dyP p:=Ug h
theorem Wp {G:World→Prop} {o:Oper} {t e:TypeId} {x l:Operand} {tg:Bool} {s lo:Nat} {k:IntKind} {cs:List D} (ho:o.op=.slice t x (some l) none none) (hx:F.ev x=.one (.d (.row tg s n cs))) (hl:F.ev l=.one (.d (.val (.int k z)))) (hz:z=(lo:Int)) (ht:TyS P t e s) (h1:lo≤n):Bd P G o F H (.one (.d (.row tg s (n - lo) (cs.drop (lo*s))))) []:=Aen ho hx hl hz ht h1
theorem Ash (h:p:=by
 refine ⟨_,_,BK 2 (hH:=by rw [←hnx];rfl),_,?_,k+1,by omega,rfl,hIS,rfl,rfl⟩
 ·omega):p:=h
theorem Nz (t:Bool) (L:List Pq) (hne:L≠[]) (hs:∀ p∈L,Sm p 40064 40000) (hL:L.length≤100):CV prog An 226 [.one (.row t 3 L.length (Ay dyP L))] [aIw false (Dc L)]:=by
 refine cvz func226 ntmps226 ?_
 obtain ⟨p,l,rfl⟩:∃ p l,L=p::l:=by cases L with|nil=>exact absurd rfl hne|cons p l=>exact ⟨p,l,rfl⟩
 have hp:=hs p (fd ..)
 have hpl:=lT (hp.lenN 1252 (by decide)) (show 1252≤40000 by decide)
 have PT:=DN p hp.ok hpl
 have hlen:(p::l).length=l.length+1:=bi
 repeat' (with_reducible first|refine qq ?_|(refine Tx 0 ?_;refine gN (xAl Ap) ?_)|(refine Tx 1 ?_;refine gO xM <| gO (by exact Zh (i:=0) rfl rfl rfl rfl Ah (by omega) (by decide) (ZM (l:=p::l) (k:=0) rfl)) <| gO xL <| gO (xCl func140 (PT)) <| gN (xAl Ap) <| gZ (xSk Ag) ?_)|(refine Tx 2 ?_;refine gO xM <| gO (by exact Wp (lo:=1) rfl rfl rfl rfl Ah (by omega)) <| gO xN <| gO xM ?_))
 refine Bj (BK 2) (Av (fun n Fr H=>∃ k:Nat,k≤l.length∧n=l.length - k∧IwS ((l.take (k)).foldl Ig (p,p)) 40064 40000∧Fr=ofL [(2,vr 0),(3,vr 1),(11,vd (.row t 3 ((p::l).length - 1) ((Ay dyP (p::l)).drop (1*3)))),(12,vi (((p::l).length - 1:Nat))),(13,vi ((k:Nat)))]∧H=[.box 45 [.d (.val (.bool false)),.d (.val (.slice none 0 0)),.d (.val (.int .i64 0)),.d (.val (.bool false)),.d (.val (.slice none 0 0)),.d (.val (.int .i64 0))],.box 45 ((dIw false ((l.take (k)).foldl Ig (p,p))).map C.d)]) (n0:=l.length) ⟨0,ad _,rfl,.pt hp,rfl,rfl⟩ ?_)
 rintro n Fr H ⟨k,hk,rfl,hS,rfl,rfl⟩
 by_cases hlt:k<l.length
 case pos =>
  obtain ⟨x,hx⟩:∃ x,l[k]?=some x:=⟨_,gE hlt⟩
  have hxs:=hs x (ek _ (gM hx))
  have hxl:=lT (hxs.lenN 1252 (by decide)) (show 1252≤40000 by decide)
  have a1:=hS.s1
  have a2:=hS.s2
  have a1l:=lT (a1.lenN 1252 (by decide)) (show 1252≤40000 by decide)
  have a2l:=lT (a2.lenN 1252 (by decide)) (show 1252≤40000 by decide)
  have hnx:Ig ((l.take (k)).foldl Ig (p,p)) x=((l.take (k+1)).foldl Ig (p,p)):=by rw [aq,hx,eb,fa];rfl
  have hIS:IwS (Ig ((l.take (k)).foldl Ig (p,p)) x) 40064 40000:=⟨Sm.min a1 hxs,Sm.max a2 hxs,by show gv (Pb _ x)≤gv (Fw _ x);rw [Gb a1.le hxs.le,Dl a2.le hxs.le];have:=hS.le;omega⟩
  rw [hnx] at hIS
  have hxd:(((Ay dyP (p::l)).drop (1*3)).drop (k*3)).take 3=dyP x:=by rw [jq,show 1*3+k*3=(k+1)*3 by omega];exact ZM (l:=p::l) (k:=k+1) (by rw [fh];exact hx)
  generalize hT:((l.take (k)).foldl Ig (p,p))=T at *
  have MN:=Nc T.1.1 T.1.2 x.1 x.2 a1.ok hxs.ok a1l hxl
  have MX:=Eu T.2.1 T.2.2 x.1 x.2 a2.ok hxs.ok a2l hxl
  repeat' (with_reducible first|refine qq ?_|(refine Tx 3 ?_;refine gO xLt ?_)|(refine Tx 4 ?_;refine gO (xIr Ah (hxd)) <| gO xL <| gN (xAl Ao) <| gZ (xSk Ad) ?_)|(refine AE (id:=5) 9 AN (by kernel_rfl) ?_;dsimp only [List.take,List.drop];refine gP xF <| gP xL <| gP xL <| gP (xCl func225 (MN)) <| gP xF <| gP xL <| gP xL <| gP (xCl func156 (MX)) <| gP xF ?_;refine Ke ?_;refine gZ (xSk Ad) <| gO xF <| gZ (xSk Ad) ?_)|(refine Tx 6 ?_;refine gO xAd <| gO xM ?_))
  exact Ash
 obtain rfl:k=l.length:=by omega
 clear hlt hk
 rw [au]
 repeat' (with_reducible first|refine qq ?_|(refine Tx 3 ?_;refine gO xLt ?_)|(refine Tx 7 ?_;refine gO xL <| gZ (xSk Ag) ?_))
 exact Hj
theorem Mq (x:Int) {n d:Nat} (h:x.natAbs<2 ^ 63) (hn:63≤n):Sm (x,0) n d:=⟨⟨ad _,fun h=>absurd rfl h⟩,am h (av (by decide) hn),ad _⟩
theorem ZN (x:Int) (h:x.natAbs<2 ^ 63):Sm (x,0) 40064 40000:=Mq x h (by decide)
theorem Asi (h:p:=by first|exact xCl func68 (O1)|exact xCl func68 (O2)):p:=h
theorem Wq (x y:Int) (hx : -9223372036854775807≤x∧x<9223372036854775808) (hy : -9223372036854775807≤y∧y<9223372036854775808):CV prog An 139 [aI x,aI y] [aIw false (Dc [(x,0),(y,0)])]:=by
 refine cvz func139 ntmps139 ?_
 have O1:=Ft x (by omega) (by omega)
 have O2:=Ft y (by omega) (by omega)
 have s1:Sm (x,0) 40064 40000:=ZN x (by omega)
 have s2:Sm (y,0) 40064 40000:=ZN y (by omega)
 have SP:=Nz true [(x,0),(y,0)] (by simp) (fun p hp=>by simp only [bz,ce,or_false] at hp;rcases hp with rfl|rfl <;> assumption) (bg rfl)
 repeat' (with_reducible first|refine qq ?_|(refine Tx 0 ?_;refine gN (xAl Ap) ?_)|(refine Tx 1 ?_;refine gO xM <| gO Asi <| gO xM <| gO Asi <| gN (by exact Gw rfl Ah Ao rfl rfl rfl rfl (by decide) (by decide)) <| gO (xCl func226 (SP)) <| gZ (xSk Ag) ?_))
 exact Hj
theorem Asj (h:p:=by first|exact xCl func176 (N2)|exact xCl func176 (N1)):p:=h
theorem Uv (a:Iq) (h:IwS a 20000 20000):CV prog An 146 [aIw false a] [aIw false (AeL a)]:=by
 refine cvz func146 ntmps146 ?_
 have h1:=h.s1
 have h2:=h.s2
 have hl:=h1.l4
 have hm:=h2.l4
 have AR:=DG a h
 have N1:=Fc a.1.1 a.1.2 h1.ok hl
 have N2:=Fc a.2.1 a.2.2 h2.ok hm
 repeat' (with_reducible first|refine qq ?_|(refine Tx 0 ?_;refine gN xBo <| gN (xAl Ap) ?_)|(refine Tx 1 ?_;refine gO xL <| gO (xCl func228 (AR)) <| gZ (xSk Ag) ?_)|(refine AE (id:=2) 7 AN (by kernel_rfl) ?_;dsimp only [List.take,List.drop];refine gP xF <| gP xL <| gP Asj <| gP xF <| gP xL <| gP Asj <| gP (by exact Az rfl CU rfl rfl) ?_;refine Ke ?_;refine gZ (xSk Ag) ?_))
 exact Hj
theorem Pu (h:p:=by first|exact xCl func228 (AA)|exact xCl func228 (AB)):p:=h
theorem Ask (h:p:=by first|exact xCl func152 (C1)|exact xCl func152 (C2)):p:=h
theorem Uw (a b:Iq) (h:IwS a 20000 20000) (k:IwS b 20000 20000):CV prog An 143 [aIw false a,aIw false b] [aIw false (Ahe a b)]:=by
 refine cvz func143 ntmps143 ?_
 have h1:=h.s1
 have h2:=h.s2
 have hl:=h1.l4
 have hm:=h2.l4
 have k1:=k.s1
 have k2:=k.s2
 have kl:=k1.l4
 have km:=k2.l4
 have AA:=DG a h
 have AB:=DG b k
 have C1:=Ds a.1.1 a.1.2 b.1.1 b.1.2 h1.ok k1.ok hl kl
 have C2:=Ds a.2.1 a.2.2 b.2.1 b.2.2 h2.ok k2.ok hm km
 repeat' (with_reducible first|refine qq ?_|(refine Tx 0 ?_;refine gN xBo <| gN xBo <| gN (xAl Ap) ?_)|(refine AE (id:=1) 4 AN (by kernel_rfl) ?_;dsimp only [List.take,List.drop];refine gP xL <| gP Pu <| gP xL <| gP Pu ?_;refine Ke ?_;refine gZ (xSk Ag) <| gZ (xSk Ag) ?_)|(refine AE (id:=2) 11 AN (by kernel_rfl) ?_;dsimp only [List.take,List.drop];refine gP xF <| gP xL <| gP xF <| gP xL <| gP Ask <| gP xF <| gP xL <| gP xF <| gP xL <| gP Ask <| gP (by exact Az rfl CU rfl rfl) ?_;refine Ke ?_;refine gZ (xSk Ag) ?_))
 exact Hj
theorem Asl (h:p:=by first|exact xCl func225 (C1)|exact xCl func225 (C2)):p:=h
theorem Ux (a b:Iq) (h:IwS a 20000 20000) (k:IwS b 20000 20000):CV prog An 148 [aIw false a,aIw false b] [aIw false (Ahf a b)]:=by
 refine cvz func148 ntmps148 ?_
 have h1:=h.s1
 have h2:=h.s2
 have hl:=h1.l4
 have hm:=h2.l4
 have k1:=k.s1
 have k2:=k.s2
 have kl:=k1.l4
 have km:=k2.l4
 have AA:=DG a h
 have AB:=DG b k
 have C1:=Nc a.1.1 a.1.2 b.1.1 b.1.2 h1.ok k1.ok hl kl
 have C2:=Nc a.2.1 a.2.2 b.2.1 b.2.2 h2.ok k2.ok hm km
 repeat' (with_reducible first|refine qq ?_|(refine Tx 0 ?_;refine gN xBo <| gN xBo <| gN (xAl Ap) ?_)|(refine AE (id:=1) 4 AN (by kernel_rfl) ?_;dsimp only [List.take,List.drop];refine gP xL <| gP Pu <| gP xL <| gP Pu ?_;refine Ke ?_;refine gZ (xSk Ag) <| gZ (xSk Ag) ?_)|(refine AE (id:=2) 11 AN (by kernel_rfl) ?_;dsimp only [List.take,List.drop];refine gP xF <| gP xL <| gP xF <| gP xL <| gP Asl <| gP xF <| gP xL <| gP xF <| gP xL <| gP Asl <| gP (by exact Az rfl CU rfl rfl) ?_;refine Ke ?_;refine gZ (xSk Ag) ?_))
 exact Hj
theorem Asm (h:p:=by first|exact xCl func156 (C1)|exact xCl func156 (C2)):p:=h
theorem Uy (a b:Iq) (h:IwS a 20000 20000) (k:IwS b 20000 20000):CV prog An 149 [aIw false a,aIw false b] [aIw false (AeM a b)]:=by
 refine cvz func149 ntmps149 ?_
 have h1:=h.s1
 have h2:=h.s2
 have hl:=h1.l4
 have hm:=h2.l4
 have k1:=k.s1
 have k2:=k.s2
 have kl:=k1.l4
 have km:=k2.l4
 have AA:=DG a h
 have AB:=DG b k
 have C1:=Eu a.1.1 a.1.2 b.1.1 b.1.2 h1.ok k1.ok hl kl
 have C2:=Eu a.2.1 a.2.2 b.2.1 b.2.2 h2.ok k2.ok hm km
 repeat' (with_reducible first|refine qq ?_|(refine Tx 0 ?_;refine gN xBo <| gN xBo <| gN (xAl Ap) ?_)|(refine AE (id:=1) 4 AN (by kernel_rfl) ?_;dsimp only [List.take,List.drop];refine gP xL <| gP Pu <| gP xL <| gP Pu ?_;refine Ke ?_;refine gZ (xSk Ag) <| gZ (xSk Ag) ?_)|(refine AE (id:=2) 11 AN (by kernel_rfl) ?_;dsimp only [List.take,List.drop];refine gP xF <| gP xL <| gP xF <| gP xL <| gP Asm <| gP xF <| gP xL <| gP xF <| gP xL <| gP Asm <| gP (by exact Az rfl CU rfl rfl) ?_;refine Ke ?_;refine gZ (xSk Ag) ?_))
 exact Hj
theorem AiK (h:p:=by first|exact xCl func157 (C0)|exact xCl func157 (C1)|exact xCl func157 (C2)|exact xCl func157 (C3)):p:=h
theorem Uz (a b:Iq) (h:IwS a 20000 20000) (k:IwS b 20000 20000):CV prog An 145 [aIw false a,aIw false b] [aIw false (Xf a b)]:=by
 refine cvz func145 ntmps145 ?_
 have h1:=h.s1
 have h2:=h.s2
 have hl:=h1.l4
 have hm:=h2.l4
 have k1:=k.s1
 have k2:=k.s2
 have kl:=k1.l4
 have km:=k2.l4
 have AA:=DG a h
 have AB:=DG b k
 have C0:=Gl a.1.1 a.1.2 b.1.1 b.1.2 h1.ok k1.ok hl kl (by have:=h1.d;have:=k1.d;omega)
 have s0:Sm (BR a.1 b.1) 40064 40000:=(Sm.mul h1 k1 (by decide)).more (by decide) (by decide)
 have C1:=Gl a.1.1 a.1.2 b.2.1 b.2.2 h1.ok k2.ok hl km (by have:=h1.d;have:=k2.d;omega)
 have s1:Sm (BR a.1 b.2) 40064 40000:=(Sm.mul h1 k2 (by decide)).more (by decide) (by decide)
 have C2:=Gl a.2.1 a.2.2 b.1.1 b.1.2 h2.ok k1.ok hm kl (by have:=h2.d;have:=k1.d;omega)
 have s2:Sm (BR a.2 b.1) 40064 40000:=(Sm.mul h2 k1 (by decide)).more (by decide) (by decide)
 have C3:=Gl a.2.1 a.2.2 b.2.1 b.2.2 h2.ok k2.ok hm km (by have:=h2.d;have:=k2.d;omega)
 have s3:Sm (BR a.2 b.2) 40064 40000:=(Sm.mul h2 k2 (by decide)).more (by decide) (by decide)
 have SP:=Nz true [BR a.1 b.1,BR a.1 b.2,BR a.2 b.1,BR a.2 b.2] (by simp) (fun p hp=>by simp only [bz,ce,or_false] at hp;rcases hp with rfl|rfl|rfl|rfl <;> assumption) (bg rfl)
 repeat' (with_reducible first|refine qq ?_|(refine Tx 0 ?_;refine gN xBo <| gN xBo <| gN (xAl Ap) ?_)|(refine AE (id:=1) 4 AN (by kernel_rfl) ?_;dsimp only [List.take,List.drop];refine gP xL <| gP Pu <| gP xL <| gP Pu ?_;refine Ke ?_;refine gZ (xSk Ag) <| gZ (xSk Ag) ?_)|(refine AE (id:=2) 22 AN (by kernel_rfl) ?_;dsimp only [List.take,List.drop];refine gP xF <| gP xL <| gP xF <| gP xL <| gP AiK <| gP xF <| gP xL <| gP xF <| gP xL <| gP AiK <| gP xF <| gP xL <| gP xF <| gP xL <| gP AiK <| gP xF <| gP xL <| gP xF <| gP xL <| gP AiK <| gQ (by exact Fq rfl rfl Ah Ao (by decide) (by decide) (by decide) rfl rfl rfl) <| gP (xCl func226 (SP)) ?_;refine Ke ?_;refine gZ (xSk Ag) ?_))
 exact Hj
theorem QZ (a b:Iq) (h:IwS a 20000 20000) (k:IwS b 20000 20000):CV prog An 142 [aIw false a,aIw false b] [aIw false (Lo a b)]:=by
 refine cvz func142 ntmps142 ?_
 have h1:=h.s1
 have h2:=h.s2
 have hl:=h1.l4
 have hm:=h2.l4
 have k1:=k.s1
 have k2:=k.s2
 have kl:=k1.l4
 have km:=k2.l4
 have AA:=DG a h
 have AB:=DG b k
 have s0:=Sm.more (n':=40064) (d':=40000) h1 (by decide) (by decide)
 have s1:=Sm.more (n':=40064) (d':=40000) h2 (by decide) (by decide)
 have s2:=Sm.more (n':=40064) (d':=40000) k1 (by decide) (by decide)
 have s3:=Sm.more (n':=40064) (d':=40000) k2 (by decide) (by decide)
 have SP:=Nz true [a.1,a.2,b.1,b.2] (by simp) (fun p hp=>by simp only [bz,ce,or_false] at hp;rcases hp with rfl|rfl|rfl|rfl <;> assumption) (bg rfl)
 repeat' (with_reducible first|refine qq ?_|(refine Tx 0 ?_;refine gN xBo <| gN xBo <| gN (xAl Ap) ?_)|(refine AE (id:=1) 4 AN (by kernel_rfl) ?_;dsimp only [List.take,List.drop];refine gP xL <| gP Pu <| gP xL <| gP Pu ?_;refine Ke ?_;refine gZ (xSk Ag) <| gZ (xSk Ag) ?_)|(refine Tx 2 ?_;refine gO xF <| gO xL <| gO xF <| gO xL <| gO xF <| gO xL <| gO xF <| gO xL <| gN (by exact Fq rfl rfl Ah Ao (by decide) (by decide) (by decide) rfl rfl rfl) <| gO (xCl func226 (SP)) <| gZ (xSk Ag) ?_))
 exact Hj
theorem IZ (a:Iq) (f:Pq) (h:IwS a 20000 20000) (hf:Sm f 20000 20000):CV prog An 138 [aIw false a,aDy false f.1 f.2] [aIw false (Pc a f)]:=by
 refine cvz func138 ntmps138 ?_
 have PT:=DN f hf.ok hf.lz
 have ML:=Uz a (f,f) h (.pt hf)
 repeat' (with_reducible first|refine qq ?_|(refine Tx 0 ?_;refine gN xBo <| gN xBo <| gN (xAl Ap) ?_)|(refine AE (id:=1) 4 AN (by kernel_rfl) ?_;dsimp only [List.take,List.drop];refine gP xL <| gP xL <| gP (xCl func140 (PT)) <| gP (xCl func145 (ML)) ?_;refine Ke ?_;refine gZ (xSk Ag) ?_))
 exact Hj
theorem ZO (a b:Iq) (h:IwS a 20000 20000) (k:IwS b 20000 20000):CV prog An 144 [aIw false a,aIw false b] [aIw false (AnP a b)]:=by
 refine cvz func144 ntmps144 ?_
 have NG:=Uv b k
 have AD:=Uw a (AeL b) h k.neg
 repeat' (with_reducible first|refine qq ?_|(refine Tx 0 ?_;refine gN xBo <| gN xBo <| gN (xAl Ap) ?_)|(refine AE (id:=1) 4 AN (by kernel_rfl) ?_;dsimp only [List.take,List.drop];refine gP xL <| gP xL <| gP (xCl func146 (NG)) <| gP (xCl func143 (AD)) ?_;refine Ke ?_;refine gZ (xSk Ag) ?_))
 exact Hj
theorem rvJ0 {t:Tmp} {k:Nat} {q:Pq} (hk:TyK P ty true k) (hi:6=k) (hF:F t=.one (.ref id 0 none):=by with_unfolding_all exact rfl) (hH:H[id]?=some (.box ty' ([.d (.val (.bool false)),.d (.val (.slice none 0 0)),.d (.val (.int .i64 0))]++(dDy false q.1 q.2).map C.d)):=by with_unfolding_all exact rfl):RV P F H (.cell t ty) (aIw false ((0,0),q)):=by
 obtain ⟨⟨dd,hu,hd⟩,hz⟩:=hk
 have e:dDy false 0 0=[.val (.bool false),.row false 1 0 [],.val (.int .i64 0)]:=A.agg.inj Ml
 refine .cellA hF hH hu hd (by rw [hz,←hi];rfl) ?_
 show Ba _ _ (dDy false 0 0++dDy false q.1 q.2)
 rw [e]
 refine .app (.cons_ (.d fun _=>.val _) (.cons_ .nil (.cons_ (.d fun _=>.val _) .nil_))) (Ba.map_l.2 ⟨rfl,fun j x y hx hy=>?_⟩)
 rw [hx] at hy
 cases hy
 exact .d fun _=>Ox _ _ x (gM hx)
theorem Asn (h:p:=by first|exact xCl func158 (A1)|exact xCl func158 (A2)):p:=h
theorem Aso (h:p:=by first|exact xCl func55 (G1)|exact xCl func55 (G2)):p:=h
theorem AnT (k:p') (h:Hd9 p'→p:=by with_reducible first|(intro Z9;refine qq ?_;exact Z9.o)|(intro Z9;refine Tx 0 ?_;refine gN xBo <| gN (xAl Ap) ?_;exact Z9.o)|(intro Z9;refine Tx 1 ?_;refine gO xL <| gO (xCl func228 (AR)) <| gZ (xSk Ag) ?_;exact Z9.o)|(intro Z9;refine AE (id:=2) 9 AN (by kernel_rfl) ?_;dsimp only [List.take,List.drop];refine gP xF <| gP xL <| gP Asn <| gP xF <| gP xL <| gP Asn <| gQ (by exact Gw rfl Ah Ao rfl rfl rfl rfl (by decide) (by decide)) <| gP (xCl func226 (SP)) <| gQ (xAl Ap) ?_;refine Ke ?_;refine gZ (xSk Ag) ?_;exact Z9.o)|(intro Z9;refine Tx 3 ?_;refine gO xF <| gO xL <| gO Aso <| gO xLt <| gO xM ?_;(first|iterate 4 refine Jd ?_|(refine Jy (xFa Bf Ad) ?_;refine Jy (xLa Ad) ?_;refine Jy Aso ?_;refine Jy xGt ?_));refine gO xPk ?_;exact Z9.o)|(intro Z9;refine Tx 5 ?_;refine gO xL <| gZ (xSk Ag) ?_;exact Z9.o)|fail):p:=h ⟨k⟩
theorem UA (a:Iq) (h:IwS a 20000 20000):CV prog An 147 [aIw false a] [aIw false (RQ a)]:=by
 refine cvz func147 ntmps147 ?_
 have h1:=h.s1
 have h2:=h.s2
 have hl:=h1.l4
 have hm:=h2.l4
 have AR:=DG a h
 have A1:=PO a.1.1 a.1.2 h1.ok hl
 have A2:=PO a.2.1 a.2.2 h2.ok hm
 have s1:Sm (Ha a.1) 40064 40000:=h1.abs.more (by decide) (by decide)
 have s2:Sm (Ha a.2) 40064 40000:=h2.abs.more (by decide) (by decide)
 have SP:=Nz true [Ha a.1,Ha a.2] (by simp) (fun p hp=>by simp only [bz,ce,or_false] at hp;rcases hp with rfl|rfl <;> assumption) (bg rfl)
 have G1:=Nx a.1.1 a.1.2 h1.ok hl
 have G2:=Nx a.2.1 a.2.2 h2.ok hm
 by_cases c1:a.1.1<0
 case pos =>
  by_cases c2:0<a.2.1
  case pos =>
   rw [show sgI a.1.1 = -1 by unfold sgI;(repeat' split) <;> omega] at G1
   rw [show sgI a.2.1=1 by unfold sgI;(repeat' split) <;> omega] at G2
   have e:RQ a=((0,0),(Dc [Ha a.1,Ha a.2]).2):=if_pos ⟨c1,c2⟩
   rw [e]
   repeat' (with_reducible first|refine AnT ?_|(refine Tx 4 ?_;refine gO (by exact Az rfl MT rfl rfl) <| gO xF <| gZ (xSk Ad) ?_))
   exact AH rfl (.cons_ (rvJ0 Ag rfl) .nil_)
  rw [show sgI a.1.1 = -1 by unfold sgI;(repeat' split) <;> omega] at G1
  have g2:sgI a.2.1≤0:=by unfold sgI;(repeat' split) <;> omega
  generalize sgI a.2.1=g at *
  rw [show RQ a=Dc [Ha a.1,Ha a.2] from if_neg (fun h=>c2 h.2)]
  repeat' (with_reducible first|refine AnT ?_)
  exact Hj
 have g1:0≤sgI a.1.1:=by unfold sgI;(repeat' split) <;> omega
 generalize sgI a.1.1=g at *
 rw [show RQ a=Dc [Ha a.1,Ha a.2] from if_neg (fun h=>c1 h.1)]
 repeat' (with_reducible first|refine AnT ?_)
 exact Hj
theorem Asp (h:p:=by first|exact xCl func140 (PV)|exact xCl func140 (PU)):p:=h
theorem Wr (a:Iq) (v u:Pq) (h:IwS a 20000 20000) (hv:Sm v 20000 20000) (hu:Sm u 20000 20000) (hvu:Nt v u≤0):CV prog An 150 [aIw false a,aDy false v.1 v.2,aDy false u.1 u.2] [aIw false (Ye a v u),aE 0]:=by
 refine cvz func150 ntmps150 ?_
 have CM:=Cv v.1 v.2 u.1 u.2 hv.ok hu.ok hv.lz hu.lz
 have PV:=DN v hv.ok hv.lz
 have PU:=DN u hu.ok hu.lz
 have MX:=Uy a (v,v) h (.pt hv)
 have MN:=Ux (AeM a (v,v)) (u,u) (h.max (.pt hv)) (.pt hu)
 have hle:Nt v u≤0:=hvu
 unfold Nt at hle
 repeat' (with_reducible first|refine qq ?_|(refine Tx 0 ?_;refine gN xBo <| gN xBo <| gN xBo <| gN (xAl Ap) <| gO xA ?_)|(refine Tx 1 ?_;refine gO xL <| gO xL <| gO (xCl func15 (CM)) <| gO xGt ?_)|(refine AE (id:=3) 7 AN (by kernel_rfl) ?_;dsimp only [List.take,List.drop];refine gP xL <| gP xL <| gP Asp <| gP (xCl func149 (MX)) <| gP xL <| gP Asp <| gP (xCl func148 (MN)) ?_;refine Ke ?_;refine gZ (xSk Ag) <| gO xA ?_))
 exact AH rfl (.cons_ (rvJ Ag rfl) (.cons_ (Gk rfl rfl) .nil_))
theorem Abn (a:Iq) (den:Nat) (h:IwS a 20000 20000) (hd:den≤65536):CV prog An 175 [aIw false a,aI (den:Int)] [aIw false (Ih a den),aE 0]:=by
 refine cvz func175 ntmps175 ?_
 have h1:=h.s1
 have h2:=h.s2
 have hl:=h1.l4
 have hm:=h2.l4
 have AR:=DG a h
 have FL:=(SZ a.1.1 a.1.2 den h1.ok hl hd).cv
 have CE:=Wo a.2.1 a.2.2 den h2.ok hm hd
 repeat' (with_reducible first|refine qq ?_|(refine Tx 0 ?_;refine gN xBo <| gN (xAl Ap) <| gO xA ?_)|(refine Tx 1 ?_;refine gO xL <| gO (xCl func228 (AR)) <| gZ (xSk Ag) ?_)|(refine Tx 2 ?_;refine gO xF <| gO xL <| gO xM <| gO (xCl func22 (FL)) <| gO xMt <| gO (by exact EO rfl rfl rfl) <| gO xEx <| gN (xAl Ao) <| gZ (xSk Ad) <| gO xA ?_)|(refine Tx 3 ?_;refine gO xM <| gO (xNE Ai) ?_)|(refine Tx 5 ?_;refine gO xF <| gO xL <| gO xM <| gO (xCl func153 (CE)) <| gO xMt <| gO (by exact EO rfl rfl rfl) <| gO xEx <| gN (xAl Ao) <| gZ (xSk Ad) <| gO xA ?_)|(refine Tx 6 ?_;refine gO xM <| gO (xNE Ai) ?_)|(refine Tx 8 ?_;refine gO xL <| gO xL <| gO (by exact Az rfl CU rfl rfl) <| gZ (xSk Ag) <| gO xA ?_))
 exact AH rfl (.cons_ (rvJ Ag rfl) (.cons_ (Gk rfl rfl) .nil_))
theorem Asq (h:p:=by first|exact xCl func15 (C1)|exact xCl func15 (C2)):p:=h
theorem AnU (k:p') (h:Hd9 p'→p:=by with_reducible first|(intro Z9;refine qq ?_;exact Z9.o)|(intro Z9;refine Tx 0 ?_;refine gN xBo <| gN xBo <| gO xA ?_;exact Z9.o)|(intro Z9;refine AE (id:=1) 4 AN (by kernel_rfl) ?_;dsimp only [List.take,List.drop];refine gP xL <| gP Pu <| gP xL <| gP Pu ?_;refine Ke ?_;refine gZ (xSk Ag) <| gZ (xSk Ag) ?_;exact Z9.o)|(intro Z9;refine Tx 2 ?_;refine gO xF <| gO xL <| gO xF <| gO xL <| gO Asq <| gO xLe <| gO xM ?_;(first|iterate 6 refine Jd ?_|(refine Jy (xFa Bf Ad) ?_;refine Jy (xLa Ad) ?_;refine Jy (xFa Bf Ad) ?_;refine Jy (xLa Ad) ?_;refine Jy Asq ?_;refine Jy xLe ?_));refine gO xPk <| gO xA ?_;exact Z9.o)|fail):p:=h ⟨k⟩
theorem Ci (a b:Iq) (h:IwS a 20000 20000) (k:IwS b 20000 20000):CV prog An 151 [aIw false a,aIw false b] [aB (iIn a b)]:=by
 refine cvz func151 ntmps151 ?_
 have h1:=h.s1
 have h2:=h.s2
 have hl:=h1.l4
 have hm:=h2.l4
 have k1:=k.s1
 have k2:=k.s2
 have kl:=k1.l4
 have km:=k2.l4
 have AA:=DG a h
 have AB:=DG b k
 have C1:=Cv b.1.1 b.1.2 a.1.1 a.1.2 k1.ok h1.ok kl hl
 have C2:=Cv a.2.1 a.2.2 b.2.1 b.2.2 h2.ok k2.ok hm km
 by_cases c1:BM b.1.1 b.1.2 a.1.1 a.1.2≤0
 case neg =>
  repeat' (with_reducible first|refine AnU ?_)
  exact AH rfl (.cons_ (Fi rfl (by unfold iIn;rw [decide_eq_false c1];rfl)) .nil_)
 by_cases c2:BM a.2.1 a.2.2 b.2.1 b.2.2≤0
 case pos =>
  repeat' (with_reducible first|refine AnU ?_)
  exact AH rfl (.cons_ (Fi rfl (by unfold iIn;rw [decide_eq_true c1,decide_eq_true c2];rfl)) .nil_)
 case neg =>
  repeat' (with_reducible first|refine AnU ?_)
  exact AH rfl (.cons_ (Fi rfl (by unfold iIn;rw [decide_eq_true c1,decide_eq_false c2];rfl)) .nil_)
theorem NC (a:Iq) (h:IwS a 20000 20000):CV prog An 159 [aIw false a] [aDy false (DA a).1 (DA a).2]:=by
 refine cvz func159 ntmps159 ?_
 have AB:=UA a h
 repeat' (with_reducible first|refine qq ?_|(refine Tx 0 ?_;refine gN xBo <| gN (xAl Ao) ?_)|(refine Tx 1 ?_;refine gO xL <| gO (xCl func147 (AB)) <| gO (by exact AcZ rfl rfl Bf Ad rfl) <| gZ (xSk Ad) ?_))
 exact Ln
def Asr (r s:Rv):Iq:=if ivR r s=true then (rvP r,rvP s) else ((0,0),(0,0))
theorem Aks {a b:Iq} {d n' d':Nat} (h:IwS a n d) (k:IwS b n' d') (e1:gv a.1=gv b.1) (e2:gv a.2=gv b.2):a=b:=Prod.ext (SR h.s1.ok k.s1.ok e1) (SR h.s2.ok k.s2.ok e2)
theorem Afb {s:Rv} (hr:RvL r) (hs:RvL s) (h:ivR r s=true):dIr false (r,s)=dIw false (rvP r,rvP s)∧Nf (rvP r).1 (rvP r).2∧Nf (rvP s).1 (rvP s).2∧gv (rvP r)≤gv (rvP s)∧(Ae (rvP r).1.natAbs).length=r.ws.length∧(Ae (rvP s).1.natAbs).length=s.ws.length:=by
 unfold ivR at h
 rw [aj,aj] at h
 obtain ⟨⟨h1,h2⟩,h3⟩:=h
 obtain ⟨e1,n1,k1⟩:=Ui (t:=false) hr.1 h1
 obtain ⟨e2,n2,k2⟩:=Ui (t:=false) hs.1 h2
 refine ⟨?_,n1,n2,(LI (p:=rvP r) (q:=rvP s) n1.le n2.le).1 (of_decide_eq_true h3),k1,k2⟩
 show dRv false r++dRv false s=_
 rw [e1,e2]
 rfl
theorem Ass {a:Iq} {d:Nat} (h:IwS a n d):Asr (EL a.1) (EL a.2)=a:=by unfold Asr;rw [if_pos (Afa h),Il,Il]
theorem Ast (k:p') (h:Hd9 p'→p:=by with_reducible first|(intro Z9;refine Tx 1 ?_;refine gO xF <| gO xL <| gO (xCl func81 (V1)) <| gO xM ?_;(first|iterate 3 refine Jd ?_|(refine Jy (xFa Bf Ad) ?_;refine Jy (xLa Ad) ?_;refine Jy (xCl func81 (V2)) ?_));refine gO xPk <| gO xM ?_;(first|iterate 6 refine Jd ?_|(refine Jy (xFa CR Ad) ?_;refine Jy (xLa Ad) ?_;refine Jy (xFa Bf Ad) ?_;refine Jy (xLa Ad) ?_;refine Jy (xCl func29 (CM)) ?_;refine Jy xLe ?_));refine gO xPk <| gO xA ?_;exact Z9.o)|fail):p:=h ⟨k⟩
theorem Abo (r s:Rv) (hr:RvL r) (hs:RvL s):CV prog An 80 [.agg (dIr false (r,s))] [aB (ivR r s)]:=by
 refine cvz func80 ntmps80 ?_
 have V1:=(Wa (G:=An) false r hr.1 (lT hr.2 (by decide))).cv
 have V2:=(Wa (G:=An) false s hs.1 (lT hs.2 (by decide))).cv
 by_cases c1:vdB r.rw=true
 case neg =>
  rw [bc] at c1
  rw [c1] at V1
  repeat' (with_reducible first|refine qq ?_|(refine Tx 0 ?_;refine gN xBo <| gO xA ?_)|(refine Tx 1 ?_;refine gO xF <| gO xL <| gO (xCl func81 (V1)) <| gO xM ?_;(first|iterate 3 refine Jd ?_|(refine Jy (xFa Bf Ad) ?_;refine Jy (xLa Ad) ?_;refine Jy (xCl func81 (V1)) ?_));refine gO xPk <| gO xM ?_;(first|iterate 4 refine Jd ?_|(refine Jy (xFa CR Ad) ?_;refine Jy (xLa Ad) ?_;refine Jy (xFa Bf Ad) ?_;refine Jy (xLa Ad) ?_));refine Jd ?_;(first|refine Jd ?_|refine Jy xLe ?_);refine gO xPk <| gO xA ?_))
  exact AH rfl (.cons_ (Fi rfl (by unfold ivR;rw [c1];rfl)) .nil_)
 by_cases c2:vdB s.rw=true
 case neg =>
  rw [bc] at c2
  rw [c1] at V1
  rw [c2] at V2
  repeat' (with_reducible first|refine qq ?_|(refine Tx 0 ?_;refine gN xBo <| gO xA ?_)|(refine Tx 1 ?_;refine gO xF <| gO xL <| gO (xCl func81 (V1)) <| gO xM ?_;(first|iterate 3 refine Jd ?_|(refine Jy (xFa Bf Ad) ?_;refine Jy (xLa Ad) ?_;refine Jy (xCl func81 (V2)) ?_));refine gO xPk <| gO xM ?_;(first|iterate 4 refine Jd ?_|(refine Jy (xFa CR Ad) ?_;refine Jy (xLa Ad) ?_;refine Jy (xFa Bf Ad) ?_;refine Jy (xLa Ad) ?_));refine Jd ?_;(first|refine Jd ?_|refine Jy xLe ?_);refine gO xPk <| gO xA ?_))
  exact AH rfl (.cons_ (Fi rfl (by unfold ivR;rw [c1,c2];rfl)) .nil_)
 rw [c1] at V1
 rw [c2] at V2
 obtain ⟨e1,n1,k1⟩:=Ui (t:=false) hr.1 c1
 obtain ⟨e2,n2,k2⟩:=Ui (t:=false) hs.1 c2
 have CM:=(Ua (G:=An) false false r.rw.x r.rw.d s.rw.x s.rw.d n1 n2 (lT (gr k1) (lT hr.2 (by decide))) (lT (gr k2) (lT hs.2 (by decide)))).cv
 unfold aDy at CM
 rw [←e1,←e2] at CM
 by_cases c3:BM r.rw.x r.rw.d s.rw.x s.rw.d≤0
 case pos =>
  repeat' (with_reducible first|refine qq ?_|(refine Tx 0 ?_;refine gN xBo <| gO xA ?_)|refine Ast ?_)
  exact AH rfl (.cons_ (Fi rfl (by unfold ivR;rw [c1,c2,decide_eq_true c3];rfl)) .nil_)
 case neg =>
  repeat' (with_reducible first|refine qq ?_|(refine Tx 0 ?_;refine gN xBo <| gO xA ?_)|refine Ast ?_)
  exact AH rfl (.cons_ (Fi rfl (by unfold ivR;rw [c1,c2,decide_eq_false c3];rfl)) .nil_)
theorem rvJ1 {t:Tmp} {k:Nat} (hk:TyK P ty true k) (hi:6=k) (hF:F t=.one (.ref id 0 none):=by with_unfolding_all exact rfl) (hH:H[id]?=some (.box ty' [.d (.val (.bool false)),.d (.val (.slice none 0 0)),.d (.val (.int .i64 0)),.d (.val (.bool false)),.d (.val (.slice none 0 0)),.d (.val (.int .i64 0))]):=by with_unfolding_all exact rfl):RV P F H (.cell t ty) (.agg [.val (.bool false),.row false 1 0 [],.val (.int .i64 0),.val (.bool false),.row false 1 0 [],.val (.int .i64 0)]):=by
 obtain ⟨⟨dd,hu,hd⟩,hz⟩:=hk
 exact .cellA hF hH hu hd (by rw [hz,←hi];rfl) (.cons_ (.d fun _=>.val _) (.cons_ .nil (.cons_ (.d fun _=>.val _) (.cons_ (.d fun _=>.val _) (.cons_ .nil (.cons_ (.d fun _=>.val _) .nil_))))))
theorem Afc (r s:Rv) (hr:RvL r) (hs:RvL s):CV prog An 209 [.agg (dIr false (r,s))] [aIw false (Asr r s)]:=by
 refine cvz func209 ntmps209 ?_
 have V:=Abo r s hr hs
 by_cases c:ivR r s=true
 case pos =>
  rw [show Asr r s=(rvP r,rvP s) from if_pos c]
  rw [c,(Afb hr hs c).1] at V
  rw [(Afb hr hs c).1]
  repeat' (with_reducible first|refine qq ?_|(refine Tx 0 ?_;refine gN xBo <| gN (xAl Ap) ?_)|(refine Tx 1 ?_;refine gO xL <| gO (xCl func80 (V)) ?_)|(refine Tx 2 ?_;refine gO xL <| gZ (xSk Ag) ?_))
  exact Hj
 rw [show Asr r s=((0,0),(0,0)) from if_neg c]
 rw [bc] at c
 rw [c] at V
 unfold aIw
 rw [AeO]
 repeat' (with_reducible first|refine qq ?_|(refine Tx 0 ?_;refine gN xBo <| gN (xAl Ap) ?_)|(refine Tx 1 ?_;refine gO xL <| gO (xCl func80 (V)) ?_)|(refine Tx 3 ?_;refine gO (by exact Az rfl CU rfl rfl) <| gZ (xSk Ag) ?_))
 exact AH rfl (.cons_ (rvJ1 Ag rfl) .nil_)
theorem Afd (a:Iq) {n d:Nat} (h:IwS a n d) (hn:n≤1280000):CV prog An 209 [aIw false a] [aIw false a]:=by
 have:=Afc (EL a.1) (EL a.2) (Ny h.s1 hn) (Ny h.s2 hn)
 rw [Ass h] at this
 unfold dIr at this
 rwa [Nv,Nv] at this
theorem Abp (p:Pq) (hn:Nf p.1 p.2) (hl:(Ae p.1.natAbs).length≤40000):CV prog An 187 [aDy false p.1 p.2] [aIw false (p,p)]:=by
 refine cvz func187 ntmps187 ?_
 have NM:=Anc An p.1 p.2 hn (lT hl (by decide))
 repeat' (with_reducible first|refine qq ?_|(refine Tx 0 ?_;refine gN xBo <| gN (xAl Ap) ?_)|(refine Tx 1 ?_;refine gO xL <| gO (xCl func105 (NM)) <| gZ (xSk Ad) ?_)|(refine Tx 2 ?_;refine gO xL <| gO xL <| gO (by exact Az rfl CU rfl rfl) <| gZ (xSk Ag) ?_))
 exact Hj
theorem Afe (t:Bool) (L:List Pq) (hne:L≠[]) (hs:∀ p∈L,Sm p 40064 40000) (hL:L.length≤100):CV prog An 232 [.one (.row t 3 L.length (Ay dyP L))] [aIw false (Dc L)]:=by
 refine cvz func232 ntmps232 ?_
 obtain ⟨p,l,rfl⟩:∃ p l,L=p::l:=by cases L with|nil=>exact absurd rfl hne|cons p l=>exact ⟨p,l,rfl⟩
 have hp:=hs p (fd ..)
 have hpl:=lT (hp.lenN 1252 (by decide)) (show 1252≤40000 by decide)
 have PT:=Abp p hp.ok hpl
 have hlen:(p::l).length=l.length+1:=bi
 repeat' (with_reducible first|refine qq ?_|(refine Tx 0 ?_;refine gN (xAl Ap) ?_)|(refine Tx 1 ?_;refine gO xM <| gO (by exact Zh (i:=0) rfl rfl rfl rfl Ah (by omega) (by decide) (ZM (l:=p::l) (k:=0) rfl)) <| gO xL <| gO (xCl func187 (PT)) <| gN (xAl Ap) <| gZ (xSk Ag) ?_)|(refine Tx 2 ?_;refine gO xM <| gO (by exact Wp (lo:=1) rfl rfl rfl rfl Ah (by omega)) <| gO xN <| gO xM ?_))
 refine Bj (BK 2) (Av (fun n Fr H=>∃ k:Nat,k≤l.length∧n=l.length - k∧IwS ((l.take (k)).foldl Ig (p,p)) 40064 40000∧Fr=ofL [(2,vr 0),(3,vr 1),(11,vd (.row t 3 ((p::l).length - 1) ((Ay dyP (p::l)).drop (1*3)))),(12,vi (((p::l).length - 1:Nat))),(13,vi ((k:Nat)))]∧H=[.box 45 [.d (.val (.bool false)),.d (.val (.slice none 0 0)),.d (.val (.int .i64 0)),.d (.val (.bool false)),.d (.val (.slice none 0 0)),.d (.val (.int .i64 0))],.box 45 ((dIw false ((l.take (k)).foldl Ig (p,p))).map C.d)]) (n0:=l.length) ⟨0,ad _,rfl,.pt hp,rfl,rfl⟩ ?_)
 rintro n Fr H ⟨k,hk,rfl,hS,rfl,rfl⟩
 by_cases hlt:k<l.length
 case pos =>
  obtain ⟨x,hx⟩:∃ x,l[k]?=some x:=⟨_,gE hlt⟩
  have hxs:=hs x (ek _ (gM hx))
  have hxl:=lT (lT (hxs.lenN 1252 (by decide)) (show 1252≤40000 by decide)) (show 40000≤50000 by decide)
  have a1:=hS.s1
  have a2:=hS.s2
  have a1l:=lT (lT (a1.lenN 1252 (by decide)) (show 1252≤40000 by decide)) (show 40000≤50000 by decide)
  have a2l:=lT (lT (a2.lenN 1252 (by decide)) (show 1252≤40000 by decide)) (show 40000≤50000 by decide)
  have hnx:Ig ((l.take (k)).foldl Ig (p,p)) x=((l.take (k+1)).foldl Ig (p,p)):=by rw [aq,hx,eb,fa];rfl
  have hIS:IwS (Ig ((l.take (k)).foldl Ig (p,p)) x) 40064 40000:=⟨Sm.min a1 hxs,Sm.max a2 hxs,by show gv (Pb _ x)≤gv (Fw _ x);rw [Gb a1.le hxs.le,Dl a2.le hxs.le];have:=hS.le;omega⟩
  rw [hnx] at hIS
  have hxd:(((Ay dyP (p::l)).drop (1*3)).drop (k*3)).take 3=dyP x:=by rw [jq,show 1*3+k*3=(k+1)*3 by omega];exact ZM (l:=p::l) (k:=k+1) (by rw [fh];exact hx)
  generalize hT:((l.take (k)).foldl Ig (p,p))=T at *
  have MN:=(Anu An false false T.1.1 T.1.2 x.1 x.2 a1.ok hxs.ok a1l hxl).cv
  have MX:=(Anv An false false T.2.1 T.2.2 x.1 x.2 a2.ok hxs.ok a2l hxl).cv
  repeat' (with_reducible first|refine qq ?_|(refine Tx 3 ?_;refine gO xLt ?_)|(refine Tx 4 ?_;refine gO (xIr Ah (hxd)) <| gO xL <| gN (xAl Ao) <| gZ (xSk Ad) ?_)|(refine AE (id:=5) 9 AN (by kernel_rfl) ?_;dsimp only [List.take,List.drop];refine gP xF <| gP xL <| gP xL <| gP (xCl func255 (MN)) <| gP xF <| gP xL <| gP xL <| gP (xCl func100 (MX)) <| gP xF ?_;refine Ke ?_;refine gZ (xSk Ad) <| gO xF <| gZ (xSk Ad) ?_)|(refine Tx 6 ?_;refine gO xAd <| gO xM ?_))
  exact Ash
 obtain rfl:k=l.length:=by omega
 clear hlt hk
 rw [au]
 repeat' (with_reducible first|refine qq ?_|(refine Tx 3 ?_;refine gO xLt ?_)|(refine Tx 7 ?_;refine gO xL <| gZ (xSk Ag) ?_))
 exact Hj
theorem Asu (h:p:=by first|exact xCl func39 (O1)|exact xCl func39 (O2)):p:=h
theorem Ws (x y:Int) (hx : -9223372036854775807≤x∧x<9223372036854775808) (hy : -9223372036854775807≤y∧y<9223372036854775808):CV prog An 165 [aI x,aI y] [aIw false (Dc [(x,0),(y,0)])]:=by
 refine cvz func165 ntmps165 ?_
 have O1:=(Aea (G:=An) x (by omega) (by omega)).cv
 have O2:=(Aea (G:=An) y (by omega) (by omega)).cv
 have s1:Sm (x,0) 40064 40000:=ZN x (by omega)
 have s2:Sm (y,0) 40064 40000:=ZN y (by omega)
 have SP:=Afe true [(x,0),(y,0)] (by simp) (fun p hp=>by simp only [bz,ce,or_false] at hp;rcases hp with rfl|rfl <;> assumption) (bg rfl)
 repeat' (with_reducible first|refine qq ?_|(refine Tx 0 ?_;refine gN (xAl Ap) ?_)|(refine Tx 1 ?_;refine gO xM <| gO Asu <| gO xM <| gO Asu <| gN (by exact Gw rfl Ah Ao rfl rfl rfl rfl (by decide) (by decide)) <| gO (xCl func232 (SP)) <| gZ (xSk Ag) ?_))
 exact Hj
theorem Asv (h:p:=by first|exact xCl func29 (C1)|exact xCl func29 (C2)):p:=h
theorem AnV (k:p') (h:Hd9 p'→p:=by with_reducible first|(intro Z9;refine qq ?_;exact Z9.o)|(intro Z9;refine Tx 0 ?_;refine gN xBo <| gN xBo <| gO xA ?_;exact Z9.o)|(intro Z9;refine Tx 1 ?_;refine gO xL <| gO (xCl func209 (AA)) <| gZ (xSk Ag) ?_;exact Z9.o)|(intro Z9;refine Tx 2 ?_;refine gO xF <| gO xL <| gO xL <| gO Asv <| gO xLe <| gO xM ?_;(first|iterate 5 refine Jd ?_|(refine Jy (xLa Ad) ?_;refine Jy (xFa Bf Ad) ?_;refine Jy (xLa Ad) ?_;refine Jy Asv ?_;refine Jy xLe ?_));refine gO xPk <| gO xA ?_;exact Z9.o)|fail):p:=h ⟨k⟩
theorem UB (a:Iq) (p:Pq) (h:IwS a 20000 20000) (hp:Sm p 20000 20000):CV prog An 116 [aIw false a,aDy false p.1 p.2] [aB (iIn (p,p) a)]:=by
 refine cvz func116 ntmps116 ?_
 have h1:=h.s1
 have h2:=h.s2
 have hl:=lT (h1.l4) (show 40000≤50000 by decide)
 have hm:=lT (h2.l4) (show 40000≤50000 by decide)
 have AA:=Afd a h (by decide)
 have hpl:=lT (hp.lenN 625 (by decide)) (show 625≤50000 by decide)
 have C1:=(Ua (G:=An) false false a.1.1 a.1.2 p.1 p.2 h1.ok hp.ok hl hpl).cv
 have C2:=(Ua (G:=An) false false p.1 p.2 a.2.1 a.2.2 hp.ok h2.ok hpl hm).cv
 by_cases c1:BM a.1.1 a.1.2 p.1 p.2≤0
 case neg =>
  repeat' (with_reducible first|refine AnV ?_)
  exact AH rfl (.cons_ (Fi rfl (by unfold iIn;rw [decide_eq_false c1];rfl)) .nil_)
 by_cases c2:BM p.1 p.2 a.2.1 a.2.2≤0
 case pos =>
  repeat' (with_reducible first|refine AnV ?_)
  exact AH rfl (.cons_ (Fi rfl (by unfold iIn;rw [decide_eq_true c1,decide_eq_true c2];rfl)) .nil_)
 case neg =>
  repeat' (with_reducible first|refine AnV ?_)
  exact AH rfl (.cons_ (Fi rfl (by unfold iIn;rw [decide_eq_true c1,decide_eq_false c2];rfl)) .nil_)
end Go.Proofs.YtmdfjbpggbhgnaaGreatDoor
