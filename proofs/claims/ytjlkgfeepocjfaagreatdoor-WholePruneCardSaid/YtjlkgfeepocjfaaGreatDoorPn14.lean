/- What the proofs of this claim share, part 14. No conditions. -/
import Derived.Test.YtjlkgfeepocjfaaGreatDoorPn10
import Derived.Test.YtjlkgfeepocjfaaGreatDoorPn9
import Derived.Test.YtjlkgfeepocjfaaGreatDoorPn11
import Derived.Test.YtjlkgfeepocjfaaGreatDoorPn13
import Derived.Test.YtjlkgfeepocjfaaGreatDoorPn8
import Derived.Test.YtjlkgfeepocjfaaGreatDoorPn5
import Derived.Test.YtjlkgfeepocjfaaGreatDoorPn6
import Derived.Tactics2
set_option maxRecDepth 100000
set_option maxHeartbeats 4000000
set_option linter.all false
open Go.Proofs.Tryz
namespace Go.Proofs.YtjlkgfeepocjfaaGreatDoor
open Go.RowKit
variable {q:Int × Nat} {P:Program} {F:Frm} {H:List Ob} {den i id j n t ty ty' u:Nat} {p p':Prop} {f:Nat→Int} {e:Int} {bs:List Bk} {y:Bk} {ps:List Prt} {l:List (Option (Int × Nat))} {st:List (Int × Nat)} {ins os zs:List Int} {r:Rv} {md:Region.Mode} {ops:Array Oper} {o:Oper} {g:FuncId} {fn:Func} {c:Code} {ls:List (List Int)}
theorem AeI (g1 g2 g3:Nat) (w:World):CallsD prog 68 #[FJ g1,FJ g2,FJ g3] .returning w fun e u' w'=>e=.returned (.tuple #[])∧u'=.returning∧w'=w:=by
 refine callsD_of_wpS func68 rfl fun c₀ cs hu=>?_
 apply wpS_seq
 apply wpS_region
 simp [wpOpsS,go_sem,recoverD,hu,ntmps68,Exit.thenS]
 apply wpS_seq
 apply wpS_region
 simp [wpOpsS,go_sem,Exit.thenS]
 refine wpS_cond (t:=false) (by simp [Act.eval,Array.replicate]) ?_
 simp only [dn,if_false]
 refine wpS_of_wp (wp_skip ?_)
 cases c₀
 simp_all [bodyPostS,results,results68]
theorem AeJ (b0:Nat) (w:World) (g1 g2 g3:Nat) (v1 v2 v3:Value) (l1:b0≤g1) (l2:b0≤g2) (l3:b0≤g3) (n12:g1≠g2) (n13:g1≠g3) (n23:g2≠g3) (hb:b0≤w.heap.size)
  (h1:w.heap[g1]?=some (.cells #[v1] 28 (0,0))) (h2:w.heap[g2]?=some (.cells #[v2] 28 (0,0))) (h3:w.heap[g3]?=some (.cells #[v3] 36 (0,0))) :
  CallsD prog 68 #[FJ g1,FJ g2,FJ g3] (.panicking [{ v:=.iface 135 (.agg #[]),recovered:=false }]) w fun e u' w'=>(∃ v,e=.returned v)∧settle u'=.returning∧Below b0 w w'∧w'.cell? ⟨g1,0,none⟩=some (.slice none 0 0)∧w'.cell? ⟨g2,0,none⟩=some (.slice none 0 0)∧w'.cell? ⟨g3,0,none⟩=some (.iface 85 (.int .i64 4)):=by
 refine callsD_of_wpS func68 rfl fun c₀ cs hu=>?_
 apply wpS_seq
 apply wpS_region
 simp [wpOpsS,go_sem,recoverD,hu,ntmps68,Exit.thenS]
 apply wpS_seq
 apply wpS_region
 simp [wpOpsS,go_sem,Exit.thenS]
 refine wpS_cond (t:=true) (by simp [Act.eval,Array.replicate]) ?_
 simp only [if_true]
 apply wpS_seq
 apply wpS_seq
 apply wpS_region
 simp [wpOpsS,go_sem,Exit.thenS,Instr.typeAssert,run_underlying underlying135]
 apply wpS_seq
 apply wpS_region
 simp [wpOpsS,go_sem,Exit.thenS]
 refine wpS_cond (t:=false) (by simp [Act.eval,Array.replicate]) ?_
 simp only [dn,if_false]
 refine wpS_of_wp (wp_skip ?_)
 show Code.wpS _ _ _ _ _ _
 have k1:=(Below.heap_alloc w (.cells #[] 135 (0,0)) g1 (Array.getElem?_eq_some_iff.1 h1).1).trans h1
 have k2:=(Below.heap_alloc w (.cells #[] 135 (0,0)) g2 (Array.getElem?_eq_some_iff.1 h2).1).trans h2
 have k3:=(Below.heap_alloc w (.cells #[] 135 (0,0)) g3 (Array.getElem?_eq_some_iff.1 h3).1).trans h3
 have hbel:Below b0 w (w.alloc (.cells #[] 135 (0,0))):=(ah _ _).alloc hb _
 generalize w.alloc (.cells #[] 135 (0,0))=W at k1 k2 k3 hbel ⊢
 have m1:=one_setCell (u:=.slice none 0 0) k1
 have m2:=(ji W ⟨g1,0,none⟩ (.slice none 0 0) g2 (fun h=>n12 h.symm)).trans k2
 have m3:=(ji W ⟨g1,0,none⟩ (.slice none 0 0) g3 (fun h=>n13 h.symm)).trans k3
 have hb1:=hbel.setCell (p:=⟨g1,0,none⟩) l1 (.slice none 0 0)
 have c1:W.cell? ⟨g1,0,none⟩=some v1:=by rw [cell_of_row W g1 0 _ _ (0,0) k1];rfl
 have z1:W.frozen? ⟨g1,0,none⟩=false:=by unfold World.frozen?;rw [k1];rfl
 generalize hW1:W.setCell ⟨g1,0,none⟩ (.slice none 0 0)=W1 at m1 m2 m3 hb1
 have q1:=(ji W1 ⟨g2,0,none⟩ (.slice none 0 0) g1 n12).trans m1
 have q2:=one_setCell (u:=.slice none 0 0) m2
 have q3:=(ji W1 ⟨g2,0,none⟩ (.slice none 0 0) g3 (fun h=>n23 h.symm)).trans m3
 have hb2:=hb1.setCell (p:=⟨g2,0,none⟩) l2 (.slice none 0 0)
 have c2:W1.cell? ⟨g2,0,none⟩=some v2:=by rw [cell_of_row W1 g2 0 _ _ (0,0) m2];rfl
 have z2:W1.frozen? ⟨g2,0,none⟩=false:=by unfold World.frozen?;rw [m2];rfl
 generalize hW2:W1.setCell ⟨g2,0,none⟩ (.slice none 0 0)=W2 at q1 q2 q3 hb2
 have r1:=(ji W2 ⟨g3,0,none⟩ (.iface 85 (.int .i64 4)) g1 n13).trans q1
 have r2:=(ji W2 ⟨g3,0,none⟩ (.iface 85 (.int .i64 4)) g2 n23).trans q2
 have r3:=one_setCell (u:=.iface 85 (.int .i64 4)) q3
 have hb3:=hb2.setCell (p:=⟨g3,0,none⟩) l3 (.iface 85 (.int .i64 4))
 have c3:W2.cell? ⟨g3,0,none⟩=some v3:=by rw [cell_of_row W2 g3 0 _ _ (0,0) q3];rfl
 have z3:W2.frozen? ⟨g3,0,none⟩=false:=by unfold World.frozen?;rw [q3];rfl
 generalize hW3:W2.setCell ⟨g3,0,none⟩ (.iface 85 (.int .i64 4))=W3 at r1 r2 r3 hb3
 have d1:W3.cell? ⟨g1,0,none⟩=some (.slice none 0 0):=by rw [cell_of_row W3 g1 0 _ _ (0,0) r1];rfl
 have d2:W3.cell? ⟨g2,0,none⟩=some (.slice none 0 0):=by rw [cell_of_row W3 g2 0 _ _ (0,0) r2];rfl
 have d3:W3.cell? ⟨g3,0,none⟩=some (.iface 85 (.int .i64 4)):=by rw [cell_of_row W3 g3 0 _ _ (0,0) r3];rfl
 have hse:settle (.panicking [{ v:=.iface 135 (.agg #[]),recovered:=true }])=.returning:=rfl
 apply wpS_region
 simp [wpOpsS,go_sem,FJ,c1,z1,hW1,c2,z2,hW2,c3,z3,hW3,d1,d2,d3,hb3,hse,bodyPostS,results,results68]
theorem QM {p:Int × Nat} {X:Int} {Q:Nat} (h1:Nf p.1 p.2) (h2:Nf q.1 q.2) (e1:p.1*2 ^ Q=X*2 ^ p.2) (e2:q.1*2 ^ Q=X*2 ^ q.2):p=q:=by
 have key:∀ p q:Int × Nat,Nf q.1 q.2→p.1*2 ^ Q=X*2 ^ p.2→q.1*2 ^ Q=X*2 ^ q.2→p.2≤q.2→q.1=p.1*2 ^ (q.2 - p.2):=fun p q _ e1 e2 hle=>by
  have pw:(2:Int) ^ Q≠0:=jf (Int.pow_pos (by decide))
  refine kw pw ?_
  rw [e2,jg,e1,bc,←bi]
  congr 2;omega
 have fin:∀ p q:Int × Nat,Nf q.1 q.2→p.1*2 ^ Q=X*2 ^ p.2→q.1*2 ^ Q=X*2 ^ q.2→p.2≤q.2→p=q:=fun p q hq e1 e2 hle=>by
  have h:=key p q hq e1 e2 hle
  by_cases hd:p.2=q.2
  ·rw [hd,em] at h
   refine Prod.ext ?_ hd
   rw [h];show p.1=p.1*1;omega
  ·exfalso
   have ho:=hq.2 (by omega)
   obtain ⟨k,hk⟩:∃ k,q.2 - p.2=k+1:=⟨q.2 - p.2 - 1,by omega⟩
   rw [hk,Int.pow_succ,←bc] at h
   omega
 rcases Nat.le_total p.2 q.2 with h|h
 ·exact fin p q h2 e1 e2 h
 ·exact (fin q p h1 e2 e1 h).symm
theorem Uj (p:Int × Nat) {Q:Nat} (h:p.2≤Q):p.1*2 ^ Q=p.1*2 ^ (Q - p.2)*2 ^ p.2:=by
 rw [bc,←bi]
 congr 2;omega
theorem AnJ {x v u:Int × Nat} (hx:Nf x.1 x.2) (hv:Nf v.1 v.2) (hu:Nf u.1 u.2) (h:Cf v.1 v.2 u.1 u.2≤0) :
  Ft v.1 v.2 (Fq u.1 u.2 x.1 x.2).1 (Fq u.1 u.2 x.1 x.2).2=Fq (Ft x.1 x.2 v.1 v.2).1 (Ft x.1 x.2 v.1 v.2).2 u.1 u.2:=by
 obtain ⟨Q,q1,q2,q3⟩:∃ Q,x.2≤Q∧v.2≤Q∧u.2≤Q:=⟨max x.2 (max v.2 u.2),by omega,by omega,by omega⟩
 have ex:=Uj x q1
 have ev:=Uj v q2
 have eu:=Uj u q3
 generalize x.1*2 ^ (Q - x.2)=X at ex
 generalize v.1*2 ^ (Q - v.2)=V at ev
 generalize u.1*2 ^ (Q - u.2)=U at eu
 have cm:∀ {a b:Int × Nat} {A B:Int},a.1*2 ^ Q=A*2 ^ a.2→b.1*2 ^ Q=B*2 ^ b.2→Cf a.1 a.2 b.1 b.2=sgI (A - B):=fun ha hb=>Yn ha hb
 rw [cm ev eu,Eu] at h
 have hVU:V≤U:=by (repeat' split at h) <;> omega
 have mn:∀ {a b:Int × Nat} {A B:Int},a.1*2 ^ Q=A*2 ^ a.2→b.1*2 ^ Q=B*2 ^ b.2→Fq a.1 a.2 b.1 b.2=if B<A then b else a:=fun {a b A B} ha hb=>by
  unfold Fq
  rw [cm ha hb,Eu]
  by_cases h1:A<B
  ·rw [if_pos h1,if_neg (by decide),if_neg (by omega)]
  ·by_cases h2:B<A
   ·rw [if_neg h1,if_pos h2,if_pos (by decide),if_pos h2]
   ·rw [if_neg h1,if_neg h2,if_neg (by decide),if_neg h2]
 have mx:∀ {a b:Int × Nat} {A B:Int},a.1*2 ^ Q=A*2 ^ a.2→b.1*2 ^ Q=B*2 ^ b.2→Ft a.1 a.2 b.1 b.2=if A<B then b else a:=fun {a b A B} ha hb=>by
  unfold Ft
  rw [cm ha hb,Eu]
  by_cases h1:A<B
  ·rw [if_pos h1,if_pos (by decide),if_pos h1]
  ·by_cases h2:B<A
   ·rw [if_neg h1,if_pos h2,if_neg (by decide),if_neg h1]
   ·rw [if_neg h1,if_neg h2,if_neg (by decide),if_neg h1]
 rw [mn eu ex,mx ex ev]
 by_cases h1:X<U
 ·rw [if_pos h1,mx ev ex]
  by_cases h2:X<V
  ·rw [if_pos h2,mn ev eu,if_neg (by omega),if_neg (by omega)]
  ·rw [if_neg h2,mn ex eu,if_neg (c:=U<X) (by omega)]
   by_cases h3:V<X
   ·rw [if_pos h3]
   ·rw [if_neg h3]
    have:X=V:=by omega
    subst this
    exact QM hv hx ev ex
 ·rw [if_neg h1,mx ev eu]
  by_cases h2:X<V
  ·omega
  ·rw [if_neg h2,mn ex eu]
   by_cases h3:U<X
   ·rw [if_pos h3]
    by_cases h4:V<U
    ·rw [if_pos h4]
    ·rw [if_neg h4]
     have:V=U:=by omega
     subst this
     exact QM hv hu ev eu
   ·rw [if_neg h3]
    have hXU:X=U:=by omega
    subst hXU
    by_cases h4:V<X
    ·rw [if_pos h4]
     exact QM hu hx eu ex
    ·rw [if_neg h4]
     have:V=X:=by omega
     subst this
     exact QM hv hx ev ex
theorem LO:aDy false 0 0=.agg [.val (.bool false),.row false 1 0 [],.val (.int .i64 0)]:=by
 unfold aDy dDy wds
 rw [show (0:Int).natAbs=0 from rfl,Bf]
 rfl
theorem AuT {t:Tmp} {k:Nat} (hk:TyK P ty true k) (hi:3=k) (hF:F t=.one (.ref id 0 none):=by with_unfolding_all exact rfl) (hH:H[id]?=some (.box ty' [.d (.val (.bool false)),.d (.val (.slice none 0 0)),.d (.val (.int .i64 0))]):=by with_unfolding_all exact rfl):RV P F H (.cell t ty) (.agg [.val (.bool false),.row false 1 0 [],.val (.int .i64 0)]):=by
 obtain ⟨⟨dd,hu,hd⟩,hz⟩:=hk
 exact .cellA hF hH hu hd (by rw [hz,←hi];rfl) (.cons_ (.d fun _=>.val _) (.cons_ .nil (.cons_ (.d fun _=>.val _) .nil_)))
def Df (y:Bk) (l:List (Int × Nat)) (ps:List Prt) (ins:List Int):Int × Nat :=
 if y.kind=0 then Ac (ins[((y.args[0]?).getD 0).toNat]?.getD 0) 0 (-((ps[((y.args[0]?).getD 0).toNat]?.map Prt.fr).getD 0)) else ZZ y l
theorem AeK (k:p') (h:Hd9 p'→p:=by with_reducible first|(intro Z9;refine qq ?_;exact Z9.o)|(intro Z9;refine Tx 0 ?_;refine gN xBo <| gN (xAl Ak) <| gO xA ?_;exact Z9.o)|(intro Z9;refine Tx 1 ?_;refine gO xF <| gO xD <| gO xLe <| gO xM ?_;(first|iterate 3 refine Jd ?_|(refine Jy (xFa Nx Al) ?_;refine Jy (xLd Al) ?_;refine Jy xGe ?_));refine gO xPk <| gO xM ?_;(first|iterate 3 refine Jd ?_|(refine Jy (xFa Gs Al) ?_;refine Jy (xLd Al) ?_;refine Jy xLt ?_));refine gO xPk <| gO xM ?_;(first|iterate 3 refine Jd ?_|(refine Jy (xFa Gs Al) ?_;refine Jy (xLd Al) ?_;refine Jy xGt ?_));refine gO xPk ?_;exact Z9.o)|fail):p:=h ⟨k⟩
theorem Aiq (k:p') (h:Hd9 p'→p:=by with_reducible first|(intro Z9;refine Tx 2 ?_;refine gO (by exact AH rfl Mq rfl rfl) <| gO (xMi underlying85) <| gZ (xSk Ab) <| gO xA ?_;exact Z9.o)|fail):p:=h ⟨k⟩
theorem Air (h:p:=by
 exact AN rfl (.cons_ (AuT Ab rfl) (.cons_ (.tmp (.one (Bp rfl fun _=>.val _))) .nil_))):p:=h
theorem Uk (n e:Int):CV prog An 155 [.agg [dI n,dI e]] [aDy false (if DA n e then Ac n 0 e else (0,0)).1 (if DA n e then Ac n 0 e else (0,0)).2,aE (if DA n e then 0 else 3)]:=by
 refine cvz func155 ntmps155 ?_
 by_cases hs:DA n e
 case pos =>
  rw [if_pos hs,if_pos hs]
  obtain ⟨s1,s2,s3,s4⟩:=hs
  have OF:=Fg n (by omega) (by omega)
  have SH:=Bj n 0 e ⟨by decide,fun h=>absurd rfl h⟩ (lT (AC (k:=2) (by omega)) (by decide)) (by omega)
  repeat' (with_reducible first|refine AeK ?_|(refine AE (id:=3) 6 AJ (by kernel_rfl) ?_;dsimp only [List.take,List.drop];refine gP xF <| gP xD <| gP (xCl func123 (OF)) <| gP xF <| gP xD <| gP (xCl func27 (SH)) ?_;refine Ke ?_;refine gZ (xSk Ab) <| gO xA ?_))
  exact AN rfl (.cons_ (rvW Ab rfl) (.cons_ (Fv rfl rfl) .nil_))
 rw [if_neg hs,if_neg hs,LO]
 unfold DA at hs
 by_cases c:n ≤ -2147483648
 case pos =>
  repeat' (with_reducible first|refine AeK ?_|refine Aiq ?_)
  exact Air
 have ca:=c
 clear c
 by_cases c:2147483648≤n
 case pos =>
  repeat' (with_reducible first|refine AeK ?_|refine Aiq ?_)
  exact Air
 have cb:=c
 clear c
 by_cases c:e < -62
 case pos =>
  repeat' (with_reducible first|refine AeK ?_|refine Aiq ?_)
  exact Air
 have cc:=c
 clear c
 have cd:30<e:=by omega
 repeat' (with_reducible first|refine AeK ?_|refine Aiq ?_)
 exact Air
theorem Lf (h:p:=by
 exact AN rfl (.cons_ (rvW Ab rfl) .nil_)):p:=h
theorem GB (n e:Int) (hs:DA n e):CV prog An 67 [.agg [dI n,dI e]] [aDy false (Ac n 0 e).1 (Ac n 0 e).2]:=by
 refine cvz func67 ntmps67 ?_
 have VA:=Uk n e
 rw [if_pos hs,if_pos hs] at VA
 repeat' (with_reducible first|refine qq ?_|(refine Tx 0 ?_;refine gN xBo <| gN (xAl Ak) ?_)|(refine Tx 1 ?_;refine gO xL <| gO (xCl func155 (VA)) <| gO xMt <| gO (by exact Es rfl rfl rfl) <| gO xEx <| gN (xAl Ak) <| gZ (xSk Ab) <| gO xA ?_)|(refine Tx 2 ?_;refine gO xL <| gZ (xSk Ab) ?_))
 exact Lf
theorem FN (t u:Bool) (y:Bk) (vals:List (Int × Nat)) (k:Nat) {i:Nat} {p:Int × Nat} (hk:y.args[k]?=some (i:Int)) (hp:vals[i]?=some p) (ha:y.args.length≤1000000) (hv:vals.length≤1000000):CV prog An 156 [aI (k:Int),.one (.ptr true [.row u 3 vals.length (Ar dyP vals)]),.one (.ptr true (dBk t y))] [aDy false p.1 p.2]:=by
 refine cvz func156 ntmps156 ?_
 have l1:=(gS.1 hk).1
 have l2:=(gS.1 hp).1
 repeat' (with_reducible first|refine qq ?_|(refine Tx 0 ?_;refine gN (xAl Ak) ?_)|(refine AE (id:=1) 8 AJ (by kernel_rfl) ?_;dsimp only [List.take,List.drop];refine gP xD <| gP xF <| gP xD <| gP xM <| gP (by first|exact xIr Aa (AF hk)|exact xIr Aa (Yt hp)) <| gP xD <| gP (xIr Af (Yt hp)) <| gP xL ?_;refine Ke ?_;refine gZ (xSk Ab) ?_))
 exact Lf
theorem QN (k:p') (h:Hd9 p'→p:=by with_reducible first|(intro Z9;refine qq ?_;exact Z9.o)|(intro Z9;refine Tx 0 ?_;refine gN xBo <| gN xBo <| gN xBo <| gN (xAl Ak) ?_;exact Z9.o)|(intro Z9;refine Tx 1 ?_;refine gO (by first|exact xMf [(2,0,none),(1,0,none)]|exact CD rfl (by repeat' first|exact BM rfl rfl|refine AX rfl rfl rfl ?_)) <| gO xA ?_;exact Z9.o)|(intro Z9;refine Tx 2 ?_;refine gO xF <| gO xD ?_;exact Z9.o)|(intro Z9;refine Tx 3 ?_;refine gO xEq <| gO xA ?_;exact Z9.o)|fail):p:=h ⟨k⟩
theorem RN (k:p') (h:Hd9 p'→p:=by with_reducible first|(intro Z9;refine Tx 5 ?_;refine gO xEq <| gO xA ?_;exact Z9.o)|fail):p:=h ⟨k⟩
theorem ArD (h:p:=by first|exact xCl func67 (RV)|exact xCl func67 (RU)):p:=h
theorem AeL (t v:Bool) (ps:List Prt) (bs:List Bk) (os:List Int) (y:Bk) (vals l:List (Int × Nat)) (ins:List Int) (hk:y.kind=0∨y.kind=1∨y.kind=3∨y.kind=4∨y.kind=5∨y.kind=6∨y.kind=7∨y.kind=8∨y.kind=9∨y.kind=10∨y.kind=11) (ha:y.args.length≤1000000) (hvl:vals.length≤1000000) (hil:ins.length≤17592186044416) (hpl:ps.length≤1000000)
  (hl:∀ k:Nat,(k=0∧y.kind≠0∧y.kind≠1∨k=1∧(y.kind=3∨y.kind=4∨y.kind=7∨y.kind=8∨y.kind=9))→∃ p i,l[k]?=some p∧y.args[k]?=some ((i:Nat):Int)∧vals[i]?=some p) (hs:∀ p∈l,Sm p 20000 20000)
  (hin:y.kind=0→∃ (i:Nat) (z:Int) (pp:Prt),y.args[0]?=some (i:Int)∧ins[i]?=some z∧ps[i]?=some pp ∧ -9223372036854775808≤z∧z<9223372036854775808 ∧ -100≤pp.fr∧pp.fr≤100)
  (hsv:(y.kind=1∨y.kind=6∨y.kind=11)→DA y.vn y.ve) (hsu:y.kind=11→DA y.un y.ue) (hcl:y.kind=11→Cf (Ac y.vn 0 y.ve).1 (Ac y.vn 0 y.ve).2 (Ac y.un 0 y.ue).1 (Ac y.un 0 y.ue).2≤0):CV prog An 70 [aDg t ps bs os,.agg (dBk t y),.one (.row true 3 vals.length (Ar dyP vals)),.one (AM v ins)] [aDy false (Df y l ps ins).1 (Df y l ps ins).2]:=by
 refine cvz func70 ntmps70 ?_
 rcases hk with h|h|h|h|h|h|h|h|h|h|h
 ·
  obtain ⟨i0,z,pp,q0,r0,w0,z0,z1,f0,f1⟩:=hin h
  have l1:=(gS.1 q0).1
  have l2:=(gS.1 r0).1
  have l3:=(gS.1 w0).1
  have OF:=Fg z z0 z1
  have SH:=Bj z 0 (-pp.fr) ⟨by decide,fun h=>absurd rfl h⟩ (lT (AC (k:=2) (by omega)) (by decide)) (by omega)
  have hb:Df y l ps ins=Ac z 0 (-pp.fr):=by unfold Df;rw [if_pos h,q0];simp [r0,w0]
  rw [hb]
  repeat' (with_reducible first|refine QN ?_|(refine AE (id:=4) 19 AJ (by kernel_rfl) ?_;dsimp only [List.take,List.drop];refine gP xM <| gP xF <| gP xD <| gP (xIr Aa (AF q0)) <| gP xD <| gP (by first|exact xIr Aa (AF q0)|exact xIr Aa (AF r0)) <| gP xD <| gP (xCl func123 (OF)) <| gP xF <| gP xD <| gP xF <| gP xD <| gP (xIr Aa (AF q0)) <| gP xD <| gP (xIr BG (Gz w0)) <| gP xF <| gP xD <| gP (by first|exact TG rfl rfl (by omega)|exact Adv rfl rfl) <| gP (xCl func27 (SH)) ?_;refine Ke ?_;refine gZ (xSk Ab) ?_))
  exact Lf
 ·
  have hv:=hsv (by omega)
  have RV:=GB y.vn y.ve hv
  obtain ⟨v0,v1,e0,e1⟩:=hv
  have sv:Sm (Ac y.vn 0 y.ve) (32+200) 200:=Sm.shift (by omega) (by omega) (by omega)
  have lv:=lT (sv.len (by decide)) (show 50≤40000 by decide)
  have hb:Df y l ps ins=(Ac y.vn 0 y.ve):=by unfold Df ZZ;simp [h]
  rw [hb]
  repeat' (with_reducible first|refine QN ?_|refine RN ?_|(refine Tx 6 ?_;refine gO xF <| gO xL <| gO (xCl func67 (RV)) <| gZ (xSk Ab) ?_))
  exact Lf
 ·
  obtain ⟨p,i0,h0,q0,r0⟩:=hl 0 (by omega)
  have sp:=hs p (gM h0)
  have lp:=sp.l4
  have A0:=FN t true y vals 0 q0 r0 ha hvl
  obtain ⟨q,i1,h1,q1,r1⟩:=hl 1 (by omega)
  have sq:=hs q (gM h1)
  have lq:=sq.l4
  have A1:=FN t true y vals 1 q1 r1 ha hvl
  have C:=CY p.1 p.2 q.1 q.2 sp.ok sq.ok lp lq
  have hb:Df y l ps ins=DV p.1 p.2 q.1 q.2:=by unfold Df ZZ;simp [h,h0,h1]
  rw [hb]
  repeat' (with_reducible first|refine QN ?_|refine RN ?_|(refine Tx 7 ?_;refine gO xEq <| gO xA ?_)|(refine Tx 8 ?_;refine gO xM <| gO (xCc func156 A0 (args:=[_]) rfl) <| gO xM <| gO (xCc func156 A1 (args:=[_]) rfl) <| gO (xCl func146 (C)) <| gZ (xSk Ab) ?_))
  exact Lf
 ·
  obtain ⟨p,i0,h0,q0,r0⟩:=hl 0 (by omega)
  have sp:=hs p (gM h0)
  have lp:=sp.l4
  have A0:=FN t true y vals 0 q0 r0 ha hvl
  obtain ⟨q,i1,h1,q1,r1⟩:=hl 1 (by omega)
  have sq:=hs q (gM h1)
  have lq:=sq.l4
  have A1:=FN t true y vals 1 q1 r1 ha hvl
  have C:=Aij p.1 p.2 q.1 q.2 sp.ok sq.ok lp lq
  have hb:Df y l ps ins=DV p.1 p.2 (-q.1) q.2:=by unfold Df ZZ;simp [h,h0,h1]
  rw [hb]
  repeat' (with_reducible first|refine QN ?_|refine RN ?_|(refine Tx 7 ?_;refine gO xEq <| gO xA ?_)|(refine Tx 9 ?_;refine gO xEq <| gO xA ?_)|(refine Tx 10 ?_;refine gO xM <| gO (xCc func156 A0 (args:=[_]) rfl) <| gO xM <| gO (xCc func156 A1 (args:=[_]) rfl) <| gO (xCl func157 (C)) <| gZ (xSk Ab) ?_))
  exact Lf
 ·
  obtain ⟨p,i0,h0,q0,r0⟩:=hl 0 (by omega)
  have sp:=hs p (gM h0)
  have lp:=sp.l4
  have A0:=FN t true y vals 0 q0 r0 ha hvl
  have C:=ER p.1 p.2 sp.ok lp
  have hb:Df y l ps ins=(-p.1,p.2):=by unfold Df ZZ;simp [h,h0]
  rw [hb]
  repeat' (with_reducible first|refine QN ?_|refine RN ?_|(refine Tx 7 ?_;refine gO xEq <| gO xA ?_)|(refine Tx 9 ?_;refine gO xEq <| gO xA ?_)|(refine Tx 11 ?_;refine gO xEq <| gO xA ?_)|(refine Tx 13 ?_;refine gO xEq <| gO xA ?_)|(refine Tx 14 ?_;refine gO xM <| gO (xCc func156 A0 (args:=[_]) rfl) <| gO (xCl func83 (C)) <| gZ (xSk Ab) ?_))
  exact Lf
 ·
  obtain ⟨p,i0,h0,q0,r0⟩:=hl 0 (by omega)
  have sp:=hs p (gM h0)
  have lp:=sp.l4
  have A0:=FN t true y vals 0 q0 r0 ha hvl
  have hv:=hsv (by omega)
  have RV:=GB y.vn y.ve hv
  obtain ⟨v0,v1,e0,e1⟩:=hv
  have sv:Sm (Ac y.vn 0 y.ve) (32+200) 200:=Sm.shift (by omega) (by omega) (by omega)
  have lv:=lT (sv.len (by decide)) (show 50≤40000 by decide)
  have C:=Gd (Ac y.vn 0 y.ve).1 (Ac y.vn 0 y.ve).2 p.1 p.2 sv.ok sp.ok lv lp (by have:=sv.d;have:=sp.d;omega)
  have hb:Df y l ps ins=NN (Ac y.vn 0 y.ve).1 (Ac y.vn 0 y.ve).2 p.1 p.2:=by unfold Df ZZ;simp [h,h0]
  rw [hb]
  repeat' (with_reducible first|refine QN ?_|refine RN ?_|(refine Tx 7 ?_;refine gO xEq <| gO xA ?_)|(refine Tx 9 ?_;refine gO xEq <| gO xA ?_)|(refine Tx 11 ?_;refine gO xEq <| gO xA ?_)|(refine Tx 13 ?_;refine gO xEq <| gO xA ?_)|(refine Tx 15 ?_;refine gO xEq <| gO xA ?_)|(refine Tx 17 ?_;refine gO xEq <| gO xA ?_)|(refine Tx 18 ?_;refine gO xF <| gO xL <| gO (xCl func67 (RV)) <| gO xM <| gO (xCc func156 A0 (args:=[_]) rfl) <| gO (xCl func149 (C)) <| gZ (xSk Ab) ?_))
  exact Lf
 ·
  obtain ⟨p,i0,h0,q0,r0⟩:=hl 0 (by omega)
  have sp:=hs p (gM h0)
  have lp:=sp.l4
  have A0:=FN t true y vals 0 q0 r0 ha hvl
  obtain ⟨q,i1,h1,q1,r1⟩:=hl 1 (by omega)
  have sq:=hs q (gM h1)
  have lq:=sq.l4
  have A1:=FN t true y vals 1 q1 r1 ha hvl
  have C:=Gd p.1 p.2 q.1 q.2 sp.ok sq.ok lp lq (by have:=sp.d;have:=sq.d;omega)
  have hb:Df y l ps ins=NN p.1 p.2 q.1 q.2:=by unfold Df ZZ;simp [h,h0,h1]
  rw [hb]
  repeat' (with_reducible first|refine QN ?_|refine RN ?_|(refine Tx 7 ?_;refine gO xEq <| gO xA ?_)|(refine Tx 9 ?_;refine gO xEq <| gO xA ?_)|(refine Tx 11 ?_;refine gO xEq <| gO xA ?_)|(refine Tx 12 ?_;refine gO xM <| gO (xCc func156 A0 (args:=[_]) rfl) <| gO xM <| gO (xCc func156 A1 (args:=[_]) rfl) <| gO (xCl func149 (C)) <| gZ (xSk Ab) ?_))
  exact Lf
 ·
  obtain ⟨p,i0,h0,q0,r0⟩:=hl 0 (by omega)
  have sp:=hs p (gM h0)
  have lp:=sp.l4
  have A0:=FN t true y vals 0 q0 r0 ha hvl
  obtain ⟨q,i1,h1,q1,r1⟩:=hl 1 (by omega)
  have sq:=hs q (gM h1)
  have lq:=sq.l4
  have A1:=FN t true y vals 1 q1 r1 ha hvl
  have C:=Mz p.1 p.2 q.1 q.2 sp.ok sq.ok lp lq
  have hb:Df y l ps ins=Fq p.1 p.2 q.1 q.2:=by unfold Df ZZ;simp [h,h0,h1]
  rw [hb]
  repeat' (with_reducible first|refine QN ?_|refine RN ?_|(refine Tx 7 ?_;refine gO xEq <| gO xA ?_)|(refine Tx 9 ?_;refine gO xEq <| gO xA ?_)|(refine Tx 11 ?_;refine gO xEq <| gO xA ?_)|(refine Tx 13 ?_;refine gO xEq <| gO xA ?_)|(refine Tx 15 ?_;refine gO xEq <| gO xA ?_)|(refine Tx 17 ?_;refine gO xEq <| gO xA ?_)|(refine Tx 19 ?_;refine gO xEq <| gO xA ?_)|(refine Tx 20 ?_;refine gO xM <| gO (xCc func156 A0 (args:=[_]) rfl) <| gO xM <| gO (xCc func156 A1 (args:=[_]) rfl) <| gO (xCl func158 (C)) <| gZ (xSk Ab) ?_))
  exact Lf
 ·
  obtain ⟨p,i0,h0,q0,r0⟩:=hl 0 (by omega)
  have sp:=hs p (gM h0)
  have lp:=sp.l4
  have A0:=FN t true y vals 0 q0 r0 ha hvl
  obtain ⟨q,i1,h1,q1,r1⟩:=hl 1 (by omega)
  have sq:=hs q (gM h1)
  have lq:=sq.l4
  have A1:=FN t true y vals 1 q1 r1 ha hvl
  have C:=Ek p.1 p.2 q.1 q.2 sp.ok sq.ok lp lq
  have hb:Df y l ps ins=Ft p.1 p.2 q.1 q.2:=by unfold Df ZZ;simp [h,h0,h1]
  rw [hb]
  repeat' (with_reducible first|refine QN ?_|refine RN ?_|(refine Tx 7 ?_;refine gO xEq <| gO xA ?_)|(refine Tx 9 ?_;refine gO xEq <| gO xA ?_)|(refine Tx 11 ?_;refine gO xEq <| gO xA ?_)|(refine Tx 13 ?_;refine gO xEq <| gO xA ?_)|(refine Tx 15 ?_;refine gO xEq <| gO xA ?_)|(refine Tx 17 ?_;refine gO xEq <| gO xA ?_)|(refine Tx 19 ?_;refine gO xEq <| gO xA ?_)|(refine Tx 21 ?_;refine gO xEq <| gO xA ?_)|(refine Tx 22 ?_;refine gO xM <| gO (xCc func156 A0 (args:=[_]) rfl) <| gO xM <| gO (xCc func156 A1 (args:=[_]) rfl) <| gO (xCl func91 (C)) <| gZ (xSk Ab) ?_))
  exact Lf
 ·
  obtain ⟨p,i0,h0,q0,r0⟩:=hl 0 (by omega)
  have sp:=hs p (gM h0)
  have lp:=sp.l4
  have A0:=FN t true y vals 0 q0 r0 ha hvl
  have C:=PA p.1 p.2 sp.ok lp
  have hb:Df y l ps ins=(((p.1.natAbs:Nat):Int),p.2):=by unfold Df ZZ;simp [h,h0]
  rw [hb]
  repeat' (with_reducible first|refine QN ?_|refine RN ?_|(refine Tx 7 ?_;refine gO xEq <| gO xA ?_)|(refine Tx 9 ?_;refine gO xEq <| gO xA ?_)|(refine Tx 11 ?_;refine gO xEq <| gO xA ?_)|(refine Tx 13 ?_;refine gO xEq <| gO xA ?_)|(refine Tx 15 ?_;refine gO xEq <| gO xA ?_)|(refine Tx 16 ?_;refine gO xM <| gO (xCc func156 A0 (args:=[_]) rfl) <| gO (xCl func150 (C)) <| gZ (xSk Ab) ?_))
  exact Lf
 ·
  obtain ⟨p,i0,h0,q0,r0⟩:=hl 0 (by omega)
  have sp:=hs p (gM h0)
  have lp:=sp.l4
  have A0:=FN t true y vals 0 q0 r0 ha hvl
  have hv:=hsv (by omega)
  have RV:=GB y.vn y.ve hv
  obtain ⟨v0,v1,e0,e1⟩:=hv
  have sv:Sm (Ac y.vn 0 y.ve) (32+200) 200:=Sm.shift (by omega) (by omega) (by omega)
  have lv:=lT (sv.len (by decide)) (show 50≤40000 by decide)
  have hu:=hsu h
  have RU:=GB y.un y.ue hu
  obtain ⟨u0,u1,d0,d1⟩:=hu
  have su:Sm (Ac y.un 0 y.ue) (32+200) 200:=Sm.shift (by omega) (by omega) (by omega)
  have lu:=lT (su.len (by decide)) (show 50≤40000 by decide)
  have sm:Sm (Fq (Ac y.un 0 y.ue).1 (Ac y.un 0 y.ue).2 p.1 p.2) 20000 20000:=Sm.min (su.more (by decide) (by decide)) sp
  have lm:=sm.l4
  have C:=Mz (Ac y.un 0 y.ue).1 (Ac y.un 0 y.ue).2 p.1 p.2 su.ok sp.ok lu lp
  have C2:=Ek (Ac y.vn 0 y.ve).1 (Ac y.vn 0 y.ve).2 (Fq (Ac y.un 0 y.ue).1 (Ac y.un 0 y.ue).2 p.1 p.2).1 (Fq (Ac y.un 0 y.ue).1 (Ac y.un 0 y.ue).2 p.1 p.2).2 sv.ok sm.ok lv lm
  rw [AnJ sp.ok sv.ok su.ok (hcl h)] at C2
  have hb:Df y l ps ins=Fq (Ft p.1 p.2 (Ac y.vn 0 y.ve).1 (Ac y.vn 0 y.ve).2).1 (Ft p.1 p.2 (Ac y.vn 0 y.ve).1 (Ac y.vn 0 y.ve).2).2 (Ac y.un 0 y.ue).1 (Ac y.un 0 y.ue).2:=by unfold Df ZZ;simp [h,h0]
  rw [hb]
  repeat' (with_reducible first|refine QN ?_|refine RN ?_|(refine Tx 7 ?_;refine gO xEq <| gO xA ?_)|(refine Tx 9 ?_;refine gO xEq <| gO xA ?_)|(refine Tx 11 ?_;refine gO xEq <| gO xA ?_)|(refine Tx 13 ?_;refine gO xEq <| gO xA ?_)|(refine Tx 15 ?_;refine gO xEq <| gO xA ?_)|(refine Tx 17 ?_;refine gO xEq <| gO xA ?_)|(refine Tx 19 ?_;refine gO xEq <| gO xA ?_)|(refine Tx 21 ?_;refine gO xEq <| gO xA ?_)|(refine AE (id:=23) 10 AJ (by kernel_rfl) ?_;dsimp only [List.take,List.drop];refine gP xF <| gP xL <| gP ArD <| gP xF <| gP xL <| gP ArD <| gP xM <| gP (xCc func156 A0 (args:=[_]) rfl) <| gP (xCl func158 (C)) <| gP (xCl func91 (C2)) ?_;refine Ke ?_;refine gZ (xSk Ab) ?_))
  exact Lf
def Yy (bs:List Bk) (j:Nat):Bk:=bs[j]?.getD bk0
def scA (F:List Int) (j:Nat):Int:=F[j]?.getD 0
def QO (ps:List Prt) (a:Int):Int:=(ps[a.toNat]?.getD ⟨0,0,0⟩).fr
def WE (bs:List Bk) (F:List Int) (j:Nat):Int:=Pu (Yy bs j).vn (Yy bs j).ve (scA F j)
def AnK (bs:List Bk) (F:List Int) (j:Nat):Int:=Pu (Yy bs j).un (Yy bs j).ue (scA F j)
def Ul (bs:List Bk) (F:List Int) (j:Nat):Int:=BW (Yy bs j).vn (Yy bs j).ve (scA F j)
def AnL (bs:List Bk) (F:List Int) (j:Nat):Int:=BW (Yy bs j).un (Yy bs j).ue (scA F j)
def NR (bs:List Bk) (F:List Int) (j:Nat):Int :=
 if AQ bs j=1∨AQ bs j=2 then Ul bs F j else if AQ bs j=11 then (if Ul bs F j=0 then AnL bs F j else Ul bs F j) else 0
def Fo (bs:List Bk) (F:List Int) (j:Nat):Int:=if AQ bs j=1∨AQ bs j=2∨AQ bs j=11 then WE bs F j else 0
def LP (bs:List Bk) (F:List Int) (j:Nat):Int:=if AQ bs j=11 then AnK bs F j else 0
def tab (n:Nat) (f:Nat→Int):List Int:=(List.range n).map f
theorem Ii (n:Nat) (f:Nat→Int):(tab n f).length=n:=by simp [tab]
theorem LQ (h:j<n):(tab n f)[j]?=some (f j):=by simp [tab,h]
theorem Yz {k:Nat} {g:Nat→Int} {z:Int} (hz:g k=z) (h:∀ j,j≠k→g j=f j):(tab n f).set k z=tab n g:=by
 refine fk fun j=>?_
 simp only [tab,bu,ad,jj,ag,jh]
 by_cases hkj:k=j
 ·subst hkj
  by_cases hk:k<n
  ·simp [hk,hz]
  ·simp [hk]
 ·rw [if_neg hkj]
  by_cases hj:j<n
  ·simp [hj,h j (Ne.symm hkj)]
  ·simp [hj]
theorem IT {g:Nat→Int} (h:∀ j,j<n→g j=f j):tab n f=tab n g:=by
 unfold tab
 exact cw fun j hj=>(h j (List.mem_range.1 hj)).symm
theorem Ais (n:Nat):tab n (fun _=>0)=List.replicate n 0:=by simp [tab,List.map_const']
def PE (p:Nat→Bool) (j:Nat):Nat:=((List.range j).filter p).length
theorem ME (p:Nat→Bool) (t j:Nat):∀ n,((List.range n).filter p)[t]?=some j ↔ j<n∧p j=true∧PE p j=t
 | 0=>by simp
 | n+1=>by
  rw [cr,ks]
  have ih:=ME p t j n
  by_cases hn:p n=true
  ·simp only [ll,hn,if_true,List.filter_nil]
   by_cases ht:t<((List.range n).filter p).length
   ·rw [dk ht,ih]
    constructor
    ·exact fun h=>⟨by omega,h.2⟩
    ·rintro ⟨h1,h2,h3⟩
     refine ⟨?_,h2,h3⟩
     rcases bf j n with h|h
     ·exact h
     ·obtain rfl:j=n:=by omega
      unfold PE at h3
      omega
   ·rw [dt (by omega)]
    constructor
    ·intro h
     have h0:t - ((List.range n).filter p).length=0:=by
      rcases co (t - ((List.range n).filter p).length) with h1|h1
      ·exact h1
      ·rw [fg (by simp;omega)] at h
       cases h
     rw [h0] at h
     have e:n=j:=by simpa using h
     subst e
     exact ⟨by omega,hn,by unfold PE;omega⟩
    ·rintro ⟨h1,h2,h3⟩
     rcases bf j n with h|h
     ·have h4:=ih.2 ⟨h,h2,h3⟩
      have:=(gS.1 h4).1
      omega
     ·obtain rfl:j=n:=by omega
      have:t - ((List.range j).filter p).length=0:=by unfold PE at h3;omega
      rw [this]
      rfl
  ·simp only [ll,hn,List.filter_nil,av]
   simp only [dn,if_false,av]
   rw [ih]
   constructor
   ·exact fun h=>⟨by omega,h.2⟩
   ·rintro ⟨h1,h2,h3⟩
    refine ⟨?_,h2,h3⟩
    rcases bf j n with h|h
    ·exact h
    ·obtain rfl:j=n:=by omega
     exact absurd h2 hn
def dlB (bs:List Bk) (i:Nat):Bool:=AQ bs i == 2
def cpB (bs:List Bk) (i:Nat):Bool:=AQ bs i == 11
def dlK (bs:List Bk) (k:Nat):List Nat:=(List.range k).filter (dlB bs)
def cpK (bs:List Bk) (k:Nat):List Nat:=(List.range k).filter (cpB bs)
theorem AeM (bs:List Bk):AW bs=dlK bs bs.length:=rfl
theorem GW (bs:List Bk) (k:Nat):dlK bs (k+1)=if AQ bs k=2 then dlK bs k++[k] else dlK bs k:=by
 unfold dlK
 rw [cr,ks]
 by_cases h:AQ bs k=2
 ·rw [if_pos h];simp [dlB,h]
 ·rw [if_neg h];simp [dlB,h]
theorem MF (bs:List Bk) (k:Nat):cpK bs (k+1)=if AQ bs k=11 then cpK bs k++[k] else cpK bs k:=by
 unfold cpK
 rw [cr,ks]
 by_cases h:AQ bs k=11
 ·rw [if_pos h];simp [cpB,h]
 ·rw [if_neg h];simp [cpB,h]
theorem AeN (bs:List Bk) (k:Nat):(dlK bs k).length≤k:=by
 have:=gn (dlB bs) (List.range k)
 simpa [dlK] using this
theorem AeO (bs:List Bk) (k:Nat):(cpK bs k).length≤k:=by
 have:=gn (cpB bs) (List.range k)
 simpa [cpK] using this
def CI (bs:List Bk) (j:Nat):Int :=
 if AQ bs j=2 then (bs.length:Int)+(PE (dlB bs) j:Int) else if AQ bs j=11 then (bs.length:Int)+((dlK bs bs.length).length:Int)+2*(PE (cpB bs) j:Int) else 0
def opM (k:Int):Int:=if k=3 then 3 else if k=4 then 4 else if k=8 then 8 else if k=9 then 9 else if k=5 then 5 else 10
def BJ (b:Bk):Int:=b.args[0]?.getD 0
def DS (b:Bk):Int:=b.args[1]?.getD 0
def QP (ps:List Prt) (bs:List Bk) (F:List Int) (j:Nat) (c:Int):List Ins :=
 let b:=Yy bs j
 let s:=scA F j
 let s0:=scA F (BJ b).toNat
 let s1:=scA F (DS b).toNat
 if b.kind=0 then [⟨0,j,BJ b,0,s - QO ps (BJ b),0,0⟩]
 else if b.kind=1 then [⟨1,j,0,0,0,0,WE bs F j⟩]
 else if b.kind=6 then [⟨6,j,BJ b,0,s - s0+b.ve,0,b.vn⟩]
 else if b.kind=7 then [⟨7,j,BJ b,DS b,s - s0 - s1,0,0⟩]
 else if b.kind=11 then [⟨9,j,BJ b,c,s - s0,0,0⟩,⟨8,j,j,c+1,0,0,0⟩]
 else if b.args.length=2 then [⟨opM b.kind,j,BJ b,DS b,s - s0,s - s1,0⟩]
 else [⟨opM b.kind,j,BJ b,0,s - s0,0,0⟩]
def mv1 (bs:List Bk) (F:List Int) (j:Nat):Ins:=⟨2,CI bs j,BJ (Yy bs j),0,scA F j - scA F (BJ (Yy bs j)).toNat,0,0⟩
def mv2 (bs:List Bk) (j:Nat):Ins:=⟨2,j,CI bs j,0,0,0,0⟩
def Ge (ps:List Prt) (bs:List Bk) (F:List Int):List Ins :=
 (Bb bs).flatMap (fun j=>QP ps bs F j (CI bs j))++(AW bs).map (mv1 bs F)++(AW bs).map (mv2 bs)
def NT (bs:List Bk) (F:List Int):List Int :=
 tab bs.length (fun j=>if AQ bs j=2 then Fo bs F j else 0)++List.replicate (AW bs).length 0++(cpK bs bs.length).flatMap (fun j=>[Fo bs F j,LP bs F j])
def Aua (x:Ins):Bool:=decide (-62≤x.sa∧x.sa≤30 ∧ -62≤x.sb∧x.sb≤30)
def QQ (z:Int):Bool:=decide (0≤z∧z≤30)
def Um (ps:List Prt) (bs:List Bk) (F:List Int):Int :=
 if ¬ F.length=bs.length then 11 else if ¬ F.all QQ=true then 3 else if ¬ Ai ((List.range bs.length).map (NR bs F))=0 then Ai ((List.range bs.length).map (NR bs F))
 else if (Ge ps bs F).all Aua=true then 0 else 3
theorem QR {l:List Int} {k:Nat} (h:∀ j x,j<k→l[j]?=some x→x=0) (hk:l[k]?=some e) (he:e≠0):Ai l=e:=by
 induction l generalizing k with
 | nil=>simp at hk
 | cons x l ih =>
  unfold Ai
  cases k with
  | zero =>
   have:x=e:=by simpa using hk
   rw [if_neg (by rw [this];exact he),this]
  | succ k =>
   have hx:x=0:=h 0 x (by omega) rfl
   rw [if_pos hx]
   exact ih (k:=k) (fun j y hj hy=>h (j+1) y (by omega) (by simpa using hy)) (by simpa using hk)
theorem Un {l:List Int} (h:∀ x∈l,x=0):Ai l=0:=by
 induction l with
 | nil=>rfl
 | cons x l ih =>
  unfold Ai
  rw [if_pos (h x (by simp))]
  exact ih fun y hy=>h y (by simp [hy])
theorem ArE {F:List Int} {k:Nat} (hk:k<bs.length) (h:∀ j,j<k→NR bs F j=0) (he:NR bs F k≠0):Ai ((List.range bs.length).map (NR bs F))=NR bs F k :=
 QR (k:=k) (fun j x hj hx=>by
  have hjn:j<bs.length:=by omega
  simp [hjn] at hx
  rw [←hx]
  exact h j hj) (by simp [hk]) he
theorem AnM {F:List Int} (h:∀ j,j<bs.length→NR bs F j=0):Ai ((List.range bs.length).map (NR bs F))=0 :=
 Un fun x hx=>by
  obtain ⟨j,hj,rfl⟩:=List.mem_map.1 hx
  exact h j (List.mem_range.1 hj)
section
variable {ps:List Prt} {bs:List Bk} {F:List Int}
theorem cp_1 (h:¬ F.length=bs.length):Um ps bs F=11:=if_pos h
theorem cp_2 (h:F.length=bs.length) (h2:¬ F.all QQ=true):Um ps bs F=3:=by unfold Um;rw [if_neg (not_not_intro h),if_pos h2]
theorem Aub (h:F.length=bs.length) (h2:F.all QQ=true) {k:Nat} (hk:k<bs.length) (h3:∀ j,j<k→NR bs F j=0) (he:NR bs F k≠0):Um ps bs F=NR bs F k:=by
 unfold Um
 rw [if_neg (not_not_intro h),if_neg (not_not_intro h2),ArE hk h3 he,if_pos he]
theorem cp_4 (h:F.length=bs.length) (h2:F.all QQ=true) (h3:∀ j,j<bs.length→NR bs F j=0):Um ps bs F=if (Ge ps bs F).all Aua=true then 0 else 3:=by
 unfold Um
 rw [if_neg (not_not_intro h),if_neg (not_not_intro h2),AnM h3,if_neg (by simp)]
theorem Dl (h2:F.all QQ=true) (j:Nat):0≤scA F j∧scA F j≤30:=by
 unfold scA
 cases hj:F[j]? with
 | none=>simp
 | some z =>
  have:=List.all_eq_true.1 h2 z (gM hj)
  have:=of_decide_eq_true this
  simpa using this
theorem Gf (h:bs[j]?=some y):Yy bs j=y:=by unfold Yy;rw [h];rfl
theorem PF (h:bs[j]?=some y):AQ bs j=y.kind:=by unfold AQ;rw [h];rfl
theorem FO {z:Int} (h:F[j]?=some z):scA F j=z:=by unfold scA;rw [h];rfl
end
section
variable {ps:List Prt} {bs:List Bk} {os:List Int}
theorem YA (h:Av ps bs os=0) {i:Nat} {y:Bk} (hy:bs[i]?=some y):Be ps.length bs.length y=0 :=
 BH (QH (FK h).2.1) _ (List.mem_map.2 ⟨y,gM hy,rfl⟩)
theorem El (h:Av ps bs os=0) {i:Nat} {y:Bk} (hy:bs[i]?=some y):0≤Ay y.kind∧((y.args.length:Nat):Int)=Ay y.kind∧∀ a∈y.args,0≤a∧a<(Cm ps.length bs.length y.kind:Int):=Pn (YA h hy)
theorem Oy (h:Av ps bs os=0) {i:Nat} {y:Bk} (hy:bs[i]?=some y) (hv:Ox y.kind=true):DA y.vn y.ve:=by
 have h1:=YA h hy
 have ha:=El h hy
 unfold Be at h1
 rw [if_neg (by omega),if_neg (not_not_intro ha.2.1)] at h1
 by_cases h3:Ai (y.args.map (Ll (Cm ps.length bs.length y.kind)))=0
 ·rw [if_neg (not_not_intro h3)] at h1
  by_cases h4:Cl y.vn y.ve (Ox y.kind)=0
  ·rw [hv] at h4
   unfold Cl at h4
   rw [if_pos rfl] at h4
   by_cases h5:DA y.vn y.ve
   ·exact h5
   ·rw [if_neg h5] at h4;cases h4
  ·rw [if_pos h4] at h1
   exact absurd h1 h4
 ·rw [if_pos h3] at h1
  cases h1
theorem Uo (h:Av ps bs os=0) {i:Nat} {p:Prt} (hp:ps[i]?=some p):DI p=0:=by
 have h1:=(FK h).2.1
 unfold Dc at h1
 rw [Aw] at h1
 by_cases h2:Ai (ps.map DI)=0
 ·exact BH h2 _ (List.mem_map.2 ⟨p,gM hp,rfl⟩)
 ·rw [if_neg h2] at h1
  exact absurd h1 h2
theorem FP (h:(Bb bs)[u]?=some i):i<bs.length∧AQ bs i≠2:=(NI bs.length (GN.nil bs)).mem i (gM h)
theorem Up:(Bb bs).length≤bs.length:=lT (NI bs.length (GN.nil bs)).le (HW bs)
end
theorem AeP {F:List Int} (h:(Bb bs)[u]?=some i) :
  ((Bb bs).take (u+1)).flatMap (fun j=>QP ps bs F j (CI bs j))=((Bb bs).take u).flatMap (fun j=>QP ps bs F j (CI bs j))++QP ps bs F i (CI bs i):=by
 rw [ak,h]
 simp
theorem Ait {F:List Int} (j:Nat) (c:Int):(QP ps bs F j c).length≤2:=by
 unfold QP
 dsimp only
 repeat' split
 all_goals simp
theorem Aiu {F:List Int} (l:List Nat):(l.flatMap (fun j=>QP ps bs F j (CI bs j))).length≤2*l.length:=by
 induction l with
 | nil=>simp
 | cons x l ih =>
  have:=Ait (ps:=ps) (bs:=bs) (F:=F) x (CI bs x)
  simp only [List.flatMap_cons,aq,cq]
  omega
theorem AuU {a b:Int} (h:a=b):Ending.returned (.int .i64 a)=.returned (.int .i64 b):=by rw [h]
theorem Uq (k:Int) (w:World):Calls prog 53 #[.int .i64 k] w fun e w'=>e=.returned (.int .i64 (opM k))∧w=w':=by
 go_enter func53,ntmps53
 go_wp2
 all_goals
  go_ret
  exact ⟨AuU (by unfold opM;simp_all),rfl⟩
theorem AbM:TyB prog 135 [] []:=⟨⟨_,underlying135,by kernel_rfl⟩,by kernel_rfl,by kernel_rfl⟩
abbrev Cp (p:Int × Nat):Bool:=AnI p.1.natAbs p.2
def tlV:Value:=.iface 135 (.agg #[])
def tlC:List PanicEntry:=[{ v:=tlV,recovered:=false }]
def cV:Option (Int × Nat)→List C
 | none=>[.d (.val (.bool false)),.d (.val (.slice none 0 0)),.d (.val (.int .i64 0))]
 | some p=>(dDy false p.1 p.2).map C.d
def cVs (l:List (Option (Int × Nat))):List C:=(l.map cV).flatten
def gV (l:List (Option (Int × Nat))):List (Int × Nat):=l.map (·.getD (0,0))
theorem QS (o:Option (Int × Nat)):(cV o).length=3:=by cases o <;> rfl
theorem AnN (l:List (Option (Int × Nat))):(cVs l).length=l.length*3:=by
 induction l with
 | nil=>rfl
 | cons o l ih =>
  have:(cVs (o::l)).length=(cV o).length+(cVs l).length:=by simp [cVs]
  rw [this,ih,QS,cq];omega
theorem GX (o:Option (Int × Nat)) (l:List (Option (Int × Nat))):cVs (o::l)=cV o++cVs l:=by simp [cVs]
theorem AkA:∀ {l:List (Option (Int × Nat))} {i:Nat} {o:Option (Int × Nat)},l[i]?=some o→((cVs l).drop (i*3)).take 3=cV o
 | [],i,o,h=>by simp at h
 | q::l,0,o,h=>by
  simp only [eb,Option.some.injEq] at h
  subst h
  rw [GX,ep,ju,ki (by rw [QS];omega),am (by rw [QS];omega)]
 | q::l,i+1,o,h=>by
  simp only [fi] at h
  rw [GX,show (i+1)*3=(cV q).length+i*3 by rw [QS];omega,←kx,jk]
  exact AkA h
theorem AeQ:∀ {l:List (Option (Int × Nat))} {i:Nat} (p:Int × Nat),i<l.length→(cVs l).take (i*3)++(dDy false p.1 p.2).map C.d++(cVs l).drop (i*3+3)=cVs (l.set i (some p))
 | [],i,p,h=>by simp at h
 | q::l,0,p,h=>by
  rw [GX,ep,ik,ea,ax,dc,GX,show (3:Nat)=(cV q).length from (QS q).symm,jk]
  rfl
 | q::l,i+1,p,h=>by
  have ih:=AeQ (l:=l) (i:=i) p (by simpa using h)
  rw [GX,df,GX,←ih,show (i+1)*3+3=(cV q).length+(i*3+3) by rw [QS];omega,←kx,jk,show (i+1)*3=(cV q).length+i*3 by rw [QS];omega,List.take_length_add_append]
  simp
theorem AnO (n:Nat):DW (madeCells (Value.agg #[.bool false,.slice none 0 0,.int .i64 0]).cells (n*3)).toList=cVs (List.replicate n none):=by
 have h1:∀ a:Nat,(madeCells (Value.agg #[.bool false,.slice none 0 0,.int .i64 0]).cells a).toList=(List.range a).map (fun j=>#[Value.bool false,.slice none 0 0,.int .i64 0][j % 3]!):=fun a=>by
  unfold madeCells
  rw [kg,Array.toList_range]
  rfl
 rw [h1]
 induction n with
 | zero=>rfl
 | succ n ih =>
  rw [show (n+1)*3=n*3+1+1+1 by omega,cr,cr,cr,List.replicate_succ']
  simp only [ct,DW] at ih ⊢
  rw [ih]
  simp only [cVs,ct,List.flatten_append,br,fz,show n*3 % 3=0 by omega,show (n*3+1) % 3=1 by omega,show (n*3+1+1) % 3=2 by omega,jl]
  rfl
theorem AeR:∀ c∈cVs l,C.bel n c:=fun c hc=>by
 obtain ⟨cs,hcs,hc⟩:=List.mem_flatten.1 hc
 obtain ⟨o,_,rfl⟩:=List.mem_map.1 hcs
 cases o with
 | none=>simp [cV] at hc;rcases hc with rfl|rfl|rfl <;> trivial
 | some p=>exact AnH c hc
theorem NV (x:Int) (d:Nat):∀ u∈dDy false x d,Dn u:=fun u hu=>by
 simp only [dDy,et,ew,or_false] at hu
 rcases hu with rfl|rfl|rfl
 ·exact .val _
 ·refine .row fun u hu=>?_
  obtain ⟨v,_,rfl⟩:=List.mem_map.1 hu
  exact .val _
 ·exact .val _
theorem ArF {t:Bool} (o:Option (Int × Nat)):AP (FA t H) (cV o) (dyP (o.getD (0,0))):=by
 cases o with
 | none =>
  show AP (FA t H) _ (dDy false 0 0)
  have e:dDy false 0 0=[.val (.bool false),.row false 1 0 [],.val (.int .i64 0)]:=A.agg.inj LO
  rw [e]
  exact .cons_ (.d fun _=>.val _) (.cons_ .nil (.cons_ (.d fun _=>.val _) .nil_))
 | some p=>exact AP.map_l.2 ⟨rfl,fun j a b ha hb=>by
   have:(dDy false p.1 p.2)[j]?=some b:=hb
   rw [ha] at this
   cases this
   exact .d fun _=>NV _ _ a (gM ha)⟩
theorem AnP {t:Bool} (l:List (Option (Int × Nat))):AP (FA t H) (cVs l) (Ar dyP (gV l)):=by
 induction l with
 | nil=>exact AP.nil_
 | cons o l ih =>
  rw [GX]
  exact (ArF o).app ih
theorem AeS (l:List (Option (Int × Nat))):(gV l).length=l.length:=ad ..
theorem YB {p:Int × Nat} (h:l[i]?=some (some p)):(gV l)[i]?=some p:=by
 unfold gV
 rw [ag,h]
 rfl
theorem Ur {t:Bool} {c:C} {y:D} (hc:c=.own id n) (hH:H[id]?=some (.row ty 3 n (cVs l))) (hy:y=.row t 3 n (Ar dyP (gV l))):FA t H c y:=EI hc hH hy (AnP l)
theorem AeT {t:Bool} {c:C} {y:D} {l:List (Int × Nat)} (hc:c=.own id n) (hH:H[id]?=some (.row ty 3 n ((Ar dyP l).map C.d))) (hy:y=.row t 3 n (Ar dyP l)):FA t H c y :=
 EI hc hH hy (AP.map_l.2 ⟨rfl,fun j a b ha hb=>by
  rw [ha] at hb
  cases hb
  exact .d fun _=>Ce (f:=dyP) (fun p=>NV _ _) l a (gM ha)⟩)
section
variable {P:Program} {G:World→Prop} {o:Oper} {F:Frm} {H:List Ob}
theorem Aac {t e:TypeId} {x y:Operand} {by_:Nat} {k k':IntKind} (ho:o.op=.makeSlice t x y) (hx:F.ev x=.one (.d (.val (.int k (n:Int))))) (hy:F.ev y=.one (.d (.val (.int k' (n:Int))))) (ht:TyS P t e 3) (hz:TyZ P e (.agg #[.bool false,.slice none 0 0,.int .i64 0]) 3 by_) (hn:n≤1000000) (hby:by_≤1000) :
  AU P G o F H (.one (.own H.length n)) [.row e 3 n (cVs (List.replicate n none))]:=by
 have:=Bo (P:=P) (G:=G) (H:=H) ho hx hy ht hz hn hby
 rwa [AnO] at this
theorem Aad {t ty:TypeId} {x:Operand} {p:Int × Nat} (ho:o.op=.load t x) (hx:F.ev x=.one (.ref id (i*3) (some n))) (hH:H[id]?=some (.row ty 3 n (cVs l))) (hp:l[i]?=some (some p)) (hk:TyK P t true 3):AU P G o F H (.agg ((dDy false p.1 p.2).map C.d)) [] :=
 Pg ho hx (.row hH) hk (AkA hp) rfl
theorem AkB {t ty:TypeId} {x y:Operand} {l':List (Option (Int × Nat))} {p:Int × Nat} (ho:o.op=.store t x y) (hx:F.ev x=.one (.ref id (i*3) (some n))) (hH:H[id]?=some (.row ty 3 n (cVs l))) (hy:F.ev y=.agg ((dDy false p.1 p.2).map C.d)) (hty:TyK P t true 3) (hi:i<l.length) (hl:l.set i (some p)=l'):TOk P G o F H .any (H.set id (.row ty 3 n (cVs l'))):=by
 have h3:((dDy false p.1 p.2).map C.d).length=3:=rfl
 have:=Qv (P:=P) (G:=G) ho hx hH rfl (show EY (F.ev y)=some ((dDy false p.1 p.2).map C.d) by rw [hy];rfl) hty rfl (by rw [h3];show i*3+3≤(cVs l).length;rw [AnN];omega)
 rw [h3] at this
 simp only [Ob.cs,Ob.setC] at this
 rw [AeQ p hi,hl] at this
 exact this
end
def LB:Nat:=4096
theorem LBx:LB≤20000:=by decide
def LC:Nat:=9000
theorem Auc:LB≤LC:=by decide
theorem AbN {p:Int × Nat} (hn:Nf p.1 p.2) (h:Cp p=false):Sm p LB LB:=by
 have h1:¬ 4096<max (Bl p.1.natAbs) p.2:=of_decide_eq_false h
 exact ⟨hn,CZ.1 (by unfold LB;omega),by unfold LB;omega⟩
def Lg (vs:List (Option (Int × Nat))) (y:Bk):List (Int × Nat):=if y.kind=0 then [] else y.args.map fun a=>(vs[a.toNat]?.getD none).getD (0,0)
def tkV (ps:List Prt) (bs:List Bk) (ins:List Int) (vs:List (Option (Int × Nat))) (i:Nat):Int × Nat:=match bs[i]? with
 | some y=>Df y (Lg vs y) ps ins
 | none=>(0,0)
def AnQ (ps:List Prt) (bs:List Bk) (ins:List Int) (vs:List (Option (Int × Nat))) (l:List Nat):List (Option (Int × Nat)):=l.foldl (fun v i=>v.set i (some (tkV ps bs ins v i))) vs
def YD (dl:List Nat) (st:List (Int × Nat)) (vs:List (Option (Int × Nat))):List (Option (Int × Nat)):=(dl.zip st).foldl (fun v p=>v.set p.1 (some p.2)) vs
theorem Aae (ps:List Prt) (bs:List Bk) (ins:List Int):∀ (l:List Nat) (vs:List (Option (Int × Nat))),(AnQ ps bs ins vs l).length=vs.length
 | [],vs=>rfl
 | i::l,vs=>by show (AnQ ps bs ins _ l).length=_;rw [Aae ps bs ins l];simp
theorem MH:∀ (dl:List Nat) (st:List (Int × Nat)) (vs:List (Option (Int × Nat))),(YD dl st vs).length=vs.length
 | [],st,vs=>rfl
 | i::dl,[],vs=>rfl
 | i::dl,x::st,vs=>by show (YD dl st _).length=_;rw [MH dl st];simp
theorem AeU (ps:List Prt) (bs:List Bk) (ins:List Int) (vs:List (Option (Int × Nat))) {l:List Nat} {t j:Nat} (h:l[t]?=some j):AnQ ps bs ins vs (l.take (t+1))=(AnQ ps bs ins vs (l.take t)).set j (some (tkV ps bs ins (AnQ ps bs ins vs (l.take t)) j)):=by
 unfold AnQ
 rw [ak,h,dr,io]
 rfl
theorem QT (vs:List (Option (Int × Nat))) {dl:List Nat} {st:List (Int × Nat)} {t j:Nat} {p:Int × Nat} (h:dl[t]?=some j) (h2:st[t]?=some p):YD (dl.take (t+1)) (st.take (t+1)) vs=(YD (dl.take t) (st.take t) vs).set j (some p):=by
 have l1:=(gS.1 h).1
 have l2:=(gS.1 h2).1
 unfold YD
 rw [ak,ak,h,h2,dr,dr,List.zip_append (by simp;omega),io]
 rfl
def IU (ps:List Prt) (bs:List Bk) (st:List (Int × Nat)) (ins:List Int) (t:Nat):List (Option (Int × Nat)):=AnQ ps bs ins (YD (AW bs) st (List.replicate bs.length none)) ((Bb bs).take t)
def Vn (ps:List Prt) (bs:List Bk) (st:List (Int × Nat)) (ins:List Int) (t:Nat):Int × Nat:=tkV ps bs ins (IU ps bs st ins t) ((Bb bs)[t]?.getD 0)
def Eb (ps:List Prt) (bs:List Bk) (st:List (Int × Nat)) (ins:List Int):Bool:=st.any Cp || (List.range (Bb bs).length).any fun t=>Cp (Vn ps bs st ins t)
def OV (ps:List Prt) (bs:List Bk) (st:List (Int × Nat)) (ins:List Int):List (Int × Nat):=gV (IU ps bs st ins (Bb bs).length)
def ApR (bs:List Bk) (i:Nat):Nat:=(((bs[i]?.map Bk.args).getD [])[0]?.getD 0).toNat
def CL (ps:List Prt) (bs:List Bk) (st:List (Int × Nat)) (ins:List Int):List (Int × Nat):=(AW bs).map fun i=>((OV ps bs st ins)[ApR bs i]?).getD (0,0)
theorem FQ (ps:List Prt) (bs:List Bk) (st:List (Int × Nat)) (ins:List Int) (t:Nat):(IU ps bs st ins t).length=bs.length:=by unfold IU;rw [Aae,MH,dz]
theorem GD (h:(Bb bs)[t]?=some j):IU ps bs st ins (t+1)=(IU ps bs st ins t).set j (some (Vn ps bs st ins t)):=by
 unfold Vn
 rw [h]
 exact AeU ps bs ins _ h
theorem WF (ps:List Prt) (bs:List Bk) (st:List (Int × Nat)) (ins:List Int):IU ps bs st ins 0=YD (AW bs) st (List.replicate bs.length none):=rfl
structure Has (vs:List (Option (Int × Nat))) (D:Nat→Prop):Prop where
 at_:∀ i,D i→∃ p,vs[i]?=some (some p)∧Sm p LB LB
theorem Has.set {vs:List (Option (Int × Nat))} {D D':Nat→Prop} (h:Has vs D) {j:Nat} {p:Int × Nat} (hj:j<vs.length) (hp:Sm p LB LB) (hD:∀ i,D' i→D i∨i=j):Has (vs.set j (some p)) D':=⟨fun i hi=>by
 rw [bu]
 by_cases hij:j=i
 ·rw [if_pos hij,if_pos hj]
  exact ⟨p,rfl,hp⟩
 ·rw [if_neg hij]
  rcases hD i hi with h1|h1
  ·exact h.at_ i h1
  ·exact absurd h1.symm hij⟩
theorem Sm.zero (n d:Nat):Sm (0,0) n d:=⟨⟨by decide,fun h=>absurd rfl h⟩,bt n,af d⟩
theorem Ec {l:List (Int × Nat)} {d:Nat} (h:∀ p∈l,Sm p n d) (k:Nat):Sm (l[k]?.getD (0,0)) n d:=by
 cases hk:l[k]? with
 | none=>exact Sm.zero n d
 | some p=>exact h p (gM hk)
theorem ArG {l:List (Int × Nat)} (hl:∀ p∈l,Sm p LB LB) (hv:(y.kind=1∨y.kind=6∨y.kind=11)→DA y.vn y.ve) (hu:y.kind=11→DA y.un y.ue) (hk:y.kind=1∨y.kind=3∨y.kind=4∨y.kind=5∨y.kind=6∨y.kind=7∨y.kind=8∨y.kind=9∨y.kind=10∨y.kind=11):Sm (ZZ y l) LC LC:=by
 have a:=Ec hl 0
 have b:=Ec hl 1
 have sc:∀ {n e:Int},DA n e→Sm (Ac n 0 e) LB LB:=fun h=>by
  obtain ⟨h1,h2,h3,h4⟩:=h
  exact (Sm.shift (n:=32) (by omega) (by omega) (by omega)).more (by decide) (by decide)
 have up:∀ {r:Int × Nat},Sm r LB LB→Sm r LC LC:=fun h=>h.more (by decide) (by decide)
 unfold ZZ
 generalize l[0]?.getD (0,0)=p at a ⊢
 generalize l[1]?.getD (0,0)=q at b ⊢
 rcases hk with h|h|h|h|h|h|h|h|h|h <;> simp only [h,Int.reduceEq,if_true,if_false,reduceIte]
 ·exact up (sc (hv (.inl h)))
 ·exact (Sm.sum a b (by decide:LB≤65536)).more (by decide:LB+LB+1≤LC) Auc
 ·exact (Sm.sum a b.neg (by decide:LB≤65536)).more (by decide:LB+LB+1≤LC) Auc
 ·exact up a.neg
 ·exact (Sm.mul (sc (hv (.inr (.inl h)))) a (by decide:LB≤30000)).more (by decide:LB+LB≤LC) (by decide:LB+LB≤LC)
 ·exact (Sm.mul a b (by decide:LB≤30000)).more (by decide:LB+LB≤LC) (by decide:LB+LB≤LC)
 ·exact up (Sm.min a b)
 ·exact up (Sm.max a b)
 ·exact up a.abs
 ·exact up (Sm.min (Sm.max a (sc (hv (.inr (.inr h))))) (sc (hu h)))
theorem IV (h:Av ps bs os=0) {i:Nat} {y:Bk} (hy:bs[i]?=some y) (hk:y.kind=11):DA y.vn y.ve∧DA y.un y.ue∧Cf (Ac y.vn 0 y.ve).1 (Ac y.vn 0 y.ve).2 (Ac y.un 0 y.ue).1 (Ac y.un 0 y.ue).2≤0:=by
 have h1:=YA h hy
 have ha:=El h hy
 have hv:=Oy h hy (by unfold Ox;rw [hk];rfl)
 unfold Be at h1
 rw [if_neg (by omega),if_neg (not_not_intro ha.2.1)] at h1
 by_cases h3:Ai (y.args.map (Ll (Cm ps.length bs.length y.kind)))=0
 ·rw [if_neg (not_not_intro h3)] at h1
  by_cases h4:Cl y.vn y.ve (Ox y.kind)=0
  ·rw [if_neg (not_not_intro h4)] at h1
   by_cases h5:Cl y.un y.ue (Hm y.kind)=0
   ·rw [if_neg (not_not_intro h5)] at h1
    have hc:Hm y.kind=true:=by unfold Hm;rw [hk];rfl
    rw [hc] at h5
    have hu:=QG h5
    refine ⟨hv,hu,?_⟩
    rw [Yn (IL hv.2.2.1 hv.2.2.2) (IL hu.2.2.1 hu.2.2.2)]
    by_cases h6:0<TR y.vn y.ve y.un y.ue
    ·rw [if_pos ⟨hc,h6⟩] at h1;cases h1
    ·exact Int.not_lt.1 h6
   ·rw [if_pos h5] at h1;exact absurd h1 h5
  ·rw [if_pos h4] at h1;exact absurd h1 h4
 ·rw [if_pos h3] at h1;cases h1
theorem Us (h:Av ps bs os=0) {i:Nat} {y:Bk} (hy:bs[i]?=some y):y.kind=0∨y.kind=1∨y.kind=2∨y.kind=3∨y.kind=4∨y.kind=5∨y.kind=6∨y.kind=7∨y.kind=8∨y.kind=9∨y.kind=10∨y.kind=11:=by
 have:=(El h hy).1
 unfold Ay at this
 (repeat' split at this) <;> omega
theorem Fh (h:bs[i]?=some y):AQ bs i=y.kind:=by unfold AQ;rw [h];rfl
theorem GY (h:bs[i]?=some y) (h0:y.kind≠0):Hl bs i=y.args:=by
 unfold Hl Qy
 rw [Fh h,if_neg h0,h]
 rfl
def ArH (ps:List Prt) (ins:List Int) (i:Nat):Bool:=match ps[i]?,ins[i]? with
 | some p,some z=>decide (p.lo≤z∧z≤p.hi)
 | _,_=>true
def AbO (ps:List Prt) (ins:List Int):Bool:=(List.range ins.length).all (ArH ps ins)
theorem ArI (h:AbO ps ins=true) {i:Nat} {p:Prt} {z:Int} (hp:ps[i]?=some p) (hz:ins[i]?=some z):p.lo≤z∧z≤p.hi:=by
 have:=List.all_eq_true.1 h i (List.mem_range.2 (gS.1 hz).1)
 unfold ArH at this
 rw [hp,hz] at this
 exact of_decide_eq_true this
def SW (bs:List Bk) (t:Nat) (i:Nat):Prop:=(i<bs.length∧AQ bs i=2)∨i∈(Bb bs).take t
structure Tick (ps:List Prt) (bs:List Bk) (ins:List Int) (vs:List (Option (Int × Nat))) (y:Bk):Prop where
 hk:y.kind=0∨y.kind=1∨y.kind=3∨y.kind=4∨y.kind=5∨y.kind=6∨y.kind=7∨y.kind=8∨y.kind=9∨y.kind=10∨y.kind=11
 args:y.kind≠0→∀ (k:Nat) (a:Int),y.args[k]?=some a→∃ p,0≤a∧a.toNat<bs.length∧vs[a.toNat]?=some (some p)∧(Lg vs y)[k]?=some p
 len:y.args.length≤2
 hl:∀ k:Nat,(k=0∧y.kind≠0∧y.kind≠1∨k=1∧(y.kind=3∨y.kind=4∨y.kind=7∨y.kind=8∨y.kind=9))→∃ p i,(Lg vs y)[k]?=some p∧y.args[k]?=some ((i:Nat):Int)∧(gV vs)[i]?=some p
 hs:∀ p∈Lg vs y,Sm p LB LB
 hin:y.kind=0→∃ (i:Nat) (z:Int) (pp:Prt),y.args[0]?=some (i:Int)∧ins[i]?=some z∧ps[i]?=some pp ∧ -9223372036854775808≤z∧z<9223372036854775808 ∧ -100≤pp.fr∧pp.fr≤100
 hsv:(y.kind=1∨y.kind=6∨y.kind=11)→DA y.vn y.ve
 hsu:y.kind=11→DA y.un y.ue
 hcl:y.kind=11→Cf (Ac y.vn 0 y.ve).1 (Ac y.vn 0 y.ve).2 (Ac y.un 0 y.ue).1 (Ac y.un 0 y.ue).2≤0
 sm:Sm (Df y (Lg vs y) ps ins) LC LC
theorem Aiv (he:Av ps bs os=0) {ins:List Int} (hi:AbO ps ins=true) (hil:ins.length=ps.length) {vs:List (Option (Int × Nat))} {j:Nat} {y:Bk} (hy:bs[j]?=some y) (hk2:y.kind≠2) (hv:y.kind≠0→∀ a∈y.args,0≤a→a<(bs.length:Int)→∃ p,vs[a.toNat]?=some (some p)∧Sm p LB LB):Tick ps bs ins vs y:=by
 have hK:=Us he hy
 have hA:=El he hy
 have hlen:y.args.length≤2:=by
  have h1:=hA.1
  have h2:=hA.2.1
  unfold Ay at h1 h2
  (repeat' split at h2) <;> omega
 have args:y.kind≠0→∀ (k:Nat) (a:Int),y.args[k]?=some a→∃ p,0≤a∧a.toNat<bs.length∧vs[a.toNat]?=some (some p)∧(Lg vs y)[k]?=some p∧Sm p LB LB:=fun h0 k a ha=>by
  have hm:=gM ha
  have hb:=hA.2.2 a hm
  rw [show Cm ps.length bs.length y.kind=bs.length from if_neg h0] at hb
  obtain ⟨p,hp,hsm⟩:=hv h0 a hm hb.1 hb.2
  exact ⟨p,hb.1,by omega,hp,by unfold Lg;rw [if_neg h0,ag,ha,bp,hp];rfl,hsm⟩
 have hs:y.kind≠0→∀ p∈Lg vs y,Sm p LB LB:=fun h0 p hp=>by
  obtain ⟨k,hk⟩:=List.mem_iff_getElem?.1 hp
  have hk':=hk
  unfold Lg at hk'
  rw [if_neg h0,ag,dg] at hk'
  obtain ⟨a,ha,_⟩:=hk'
  obtain ⟨q,_,_,_,h4,h5⟩:=args h0 k a ha
  rw [hk] at h4
  cases h4
  exact h5
 have hin:y.kind=0→∃ (i:Nat) (z:Int) (pp:Prt),y.args[0]?=some (i:Int)∧ins[i]?=some z∧ps[i]?=some pp ∧ -9223372036854775808≤z∧z<9223372036854775808 ∧ -100≤pp.fr∧pp.fr≤100:=fun h0=>by
  have h1:=hA.2.1
  rw [h0] at h1
  have hl1:y.args.length=1:=by unfold Ay at h1;(repeat' split at h1) <;> omega
  obtain ⟨a,ha⟩:∃ a,y.args[0]?=some a:=⟨_,gE (by omega)⟩
  have hb:=hA.2.2 a (gM ha)
  rw [show Cm ps.length bs.length y.kind=ps.length from if_pos h0] at hb
  obtain ⟨z,hz⟩:∃ z,ins[a.toNat]?=some z:=⟨_,gE (by omega)⟩
  obtain ⟨p,hp⟩:∃ p,ps[a.toNat]?=some p:=⟨_,gE (by omega)⟩
  have hr:=ArI hi hp hz
  have hpp:=Uo he hp
  have h3 : -2147483648≤p.lo∧p.lo≤p.hi∧p.hi<2147483648∧0≤p.fr∧p.fr≤30:=bz fun hn=>by unfold DI at hpp;rw [if_neg hn] at hpp;cases hpp
  exact ⟨a.toNat,z,p,by rw [ha];congr 1;omega,hz,hp,by omega,by omega,by omega,by omega⟩
 have hsv:(y.kind=1∨y.kind=6∨y.kind=11)→DA y.vn y.ve:=fun h=>Oy he hy (by unfold Ox;rcases h with h|h|h <;> rw [h] <;> rfl)
 have hsu:y.kind=11→DA y.un y.ue:=fun h=>(IV he hy h).2.1
 have h0s:y.kind=0→∀ p∈([]:List (Int × Nat)),Sm p LB LB:=fun _ p hp=>by cases hp
 have hk3:y.kind=0∨y.kind=1∨y.kind=3∨y.kind=4∨y.kind=5∨y.kind=6∨y.kind=7∨y.kind=8∨y.kind=9∨y.kind=10∨y.kind=11:=by clear hin args hs;omega
 refine ⟨hk3,fun h0 k a ha=>?_,hlen,fun k hk=>?_,?_,hin,hsv,hsu,fun h=>(IV he hy h).2.2,?_⟩
 ·obtain ⟨p,h1,h2,h3,h4,_⟩:=args h0 k a ha
  exact ⟨p,h1,h2,h3,h4⟩
 ·have h0:y.kind≠0:=by omega
  have hkl:k<y.args.length:=by
   have h1:=hA.2.1
   unfold Ay at h1
   (repeat' split at h1) <;> omega
  obtain ⟨a,ha⟩:∃ a,y.args[k]?=some a:=⟨_,gE hkl⟩
  obtain ⟨p,h1,h2,h3,h4,_⟩:=args h0 k a ha
  exact ⟨p,a.toNat,h4,by rw [ha];congr 1;omega,YB h3⟩
 ·by_cases h0:y.kind=0
  ·unfold Lg;rw [if_pos h0];exact h0s h0
  ·exact hs h0
 ·unfold Df
  by_cases h0:y.kind=0
  ·rw [if_pos h0]
   obtain ⟨i,z,pp,q1,q2,q3,q4,q5,q6,q7⟩:=hin h0
   rw [q1]
   simp only [bg,ar,q2,q3,bp]
   exact (Sm.shift (n:=64) (by omega) (by omega) (by omega)).more (by decide) (by decide)
  ·rw [if_neg h0]
   exact ArG (hs h0) hsv hsu (by clear hin args hs;omega)
theorem AnR (h:p:=by
 rw [←he,←dm hlt,gh]):p:=h
theorem YE (he:Av ps bs os=0) {ins:List Int} (hi:AbO ps ins=true) (hil:ins.length=ps.length) {vs:List (Option (Int × Nat))} {t j:Nat} (hj:(Bb bs)[t]?=some j) (hv:Has vs (SW bs t)):∃ y,bs[j]?=some y∧y.kind≠2∧Tick ps bs ins vs y:=by
 obtain ⟨hjl,hk2⟩:=FP hj
 obtain ⟨y,hy⟩:∃ y,bs[j]?=some y:=⟨_,gE hjl⟩
 rw [Fh hy] at hk2
 refine ⟨y,hy,hk2,Aiv he hi hil hy hk2 fun h0 a ha a0 a1=>?_⟩
 have hsplit:Bb bs=(Bb bs).take t++j::(Bb bs).drop (t+1):=by
  obtain ⟨hlt,he⟩:=gS.1 hj
  exact AnR
 have hd:=PC hsplit (a:=a) (by rw [GY hy h0];exact ha)
 exact hv.at_ a.toNat (hd.imp (fun h=>⟨by omega,h⟩) id)
theorem ArJ (h:p:=by first|exact Aex rfl rfl rfl hm|exact FZ rfl rfl rfl):p:=h
theorem WG (p:Int × Nat) (hn:Nf p.1 p.2) (lp:(Ad p.1.natAbs).length≤40000) (h:Cp p=false):CV prog An 69 [aDy false p.1 p.2] [aDy false p.1 p.2]:=by
 refine cvz func69 ntmps69 ?_
 have BT:=IR p.1 p.2 hn (lT lp (by decide))
 have hm:max ((Bl p.1.natAbs:Nat):Int) (p.2:Int)=((max (Bl p.1.natAbs) p.2:Nat):Int):=by omega
 have hl:¬ 4096<max (Bl p.1.natAbs) p.2:=of_decide_eq_false h
 repeat' (with_reducible first|refine qq ?_|(refine Tx 0 ?_;refine gN xBo <| gN (xAl Ak) ?_)|(refine BB (id:=1) AJ (by kernel_rfl) ?_;refine gP xL <| gP (xCl func126 (BT)) <| gP xF <| gP xD <| gP ArJ <| gP xGt ?_;refine Ke ?_)|(refine Tx 3 ?_;refine gO xL <| gZ (xSk Ab) ?_))
 exact Lf
theorem SZ (p:Int × Nat) (hn:Nf p.1 p.2) (lp:(Ad p.1.natAbs).length≤40000) (h:Cp p=true):CVP prog An 69 [aDy false p.1 p.2] tlC:=by
 refine AqP TX func69 rfl ntmps69 (bl rfl) ?_
 have BT:=IR p.1 p.2 hn (lT lp (by decide))
 have hm:max ((Bl p.1.natAbs:Nat):Int) (p.2:Int)=((max (Bl p.1.natAbs) p.2:Nat):Int):=by omega
 have hl:4096<max (Bl p.1.natAbs) p.2:=of_decide_eq_true h
 repeat' (with_reducible first|(refine AdN (id:=2) (chain:=tlC) 2 (by kernel_rfl) (by with_unfolding_all exact rfl) (by with_unfolding_all exact rfl) ?_;dsimp only [List.take];refine gO (by exact AH rfl AbM rfl rfl) <| gO (by exact Yd rfl rfl underlying135 rfl) ?_;refine Je ?_;exact ⟨by with_unfolding_all exact AhL rfl rfl,by with_unfolding_all exact rfl⟩)|refine qq ?_|(refine Tx 0 ?_;refine gN xBo <| gN (xAl Ak) ?_)|(refine BB (id:=1) AJ (by kernel_rfl) ?_;refine gP xL <| gP (xCl func126 (BT)) <| gP xF <| gP xD <| gP ArJ <| gP xGt ?_;refine Ke ?_))
theorem Ij {l:List Nat} (h:l[t]?=some j):(Br l)[t]?=some (j:Int):=by simp [Br,h]
def okQ {α:Type} (e:Int) (l:List α):List α:=if e=0 then l else []
theorem Ed {α:Type} (h:e≠0) (l:List α):okQ e l=[]:=if_neg h
theorem NW {α:Type} (h:e=0) (l:List α):okQ e l=l:=if_pos h
def ApS (l:List (Int × Nat)):A:=.one (.row false 3 l.length (Ar dyP l))
def rvP (r:Rv):Int × Nat:=(r.rw.x,r.rw.d)
def AcP (rs:List Rv):D:=.row false 3 rs.length (Ar (dRv false) rs)
theorem YF {rs:List Rv} {k:Nat} (h:rs[k]?=some r):((Ar (dRv false) rs).drop (k*3)).take 3=dRv false r:=EO (f:=dRv false) (s:=3) (fun _=>rfl) h
def stE (ps:List Prt) (bs:List Bk) (os:List Int) (rs:List Rv) (ins:List Int):Int :=
 if Av ps bs os≠0 then Av ps bs os else if rs.length≠(AW bs).length then 11 else if rs.all (fun r=>vdB r.rw)=false then 2
 else if ins.length≠ps.length then 11 else if AbO ps ins=false then 3 else if Eb ps bs (rs.map rvP) ins=true then 4 else 0
section
variable {ps:List Prt} {bs:List Bk} {os:List Int} {rs:List Rv} {ins:List Int}
theorem stE1 (h:Av ps bs os≠0):stE ps bs os rs ins=Av ps bs os:=by unfold stE;rw [if_pos h]
theorem stE2 (h:Av ps bs os=0) (h2:rs.length≠(AW bs).length):stE ps bs os rs ins=11:=by unfold stE;rw [if_neg (not_not_intro h),if_pos h2]
theorem stE3 (h:Av ps bs os=0) (h2:rs.length=(AW bs).length) (h3:rs.all (fun r=>vdB r.rw)=false):stE ps bs os rs ins=2:=by unfold stE;rw [if_neg (not_not_intro h),if_neg (not_not_intro h2),if_pos h3]
theorem stE4 (h:Av ps bs os=0) (h2:rs.length=(AW bs).length) (h3:¬ rs.all (fun r=>vdB r.rw)=false) (h4:ins.length≠ps.length):stE ps bs os rs ins=11:=by unfold stE;rw [if_neg (not_not_intro h),if_neg (not_not_intro h2),if_neg h3,if_pos h4]
theorem stE5 (h:Av ps bs os=0) (h2:rs.length=(AW bs).length) (h3:¬ rs.all (fun r=>vdB r.rw)=false) (h4:ins.length=ps.length) (h5:AbO ps ins=false):stE ps bs os rs ins=3:=by unfold stE;rw [if_neg (not_not_intro h),if_neg (not_not_intro h2),if_neg h3,if_neg (not_not_intro h4),if_pos h5]
theorem stE6 (h:Av ps bs os=0) (h2:rs.length=(AW bs).length) (h3:¬ rs.all (fun r=>vdB r.rw)=false) (h4:ins.length=ps.length) (h5:¬ AbO ps ins=false):stE ps bs os rs ins=if Eb ps bs (rs.map rvP) ins=true then 4 else 0:=by unfold stE;rw [if_neg (not_not_intro h),if_neg (not_not_intro h2),if_neg h3,if_neg (not_not_intro h4),if_neg h5]
end
theorem Ev {α:Type} {p:α→Prop} {l:List α} {k:Nat} {x:α} (h:∀ q∈l.take k,p q) (hx:l[k]?=some x) (hp:p x):∀ q∈l.take (k+1),p q:=fun q hq=>by
 rw [ak,hx] at hq
 rcases List.mem_append.1 hq with hq|hq
 ·exact h q hq
 ·simp only [dr,et,ew,or_false] at hq
  rw [hq];exact hp
theorem Ut {p:Nat→Prop} {k:Nat} (h:∀ i,i<k→p i) (hk:p k):∀ i,i<k+1→p i:=fun i hi=>by
 by_cases hik:i=k
 ·rw [hik];exact hk
 ·exact h i (by omega)
theorem AnS {rs:List Rv} {k:Nat} (h:rs[k]?=some r) (hv:vdB r.rw=false):rs.all (fun r=>vdB r.rw)=false:=by
 rw [mb]
 exact ⟨r,gM h,by rw [hv];decide⟩
theorem AeV {k:Nat} {p:Prt} {z:Int} (hp:ps[k]?=some p) (hz:ins[k]?=some z) (h:z<p.lo∨p.hi<z):AbO ps ins=false:=by
 unfold AbO
 rw [mb]
 refine ⟨k,List.mem_range.2 (gS.1 hz).1,?_⟩
 unfold ArH
 rw [hp,hz]
 simp only [decide_eq_true_eq]
 omega
theorem AnT {k:Nat} {p:Int × Nat} (h:st[k]?=some p) (hl:Cp p=true):Eb ps bs st ins=true:=by
 unfold Eb
 rw [de]
 exact .inl (List.any_eq_true.2 ⟨p,gM h,hl⟩)
theorem AnU (h:t<(Bb bs).length) (hl:Cp (Vn ps bs st ins t)=true):Eb ps bs st ins=true:=by
 unfold Eb
 rw [de]
 exact .inr (List.any_eq_true.2 ⟨t,List.mem_range.2 h,hl⟩)
theorem AeW (h1:∀ p∈st,Cp p=false) (h2:∀ t,t<(Bb bs).length→Cp (Vn ps bs st ins t)=false):Eb ps bs st ins=false:=by
 unfold Eb
 rw [je]
 exact ⟨List.any_eq_false.2 fun p hp=>by rw [h1 p hp];decide,List.any_eq_false.2 fun t ht=>by rw [h2 t (List.mem_range.1 ht)];decide⟩
theorem AeX (hn:∀ p∈st,Nf p.1 p.2∧Cp p=false) (hl:st.length=(AW bs).length):Has (YD (AW bs) st (List.replicate bs.length none)) (SW bs 0):=by
 have key:∀ t,t≤(AW bs).length→Has (YD ((AW bs).take t) (st.take t) (List.replicate bs.length none)) (fun i=>i∈(AW bs).take t):=fun t=>by
  induction t with
  | zero=>intro _;exact ⟨fun i hi=>by simp at hi⟩
  | succ t ih =>
   intro ht
   obtain ⟨j,hj⟩:∃ j,(AW bs)[t]?=some j:=⟨_,gE (by omega)⟩
   obtain ⟨p,hp⟩:∃ p,st[t]?=some p:=⟨_,gE (by omega)⟩
   obtain ⟨h1,h2⟩:=hn p (gM hp)
   rw [QT _ hj hp]
   refine (ih (by omega)).set (by rw [MH,dz];have:=gM hj;unfold AW at this;rw [iq,gc] at this;exact this.1) (AbN h1 h2) fun i hi=>?_
   rw [ak,hj] at hi
   simpa using hi
 have h:=key (AW bs).length (aa _)
 rw [az,am (by omega)] at h
 refine ⟨fun i hi=>h.at_ i ?_⟩
 rcases hi with ⟨h1,h2⟩|h1
 ·unfold AW
  rw [iq,gc,h2]
  exact ⟨h1,rfl⟩
 ·simp at h1
theorem Aaf (h:Has (IU ps bs st ins t) (SW bs t)) (hj:(Bb bs)[t]?=some j) (hsm:Sm (Vn ps bs st ins t) LB LB):Has (IU ps bs st ins (t+1)) (SW bs (t+1)):=by
 rw [GD hj]
 refine h.set (by rw [FQ];exact (FP hj).1) hsm fun i hi=>?_
 rcases hi with h1|h1
 ·exact .inl (.inl h1)
 ·rw [ak,hj] at h1
  rcases List.mem_append.1 h1 with h1|h1
  ·exact .inl (.inr h1)
  ·exact .inr (by simpa using h1)
theorem FS {k:Nat} (h:(AW bs)[k]?=some i):i<bs.length∧AQ bs i=2:=by
 have:=gM h
 unfold AW at this
 rw [iq,gc] at this
 exact ⟨this.1,by simpa using this.2⟩
theorem ArK (h:p:=by
 by_cases hk:AQ bs i=2
 ·exact .inl ⟨hi,hk⟩
 ·refine .inr ?_
  rw [az]
  exact Yu (FK he).2.2 hi hk):p:=h
theorem AeY (he:Av ps bs os=0) {st:List (Int × Nat)} {ins:List Int} (h:Has (IU ps bs st ins (Bb bs).length) (SW bs (Bb bs).length)) {i:Nat} (hi:i<bs.length):∃ p,(IU ps bs st ins (Bb bs).length)[i]?=some (some p)∧Sm p LB LB:=by
 refine h.at_ i ?_
 exact ArK
theorem AeZ (w:World) (S:Dm):Ba w S (.row false 3 0 []) (.slice none 0 0):=.row [] (aa _) (fun _=>rfl) rfl rfl (fun h=>absurd rfl h) (fun j u x h=>by simp at h)
theorem Uu (h:Av ps bs os=0) {i:Nat} {y:Bk} (hy:bs[i]?=some y) (hk:y.kind=2):∃ b:Nat,y.args[0]?=some (b:Int)∧b<bs.length:=by
 have hA:=El h hy
 have h1:=hA.2.1
 rw [hk] at h1
 have hl1:y.args.length=1:=by unfold Ay at h1;(repeat' split at h1) <;> omega
 obtain ⟨a,ha⟩:∃ a,y.args[0]?=some a:=⟨_,gE (by omega)⟩
 have hb:=hA.2.2 a (gM ha)
 rw [show Cm ps.length bs.length y.kind=bs.length from if_neg (by omega)] at hb
 exact ⟨a.toNat,by rw [ha];congr 1;omega,by omega⟩
theorem QU {b:Nat} (hy:bs[i]?=some y) (ha:y.args[0]?=some (b:Int)):ApR bs i=b:=by
 unfold ApR
 rw [hy,bp,bg,ha]
 rfl
theorem NX (h:p:=by first|exact xS1 Ao|exact xSk Ao):p:=h
theorem AbP (h:p:=by first|exact xS1 FD|exact xSk FD):p:=h
theorem ArL (h:p:=by
 rw [hE,Ed (by decide),Ed (by decide)]
 repeat' (with_reducible first|apply Ga|refine qq ?_|(refine Tx 15 ?_;refine gO xLt ?_)|(refine Tx 16 ?_;refine gO xM <| gO (xIr Aa (AF hz)) <| gO xD <| gO xA <| gO xA ?_)|(refine Tx 17 ?_;refine gO xM <| gO xF <| gO xD <| gO xM <| gO (xIr BG (Gz hp)) <| gO xF <| gO xD <| gO xLt <| gO xM ?_;(first|iterate 8 refine Jd ?_|(refine Jy xM1 ?_;refine Jy (xFa LH DF) ?_;refine Jy (xLd DF) ?_;refine Jy xM1 ?_;refine Jy (xIr BG (Gz hp)) ?_;refine Jy (xFa IJ Al) ?_;refine Jy (xLd Al) ?_;refine Jy xGt ?_));refine gO xPk ?_)|(refine Tx 18 ?_;refine gO (xMi underlying85) <| gZ NX <| gZ NX <| gZ AbP ?_))
 exact AN rfl (.cons_ (rvB Ao (FI rfl rfl)) (.cons_ (rvB Ao (FI rfl rfl)) (.cons_ (rvB FD (Bp rfl fun _=>.val _)) .nil_)))):p:=h
theorem Aiw (h:p:=by
 exact AN rfl (.cons_ (rvB Ao (FI rfl rfl)) (.cons_ (rvB Ao (FI rfl rfl)) (.cons_ (rvB FD (Bp rfl fun _=>.val _)) .nil_)))):p:=h
theorem ArM (h:p:=by first|exact xIr Aa (AF (Ij hi))|exact xIr Aa (hra)|exact xIo (i:=i) Aa):p:=h
theorem ArN (h:p:=by first|exact xIr Aa (AF (Ij hj))|exact xIo (i:=j) Aa):p:=h
theorem ArO (h:p:=by first|exact AkB rfl rfl rfl rfl Ab tl stV|exact xSk Ab):p:=h
theorem ArP (h:p:=by first|exact xIr Ap (Gc hy)|exact xIo (i:=j) Ap):p:=h
theorem Aix (h:p:=by first|exact xIr Af (hra)|exact xIo (i:=i) Af):p:=h
theorem Aiy (h:p:=by first|exact xNt|exact xNg):p:=h
theorem Aiz (t v:Bool) {ps:List Prt} {bs:List Bk} {os:List Int} (hl:EF ps bs os) (rs:List Rv) (hw:∀ r∈rs,Az r.ws∧r.ws.length≤1000) (hrl:rs.length≤1000000) (ins:List Int) (hil:ins.length≤17592186044416):CV prog An 26 [aDg t ps bs os,.one (AcP rs),.one (AM v ins)] [ApS (okQ (stE ps bs os rs ins) (CL ps bs (rs.map rvP) ins)),ApS (okQ (stE ps bs os rs ins) (OV ps bs (rs.map rvP) ins)),aE (stE ps bs os rs ins)]:=by
 refine AqQ TX func26 rfl ntmps26 (bl rfl) (fc:=68) func68 (by kernel_rfl) rfl (i1:=1) (i2:=2) (i3:=3) (t1:=6) (t2:=7) (t3:=8) (chain:=tlC) (d1:=.row false 3 0 []) (d2:=.row false 3 0 []) (d3:=.val (EK 4)) (r1:=.slice none 0 0) (r2:=.slice none 0 0) (r3:=.iface 85 (.int .i64 4)) results26 underlying28 underlying28 underlying36 rfl rfl rfl (by decide) (fun w g1 g2 g3=>(AeI g1 g2 g3 w).mono fun e u' w' h=>⟨⟨_,h.1⟩,h.2.1,h.2.2 ▸ ah _ _⟩) (fun b0 w g1 g2 g3 v1 v2 v3 a1 a2 a3 a4 a5 a6 a7 a8 a9 b1=>AeJ b0 w g1 g2 g3 v1 v2 v3 a1 a2 a3 a4 a5 a6 a7 a8 a9 b1) (fun w S=>AeZ w S) (fun w S=>AeZ w S) (fun w S=>.val rfl) ?_
 have DL:=(Ih t hl (ps:=ps) (bs:=bs) (os:=os)).cv
 have OL:=(PD t hl (ps:=ps) (bs:=bs) (os:=os)).cv
 have hnl:=Cb (AW bs)
 have hol:=Cb (Bb bs)
 have hl1:=hl.l1
 have hl2:=hl.l2
 have hl3:=hl.l3
 have hob:=Up (bs:=bs)
 by_cases h0:Av ps bs os=0
 case neg =>
  rw [if_neg h0] at DL
  have hE:=stE1 (rs:=rs) (ins:=ins) h0
  rw [hE,Ed h0,Ed h0]
  repeat' (with_reducible first|apply Ga|refine qq ?_|(refine Tx 0 ?_;refine gN xBo <| gN (xAl CS) <| gN (xAl CS) <| gN (xAl TJ) ?_)|(refine Tx 1 ?_;refine gO xL <| gO (xCl func36 (DL)) <| gO xMt <| gO xEx <| gO xEx <| gO xA <| gO xA ?_)|(refine Tx 2 ?_;refine gO xM <| gO (xNE Ag) ?_)|(refine Tx 3 ?_;refine gO xM <| gZ NX <| gZ NX <| gZ AbP ?_))
  exact Aiw
 rw [if_pos h0,h0] at DL
 rw [if_pos h0,h0] at OL
 by_cases hL:rs.length=(AW bs).length
 case neg =>
  have hE:=stE2 (os:=os) (ins:=ins) h0 hL
  rw [hE,Ed (by decide),Ed (by decide)]
  repeat' (with_reducible first|apply Ga|refine qq ?_|(refine Tx 0 ?_;refine gN xBo <| gN (xAl CS) <| gN (xAl CS) <| gN (xAl TJ) ?_)|(refine Tx 1 ?_;refine gO xL <| gO (xCl func36 (DL)) <| gO xMt <| gO xEx <| gO xEx <| gO xA <| gO xA ?_)|(refine Tx 2 ?_;refine gO xM <| gO (xNE Ag) ?_)|(refine Tx 4 ?_;refine gO xM <| gO xN <| gO xM <| gO xN <| gO xNe ?_)|(refine Tx 5 ?_;refine gO (xMi underlying85) <| gZ NX <| gZ NX <| gZ AbP ?_))
  exact Aiw
 repeat' (with_reducible first|apply Ga|refine qq ?_|(refine Tx 0 ?_;refine gN xBo <| gN (xAl CS) <| gN (xAl CS) <| gN (xAl TJ) ?_)|(refine Tx 1 ?_;refine gO xL <| gO (xCl func36 (DL)) <| gO xMt <| gO xEx <| gO xEx <| gO xA <| gO xA ?_)|(refine Tx 2 ?_;refine gO xM <| gO (xNE Ag) ?_)|(refine Tx 4 ?_;refine gO xM <| gO xN <| gO xM <| gO xN <| gO xNe ?_)|(refine Tx 6 ?_;refine gO xM <| gO xN <| gO xM ?_))
 refine AY (Bz 4) (Aq (fun n Fr H=>∃ k:Nat,k≤rs.length∧n=rs.length - k∧(∀ r∈rs.take k,vdB r.rw=true)∧Fr=ofL [(1,vd (AcP rs)),(2,vd (AM v ins)),(3,vr 0),(6,vr 1),(7,vr 2),(8,vr 3),(9,vd (AM false (Br (AW bs)))),(36,vd (AcP rs)),(37,vi rs.length),(38,vi ((k:Nat)))]∧H=[.box 26 [.d (CU t ps),.d (Dw t bs),.d (AM t os)],.box 28 [.d (.val (.slice none 0 0))],.box 28 [.d (.val (.slice none 0 0))],.box 36 [.d (.val .nilIface)]]) (n0:=rs.length) ⟨0,af _,rfl,(fun r hr=>by simp at hr),rfl,rfl⟩ ?_)
 rintro n Fr H ⟨k,hk,rfl,hv,rfl,rfl⟩
 by_cases hlt:k<rs.length
 case pos =>
  obtain ⟨r,hr⟩:∃ r,rs[k]?=some r:=⟨_,gE hlt⟩
  have hrm:=hw r (gM hr)
  have VA:=MD (G:=An) false r hrm.1 (by omega)
  cases hb:vdB r.rw
  case false =>
   rw [hb] at VA
   have hE:=stE3 (os:=os) (ins:=ins) h0 hL (AnS hr hb)
   rw [hE,Ed (by decide),Ed (by decide)]
   repeat' (with_reducible first|apply Ga|refine qq ?_|(refine Tx 7 ?_;refine gO xLt ?_)|(refine Tx 8 ?_;refine gO (xIr Af (YF hr)) <| gO xL <| gN (xAl Ak) <| gZ (xSk Ab) ?_)|(refine Tx 9 ?_;refine gO xL <| gO (xCl func58 (VA.cv)) <| gO Aiy ?_)|(refine Tx 10 ?_;refine gO (xMi underlying85) <| gZ NX <| gZ NX <| gZ AbP ?_))
   exact Aiw
  case true =>
   rw [hb] at VA
   repeat' (with_reducible first|apply Ga|refine qq ?_|(refine Tx 7 ?_;refine gO xLt ?_)|(refine Tx 8 ?_;refine gO (xIr Af (YF hr)) <| gO xL <| gN (xAl Ak) <| gZ (xSk Ab) ?_)|(refine Tx 9 ?_;refine gO xL <| gO (xCl func58 (VA.cv)) <| gO Aiy ?_)|(refine Tx 11 ?_;refine gO xAd <| gO xM ?_))
   refine ⟨_,_,Bz 4,_,by omega,k+1,by omega,rfl,Ev hv hr hb,rfl,rfl⟩
 obtain rfl:k=rs.length:=by omega
 rw [az] at hv
 clear hlt hk
 have hva:¬ rs.all (fun r=>vdB r.rw)=false:=by rw [jm];exact List.all_eq_true.2 hv
 by_cases hI:ins.length=ps.length
 case neg =>
  have hE:=stE4 (os:=os) h0 hL hva hI
  rw [hE,Ed (by decide),Ed (by decide)]
  repeat' (with_reducible first|apply Ga|refine qq ?_|(refine Tx 7 ?_;refine gO xLt ?_)|(refine Tx 12 ?_;refine gO xM <| gO xN <| gO xF <| gO xD <| gO xN <| gO xNe ?_)|(refine Tx 13 ?_;refine gO (xMi underlying85) <| gZ NX <| gZ NX <| gZ AbP ?_))
  exact Aiw
 repeat' (with_reducible first|apply Ga|refine qq ?_|(refine Tx 7 ?_;refine gO xLt ?_)|(refine Tx 12 ?_;refine gO xM <| gO xN <| gO xF <| gO xD <| gO xN <| gO xNe ?_)|(refine Tx 14 ?_;refine gO xM <| gO xN <| gO xM ?_))
 refine AY (Bz 4) (Aq (fun n Fr H=>∃ k:Nat,k≤ins.length∧n=ins.length - k∧(∀ i,i<k→ArH ps ins i=true)∧Fr=ofL [(1,vd (AcP rs)),(2,vd (AM v ins)),(3,vr 0),(6,vr 1),(7,vr 2),(8,vr 3),(9,vd (AM false (Br (AW bs)))),(54,vd (AM v ins)),(55,vi ins.length),(56,vi ((k:Nat)))]∧H=[.box 26 [.d (CU t ps),.d (Dw t bs),.d (AM t os)],.box 28 [.d (.val (.slice none 0 0))],.box 28 [.d (.val (.slice none 0 0))],.box 36 [.d (.val .nilIface)]]) (n0:=ins.length) ⟨0,af _,rfl,(fun i hi=>absurd hi (fm i)),rfl,rfl⟩ ?_)
 rintro n Fr H ⟨k,hk,rfl,hr,rfl,rfl⟩
 by_cases hlt:k<ins.length
 case pos =>
  obtain ⟨z,hz⟩:∃ z,ins[k]?=some z:=⟨_,gE hlt⟩
  obtain ⟨p,hp⟩:∃ p,ps[k]?=some p:=⟨_,gE (by omega)⟩
  by_cases cl:z<p.lo
  case pos =>
   have hE:=stE5 (os:=os) h0 hL hva hI (AeV hp hz (.inl cl))
   exact ArL
  by_cases ch:p.hi<z
  case pos =>
   have hE:=stE5 (os:=os) h0 hL hva hI (AeV hp hz (.inr ch))
   exact ArL
  repeat' (with_reducible first|apply Ga|refine qq ?_|(refine Tx 15 ?_;refine gO xLt ?_)|(refine Tx 16 ?_;refine gO xM <| gO (xIr Aa (AF hz)) <| gO xD <| gO xA <| gO xA ?_)|(refine Tx 17 ?_;refine gO xM <| gO xF <| gO xD <| gO xM <| gO (xIr BG (Gz hp)) <| gO xF <| gO xD <| gO xLt <| gO xM ?_;(first|iterate 8 refine Jd ?_|(refine Jy xM1 ?_;refine Jy (xFa LH DF) ?_;refine Jy (xLd DF) ?_;refine Jy xM1 ?_;refine Jy (xIr BG (Gz hp)) ?_;refine Jy (xFa IJ Al) ?_;refine Jy (xLd Al) ?_;refine Jy xGt ?_));refine gO xPk ?_)|(refine Tx 19 ?_;refine gO xAd <| gO xM ?_))
  refine ⟨_,_,Bz 4,_,by omega,k+1,by omega,rfl,Ut hr (by unfold ArH;rw [hp,hz];exact decide_eq_true (by omega)),rfl,rfl⟩
 obtain rfl:k=ins.length:=by omega
 clear hlt hk
 have hin:AbO ps ins=true:=List.all_eq_true.2 fun i hi=>hr i (List.mem_range.1 hi)
 clear hr
 have hino:¬ AbO ps ins=false:=by rw [hin];decide
 have hE:=stE6 (os:=os) h0 hL hva hI hino
 repeat' (with_reducible first|refine AdP ?_|apply Ga|refine qq ?_|(refine Tx 15 ?_;refine gO xLt ?_)|(refine Tx 20 ?_;refine gO xL <| gO (xCl func35 (OL)) <| gO xMt <| gO xEx <| gO xEx <| gO xA <| gO xA ?_)|(refine Tx 21 ?_;refine gO xM <| gO (xNE Ag) ?_))
 intro g1 g2 g3
 have hnf:∀ p∈rs.map rvP,Nf p.1 p.2∧(Ad p.1.natAbs).length≤1000:=fun p hp=>by
  obtain ⟨r,hr,rfl⟩:=List.mem_map.1 hp
  have h1:=Yx (t:=false) (hw r hr).1 (hv r hr)
  exact ⟨h1.2.1,lT (dp h1.2.2) (hw r hr).2⟩
 have hsl:(rs.map rvP).length=(AW bs).length:=by rw [ad];exact hL
 repeat' (with_reducible first|refine qq ?_|(refine Tx 24 ?_;refine gO xF <| gO xD <| gO xN <| gN (by first|exact Aac (n:=bs.length) rfl rfl rfl Af Ak (by omega) (by decide)|exact Bo rfl rfl rfl Af Ak (by omega) (by decide)) <| gZ NX ?_)|(refine Tx 25 ?_;refine gO xM <| gO xN <| gO xM ?_))
 refine AY (Bz 5 (h:=by rw [←hnl];exact mB rfl rfl)) (Aq (fun n Fr H=>∃ k:Nat,k≤(AW bs).length∧n=(AW bs).length - k∧(∀ p∈(rs.map rvP).take k,Cp p=false)∧Fr=ofL [(1,vd (AcP rs)),(2,vd (AM v ins)),(3,vr 0),(6,vr 1),(7,vr 2),(8,vr 3),(9,vd (AM false (Br (AW bs)))),(15,vd (AM false (Br (Bb bs)))),(155,AmJ 1 2 3 g1 g2 g3),(94,vd (AM false (Br (AW bs)))),(95,vi ((AW bs).length)),(96,vi ((k:Nat)))]∧H=[.box 26 [.d (CU t ps),.d (Dw t bs),.d (AM t os)],.box 28 [.d (.val (.slice none 0 0))],.box 28 [.own 4 bs.length],.box 36 [.d (.val .nilIface)],.row 43 3 bs.length (cVs (YD ((AW bs).take (k)) ((rs.map rvP).take (k)) (List.replicate bs.length none)))]) (n0:=(AW bs).length) ⟨0,af _,rfl,(fun r hr=>by simp at hr),rfl,rfl⟩ ?_)
 rintro n Fr H ⟨k,hk,rfl,hnl2,rfl,rfl⟩
 by_cases hlt:k<(AW bs).length
 case pos =>
  obtain ⟨i,hi⟩:∃ i,(AW bs)[k]?=some i:=⟨_,gE hlt⟩
  obtain ⟨r,hr⟩:∃ r,rs[k]?=some r:=⟨_,gE (by omega)⟩
  have hrm:=gM hr
  have hdy:=Yx (t:=false) (hw r hrm).1 (hv r hrm)
  have hst:(rs.map rvP)[k]?=some (rvP r):=by rw [ag,hr];rfl
  have hra:=YF hr
  rw [hdy.1] at hra
  have lp:(Ad (rvP r).1.natAbs).length≤40000:=lT (dp hdy.2.2) (by have:=(hw r hrm).2;omega)
  have hil2:=(FS hi).1
  have hn2:Nf (rvP r).1 (rvP r).2:=hdy.2.1
  have hra:((Ar (dRv false) rs).drop (k*3)).take 3=dDy false (rvP r).1 (rvP r).2:=hra
  generalize rvP r=p at *
  by_cases hlg:Cp p=true
  case pos =>
   have PB:=SZ p hn2 lp hlg
   rw [AnT hst hlg,if_pos rfl] at hE
   rw [hE,Ed (by decide),Ed (by decide)]
   repeat' (with_reducible first|(refine AdO (id:=28) (chain:=tlC) 6 AJ (by kernel_rfl) ?_ ?_;refine Po (xLd Ao) ?_;refine Po xM1 ?_;refine Po xM1 ?_;refine Po xM1 ?_;refine Po Aix ?_;refine Po (xLa Ab) ?_;refine Pp (xPn func69 PB) ?_;refine Pd ?_;(first|refine Pd ?_|refine Po Aix ?_);refine Pd ?_;exact Pe;with_unfolding_all exact And.intro (by with_unfolding_all exact rfl) (Or.inr (And.intro rfl (And.intro ⟨rfl,rfl,rfl⟩ (And.intro ⟨(by with_unfolding_all exact rfl),(by with_unfolding_all exact rfl),(by with_unfolding_all exact rfl)⟩ ⟨⟨_,(by with_unfolding_all exact rfl)⟩,⟨_,(by with_unfolding_all exact rfl)⟩,⟨_,(by with_unfolding_all exact rfl)⟩⟩)))))|refine qq ?_|(refine Tx 26 ?_;refine gO xLt ?_)|(refine Tx 27 ?_;refine gO xM <| gO ArM <| gO xD <| gO xA <| gO xA ?_))
  rw [ci] at hlg
  have PB:=WG p hn2 lp hlg
  have SH:=Bj p.1 p.2 0 hn2 (lT lp (by decide)) (by have:=hn2.1;omega)
  rw [Dx hn2] at SH
  have tl:i<(YD ((AW bs).take (k)) ((rs.map rvP).take (k)) (List.replicate bs.length none)).length:=by rw [MH,dz];exact hil2
  have stV:(YD ((AW bs).take (k)) ((rs.map rvP).take (k)) (List.replicate bs.length none)).set i (some p)=(YD ((AW bs).take (k+1)) ((rs.map rvP).take (k+1)) (List.replicate bs.length none)):=(QT _ hi hst).symm
  repeat' (with_reducible first|refine qq ?_|(refine Tx 26 ?_;refine gO xLt ?_)|(refine Tx 27 ?_;refine gO xM <| gO ArM <| gO xD <| gO xA <| gO xA ?_)|(refine AE (id:=28) 9 AJ (by kernel_rfl) ?_;dsimp only [List.take,List.drop];refine gP xD <| gP xM <| gP xM <| gP xM <| gP Aix <| gP xL <| gP (xCl func69 (PB)) <| gP (xCl func27 (SH)) <| gP Aix ?_;refine Ke ?_;refine gZ ArO ?_)|(refine Tx 29 ?_;refine gO xAd <| gO xM ?_))
  refine ⟨_,_,Bz 5,_,by omega,k+1,by omega,rfl,Ev hnl2 hst hlg,rfl,rfl⟩
 obtain rfl:k=(AW bs).length:=by omega
 clear hlt hk
 rw [am (by omega)] at hnl2
 have HD:=AeX (bs:=bs) (st:=(rs.map rvP)) (fun p hp=>⟨(hnf p hp).1,hnl2 p hp⟩) hsl
 rw [←WF ps bs (rs.map rvP) ins] at HD
 rw [az,am (l:=(rs.map rvP)) (by omega),←WF ps bs (rs.map rvP) ins]
 repeat' (with_reducible first|refine qq ?_|(refine Tx 26 ?_;refine gO xLt ?_)|(refine Tx 30 ?_;refine gO xM <| gO xN <| gO xM ?_))
 refine AY (Bz 5 (h:=by rw [←hol];exact mB rfl rfl)) (Aq (fun n Fr H=>∃ k:Nat,k≤(Bb bs).length∧n=(Bb bs).length - k∧Has (IU ps bs (rs.map rvP) ins (k)) (SW bs k)∧(∀ s,s<k→Cp (Vn ps bs (rs.map rvP) ins s)=false)∧Fr=ofL [(1,vd (AcP rs)),(2,vd (AM v ins)),(3,vr 0),(6,vr 1),(7,vr 2),(8,vr 3),(9,vd (AM false (Br (AW bs)))),(15,vd (AM false (Br (Bb bs)))),(155,AmJ 1 2 3 g1 g2 g3),(111,vd (AM false (Br (Bb bs)))),(112,vi ((Bb bs).length)),(113,vi ((k:Nat)))]∧H=[.box 26 [.d (CU t ps),.d (Dw t bs),.d (AM t os)],.box 28 [.d (.val (.slice none 0 0))],.box 28 [.own 4 bs.length],.box 36 [.d (.val .nilIface)],.row 43 3 bs.length (cVs (IU ps bs (rs.map rvP) ins (k)))]) (n0:=(Bb bs).length) ⟨0,af _,rfl,HD,(fun s hs=>absurd hs (fm s)),rfl,rfl⟩ ?_)
 rintro n Fr H ⟨k,hk,rfl,HK,hgd,rfl,rfl⟩
 by_cases hlt:k<(Bb bs).length
 case pos =>
  obtain ⟨j,hj⟩:∃ j,(Bb bs)[k]?=some j:=⟨_,gE hlt⟩
  obtain ⟨y,hy,hk2,T⟩:=YE h0 hin hI hj HK
  have hjl:=(FP hj).1
  have hvn:Vn ps bs (rs.map rvP) ins k=Df y (Lg (IU ps bs (rs.map rvP) ins (k)) y) ps ins:=by unfold Vn tkV;rw [hj];simp only [bg];rw [hy]
  have hgl:(gV (IU ps bs (rs.map rvP) ins (k))).length=bs.length:=by rw [AeS,FQ]
  have BL:=AeL t v ps bs os y (gV (IU ps bs (rs.map rvP) ins (k))) (Lg (IU ps bs (rs.map rvP) ins (k)) y) ins T.hk (by have:=T.len;omega) (by omega) hil (by omega) T.hl (fun p hp=>(T.hs p hp).more (by decide) (by decide)) T.hin T.hsv T.hsu T.hcl
  have TS:=T.sm
  rw [←hvn] at BL TS
  rw [hgl] at BL
  have lp:=TS.lenN 282 (by decide)
  have lp:=lT lp (show 282≤40000 by decide)
  have hn2:=TS.ok
  have tl:j<(IU ps bs (rs.map rvP) ins (k)).length:=by rw [FQ];exact hjl
  have stV:(IU ps bs (rs.map rvP) ins (k)).set j (some (Vn ps bs (rs.map rvP) ins k))=(IU ps bs (rs.map rvP) ins (k+1)):=(GD hj).symm
  have hbad:=AnU (ps:=ps) (st:=(rs.map rvP)) (ins:=ins) hlt
  have hnx:=Aaf HK hj
  skip
  by_cases hlg:Cp (Vn ps bs (rs.map rvP) ins k)=true
  case pos =>
   have PB:=SZ (Vn ps bs (rs.map rvP) ins k) hn2 lp hlg
   rw [hbad hlg,if_pos rfl] at hE
   rw [hE,Ed (by decide),Ed (by decide)]
   repeat' (with_reducible first|(refine AdO (id:=33) (chain:=tlC) 11 AJ (by kernel_rfl) ?_ ?_;refine Po (xLd Ao) ?_;refine Po xM1 ?_;refine Po (xLa DY) ?_;refine Po (xFa DZ Cc) ?_;refine Po (xLd Cc) ?_;refine Po xM1 ?_;refine Po ArP ?_;refine Po (xLa BZ) ?_;refine Po (xLd Ao) ?_;refine Po xM1 ?_;refine Po (xCl func70 BL (ha:=by with_unfolding_all first|((repeat' first|exact BM rfl rfl|refine AX rfl rfl ?_ ?_|refine FH rfl rfl ?_|refine Dt rfl rfl ?_|exact Bp rfl (fun h=>by cases h)|exact Ur rfl rfl rfl) <;> fail)|fail)) ?_;refine Pp (xPn func69 PB) ?_;(first|refine Pd ?_|refine Po (xIo (i:=j) Af) ?_);refine Pd ?_;exact Pe;with_unfolding_all exact And.intro (by with_unfolding_all exact rfl) (Or.inr (And.intro rfl (And.intro ⟨rfl,rfl,rfl⟩ (And.intro ⟨(by with_unfolding_all exact rfl),(by with_unfolding_all exact rfl),(by with_unfolding_all exact rfl)⟩ ⟨⟨_,(by with_unfolding_all exact rfl)⟩,⟨_,(by with_unfolding_all exact rfl)⟩,⟨_,(by with_unfolding_all exact rfl)⟩⟩)))))|refine qq ?_|(refine Tx 31 ?_;refine gO xLt ?_)|(refine Tx 32 ?_;refine gO ArN <| gO xD <| gO xA ?_))
  rw [ci] at hlg
  have PB:=WG (Vn ps bs (rs.map rvP) ins k) hn2 lp hlg
  repeat' (with_reducible first|refine qq ?_|(refine Tx 31 ?_;refine gO xLt ?_)|(refine Tx 32 ?_;refine gO ArN <| gO xD <| gO xA ?_)|(refine AE (id:=33) 13 AJ (by kernel_rfl) ?_;dsimp only [List.take,List.drop];refine gP xD <| gP xM <| gP xL <| gP xF <| gP xD <| gP xM <| gP ArP <| gP xL <| gP xD <| gP xM <| gP (xCl func70 BL (ha:=by with_unfolding_all first|((repeat' first|exact BM rfl rfl|refine AX rfl rfl ?_ ?_|refine FH rfl rfl ?_|refine Dt rfl rfl ?_|exact Bp rfl (fun h=>by cases h)|exact Ur rfl rfl rfl) <;> fail)|fail)) <| gP (xCl func69 (PB)) <| gP (xIo (i:=j) Af) ?_;refine Ke ?_;refine gZ ArO ?_)|(refine Tx 34 ?_;refine gO xAd <| gO xM ?_))
  refine ⟨_,_,Bz 5,_,by omega,k+1,by omega,rfl,hnx (AbN hn2 hlg),Ut hgd hlg,rfl,rfl⟩
 obtain rfl:k=(Bb bs).length:=by omega
 clear hlt hk
 rw [AeW hnl2 hgd,if_neg (by decide)] at hE
 rw [hE,NW rfl,NW rfl]
 repeat' (with_reducible first|refine qq ?_|(refine Tx 31 ?_;refine gO xLt ?_)|(refine Tx 35 ?_;refine gO xM <| gO xN <| gO xM ?_))
 refine AY (Gq 1 0 43 3 rfl rfl) ?_
 refine AY (Bz 6 (h:=by rw [←hnl];exact mB rfl rfl)) (Aq (fun n Fr H=>∃ k:Nat,k≤(AW bs).length∧n=(AW bs).length - k∧Fr=ofL [(1,vd (AcP rs)),(2,vd (AM v ins)),(3,vr 0),(6,vr 1),(7,vr 2),(8,vr 3),(9,vd (AM false (Br (AW bs)))),(15,vd (AM false (Br (Bb bs)))),(155,AmJ 1 2 3 g1 g2 g3),(131,vd (AM false (Br (AW bs)))),(132,vi ((AW bs).length)),(133,vi ((k:Nat)))]∧H=[.box 26 [.d (CU t ps),.d (Dw t bs),.d (AM t os)],.box 28 [.own 5 ((CL ps bs (rs.map rvP) ins).take (k)).length],.box 28 [.own 4 bs.length],.box 36 [.d (.val .nilIface)],.row 43 3 bs.length (cVs (IU ps bs (rs.map rvP) ins ((Bb bs).length))),.row 43 3 ((CL ps bs (rs.map rvP) ins).take (k)).length ((Ar dyP ((CL ps bs (rs.map rvP) ins).take (k))).map C.d)]) (n0:=(AW bs).length) ⟨0,af _,rfl,rfl,rfl⟩ ?_)
 rintro n Fr H ⟨k,hk,rfl,rfl,rfl⟩
 by_cases hlt:k<(AW bs).length
 case pos =>
  obtain ⟨i,hi⟩:∃ i,(AW bs)[k]?=some i:=⟨_,gE hlt⟩
  have hil2:=(FS hi).1
  obtain ⟨y,hy⟩:∃ y,bs[i]?=some y:=⟨_,gE hil2⟩
  obtain ⟨b,hA0,hbl⟩:=Uu h0 hy (by rw [←Fh hy];exact (FS hi).2)
  obtain ⟨p,hp,hsm⟩:=AeY h0 HK hbl
  have hal:=(gS.1 hA0).1
  have hpl:b<(IU ps bs (rs.map rvP) ins ((Bb bs).length)).length:=(gS.1 hp).1
  have lp:=lT (hsm.lenN 128 (by decide)) (show 128≤50000 by decide)
  have SH:=Bj p.1 p.2 0 hsm.ok lp (by have:=hsm.ok.1;omega)
  rw [Dx hsm.ok] at SH
  have hne:(CL ps bs (rs.map rvP) ins)[k]?=some p:=by unfold CL;rw [ag,hi,bp,QU hy hA0];unfold OV;rw [YB hp];rfl
  have hap:(Ar dyP ((CL ps bs (rs.map rvP) ins).take (k))).map C.d++(dDy false p.1 p.2).map C.d=(Ar dyP ((CL ps bs (rs.map rvP) ins).take (k+1))).map C.d:=by rw [ak,hne,dr,Fb,ct];rfl
  have hap2:((CL ps bs (rs.map rvP) ins).take (k)).length+1=((CL ps bs (rs.map rvP) ins).take (k+1)).length:=by rw [ak,hne,aq];rfl
  have hoL:((CL ps bs (rs.map rvP) ins).take (k)).length≤k:=by rw [cj];omega
  repeat' (with_reducible first|refine qq ?_|(refine Tx 36 ?_;refine gO xLt ?_)|(refine Tx 37 ?_;refine gO (by first|exact xIr Aa (AF (Ij hi))|exact xIo (i:=b) Aa) <| gO xD <| gO xA ?_)|(refine AE (id:=38) 14 AJ (by kernel_rfl) ?_;dsimp only [List.take,List.drop];refine gP xD <| gP xD <| gP xF <| gP xD <| gP xM <| gP (by first|exact xIr Ap (Gc hy)|exact xIo (i:=b) Ap) <| gP xF <| gP xD <| gP (by first|exact xIr Aa (AF hA0)|exact xIo (i:=b) Aa) <| gP xD <| gP (xIo (i:=b) Af) <| gP (by first|exact Aad rfl rfl rfl hp Ab|exact xLa Ab) <| gP (xCl func27 (SH)) <| gQ (by exact AZ rfl Af Ak rfl rfl (by decide) (by decide)) ?_;refine Ke ?_;refine gT (by exact FG rfl rfl rfl rfl rfl rfl Af Ak (by omega) (by decide) (by decide) rfl hap hap2) <| gZ NX ?_)|(refine Tx 39 ?_;refine gO xAd <| gO xM ?_))
  refine ⟨_,_,Bz 6,_,by omega,k+1,by omega,rfl,rfl,rfl⟩
 obtain rfl:k=(AW bs).length:=by omega
 clear hlt hk
 have hnE:(CL ps bs (rs.map rvP) ins).length=(AW bs).length:=by unfold CL;rw [ad]
 rw [←hnE,az]
 have hvE:(OV ps bs (rs.map rvP) ins).length=bs.length:=by unfold OV;rw [AeS,FQ]
 unfold ApS
 rw [hvE]
 repeat' (with_reducible first|refine qq ?_|(refine Tx 36 ?_;refine gO xLt ?_)|(refine Akm (id:=40) 2 1 28 [.own 5 (CL ps bs (rs.map rvP) ins).length] AJ (by kernel_rfl) ?_;dsimp only [List.take,List.drop];refine TP rfl rfl (xLd Ao) (xLd Ao) ?_;refine TP rfl rfl (xLd Ao) (xLd Ao) ?_;refine Akl ?_;refine AqO rfl rfl rfl (by exact Wa rfl rfl rfl rfl rfl Ao (bl rfl) rfl) ?_;refine gZ NX <| gZ AbP ?_))
 exact ⟨by with_unfolding_all exact rfl,.inl (AN rfl (.cons_ (rvB Ao (AeT rfl rfl rfl)) (.cons_ (rvB Ao (Ur rfl rfl rfl)) (.cons_ (rvB FD (Bp rfl fun _=>.val _)) .nil_))))⟩
def isW (o:Oper):Bool:=match o.op with
 | .store ..=>true
 | .call c=>match c.callee with
  | .builtin .append=>true
  | _=>false
 | _=>false
def Afa (md:Region.Mode) (ops:Array Oper):Bool:=(List.range ops.size).all fun i=>match ops[i]? with
 | none=>true
 | some oi=>!isW oi || (List.range i).all fun j=>match ops[j]? with
  | none=>true
  | some oj=>!isW oj || (oi.after.any fun e=>Region.binds md e && decide (e.on=j)) || (List.range i).any fun k=>decide (j<k) && (match ops[k]? with|some ok=>isW ok|none=>false)
theorem Afb (h:Afa md ops=true) {i j:Nat} {oi oj:Oper} (hi:ops[i]?=some oi) (hj:ops[j]?=some oj) (wi:isW oi=true) (wj:isW oj=true) (hji:j<i) :
  (∃ e∈oi.after,Region.binds md e=true∧e.on=j)∨∃ k ok,j<k∧k<i∧ops[k]?=some ok∧isW ok=true:=by
 have h1:=List.all_eq_true.1 h i (List.mem_range.2 (Array.getElem?_eq_some_iff.1 hi).1)
 simp only [hi,wi,ee,fj] at h1
 have h2:=List.all_eq_true.1 h1 j (List.mem_range.2 hji)
 simp only [hj,wj,ee,fj,de] at h2
 rcases h2 with h2|h2
 ·obtain ⟨e,h3,h4⟩:=(jw).1 h2
  simp only [aj,decide_eq_true_eq] at h4
  exact .inl ⟨e,h3,h4⟩
 ·obtain ⟨k,h3,h4⟩:=List.any_eq_true.1 h2
  simp only [aj,decide_eq_true_eq] at h4
  obtain ⟨h5,h6⟩:=h4
  cases hk:ops[k]? with
  | none=>rw [hk] at h6;cases h6
  | some ok=>rw [hk] at h6;exact .inr ⟨k,ok,h5,List.mem_range.1 h3,hk,h6⟩
def YG (md:Region.Mode) (ops:Array Oper) (i:Nat):Bool:=match ops[i]? with
 | none=>false
 | some oi=>(List.range ops.size).all fun j=>match ops[j]? with
  | none=>true
  | some oj=>!isW oj || decide (i=j) || (decide (i<j) && ((oj.after.any fun e=>Region.binds md e && (decide (e.on=i) || (match ops[e.on]? with|some om=>om.after.any fun e=>Region.binds md e && decide (e.on=i)|none=>false))) || (List.range j).any fun k=>decide (i<k) && (match ops[k]? with|some ok=>isW ok|none=>false))) || (decide (j<i) && ((oi.after.any fun e=>Region.binds md e && decide (e.on=j)) || (List.range i).any fun k=>decide (j<k) && (match ops[k]? with|some ok=>isW ok|none=>false)))
theorem ArQ (h:((List.range i).any fun k=>decide (j<k) && (match ops[k]? with|some ok=>isW ok|none=>false))=true):∃ k ok,j<k∧k<i∧ops[k]?=some ok∧isW ok=true:=by
 obtain ⟨k,h3,h4⟩:=List.any_eq_true.1 h
 simp only [aj,decide_eq_true_eq] at h4
 obtain ⟨h5,h6⟩:=h4
 cases hk:ops[k]? with
 | none=>rw [hk] at h6;cases h6
 | some ok=>rw [hk] at h6;exact ⟨k,ok,h5,List.mem_range.1 h3,hk,h6⟩
theorem ArR (h:(o.after.any fun e=>Region.binds md e && decide (e.on=j))=true):∃ e∈o.after,Region.binds md e=true∧e.on=j:=by
 obtain ⟨e,h3,h4⟩:=(jw).1 h
 simp only [aj,decide_eq_true_eq] at h4
 exact ⟨e,h3,h4⟩
theorem ArS (h:(o.after.any fun e=>Region.binds md e && (decide (e.on=j) || (match ops[e.on]? with|some om=>om.after.any fun e=>Region.binds md e && decide (e.on=j)|none=>false)))=true):∃ e∈o.after,Region.binds md e=true∧(e.on=j∨∃ om e2,ops[e.on]?=some om∧e2∈om.after∧Region.binds md e2=true∧e2.on=j):=by
 obtain ⟨e,h3,h4⟩:=(jw).1 h
 simp only [aj,de,decide_eq_true_eq] at h4
 refine ⟨e,h3,h4.1,h4.2.imp id fun h5=>?_⟩
 cases hm:ops[e.on]? with
 | none=>rw [hm] at h5;cases h5
 | some om =>
  rw [hm] at h5
  obtain ⟨e2,q1,q2,q3⟩:=ArR h5
  exact ⟨om,e2,rfl,q1,q2,q3⟩
theorem Aag {oi oj:Oper} (h:YG md ops i=true) (hi:ops[i]?=some oi) (hj:ops[j]?=some oj) (wj:isW oj=true) :
  (i<j→(∃ e∈oj.after,Region.binds md e=true∧(e.on=i∨∃ om e2,ops[e.on]?=some om∧e2∈om.after∧Region.binds md e2=true∧e2.on=i))∨∃ k ok,i<k∧k<j∧ops[k]?=some ok∧isW ok=true)∧(j<i→(∃ e∈oi.after,Region.binds md e=true∧e.on=j)∨∃ k ok,j<k∧k<i∧ops[k]?=some ok∧isW ok=true):=by
 unfold YG at h
 simp only [hi] at h
 have h2:=List.all_eq_true.1 h j (List.mem_range.2 (Array.getElem?_eq_some_iff.1 hj).1)
 simp only [hj,wj,ee,fj,de,aj,decide_eq_true_eq] at h2
 refine ⟨fun hlt=>?_,fun hlt=>?_⟩
 ·rcases h2 with (h2|⟨_,h2⟩)|⟨h2,_⟩
  ·omega
  ·exact h2.imp ArS ArQ
  ·omega
 ·rcases h2 with (h2|⟨h2,_⟩)|⟨_,h2⟩
  ·omega
  ·omega
  ·exact h2.imp ArR ArQ
section
variable {P:Program} {G:World→Prop} {ops:Array Oper}
structure AiA (b0 N:Nat) (w0:World) (S0:SD) (ops:Array Oper) (Fs:Nat→Frm) (Hs:Nat→List Ob) (listed:Array Bool) (a:Act) (m:Mm):Prop where
 H:∃ p,p≤ops.size∧(∀ (i:Nat) (o:Oper),ops[i]?=some o→isW o=true→(i<p ↔ listed.getD i true=true))∧m.H=Hs p
 cx:Cx b0 m
 tot:Tot m
 frame:∀ t,(∀ (i:Nat) (o:Oper),ops[i]?=some o→listed.getD i true=false→o.dst≠some t)→Ey m (Fs ops.size t) (a.tmps.getD t undef)
 size:a.tmps.size=N
 defers:a.defers=S0.ds
 below:Below b0 w0 m.w
 base:b0≤w0.heap.size
 S:∀ b,m.S false b→S0 false b∨b0≤b
 T:m.S true=S0 true
 ls:listed.size=ops.size
 dep:∀ (i:Nat) (o:Oper),ops[i]?=some o→listed.getD i true=true→∀ e∈o.after,Region.binds .any e=true→listed.getD e.on true=true
end
section
variable {P:Program} {G:World→Prop} {N:Nat} {F:Frm} {H:List Ob} {Q:Sg}
theorem Afc {v:Value} (h:v.oneCell'=true):v.cells=#[v]:=by
 cases v <;> first|rfl|cases h
theorem AbQ {t e:TypeId} {x:Operand} {z:Value} {by_:Nat} {d:D} (ho:o.op=.buildSlice t 1 #[(0,x)]) (hx:F.ev x=.one (.d d)) (ht:TyS P t e 1) (hz:TyZ P e z 1 by_):AU P G o F H (.one (.d (.row false 1 1 [d]))) []:=by
 intro b0 m a hp hcx hg hb0 _ hor K Q hK
 have hv:Ba m.w m.S d (a.eval x):=by
  have:=AV (F:=F) hor (x:=x) (by rw [ho];simp [Op.operands])
  rw [hx] at this
  exact this
 have hc:=Afc hv.one
 obtain ⟨i,hi,hi2⟩:=Option.map_eq_some_iff.1 hz.h
 simp only [Prod.mk.injEq] at hi2
 have hlm:(madeCells z.cells (1*1)).toList.length=1:=by simp [madeCells]
 have hfill:Instr.fill (fun i=>some (i*1,1)) (madeCells z.cells (1*1)) ((#[(0,x)]:Array (Nat × Operand)).map fun p=>(p.1,a.eval p.2)).toList=some #[a.eval x]:=by
  rw [Qd]
  have e1:(((#[(0,x)]:Array (Nat × Operand)).map fun p=>(p.1,a.eval p.2)).toList.map fun p=>(p.1,p.2.cells.toList))=[(0,[a.eval x])]:=by simp [hc]
  rw [e1]
  unfold Fu
  simp only [ep,ax,cq,List.length_nil,hlm,Fu]
  rw [fu (dp hlm)];rfl
 have hrun:=run_buildSlice (P:=P) m.w t e 1 ((#[(0,x)]:Array (Nat × Operand)).map fun p=>(p.1,a.eval p.2)) #[a.eval x] i z ht.h hi hi2.1 (by rw [hi2.2.1];decide) (by rw [hi2.2.1];decide) (by rw [hi2.2.1];exact hfill)
 have hexec:(execOp a.eval o).run P m.w=.ok (.value (.slice (some ⟨m.w.heap.size,0,none⟩) 1 1)) (m.w.alloc (.cells #[a.eval x] e)):=by
  unfold execOp
  simp only [ho]
  rw [ai,hrun]
  rfl
 have hbel:Below m.w.heap.size m.w (m.w.alloc (.cells #[a.eval x] e)):=(ah _ _).alloc (aa _) _
 have hle:=GL (es:=[]) (n:=H.length) hbel hcx.lt (fun k hk=>absurd hk (fm _))
 unfold Oper.wp
 rw [hexec]
 refine hK _ _ [] ⟨rfl,hbel,fun k e hk=>by simp at hk,List.Pairwise.nil⟩ ?_
 refine Ba.row [a.eval x] (aa _) (fun h=>by cases h) rfl rfl (fun _=>⟨_,0,rfl,.inr ⟨rfl,aa _,(Array.getElem?_eq_some_iff.1 (heap_alloc_new m.w _)).1,fun e he=>by simp at he⟩,fun j v hj=>?_⟩) fun j u v hu hw=>?_
 ·show (m.w.alloc (.cells #[a.eval x] e)).cell? ⟨m.w.heap.size,0+j,none⟩=some v
  rw [ax,cell_of_row _ _ j _ _ (0,0) (heap_alloc_new m.w _)]
  simpa using hj
 ·rcases j with _|j
  ·simp only [eb,Option.some.injEq] at hu hw
   subst hu
   subst hw
   exact Ba.le hle hv
  ·simp at hu
end
section
variable {P:Program}
def AkC (P:Program) (g:FuncId) (vs:List Value) (p:Int→Bool) (zs:List Int) (w:World):Prop:=∀ w',Below w.heap.size w w'→∀ z∈zs,Calls P g (Value.int .i64 z::vs).toArray w' fun e w2=>e=.returned (.bool (p z))∧Below w'.heap.size w' w2
theorem fn_G {vs:List Value} {p:Int→Bool}:∀ w w',Below w.heap.size w w'→AkC P g vs p zs w→AkC P g vs p zs w':=fun _ _ hb h w2 hb2=>h w2 (hb.trans (hb2.mono hb.size))
variable {o:Oper} {F:Frm} {H:List Ob}
theorem Ta {vs : List Value} {p : Int → Bool} {r x : Operand} {ts : Array TypeId} {z : Int} (hf : P.funcs[g]? = some fn) (hz : z ∈ zs) (hn : (fn.name == "runtime.NumGoroutine") = false := by kernel_rfl) (hb : fn.body = some c := by with_unfolding_all exact rfl)
  (ho:o.op=.call { callee:=.value r,args:=#[x],argTypes:=ts }:=by with_unfolding_all exact rfl) (hr:F.ev r=.one (.d (.val (.func (.func g) #[] vs.toArray))):=by with_unfolding_all exact rfl) (hx:F.ev x=.one (.d (.val (.int .i64 z))):=by with_unfolding_all exact rfl) :
  AU P (AkC P g vs p zs) o F H (.one (.d (.val (.bool (p z))))) []:=by
 intro b0 m a hp hcx hg hb0 _ hor K Q hK
 have er:=CA (m:=m) (v:=a.eval r) (by rw [←hr];exact AV hor (by rw [ho];simp [Op.operands,Call.operands]))
 have ex:=CA (m:=m) (v:=a.eval x) (by rw [←hx];exact AV hor (by rw [ho];simp [Op.operands,Call.operands]))
 unfold Oper.wp execOp
 simp only [ho,resolve,er,Deferred.ofValue,ai,bk,bd,invoke]
 rw [DD hf hn hb]
 rw [gl]
 have he:((#[]:Array Value)++#[x].map a.eval++vs.toArray)=(Value.int .i64 z::vs).toArray:=gb (by simp [ex])
 rw [he]
 refine (hg m.w (ah _ _) z hz).mono fun e w' ⟨hev,hbel⟩=>?_
 subst hev
 exact hK _ w' [] ⟨rfl,hbel,fun k e hk=>by simp at hk,List.Pairwise.nil⟩ (Ba.val rfl)
theorem AiB {f:FuncId} {x y:Operand} {ts:Array TypeId} {t:Bool} {p:Int→Bool} {rs:List (Nat × Nat × Option Nat)} {cargs:List A} {b:Bool} {Gt:World→Prop} (hG:∀ w w',Below w.heap.size w w'→Gt w→Gt w') (hf:P.funcs[f]?=some fn) (h:∀ vs,CV P (AkC P g vs p zs) f [.one (AM t zs),.one (.val (.func (.func g) #[] vs.toArray))] [aB b]) (hC:∀ z∈zs,CV P Gt g (aI z::cargs) [aB (p z)])
  (hn : (fn.name == "runtime.NumGoroutine") = false := by kernel_rfl) (hb : fn.body = some c := by with_unfolding_all exact rfl)
  (ho:o.op=.call { callee:=.value (.func f),args:=#[x,y],argTypes:=ts }:=by with_unfolding_all exact rfl) (hx:F.ev x=.one (.d (AM t zs)):=by with_unfolding_all exact rfl) (hy:F.ev y=.one (.clo (.func g) rs):=by with_unfolding_all exact rfl)
  (hcl:AP (fun (p:Nat × Nat × Option Nat) y=>LA true H (.one (.ref p.1 p.2.1 p.2.2)) y) rs cargs:=by with_unfolding_all first|((repeat' first|exact BM rfl rfl|refine AX rfl rfl ?_ ?_|exact Wc rfl) <;> fail)|fail):AU P Gt o F H (.one (.d (.val (.bool b)))) []:=by
 intro b0 m a hp hcx hg hb0 _ hor K Q hK
 rw [av] at hp
 have h1:=AV (F:=F) hor (x:=x) (by rw [ho];simp [Op.operands,Call.operands])
 have h2:=AV (F:=F) hor (x:=y) (by rw [ho];simp [Op.operands,Call.operands])
 rw [hx] at h1
 rw [hy] at h2
 obtain ⟨vs,hve,hvl⟩:=h2
 let Sx:Dm:=fun t b=>m.S t b∨(t=true∧∃ id e,m.E id=some e∧e.own=some b)
 have hlt:∀ t b,Sx t b→b<m.w.heap.size:=fun t b hb=>by
  rcases hb with hb|⟨_,id,e,he,hown⟩
  ·exact hcx.lt t b hb
  ·exact (Et.lt (hcx.each id e he).1 hown).2
 have hc':AP (EA m.w Sx) cargs vs:=⟨hcl.1.symm.trans hvl.1,fun j y v hy hv=>by
   obtain ⟨p,hpj⟩:∃ p,rs[j]?=some p:=⟨_,gE (by have:=(gS.1 hv).1;have:=hvl.1;omega)⟩
   exact LA.rel (x:=.one (.ref p.1 p.2.1 p.2.2)) hcx (fun b hb=>.inl hb) (fun _ b hb=>.inl hb) (fun id e g he hg=>.inr ⟨rfl,id,e,he,hg⟩) ((hcl.2 j p y hpj hy).pre hp) (hvl.2 j p v hpj hv)⟩
 have hfn:AkC P g vs p zs m.w:=fun w' hb' z hz =>
  (hC z hz w' Sx (Value.int .i64 z::vs) (hG _ _ hb' hg) (fun t b hb=>au (hlt t b hb) hb'.size) (.cons_ (Ba.val rfl) (hc'.imp fun _ _=>EA.mono (fun _ _ h=>h) fun t b hb=>hb'.block b (hlt t b hb)))).mono fun e w2 ⟨v,he,hr,hbl⟩=>by
   have h4:Ba w2 _ (dB (p z)) v:=hr
   cases h4
   exact ⟨he,hbl⟩
 have hcalls:=h vs m.w Sx [a.eval x,.func (.func g) #[] vs.toArray] hfn hlt (.cons_ (Ba.mono (fun t b hb=>.inl hb) (fun _ _ _=>rfl) h1) (.cons_ (Ba.val rfl) .nil_))
 unfold Oper.wp execOp
 simp only [ho,resolve,Act.eval,Deferred.ofValue,ai,bk,bd,invoke]
 rw [DD hf hn hb]
 rw [gl]
 have he:((#[]:Array Value)++#[x,y].map a.eval++#[])=[a.eval x,.func (.func g) #[] vs.toArray].toArray:=gb (by simp [hve])
 rw [he]
 refine hcalls.mono fun e w' ⟨v,hev,hr,hbel⟩=>?_
 subst hev
 have h4:Ba w' _ (dB b) v:=hr
 cases h4
 exact hK _ w' [] ⟨rfl,hbel,fun k e hk=>by simp at hk,List.Pairwise.nil⟩ (Ba.val rfl)
end
def AiC (p:Int→Bool):List Int→Nat→Int
 | [],_ => -1
 | z::l,k=>if p z=true then (k:Int) else AiC p l (k+1)
theorem Uv {p:Int→Bool} {zs:List Int}:∀ {k:Nat},(∀ z∈zs.take k,p z=false)→k≤zs.length→AiC p zs 0=AiC p (zs.drop k) k
 | 0,_,_=>rfl
 | k+1,h,hk=>by
  obtain ⟨z,hz⟩:∃ z,zs[k]?=some z:=⟨_,gE (by omega)⟩
  rw [Uv (k:=k) (fun z hz=>h z (by rw [ak];exact List.mem_append_left _ hz)) (by omega),dm (by omega)]
  have he:zs[k]=z:=by obtain ⟨h1,h2⟩:=gS.1 hz;exact h2
  rw [he]
  have:=h z (by rw [ak,hz];simp)
  show (if p z=true then (k:Int) else AiC p (zs.drop (k+1)) (k+1))=_
  rw [this]
  rfl
theorem Afd {p:Int→Bool}:∀ (zs:List Int) (k:Nat),decide (0≤AiC p zs k)=zs.any p
 | [],_=>rfl
 | z::l,k=>by
  unfold AiC
  rw [List.any_cons]
  cases h:p z with
  | true=>simp
  | false=>simpa using Afd l (k+1)
theorem AiD (hf : prog.funcs[g]? = some fn) (hn : (fn.name == "runtime.NumGoroutine") = false) (hbd : fn.body = some c) (t : Bool) (vs : List Value) (p : Int → Bool) (zs : List Int) (hl : zs.length ≤ 1000000) : CV prog (AkC prog g vs p zs) 209 [.one (AM t zs), .one (.val (.func (.func g) #[] vs.toArray))] [aI (AiC p zs 0)] := by
 refine Amv fn_G func209 rfl ntmps209 (bl rfl) ?_
 repeat' (with_reducible first|refine qq ?_|(refine Tx 0 ?_;refine gO xA ?_)|(refine Tx 1 ?_;refine gO xM <| gO xN <| gO xM ?_))
 refine AY (Bz 0) (Aq (fun n Fr H=>∃ k:Nat,k≤zs.length∧n=zs.length - k∧(∀ z∈zs.take k,p z=false)∧Fr=ofL [(0,vd (AM t zs)),(1,vd (.val (.func (.func g) #[] vs.toArray))),(7,vi zs.length),(8,vi ((k:Nat)))]∧H=[]) (n0:=zs.length) ⟨0,af _,rfl,(fun z hz=>by simp at hz),rfl,rfl⟩ ?_)
 rintro n Fr H ⟨k,hk,rfl,hall,rfl,rfl⟩
 by_cases hlt:k<zs.length
 case pos =>
  obtain ⟨z,hz⟩:∃ z,zs[k]?=some z:=⟨_,gE hlt⟩
  have hzm:=gM hz
  have hsk:=Uv hall hk
  rw [dm hlt,(gS.1 hz).2,show AiC p (z::zs.drop (k+1)) k=if p z=true then (k:Int) else AiC p (zs.drop (k+1)) (k+1) from rfl] at hsk
  cases hp:p z
  case true =>
   rw [hp,if_pos rfl] at hsk
   repeat' (with_reducible first|refine qq ?_|(refine Tx 2 ?_;refine gO xLt ?_)|(refine Tx 3 ?_;refine gO xM <| gO xA ?_)|(refine Tx 4 ?_;refine gO xM <| gO xM <| gO xM <| gO (xIr Aa (AF hz)) <| gO xD <| gO (by exact (hp ▸ Ta (p:=p) hf hzm hn hbd)) ?_)|(refine Tx 5 ?_;refine gO xM <| gO xA ?_))
   exact AN rfl (.cons_ (AhG rfl hsk.symm) .nil_)
  rw [hp,if_neg (by decide)] at hsk
  repeat' (with_reducible first|refine qq ?_|(refine Tx 2 ?_;refine gO xLt ?_)|(refine Tx 3 ?_;refine gO xM <| gO xA ?_)|(refine Tx 4 ?_;refine gO xM <| gO xM <| gO xM <| gO (xIr Aa (AF hz)) <| gO xD <| gO (by exact (hp ▸ Ta (p:=p) hf hzm hn hbd)) ?_)|(refine Tx 6 ?_;refine gO xAd <| gO xM ?_))
  refine ⟨_,_,Bz 0,_,by omega,k+1,by omega,rfl,Ev hall hz hp,rfl,rfl⟩
 obtain rfl:k=zs.length:=by omega
 have hsk:=Uv hall hk
 rw [jt] at hsk
 repeat' (with_reducible first|refine qq ?_|(refine Tx 2 ?_;refine gO xLt ?_)|(refine Tx 7 ?_;refine gO xA ?_))
 exact AN rfl (.cons_ (AhG rfl hsk.symm) .nil_)
theorem YH (hf : prog.funcs[g]? = some fn) (hn : (fn.name == "runtime.NumGoroutine") = false) (hbd : fn.body = some c) (t : Bool) (vs : List Value) (p : Int → Bool) (zs : List Int) (hl : zs.length ≤ 1000000) : CV prog (AkC prog g vs p zs) 127 [.one (AM t zs), .one (.val (.func (.func g) #[] vs.toArray))] [aB (zs.any p)] := by
 refine Amv fn_G func127 rfl ntmps127 (bl rfl) ?_
 have IX:=AiD hf hn hbd t vs p zs hl
 rw [←Afd zs 0]
 repeat' (with_reducible first|refine qq ?_|(refine Tx 0 ?_;refine gO xA ?_)|(refine Tx 1 ?_;refine gO xM <| gO xM <| gO (xCl func209 (IX)) <| gO xGe <| gO xA ?_))
 exact AN rfl (.cons_ (GI rfl rfl) .nil_)
def GQ:Nat:=65536
def gv (p:Int × Nat):Int:=p.1*2 ^ (GQ - p.2)
theorem Afe (n:Nat):(2:Int) ^ n≠0:=jf (Int.pow_pos (by decide))
theorem Bv (n:Nat):(0:Int)<2 ^ n:=Int.pow_pos (by decide)
theorem Uw {p:Int × Nat} (h:p.2≤GQ):p.1*2 ^ GQ=gv p*2 ^ p.2:=Uj p h
theorem Nf.le {x:Int} {d:Nat} (h:Nf x d):d≤GQ:=h.1
theorem AbR {m:Int} {d:Nat} (h:d≤GQ):gv (nf m d)=m*2 ^ (GQ - d):=by
 have e:=Ahm m d
 have l:=Amc m d
 refine kw (Afe d) ?_
 unfold gv
 rw [jg,e,bc,bc,←bi,←bi]
 congr 2
 omega
theorem Ln (p:Int × Nat):gv (-p.1,p.2) = -gv p:=ej ..
theorem LS:gv (0,0)=0:=Int.zero_mul _
theorem WJ (p:Int × Nat):gv (((p.1.natAbs:Nat):Int),p.2)=((gv p).natAbs:Int):=by
 unfold gv
 rw [fw,ja,fx]
 congr 1
theorem Ik {p:Int × Nat} (hp:p.2≤GQ) (hq:q.2≤GQ):gv (DV p.1 p.2 q.1 q.2)=gv p+gv q:=by
 unfold DV
 rw [AbR (by omega),Int.add_mul,bc,bc,←bi,←bi,show max p.2 q.2 - p.2+(GQ - max p.2 q.2)=GQ - p.2 by omega,show max p.2 q.2 - q.2+(GQ - max p.2 q.2)=GQ - q.2 by omega]
 rfl
theorem Aff {p:Int × Nat} (h:p.2+q.2≤GQ):gv (NN p.1 p.2 q.1 q.2)*2 ^ GQ=gv p*gv q:=by
 unfold NN
 rw [AbR h]
 unfold gv
 have e1:p.1*q.1*2 ^ (GQ - (p.2+q.2))*2 ^ GQ=p.1*q.1*2 ^ (GQ - (p.2+q.2)+GQ):=by rw [bc,←bi]
 have e2:p.1*2 ^ (GQ - p.2)*(q.1*2 ^ (GQ - q.2))=p.1*q.1*2 ^ (GQ - p.2+(GQ - q.2)):=by rw [bi];simp only [bc,Int.mul_left_comm,fv]
 rw [e1,e2]
 congr 2
 omega
theorem Afg {p:Int × Nat} (hp:p.2≤GQ) (hq:q.2≤GQ):Cf p.1 p.2 q.1 q.2=sgI (gv p - gv q):=Yn (Uw hp) (Uw hq)
theorem Tb {p:Int × Nat} (hp:Nf p.1 p.2) (hq:Nf q.1 q.2) (h:gv p=gv q):p=q:=QM hp hq (Uw hp.le) (by rw [h];exact Uw hq.le)
theorem WK {p:Int × Nat} (hp:p.2≤GQ) (hq:q.2≤GQ):Cf p.1 p.2 q.1 q.2≤0 ↔ gv p≤gv q:=by
 rw [Afg hp hq,Eu]
 by_cases h1:gv p<gv q
 ·rw [if_pos h1];exact ⟨fun _=>ck h1,fun _=>by decide⟩
 ·rw [if_neg h1]
  by_cases h2:gv q<gv p
  ·rw [if_pos h2];exact ⟨fun h=>absurd h (by decide),fun h=>by omega⟩
  ·rw [if_neg h2];exact ⟨fun _=>by omega,fun _=>by decide⟩
theorem ArT {p:Int × Nat} (hp:p.2≤GQ) (hq:q.2≤GQ):Cf p.1 p.2 q.1 q.2=0 ↔ gv p=gv q:=by
 rw [Afg hp hq,Eu]
 by_cases h1:gv p<gv q
 ·rw [if_pos h1];exact ⟨fun h=>absurd h (by decide),fun h=>by omega⟩
 ·rw [if_neg h1]
  by_cases h2:gv q<gv p
  ·rw [if_pos h2];exact ⟨fun h=>absurd h (by decide),fun h=>by omega⟩
  ·rw [if_neg h2];exact ⟨fun _=>by omega,fun _=>rfl⟩
theorem Aah {p:Int × Nat} (hp:p.2≤GQ) (hq:q.2≤GQ):0≤Cf p.1 p.2 q.1 q.2 ↔ gv q≤gv p:=by
 rw [Afg hp hq,Eu]
 by_cases h1:gv p<gv q
 ·rw [if_pos h1];exact ⟨fun h=>absurd h (by decide),fun h=>by omega⟩
 ·rw [if_neg h1]
  by_cases h2:gv q<gv p
  ·rw [if_pos h2];exact ⟨fun _=>by omega,fun _=>by decide⟩
  ·rw [if_neg h2];exact ⟨fun _=>by omega,fun _=>by decide⟩
theorem ArU {p:Int × Nat} (hp:p.2≤GQ) (hq:q.2≤GQ):Fq p.1 p.2 q.1 q.2=if gv q<gv p then q else p:=by
 unfold Fq
 by_cases h:gv q<gv p
 ·rw [if_pos h,if_pos (Int.not_le.1 fun hc=>by have:=(WK hp hq).1 hc;omega)]
 ·rw [if_neg h,if_neg (by have:=(WK hp hq).2 (by omega);omega)]
theorem ArV {p:Int × Nat} (hp:p.2≤GQ) (hq:q.2≤GQ):Ft p.1 p.2 q.1 q.2=if gv p<gv q then q else p:=by
 unfold Ft
 by_cases h:gv p<gv q
 ·rw [if_pos h,if_pos (Int.not_le.1 fun hc=>by have:=(Aah hp hq).1 hc;omega)]
 ·rw [if_neg h,if_neg (by have:=(Aah hp hq).2 (by omega);omega)]
theorem QV {p:Int × Nat} (hp:p.2≤GQ) (hq:q.2≤GQ):gv (Fq p.1 p.2 q.1 q.2)=min (gv p) (gv q):=by
 rw [ArU hp hq]
 split <;> omega
theorem Hg {p:Int × Nat} (hp:p.2≤GQ) (hq:q.2≤GQ):gv (Ft p.1 p.2 q.1 q.2)=max (gv p) (gv q):=by
 rw [ArV hp hq]
 split <;> omega
theorem WL {p:Int × Nat} (hp:p.2≤GQ) (hn:n≤65536):gv (Ac p.1 p.2 (n:Int))=gv p*2 ^ n:=by
 unfold Ac
 rw [if_neg (by omega),AbR hp,show (max (-65536) (min ((n:Nat):Int) 65536)).toNat=n by omega]
 exact jg ..
theorem WM {p:Int × Nat} (hp:p.2+n≤GQ) (hn:n≤65536):gv (Ac p.1 p.2 (-(n:Int)))*2 ^ n=gv p:=by
 unfold Ac
 by_cases h0:n=0
 ·subst h0
  rw [if_neg (by omega),AbR (by omega)]
  show p.1*2 ^ (max (-65536) (min (-((0:Nat):Int)) 65536)).toNat*2 ^ (GQ - p.2)*2 ^ 0=gv p
  rw [show (max (-65536) (min (-((0:Nat):Int)) 65536)).toNat=0 by omega,Int.pow_zero,Int.mul_one,Int.mul_one]
  rfl
 ·rw [if_pos (by omega),AbR (by omega),show (-(max (-65536) (min (-(n:Int)) 65536))).toNat=n by omega,bc,←bi]
  unfold gv
  congr 2
  omega
theorem Tc (n:Int):gv (n,0)=n*2 ^ GQ:=rfl
theorem Ux {p:Int × Nat} (hp:p.2≤GQ) (hd:den≤GQ):gv (BX p.1 p.2 den)≤gv p∧gv p<gv (BX p.1 p.2 den)+2 ^ (GQ - den)∧∃ k:Int,gv (BX p.1 p.2 den)=k*2 ^ (GQ - den):=by
 unfold BX
 by_cases h:p.2≤den
 ·rw [if_pos h]
  show gv p≤gv p∧gv p<gv p+2 ^ (GQ - den)∧∃ k:Int,gv p=k*2 ^ (GQ - den)
  refine ⟨dh _,by have:=Bv (GQ - den);omega,p.1*2 ^ (den - p.2),?_⟩
  unfold gv
  rw [bc,←bi]
  congr 2
  omega
 ·rw [if_neg h,AbR hd]
  have e:gv p=p.1*2 ^ (GQ - p.2):=rfl
  have hk:(2:Int) ^ (GQ - den)=2 ^ (p.2 - den)*2 ^ (GQ - p.2):=by rw [←bi];congr 1;omega
  have h1:=Int.mul_ediv_add_emod p.1 (2 ^ (p.2 - den))
  have h2:=Int.emod_nonneg p.1 (Afe (p.2 - den))
  have h3:=Int.emod_lt_of_pos p.1 (Bv (p.2 - den))
  have e2:p.1 / 2 ^ (p.2 - den)*2 ^ (GQ - den)=p.1 / 2 ^ (p.2 - den)*2 ^ (p.2 - den)*2 ^ (GQ - p.2):=by rw [hk,bc]
  refine ⟨?_,?_,_,rfl⟩
  ·rw [e2,e]
   refine fq ?_ (ck (Bv _))
   rw [fv];omega
  ·rw [e2,e,hk,←Int.add_mul]
   refine mf ?_ (Bv _)
   rw [fv (p.1 / _)];omega
abbrev Pq:=Int × Nat
abbrev GJ (p q:Pq):Pq:=DV p.1 p.2 q.1 q.2
abbrev MI (p:Pq):Pq:=(-p.1,p.2)
abbrev Nc (p:Pq):Pq:=(((p.1.natAbs:Nat):Int),p.2)
abbrev Dj (p q:Pq):Pq:=NN p.1 p.2 q.1 q.2
abbrev WN (p q:Pq):Pq:=Fq p.1 p.2 q.1 q.2
abbrev Md (p q:Pq):Pq:=Ft p.1 p.2 q.1 q.2
abbrev Oz (p q:Pq):Int:=Cf p.1 p.2 q.1 q.2
abbrev MJ (p:Pq) (n:Int):Pq:=Ac p.1 p.2 n
abbrev Td (p:Pq) (n:Nat):Pq:=BX p.1 p.2 n
abbrev AiE (p:Pq) (n:Nat):Pq:=MI (Td (MI p) n)
abbrev Iq:=Pq × Pq
def dIw (t:Bool) (a:Iq):List D:=dDy t a.1.1 a.1.2++dDy t a.2.1 a.2.2
def aIw (t:Bool) (a:Iq):A:=.agg (dIw t a)
structure IwS (a:Iq) (n d:Nat):Prop where
 s1:Sm a.1 n d
 s2:Sm a.2 n d
 le:gv a.1≤gv a.2
theorem IwS.more {a:Iq} {d n' d':Nat} (h:IwS a n d) (h1:n≤n') (h2:d≤d'):IwS a n' d':=⟨h.s1.more h1 h2,h.s2.more h1 h2,h.le⟩
def Uy (a:Iq) (x:Pq):Iq:=(WN a.1 x,Md a.2 x)
def DJ:List Pq→Iq
 | []=>((0,0),(0,0))
 | p::l=>l.foldl Uy (p,p)
def AiF (a:Iq):Iq:=(MI a.2,MI a.1)
def AkD (a b:Iq):Iq:=(GJ a.1 b.1,GJ a.2 b.2)
def AnV (a b:Iq):Iq:=AkD a (AiF b)
def AkE (a b:Iq):Iq:=DJ [Dj a.1 b.1,Dj a.1 b.2,Dj a.2 b.1,Dj a.2 b.2]
def OA (a:Iq) (f:Pq):Iq:=AkE a (f,f)
def AkF (a b:Iq):Iq:=(WN a.1 b.1,WN a.2 b.2)
def AiG (a b:Iq):Iq:=(Md a.1 b.1,Md a.2 b.2)
def LU (a b:Iq):Iq:=DJ [a.1,a.2,b.1,b.2]
def YI (a:Iq):Iq:=if a.1.1<0∧0<a.2.1 then ((0,0),(DJ [Nc a.1,Nc a.2]).2) else DJ [Nc a.1,Nc a.2]
def YJ (a:Iq) (v u:Pq):Iq:=AkF (AiG a (v,v)) (u,u)
def Il (a:Iq) (den:Nat):Iq:=(Td a.1 den,AiE a.2 den)
def iIn (a b:Iq):Bool:=decide (Oz b.1 a.1≤0) && decide (Oz a.2 b.2≤0)
def Lo (a:Iq):Pq:=(YI a).2
theorem Sm.le {p:Pq} {d:Nat} (h:Sm p n d):p.2≤GQ:=h.ok.le
section
variable {a b:Iq} {n d:Nat}
theorem Im {p q:Pq} (hp:Sm p n d) (hq:Sm q n d):gv (DJ [p,q]).1=min (gv p) (gv q)∧gv (DJ [p,q]).2=max (gv p) (gv q)∧IwS (DJ [p,q]) n d:=by
 have e1:gv (WN p q)=min (gv p) (gv q):=QV hp.le hq.le
 have e2:gv (Md p q)=max (gv p) (gv q):=Hg hp.le hq.le
 refine ⟨e1,e2,Sm.min hp hq,Sm.max hp hq,?_⟩
 show gv (WN p q)≤gv (Md p q)
 omega
theorem GE {p q r s:Pq} (hp:Sm p n d) (hq:Sm q n d) (hr:Sm r n d) (hs:Sm s n d):gv (DJ [p,q,r,s]).1=min (min (min (gv p) (gv q)) (gv r)) (gv s)∧gv (DJ [p,q,r,s]).2=max (max (max (gv p) (gv q)) (gv r)) (gv s)∧IwS (DJ [p,q,r,s]) n d:=by
 have m1:Sm (WN p q) n d:=Sm.min hp hq
 have m2:Sm (WN (WN p q) r) n d:=Sm.min m1 hr
 have x1:Sm (Md p q) n d:=Sm.max hp hq
 have x2:Sm (Md (Md p q) r) n d:=Sm.max x1 hr
 have e1:gv (WN (WN (WN p q) r) s)=min (min (min (gv p) (gv q)) (gv r)) (gv s):=by rw [QV m2.le hs.le,QV m1.le hr.le,QV hp.le hq.le]
 have e2:gv (Md (Md (Md p q) r) s)=max (max (max (gv p) (gv q)) (gv r)) (gv s):=by rw [Hg x2.le hs.le,Hg x1.le hr.le,Hg hp.le hq.le]
 refine ⟨e1,e2,Sm.min m2 hs,Sm.max x2 hs,?_⟩
 show gv (WN (WN (WN p q) r) s)≤gv (Md (Md (Md p q) r) s)
 omega
theorem IwS.neg (h:IwS a n d):IwS (AiF a) n d:=⟨h.s2.neg,h.s1.neg,by show gv (MI a.2)≤gv (MI a.1);rw [Ln,Ln];have:=h.le;omega⟩
theorem IwS.add (h:IwS a n d) (k:IwS b n d) (hd:d≤65536):IwS (AkD a b) (n+d+1) d:=⟨Sm.sum h.s1 k.s1 hd,Sm.sum h.s2 k.s2 hd,by
 show gv (GJ a.1 b.1)≤gv (GJ a.2 b.2)
 rw [Ik h.s1.le k.s1.le,Ik h.s2.le k.s2.le]
 have:=h.le;have:=k.le;omega⟩
theorem IwS.sub (h:IwS a n d) (k:IwS b n d) (hd:d≤65536):IwS (AnV a b) (n+d+1) d:=h.add k.neg hd
theorem IwS.min (h:IwS a n d) (k:IwS b n d):IwS (AkF a b) n d:=⟨Sm.min h.s1 k.s1,Sm.min h.s2 k.s2,by
 show gv (WN a.1 b.1)≤gv (WN a.2 b.2)
 rw [QV h.s1.le k.s1.le,QV h.s2.le k.s2.le]
 have:=h.le;have:=k.le;omega⟩
theorem IwS.max (h:IwS a n d) (k:IwS b n d):IwS (AiG a b) n d:=⟨Sm.max h.s1 k.s1,Sm.max h.s2 k.s2,by
 show gv (Md a.1 b.1)≤gv (Md a.2 b.2)
 rw [Hg h.s1.le k.s1.le,Hg h.s2.le k.s2.le]
 have:=h.le;have:=k.le;omega⟩
theorem IwS.pt {p:Pq} (h:Sm p n d):IwS (p,p) n d:=⟨h,h,dh _⟩
theorem IwS.mul (h:IwS a n d) (k:IwS b n d) (hd:d≤30000):IwS (AkE a b) (n+n) (d+d):=(GE (Sm.mul h.s1 k.s1 hd) (Sm.mul h.s1 k.s2 hd) (Sm.mul h.s2 k.s1 hd) (Sm.mul h.s2 k.s2 hd)).2.2
theorem IwS.hull (h:IwS a n d) (k:IwS b n d):IwS (LU a b) n d:=(GE h.s1 h.s2 k.s1 k.s2).2.2
theorem IwS.clip {v u:Pq} (h:IwS a n d) (hv:Sm v n d) (hu:Sm u n d):IwS (YJ a v u) n d:=(h.max (.pt hv)).min (.pt hu)
theorem AkG {p:Pq}:p.1<0 ↔ gv p<0:=by
 unfold gv
 exact ⟨fun h=>kp h (Bv _),fun h=>Int.not_le.1 fun hc=>by have:=jd hc (ck (Bv (GQ - p.2)));omega⟩
theorem AkH {p:Pq}:0<p.1 ↔ 0<gv p:=by
 unfold gv
 exact ⟨fun h=>Int.mul_pos h (Bv _),fun h=>Int.not_le.1 fun hc=>by have:=Int.mul_nonpos_of_nonpos_of_nonneg hc (ck (Bv (GQ - p.2)));omega⟩
theorem IwS.abs (h:IwS a n d):IwS (YI a) n d:=by
 obtain ⟨h1,h2,h3⟩:=Im h.s1.abs h.s2.abs
 unfold YI
 split
 ·refine ⟨Sm.zero n d,h3.s2,?_⟩
  show gv (0,0)≤gv (DJ [Nc a.1,Nc a.2]).2
  rw [LS,h2,WJ,WJ]
  omega
 ·exact h3
theorem AnW (h:IwS a n d):gv (YI a).1=(if gv a.1<0∧0<gv a.2 then 0 else min ((gv a.1).natAbs:Int) (gv a.2).natAbs)∧gv (YI a).2=max ((gv a.1).natAbs:Int) (gv a.2).natAbs:=by
 obtain ⟨h1,h2,h3⟩:=Im h.s1.abs h.s2.abs
 rw [WJ,WJ] at h1 h2
 unfold YI
 by_cases hc:a.1.1<0∧0<a.2.1
 ·rw [if_pos hc,if_pos ⟨AkG.1 hc.1,AkH.1 hc.2⟩]
  exact ⟨LS,h2⟩
 ·rw [if_neg hc,if_neg (fun h=>hc ⟨AkG.2 h.1,AkH.2 h.2⟩)]
  exact ⟨h1,h2⟩
end
theorem LV (a:Iq):∀ u∈dIw false a,Dn u:=fun u hu=>by
 rcases List.mem_append.1 hu with h|h <;> exact NV _ _ u h
theorem rvJ {t:Tmp} {k:Nat} {a:Iq} (hk:TyK P ty true k) (hi:6=k) (hF:F t=.one (.ref id 0 none):=by with_unfolding_all exact rfl) (hH:H[id]?=some (.box ty' ((dIw false a).map C.d)):=by with_unfolding_all exact rfl):RV P F H (.cell t ty) (aIw false a):=by
 obtain ⟨⟨dd,hu,hd⟩,hz⟩:=hk
 refine .cellA hF hH hu hd (by rw [hz,←hi];rfl) (AP.map_l.2 ⟨rfl,fun j x y hx hy=>?_⟩)
 rw [hx] at hy
 cases hy
 exact .d fun _=>LV a x (gM hx)
theorem AnX:dIw false ((0,0),(0,0))=[.val (.bool false),.row false 1 0 [],.val (.int .i64 0),.val (.bool false),.row false 1 0 [],.val (.int .i64 0)]:=by
 have e:dDy false 0 0=[.val (.bool false),.row false 1 0 [],.val (.int .i64 0)]:=A.agg.inj LO
 show dDy false 0 0++dDy false 0 0=_
 rw [e]
 rfl
def DK (ps:List Prt) (bs:List Bk) (st:List (Int × Nat)) (ins:List Int):Int :=
 if ins.length≠ps.length then 11 else if AbO ps ins=false then 3 else if Eb ps bs st ins=true then 4 else 0
structure AiH (bs:List Bk) (st:List (Int × Nat)):Prop where
 len:st.length=(AW bs).length
 sm:∀ p∈st,Sm p LB LB
theorem QW (h:DK ps bs st ins=0):ins.length=ps.length∧AbO ps ins=true∧Eb ps bs st ins=false:=by
 unfold DK at h
 by_cases h1:ins.length≠ps.length
 ·rw [if_pos h1] at h;cases h
 ·rw [if_neg h1] at h
  by_cases h2:AbO ps ins=false
  ·rw [if_pos h2] at h;cases h
  ·rw [if_neg h2] at h
   by_cases h3:Eb ps bs st ins=true
   ·rw [if_pos h3] at h;cases h
   ·exact ⟨Decidable.not_not.1 h1,by simpa using h2,by simpa using h3⟩
theorem WO (h:Eb ps bs st ins=false):(∀ p∈st,Cp p=false)∧∀ t,t<(Bb bs).length→Cp (Vn ps bs st ins t)=false:=by
 unfold Eb at h
 rw [je] at h
 exact ⟨fun p hp=>by simpa using List.any_eq_false.1 h.1 p hp,fun t ht=>by simpa using List.any_eq_false.1 h.2 t (List.mem_range.2 ht)⟩
theorem YK (hj:(Bb bs)[t]?=some j) (hy:bs[j]?=some y):Vn ps bs st ins t=Df y (Lg (IU ps bs st ins t) y) ps ins:=by
 unfold Vn tkV
 rw [hj,bg,hy]
section
variable {ps:List Prt} {bs:List Bk} {os:List Int} {st:List (Int × Nat)} {ins:List Int}
theorem Aai (he:Av ps bs os=0) (hl:st.length=(AW bs).length) (hn:∀ p∈st,Nf p.1 p.2) (h:DK ps bs st ins=0):∀ t,t≤(Bb bs).length→Has (IU ps bs st ins t) (SW bs t):=by
 obtain ⟨h1,h2,h3⟩:=QW h
 obtain ⟨h4,h5⟩:=WO h3
 intro t
 induction t with
 | zero=>intro _;rw [WF];exact AeX (fun p hp=>⟨hn p hp,h4 p hp⟩) hl
 | succ t ih =>
  intro ht
  obtain ⟨j,hj⟩:∃ j,(Bb bs)[t]?=some j:=⟨_,gE (by omega)⟩
  have hv:=ih (by omega)
  obtain ⟨y,hy,hk,T⟩:=YE he h2 h1 hj hv
  refine Aaf hv hj (AbN ?_ (h5 t (by omega)))
  rw [YK hj hy]
  exact T.sm.ok
theorem Te (bs:List Bk):(AW bs).Nodup:=List.Pairwise.filter _ List.nodup_range
theorem WP (bs:List Bk):(Bb bs).Nodup:=(NI bs.length (GN.nil bs)).nodup
theorem Uz {l:List Nat} (h:l.Nodup) {i j x:Nat} (hi:l[i]?=some x) (hj:l[j]?=some x):i=j:=by
 obtain ⟨h1,e1⟩:=gS.1 hi
 obtain ⟨h2,e2⟩:=gS.1 hj
 exact (List.getElem_inj (h₀:=h1) (h₁:=h2) h).1 (e1.trans e2.symm)
theorem Aaj (htu:t≤u) (hu:u≤(Bb bs).length) (h:∀ v,t≤v→v<u→(Bb bs)[v]?≠some i):(IU ps bs st ins u)[i]?=(IU ps bs st ins t)[i]?:=by
 induction u with
 | zero=>rw [show t=0 by omega]
 | succ u ih =>
  by_cases e:t=u+1
  ·rw [e]
  ·obtain ⟨j,hj⟩:∃ j,(Bb bs)[u]?=some j:=⟨_,gE (by omega)⟩
   have hne:j≠i:=fun hji=>h u (by omega) (by omega) (by rw [hj,hji])
   rw [GD hj,gm hne]
   exact ih (by omega) (by omega) fun v h1 h2=>h v h1 (by omega)
theorem UA (htu:t≤u) (hu:u≤(Bb bs).length) (h:SW bs t i):(IU ps bs st ins u)[i]?=(IU ps bs st ins t)[i]?:=by
 refine Aaj htu hu fun v h1 h2 hv=>?_
 rcases h with ⟨_,hk⟩|hm
 ·exact (FP hv).2 hk
 ·obtain ⟨w,hw⟩:=List.mem_iff_getElem?.1 hm
  rw [bq] at hw
  split at hw
  ·have:=Uz (WP bs) hw hv
   omega
  ·cases hw
def AiI (V:List (Int × Nat)) (y:Bk):List (Int × Nat):=if y.kind=0 then [] else y.args.map fun a=>V[a.toNat]?.getD (0,0)
theorem Aak:(OV ps bs st ins).length=bs.length:=by unfold OV;rw [AeS,FQ]
theorem QX:(CL ps bs st ins).length=(AW bs).length:=by unfold CL;rw [ad]
theorem Afh (he:Av ps bs os=0) (hl:st.length=(AW bs).length) (hn:∀ p∈st,Nf p.1 p.2) (h:DK ps bs st ins=0) {i:Nat} {y:Bk} (hy:bs[i]?=some y) (hk:y.kind≠2) :
  (OV ps bs st ins)[i]?=some (Df y (AiI (OV ps bs st ins) y) ps ins):=by
 have H:=Aai he hl hn h
 obtain ⟨h1,h2,_⟩:=QW h
 have hil:=(gS.1 hy).1
 obtain ⟨t,ht⟩:=List.mem_iff_getElem?.1 (Yu (FK he).2.2 hil (by rw [Fh hy];exact hk))
 have htl:=(gS.1 ht).1
 obtain ⟨y',hy',_,T⟩:=YE he h2 h1 ht (H t (by omega))
 obtain rfl:y'=y:=Option.some.inj (hy'.symm.trans hy)
 have e1:(IU ps bs st ins (Bb bs).length)[i]?=some (some (Vn ps bs st ins t)):=by
  rw [Aaj (t:=t+1) htl (aa _) fun v k1 k2 kv=>by have:=Uz (WP bs) ht kv;omega]
  rw [GD ht,ed (by rw [FQ];exact hil)]
 rw [show OV ps bs st ins=gV (IU ps bs st ins (Bb bs).length) from rfl,YB e1,YK ht hy']
 congr 2
 unfold Lg AiI
 by_cases h0:y'.kind=0
 ·rw [if_pos h0,if_pos h0]
 ·rw [if_neg h0,if_neg h0]
  refine cw fun a ha=>?_
  obtain ⟨k,hk'⟩:=List.mem_iff_getElem?.1 ha
  obtain ⟨p,a0,a1,a2,_⟩:=T.args h0 k a hk'
  have hst:SW bs t a.toNat:=by
   have hsplit:Bb bs=(Bb bs).take t++i::(Bb bs).drop (t+1):=by
    obtain ⟨hlt,he⟩:=gS.1 ht
    exact AnR
   exact (PC hsplit (a:=a) (by rw [GY hy h0];exact ha)).imp (fun q=>⟨a1,q⟩) id
  have e2:=UA (ps:=ps) (st:=st) (ins:=ins) (Nat.le_of_lt htl) (aa _) hst
  rw [a2] at e2
  rw [a2,YB e2]
  rfl
theorem Aal {dl:List Nat} (hd:dl.Nodup) {st:List (Int × Nat)} {vs:List (Option (Int × Nat))} (hl:st.length=dl.length) (hb:∀ i∈dl,i<vs.length) {k i:Nat} (hk:dl[k]?=some i):(YD dl st vs)[i]?=(st[k]?).map some:=by
 have key:∀ t,t≤dl.length→k<t→(YD (dl.take t) (st.take t) vs)[i]?=(st[k]?).map some:=fun t=>by
  induction t with
  | zero=>intro _ h;omega
  | succ t ih =>
   intro ht hkt
   obtain ⟨j,hj⟩:∃ j,dl[t]?=some j:=⟨_,gE (by omega)⟩
   obtain ⟨p,hp⟩:∃ p,st[t]?=some p:=⟨_,gE (by omega)⟩
   rw [QT _ hj hp]
   by_cases e:k=t
   ·subst e
    obtain rfl:j=i:=Option.some.inj (hj.symm.trans hk)
    rw [ed (by rw [MH];exact hb j (gM hj)),hp]
    rfl
   ·have hne:j≠i:=fun h=>e (Uz hd hk (h ▸ hj))
    rw [gm hne]
    exact ih (by omega) (by omega)
 have:=key dl.length (aa _) (gS.1 hk).1
 rwa [az,am (by omega)] at this
theorem Afi (h:i∈AW bs):i<bs.length∧AQ bs i=2:=by
 obtain ⟨k,hk⟩:=List.mem_iff_getElem?.1 h
 exact FS hk
theorem Afj (hl:st.length=(AW bs).length) {k i:Nat} (hk:(AW bs)[k]?=some i):(OV ps bs st ins)[i]?=st[k]?:=by
 have hkl:=(gS.1 hk).1
 have hi:=FS hk
 have e1:=UA (ps:=ps) (st:=st) (ins:=ins) (af (Bb bs).length) (aa _) (.inl hi:SW bs 0 i)
 rw [WF,Aal (Te bs) hl (fun i hi=>by rw [dz];exact (Afi hi).1) hk] at e1
 obtain ⟨p,hp⟩:∃ p,st[k]?=some p:=⟨_,gE (by omega)⟩
 rw [hp] at e1 ⊢
 exact YB e1
theorem Aam (he:Av ps bs os=0) (hl:st.length=(AW bs).length) (hn:∀ p∈st,Nf p.1 p.2) (h:DK ps bs st ins=0):∀ p∈OV ps bs st ins,Sm p LB LB:=fun p hp=>by
 obtain ⟨i,hi⟩:=List.mem_iff_getElem?.1 hp
 have hil:=(gS.1 hi).1
 rw [Aak] at hil
 obtain ⟨q,h1,h2⟩:=AeY he (Aai he hl hn h _ (aa _)) hil
 rw [show OV ps bs st ins=gV (IU ps bs st ins (Bb bs).length) from rfl,YB h1] at hi
 cases hi
 exact h2
theorem YL {k:Nat} (hk:(AW bs)[k]?=some i):(CL ps bs st ins)[k]?=some (((OV ps bs st ins)[ApR bs i]?).getD (0,0)):=by
 unfold CL
 rw [ag,hk,bp]
theorem YM (he:Av ps bs os=0) (hl:st.length=(AW bs).length) (hn:∀ p∈st,Nf p.1 p.2) (h:DK ps bs st ins=0):AiH bs (CL ps bs st ins):=⟨QX,fun p hp=>by
 obtain ⟨k,hk⟩:=List.mem_iff_getElem?.1 hp
 have hkl:=(gS.1 hk).1
 rw [QX] at hkl
 obtain ⟨i,hi⟩:∃ i,(AW bs)[k]?=some i:=⟨_,gE hkl⟩
 rw [YL hi] at hk
 cases hk
 exact Ec (Aam he hl hn h) _⟩
theorem AiH.nf (h:AiH bs st):∀ p∈st,Nf p.1 p.2:=fun p hp=>(h.sm p hp).ok
end
def AuV (bs:List Bk) (i:Nat):Int:=(bs[i]?.getD bk0).vn
def AuW (bs:List Bk) (i:Nat):Int:=(bs[i]?.getD bk0).ve
def AO (bs:List Bk):List (Int × Nat):=(AW bs).map fun i=>Ac (AuV bs i) 0 (AuW bs i)
theorem IW (he:Av ps bs os=0):AiH bs (AO bs):=⟨by unfold AO;rw [ad],fun p hp=>by
 obtain ⟨i,hi,rfl⟩:=List.mem_map.1 hp
 obtain ⟨h1,h2⟩:=Afi hi
 obtain ⟨y,hy⟩:∃ y,bs[i]?=some y:=⟨_,gE h1⟩
 rw [Fh hy] at h2
 obtain ⟨s1,s2,s3,s4⟩:=Oy he hy (by unfold Ox;rw [h2];rfl)
 unfold AuV AuW
 rw [hy]
 exact (Sm.shift (n:=32) (by simp only [bg];omega) (by simp only [bg];omega) (by simp only [bg];omega)).more (by decide) (by decide)⟩
def UB (ps:List Prt) (bs:List Bk) (os:List Int) (st:List (Int × Nat)) (ins:List Int):List (Int × Nat):=os.map fun o=>((OV ps bs st ins)[o.toNat]?).getD (0,0)
def stN (ps:List Prt) (bs:List Bk) (st:List (Int × Nat)) (ls:List (List Int)):List (Int × Nat):=ls.foldl (fun s ins=>CL ps bs s ins) st
def Aan (ps:List Prt) (bs:List Bk) (st:List (Int × Nat)):List (List Int)→Int
 | []=>0
 | ins::l=>if DK ps bs st ins=0 then Aan ps bs (CL ps bs st ins) l else DK ps bs st ins
def Me (ps:List Prt) (bs:List Bk) (os:List Int) (st:List (Int × Nat)):List (List Int)→List (List (Int × Nat))
 | []=>[]
 | ins::l=>UB ps bs os st ins::Me ps bs os (CL ps bs st ins) l
section
variable {ps:List Prt} {bs:List Bk} {os:List Int}
theorem UC:∀ {ls:List (List Int)} {st:List (Int × Nat)},(Me ps bs os st ls).length=ls.length
 | [],st=>rfl
 | ins::l,st=>by show (Me ps bs os _ l).length+1=l.length+1;rw [UC]
theorem WQ:∀ {ls:List (List Int)} {st:List (Int × Nat)} {ins:List Int},Me ps bs os st (ls++[ins])=Me ps bs os st ls++[UB ps bs os (stN ps bs st ls) ins]
 | [],st,ins=>rfl
 | i::l,st,ins=>by show _::Me ps bs os _ (l++[ins])=_;rw [WQ];rfl
theorem AiJ:stN ps bs st (ls++[ins])=CL ps bs (stN ps bs st ls) ins:=by unfold stN;rw [io];rfl
theorem Afk {k:Nat} (h:ls[k]?=some ins):Me ps bs os st (ls.take (k+1))=Me ps bs os st (ls.take k)++[UB ps bs os (stN ps bs st (ls.take k)) ins]:=by rw [ak,h,dr,WQ]
theorem AiK {k:Nat} (h:ls[k]?=some ins):stN ps bs st (ls.take (k+1))=CL ps bs (stN ps bs st (ls.take k)) ins:=by rw [ak,h,dr,AiJ]
def Vo (ps:List Prt) (bs:List Bk) (st:List (Int × Nat)) (ls:List (List Int)):Prop:=∀ (k:Nat) (ins:List Int),ls[k]?=some ins→DK ps bs (stN ps bs st (ls.take k)) ins=0
theorem Vo.nil:Vo ps bs st []:=fun k ins h=>by simp at h
theorem Vo.head {l:List (List Int)} (h:Vo ps bs st (ins::l)):DK ps bs st ins=0∧Vo ps bs (CL ps bs st ins) l:=⟨h 0 ins rfl,fun k j hj=>h (k+1) j hj⟩
theorem UD:∀ {ls ms:List (List Int)} {st:List (Int × Nat)},Vo ps bs st ls→Aan ps bs st (ls++ms)=Aan ps bs (stN ps bs st ls) ms
 | [],ms,st,_=>rfl
 | ins::l,ms,st,h=>by
  obtain ⟨h1,h2⟩:=h.head
  show (if DK ps bs st ins=0 then Aan ps bs (CL ps bs st ins) (l++ms) else _)=_
  rw [if_pos h1,UD h2]
  rfl
theorem Vo.take_step {k:Nat} (h:Vo ps bs st (ls.take k)) (hi:ls[k]?=some ins) (ht:DK ps bs (stN ps bs st (ls.take k)) ins=0):Vo ps bs st (ls.take (k+1)):=fun j x hj=>by
 rw [bq] at hj
 split at hj
 ·rename_i hjk
  by_cases e:j=k
  ·subst e
   rw [hi] at hj
   cases hj
   rw [List.take_take,ei (by omega)]
   exact ht
  ·have:=h j x (by rw [bq,if_pos (by omega)];exact hj)
   rw [List.take_take,ei (by omega)] at this
   rw [List.take_take,ei (by omega)]
   exact this
 ·cases hj
theorem AiL {k:Nat} (h:Vo ps bs st (ls.take k)) (hi:ls[k]?=some ins) (ht:DK ps bs (stN ps bs st (ls.take k)) ins≠0):Aan ps bs st ls=DK ps bs (stN ps bs st (ls.take k)) ins:=by
 have hk:=(gS.1 hi).1
 have e:ls=ls.take k++ins::ls.drop (k+1):=by
  obtain ⟨hlt,he⟩:=gS.1 hi
  exact AnR
 conv=>lhs;rw [e]
 rw [UD h]
 show (if _=0 then _ else _)=_
 rw [if_neg ht]
theorem WR (h:Vo ps bs st ls):Aan ps bs st ls=0:=by
 have:=UD (ms:=[]) h
 rw [av] at this
 rw [this]
 rfl
theorem AkI (he:Av ps bs os=0):∀ {ls:List (List Int)} {st:List (Int × Nat)},AiH bs st→Vo ps bs st ls→AiH bs (stN ps bs st ls)
 | [],st,h,_=>h
 | ins::l,st,h,ha=>by
  obtain ⟨h1,h2⟩:=ha.head
  exact AkI (ls:=l) (st:=CL ps bs st ins) he (YM he h.len h.nf h1) h2
end
def Ew (p:Int × Nat):Rv:=⟨decide (p.1<0),Ad p.1.natAbs,p.2⟩
theorem ArW (p:Int × Nat):(Ew p).rw.x=p.1:=by
 show sg (decide (p.1<0)) (Bc (Ad p.1.natAbs))=p.1
 rw [AI]
 unfold sg
 split <;> rename_i h
 ·have:=of_decide_eq_true h;omega
 ·have:¬ p.1<0:=by simpa using h
  omega
theorem Hh (p:Int × Nat):rvP (Ew p)=p:=by
 unfold rvP
 rw [ArW]
 show (p.1,((p.2:Nat):Int).toNat)=p
 rw [ar]
theorem QY (t:Bool) (p:Int × Nat):dRv t (Ew p)=dDy t p.1 p.2:=by
 unfold dRv dDy wds
 rw [AbF]
 rfl
theorem QZ {p:Int × Nat} (h:Nf p.1 p.2):vdB (Ew p).rw=true:=by
 refine decide_eq_true ?_
 by_cases h0:(Ad p.1.natAbs).length=0
 ·refine (AnF (r:=(Ew p).rw) h0).2 ?_
  have hz:p.1.natAbs=0:=by
   have:=AI p.1.natAbs
   rw [bj h0] at this
   exact this.symm
  have hd:p.2=0:=bz fun hne=>by have:=h.2 hne;omega
  exact ⟨decide_eq_false (by omega),by show ((p.2:Nat):Int)=0;omega⟩
 ·refine (Aim (r:=(Ew p).rw) h0).2 ⟨?_,by show (0:Int)≤(p.2:Nat);omega,by have:=h.1;show ((p.2:Nat):Int)≤65536;omega,?_⟩
  ·have hne:p.1.natAbs≠0:=fun hz=>h0 (by rw [hz,Bf];rfl)
   obtain ⟨q,L,hL,hq,q0,_,_⟩:=SS hne
   show _≠_
   simp only [Ew,Rv.rw]
   first|(rw [hL];simpa [hq] using q0)|simp_all
  ·by_cases hd:p.2=0
   ·left;show ((p.2:Nat):Int)=0;omega
   ·right
    have:=h.2 hd
    have hb:=Ty (Bd p.1.natAbs) 0
    rw [AI] at hb
    simp only [Nat.pow_zero,Nat.div_one,Nat.zero_div,Nat.zero_mod] at hb
    show (Ad p.1.natAbs)[0]?.getD 0 % 2=1
    omega
theorem Aao (l:List (Int × Nat)):(l.map Ew).map rvP=l:=by
 rw [bw]
 exact (cw fun p _=>Hh p).trans (List.map_id l)
theorem Afl (l:List (Int × Nat)):AcP (l.map Ew)=.row false 3 l.length (Ar dyP l):=by
 unfold AcP Ar
 rw [ad,bw]
 congr 2
 exact cw fun p _=>QY false p
theorem ArX (he:Av ps bs os=0) (h:AiH bs st):stE ps bs os (st.map Ew) ins=DK ps bs st ins:=by
 unfold stE DK
 rw [if_neg (not_not_intro he),if_neg (not_not_intro (by rw [ad];exact h.len)),if_neg (by rw [jm];exact List.all_eq_true.2 fun r hr=>by obtain ⟨p,hp,rfl⟩:=List.mem_map.1 hr;exact QZ (h.nf p hp)),Aao]
theorem AnY (h:Av ps bs os=0) {o:Int} (ho:o∈os):0≤o∧o<(bs.length:Int):=by
 have h1:=(FK h).2.1
 unfold Dc at h1
 rw [Aw] at h1
 by_cases h2:Ai (ps.map DI)=0
 ·rw [if_pos h2,Aw] at h1
  by_cases h3:Ai (bs.map (Be ps.length bs.length))=0
  ·rw [if_pos h3] at h1
   have:=BH h1 _ (fo (f:=Ll bs.length) ho)
   unfold Ll at this
   by_cases h:0≤o∧o<(bs.length:Int)
   ·exact h
   ·rw [if_neg h] at this;cases this
  ·rw [if_neg h3] at h1;exact absurd h1 h3
 ·rw [if_neg h2] at h1;exact absurd h1 h2
theorem NY (bs:List Bk):(AW bs).length≤bs.length:=by unfold AW;exact lT (gn _ _) (dp jj)
theorem UE {k:Nat} (hi:(AW bs)[k]?=some i) (hy:bs[i]?=some y):(AO bs)[k]?=some (Ac y.vn 0 y.ve):=by
 unfold AO AuV AuW
 rw [ag,hi,bp,hy]
 rfl
theorem WS {l:List (Int × Nat)} {k:Nat} {p:Int × Nat} (h:l[k]?=some p):(Ar dyP (l.take k)).map C.d++(dDy false p.1 p.2).map C.d=(Ar dyP (l.take (k+1))).map C.d∧(l.take k).length+1=(l.take (k+1)).length∧(l.take k).length≤k:=by
 refine ⟨?_,?_,by rw [cj];omega⟩
 ·rw [ak,h,dr,Fb,ct];rfl
 ·rw [ak,h,aq];rfl
def ArY (u:Bool) (ls:List (List Int)):D:=.row u 1 ls.length (ls.map (AM u))
def dRw (l:List (Int × Nat)):D:=.row false 3 l.length (Ar dyP l)
def AnZ (u v:Bool) (ls:List (List Int)):D:=.row u 1 ls.length (ls.map (AM v))
def AbS (rows:List (List (Int × Nat))):D:=.row false 1 rows.length (rows.map dRw)
theorem ArZ {u:Bool} {k:Nat} {l:List Int} (h:ls[k]?=some l):((ls.map (AM u)).drop (k*1)).take 1=[AM u l]:=ZC h
def NZ (ps:List Prt) (bs:List Bk) (os:List Int) (ls:List (List Int)):Int:=if Av ps bs os≠0 then Av ps bs os else if 256<ls.length then 4 else Aan ps bs (AO bs) ls
theorem Aoa {o:Int} {p:Int × Nat} (ho:os[j]?=some o) (hp:(OV ps bs st ins)[o.toNat]?=some p):(UB ps bs os st ins)[j]?=some p:=by
 unfold UB
 rw [ag,ho,bp,hp]
 rfl
theorem AiM (l:List (Int × Nat)):Dn (dRw l):=.row fun d hd=>Ce (f:=dyP) (fun p=>NV _ _) l d hd
theorem AuX {rows:List (List (Int × Nat))} (hF:F t=.one (.own id n)) (hH:H[id]?=some (.row ty 1 n ((rows.map dRw).map C.d))) (hn:n=rows.length):RV P F H (.tmp t) (.one (AbS rows)):=.tmp (by
 rw [hF]
 refine .one (EI rfl hH (by subst hn;rfl) (AP.map_l.2 ⟨rfl,fun j a b ha hb=>?_⟩))
 rw [ha] at hb
 cases hb
 obtain ⟨l,_,rfl⟩:=List.mem_map.1 (gM ha)
 exact .d fun _=>AiM l)
theorem Aob (h:p:=by
 exact AN rfl (.cons_ (.tmp (.one (FI rfl rfl))) (.cons_ (AcN rfl rfl) .nil_))):p:=h
theorem WT (t:Bool) {ps:List Prt} {bs:List Bk} {os:List Int} (hl:EF ps bs os):CV prog An 25 [aDg t ps bs os] [ApS (okQ (Av ps bs os) (AO bs)),aE (Av ps bs os)]:=by
 refine cvz func25 ntmps25 ?_
 have DL:=(Ih t hl (ps:=ps) (bs:=bs) (os:=os)).cv
 have hnl:=Cb (AW bs)
 by_cases h0:Av ps bs os=0
 case neg =>
  rw [if_neg h0] at DL
  rw [Ed h0]
  repeat' (with_reducible first|refine qq ?_|(refine Tx 0 ?_;refine gN xBo <| gO xA <| gO xA ?_)|(refine Tx 1 ?_;refine gO xL <| gO (xCl func36 (DL)) <| gO xMt <| gO xEx <| gO xEx <| gO xA <| gO xA ?_)|(refine Tx 2 ?_;refine gO xM <| gO (xNE Ag) ?_)|(refine Tx 3 ?_;refine gO xM <| gO xA <| gO xA ?_))
  exact Aob
 rw [if_pos h0,h0] at DL
 rw [h0,NW rfl]
 repeat' (with_reducible first|refine qq ?_|(refine Tx 0 ?_;refine gN xBo <| gO xA <| gO xA ?_)|(refine Tx 1 ?_;refine gO xL <| gO (xCl func36 (DL)) <| gO xMt <| gO xEx <| gO xEx <| gO xA <| gO xA ?_)|(refine Tx 2 ?_;refine gO xM <| gO (xNE Ag) ?_)|(refine Tx 4 ?_;refine gO xA ?_)|(refine Tx 5 ?_;refine gO xM <| gO xN <| gO xM ?_))
 refine AY (Mp 6 43 3 rfl) ?_
 have hl2:=hl.l2
 have hdb:=NY bs
 have hsl:(AO bs).length=(AW bs).length:=(IW h0).len
 refine AY (Bz 2) (Aq (fun n Fr H=>∃ k:Nat,k≤(AW bs).length∧n=(AW bs).length - k∧Fr=ofL [(1,vr 0),(6,vo 1 (((AO bs).take k).length)),(17,vd (AM false (Br (AW bs)))),(18,vi ((Br (AW bs)).length)),(19,vi ((k:Nat)))]∧H=[.box 26 [.d (CU t ps),.d (Dw t bs),.d (AM t os)],.row 43 3 ((AO bs).take (k)).length ((Ar dyP ((AO bs).take (k))).map C.d)]) (n0:=(AW bs).length) ⟨0,af _,rfl,rfl,rfl⟩ ?_)
 rintro n Fr H ⟨k,hk,rfl,rfl,rfl⟩
 by_cases hlt:k<(AW bs).length
 case pos =>
  obtain ⟨i,hi⟩:∃ i,(AW bs)[k]?=some i:=⟨_,gE hlt⟩
  have hid:=FS hi
  have hil:=hid.1
  obtain ⟨y,hy⟩:∃ y,bs[i]?=some y:=⟨_,gE hil⟩
  have hk2:=hid.2
  rw [Fh hy] at hk2
  have hsc:=Oy h0 hy (by unfold Ox;rw [hk2];rfl)
  have NU:=GB y.vn y.ve hsc
  obtain ⟨hap,hap2,hoL⟩:=WS (UE hi hy)
  repeat' (with_reducible first|refine qq ?_|(refine Tx 6 ?_;refine gO xLt ?_)|(refine Tx 7 ?_;refine gO (xIr Aa (AF (Ij hi))) <| gO xD <| gO xA ?_)|(refine Tx 8 ?_;refine gO xM <| gO xF <| gO xD <| gO xM <| gO (xIr Ap (Gc hy)) <| gO xF <| gO xL <| gO (xCl func67 (NU)) <| gN (by exact AZ rfl Af Ak rfl rfl (by decide) (by decide)) <| gT (by exact FG rfl rfl rfl rfl rfl rfl Af Ak (by omega) (by decide) (by decide) rfl hap hap2) <| gO xA ?_)|(refine Tx 9 ?_;refine gO xAd <| gO xM ?_))
  refine ⟨_,_,Bz 2,_,?_,k+1,by omega,rfl,rfl,rfl⟩
  ·omega
 obtain rfl:k=(AW bs).length:=by omega
 clear hlt hk
 rw [←hsl,az]
 unfold ApS
 repeat' (with_reducible first|refine qq ?_|(refine Tx 6 ?_;refine gO xLt ?_)|(refine Tx 10 ?_;refine gO xM <| gO xA <| gO xA ?_))
 exact AN rfl (.cons_ (.tmp (.one (AeT rfl rfl rfl))) (.cons_ (Fv rfl rfl) .nil_))
theorem Aoc (k:p') (h:Hd9 p'→p:=by with_reducible first|(intro Z9;refine Tx 0 ?_;refine gN xBo <| gO xA <| gO xA ?_;exact Z9.o)|(intro Z9;refine Tx 1 ?_;refine gO xL <| gO (xCl func25 (SC)) <| gO xMt <| gO xEx <| gO xEx <| gO xA <| gO xA ?_;exact Z9.o)|(intro Z9;refine Tx 2 ?_;refine gO xM <| gO (xNE Ag) ?_;exact Z9.o)|fail):p:=h ⟨k⟩
theorem Asa (k:p') (h:Hd9 p'→p:=by with_reducible first|(intro Z9;refine Tx 9 ?_;refine gO (xIr NF (ArZ hi)) <| gO xD <| gO xA ?_;exact Z9.o)|(intro Z9;refine Tx 10 ?_;refine gO xL <| gO xM <| gO xM <| gO (xCl func26 (ST)) <| gO xMt <| gO xEx <| gO xEx <| gO xEx <| gO xA <| gO xA <| gO xA ?_;exact Z9.o)|(intro Z9;refine Tx 11 ?_;refine gO xM <| gO (xNE Ag) ?_;exact Z9.o)|fail):p:=h ⟨k⟩
theorem Afm (t u v:Bool) {ps:List Prt} {bs:List Bk} {os:List Int} (hl:EF ps bs os) (ls:List (List Int)) (hls:∀ l∈ls,l.length≤17592186044416) (hln:ls.length≤1000000):CV prog An 8 [aDg t ps bs os,.one (AnZ u v ls)] [.one (AbS (okQ (NZ ps bs os ls) (Me ps bs os (AO bs) ls))),aE (NZ ps bs os ls)]:=by
 refine cvz func8 ntmps8 ?_
 have SC:=WT t hl (ps:=ps) (bs:=bs) (os:=os)
 by_cases h0:Av ps bs os=0
 case neg =>
  have hE:NZ ps bs os ls=Av ps bs os:=if_pos h0
  rw [hE,Ed h0]
  rw [Ed h0] at SC
  repeat' (with_reducible first|refine qq ?_|refine Aoc ?_|(refine Tx 3 ?_;refine gO xM <| gO xA <| gO xA ?_))
  exact Aob
 rw [h0,NW rfl] at SC
 by_cases hL:256<ls.length
 case pos =>
  have hE:NZ ps bs os ls=4:=by unfold NZ;rw [if_neg (not_not_intro h0),if_pos hL]
  rw [hE,Ed (by decide)]
  repeat' (with_reducible first|refine qq ?_|refine Aoc ?_|(refine Tx 4 ?_;refine gO xM <| gO xN <| gO xGt ?_)|(refine Tx 5 ?_;refine gO (xMi underlying85) <| gO xA <| gO xA ?_))
  exact AN rfl (.cons_ (.tmp (.one (FI rfl rfl))) (.cons_ (AbC rfl (by decide) rfl) .nil_))
 have hE:NZ ps bs os ls=Aan ps bs (AO bs) ls:=by unfold NZ;rw [if_neg (not_not_intro h0),if_neg hL]
 rw [hE]
 repeat' (with_reducible first|refine qq ?_|refine Aoc ?_|(refine Tx 4 ?_;refine gO xM <| gO xN <| gO xGt ?_)|(refine Tx 6 ?_;refine gO xA ?_)|(refine Tx 7 ?_;refine gO xM <| gO xN <| gO xM ?_))
 refine AY (Mp 8 28 1 rfl) ?_
 refine AY (Bz 2) (Aq (fun n Fr H=>∃ k:Nat,k≤ls.length∧n=ls.length - k∧Vo ps bs (AO bs) (ls.take k)∧Fr=ofL [(2,vr 0),(6,vd (.row false 3 (stN ps bs (AO bs) (ls.take k)).length (Ar dyP (stN ps bs (AO bs) (ls.take k))))),(8,vo 1 ((Me ps bs os (AO bs) (ls.take k)).length)),(29,vd (AnZ u v ls)),(30,vi ls.length),(31,vi ((k:Nat)))]∧H=[.box 26 [.d (CU t ps),.d (Dw t bs),.d (AM t os)],.row 28 1 (Me ps bs os (AO bs) (ls.take (k))).length (((Me ps bs os (AO bs) (ls.take (k))).map dRw).map C.d)]) (n0:=ls.length) ⟨0,af _,rfl,Vo.nil,rfl,rfl⟩ ?_)
 rintro n Fr H ⟨k,hk,rfl,hA,rfl,rfl⟩
 have hl2:=hl.l2
 have hl3:=hl.l3
 by_cases hlt:k<ls.length
 case pos =>
  obtain ⟨l,hi⟩:∃ l,ls[k]?=some l:=⟨_,gE hlt⟩
  have hll:=hls l (gM hi)
  have hok:=AkI h0 (IW h0) hA
  have hdb:=NY bs
  have hsl:=hok.len
  have ST:=Aiz t v hl ((stN ps bs (AO bs) (ls.take (k))).map Ew) (fun r hr=>by obtain ⟨p,hp,rfl⟩:=List.mem_map.1 hr;exact ⟨Bd _,lT ((hok.sm p hp).lenN 128 (by decide)) (by decide)⟩) (by rw [ad];omega) l hll
  rw [Afl,Aao,ArX h0 hok] at ST
  by_cases hT:DK ps bs (stN ps bs (AO bs) (ls.take (k))) l=0
  case neg =>
   rw [AiL hA hi hT,Ed hT]
   rw [Ed hT,Ed hT] at ST
   repeat' (with_reducible first|refine qq ?_|(refine Tx 8 ?_;refine gO xLt ?_)|refine Asa ?_|(refine Tx 12 ?_;refine gO xM <| gO xA <| gO xA ?_))
   exact Aob
  rw [hT,NW rfl,NW rfl] at ST
  repeat' (with_reducible first|refine qq ?_|(refine Tx 8 ?_;refine gO xLt ?_)|refine Asa ?_|(refine Tx 13 ?_;refine gO xA ?_))
  refine AY (Mp 14 43 3 rfl) ?_
  repeat' (with_reducible first|refine qq ?_|(refine Tx 14 ?_;refine gO xF <| gO xD <| gO xN <| gO xM ?_))
  have hvs:=Aam h0 hok.len hok.nf hT
  have hvl:(OV ps bs (stN ps bs (AO bs) (ls.take (k))) l).length=bs.length:=Aak
  have hra:=hA.take_step hi hT
  have hrn:=Afk (os:=os) (st:=AO bs) (ps:=ps) (bs:=bs) hi
  have hsn:=AiK (st:=AO bs) (ps:=ps) (bs:=bs) hi
  have hro:(Me ps bs os (AO bs) (ls.take (k))).length=k:=by rw [UC,cj];omega
  refine AY (Bz 3) (Aq (fun n Fr H=>∃ j:Nat,j≤os.length∧n=os.length - j∧Fr=ofL [(2,vr 0),(8,vo 1 ((Me ps bs os (AO bs) (ls.take k)).length)),(11,vd (.row false 3 (CL ps bs (stN ps bs (AO bs) (ls.take k)) l).length (Ar dyP (CL ps bs (stN ps bs (AO bs) (ls.take k)) l)))),(12,vd (.row false 3 (OV ps bs (stN ps bs (AO bs) (ls.take k)) l).length (Ar dyP (OV ps bs (stN ps bs (AO bs) (ls.take k)) l)))),(14,vo 2 (((UB ps bs os (stN ps bs (AO bs) (ls.take k)) l).take j).length)),(29,vd (AnZ u v ls)),(30,vi ls.length),(31,vi ((k:Nat))),(47,vd (AM t os)),(48,vi os.length),(49,vi ((j:Nat)))]∧H=[.box 26 [.d (CU t ps),.d (Dw t bs),.d (AM t os)],.row 28 1 (Me ps bs os (AO bs) (ls.take (k))).length (((Me ps bs os (AO bs) (ls.take (k))).map dRw).map C.d),.row 43 3 ((UB ps bs os (stN ps bs (AO bs) (ls.take (k))) l).take (j)).length ((Ar dyP ((UB ps bs os (stN ps bs (AO bs) (ls.take (k))) l).take (j))).map C.d)]) (n0:=os.length) ⟨0,af _,rfl,rfl,rfl⟩ ?_)
  rintro n Fr H ⟨j,hj,rfl,rfl,rfl⟩
  by_cases hlj:j<os.length
  case pos =>
   obtain ⟨o,ho⟩:∃ o,os[j]?=some o:=⟨_,gE hlj⟩
   obtain ⟨o0,o1⟩:=AnY h0 (gM ho)
   obtain ⟨p,hp⟩:∃ p,(OV ps bs (stN ps bs (AO bs) (ls.take (k))) l)[o.toNat]?=some p:=⟨_,gE (by omega)⟩
   have hsm:=hvs p (gM hp)
   have lp:=lT (hsm.lenN 128 (by decide)) (show 128≤50000 by decide)
   have SH:=Bj p.1 p.2 0 hsm.ok lp (by have:=hsm.ok.1;omega)
   rw [Dx hsm.ok] at SH
   obtain ⟨hap,hap2,hoL⟩:=WS (Aoa ho hp)
   have hoe:o=((o.toNat:Nat):Int):=by omega
   have hpl:=(gS.1 hp).1
   repeat' (with_reducible first|refine qq ?_|(refine Tx 15 ?_;refine gO xLt ?_)|(refine Tx 16 ?_;refine gO (by first|exact xIr Aa (AF ho)|exact Sp (i:=o.toNat) rfl rfl rfl hoe Aa (by omega) (by decide) (Yt hp)) <| gO xD <| gO xA ?_)|(refine Tx 17 ?_;refine gO xM <| gO xM <| gO xM <| gO (by exact Sp (i:=o.toNat) rfl rfl rfl hoe Af (by omega) (by decide) (Yt hp)) <| gO xL <| gO (xCl func27 (SH)) <| gN (by exact AZ rfl Af Ak rfl rfl (by decide) (by decide)) <| gT (by exact FG rfl rfl rfl rfl rfl rfl Af Ak (by omega) (by decide) (by decide) rfl hap hap2) <| gO xA ?_)|(refine Tx 18 ?_;refine gO xAd <| gO xM ?_))
   refine ⟨_,_,Bz 3,_,?_,j+1,by omega,rfl,rfl,rfl⟩
   ·omega
  obtain rfl:j=os.length:=by omega
  clear hlj hj
  have hol:(UB ps bs os (stN ps bs (AO bs) (ls.take (k))) l).length=os.length:=by unfold UB;rw [ad]
  rw [←hol,az]
  repeat' (with_reducible first|refine qq ?_|(refine Tx 15 ?_;refine gO xLt ?_))
  refine AY (Ff (ds:=Ar dyP (UB ps bs os (stN ps bs (AO bs) (ls.take (k))) l)) 14 2 rfl rfl) ?_
  have hap:((Me ps bs os (AO bs) (ls.take (k))).map dRw).map C.d++[C.d (dRw (UB ps bs os (stN ps bs (AO bs) (ls.take (k))) l))]=((Me ps bs os (AO bs) (ls.take (k+1))).map dRw).map C.d:=by rw [hrn,ct,ct];rfl
  have hap2:(Me ps bs os (AO bs) (ls.take (k))).length+1=(Me ps bs os (AO bs) (ls.take (k+1))).length:=by rw [hrn,aq];rfl
  repeat' (with_reducible first|refine qq ?_|(refine Tx 19 ?_;refine gO xM <| gO xM <| gN (by exact AZ rfl BN CS rfl rfl (by decide) (by decide)) <| gT (by exact FG rfl rfl rfl rfl rfl rfl BN CS (by omega) (by decide) (by decide) rfl hap hap2) <| gO xA ?_)|(refine Tx 20 ?_;refine gO xM <| gO xA ?_)|(refine Tx 21 ?_;refine gO xAd <| gO xM ?_))
  rw [←hsn]
  refine ⟨_,_,Bz 2,_,by omega,k+1,by omega,rfl,hra,rfl,rfl⟩
 obtain rfl:k=ls.length:=by omega
 clear hlt hk
 rw [az] at hA
 rw [az,WR hA,NW rfl]
 repeat' (with_reducible first|refine qq ?_|(refine Tx 8 ?_;refine gO xLt ?_)|(refine Tx 22 ?_;refine gO xM <| gO xA <| gO xA ?_))
 exact AN rfl (.cons_ (AuX rfl rfl rfl) (.cons_ (Fv rfl rfl) .nil_))
theorem IY (h:Av ps bs os=0):CT ps bs os:=by
 unfold Av at h
 by_cases hs:CT ps bs os
 ·exact hs
 ·rw [if_pos hs] at h
  cases h
theorem Aod (he:Av ps bs os=0) {i:Nat} (hi:i<bs.length):SW bs (Bb bs).length i:=by
 exact ArK
theorem UF {p:Int × Nat} {k:Nat} (h:Nf p.1 p.2) (hl:(Ad p.1.natAbs).length≤k) (hn:32*k≤n):Sm p n 65536:=by
 refine ⟨h,?_,h.1⟩
 have hlt:p.1.natAbs<2 ^ (32*(Ad p.1.natAbs).length):=by have:=Co (Bd p.1.natAbs);rw [AI] at this;rw [gx];exact this
 exact au hlt (ba (by decide) (by omega))
theorem Aoe (k:p') (h:Hd9 p'→p:=by with_reducible first|(intro Z9;refine qq ?_;exact Z9.o)|(intro Z9;refine Tx 0 ?_;refine gN xBo <| gO xA ?_;exact Z9.o)|(intro Z9;refine Tx 1 ?_;refine gO xL <| gO (xCl func71 (PX)) <| gO xMt <| gO xEx <| gO xEx <| gO xEx <| gO xA <| gO xA <| gO xA ?_;exact Z9.o)|(intro Z9;refine Tx 2 ?_;refine gO xM <| gO xN <| gO xEq <| gO xA ?_;exact Z9.o)|fail):p:=h ⟨k⟩
theorem YN (h:p:=by
 exact AN rfl (.cons_ (AhG rfl rfl) .nil_)):p:=h
theorem GF (x:Int) (dx:Nat) (hnx:Nf x dx) (lx:(Ad x.natAbs).length≤35184372087808):CV prog An 28 [aDy false x dx] [aI (sgI x)]:=by
 refine cvz func28 ntmps28 ?_
 have PX:=FM (G:=An) x dx hnx (lT lx (by decide))
 by_cases c0:x=0
 case pos =>
  have l0:((Ad x.natAbs).length:Int)=0:=by rw [show x.natAbs=0 by omega,Bf];rfl
  rw [show decide (x<0)=false by rw [decide_eq_false (by omega)]] at PX
  rw [show sgI x=0 by unfold sgI;(repeat' split) <;> omega]
  repeat' (with_reducible first|refine Aoe ?_|(refine Tx 3 ?_;refine gO xA ?_))
  exact YN
 by_cases cm1:x<0
 case pos =>
  have l0:¬ ((Ad x.natAbs).length:Int)=0:=fun hc=>by have:=Eh (n:=x.natAbs) (by omega);omega
  rw [show decide (x<0)=true by rw [decide_eq_true (by omega)]] at PX
  rw [show sgI x = -1 by unfold sgI;(repeat' split) <;> omega]
  repeat' (with_reducible first|refine Aoe ?_|(refine Tx 4 ?_;refine gO xM <| gO xA ?_)|(refine Tx 5 ?_;refine gO xA ?_))
  exact YN
 have l0:¬ ((Ad x.natAbs).length:Int)=0:=fun hc=>by have:=Eh (n:=x.natAbs) (by omega);omega
 rw [show decide (x<0)=false by rw [decide_eq_false (by omega)]] at PX
 rw [show sgI x=1 by unfold sgI;(repeat' split) <;> omega]
 repeat' (with_reducible first|refine Aoe ?_|(refine Tx 4 ?_;refine gO xM <| gO xA ?_)|(refine Tx 6 ?_;refine gO xA ?_))
 exact YN
theorem Tf (x:Int) (d den:Nat) (hn:Nf x d) (hl:(Ad x.natAbs).length≤40000) (hd:den≤65536):CVF prog An 122 [aDy false x d,aI (den:Int)] [aDy false (BX x d den).1 (BX x d den).2,aE 0]:=fun w S vs hg hlt ha=>by
 obtain ⟨v,vs',rfl,h1,ha⟩:=ha.uncons
 obtain ⟨u,hu,h2⟩:=CG ha
 subst hu
 cases h2
 exact (Sc (Aen h1 hlt hn) (aa _) (lT hl (by decide)) hd hg).mono fun r w' ⟨v,he,hd,hb⟩=>⟨_,he,TY (ZU hd) (Ba.val rfl),hb⟩
theorem AiN {x:Int} {d:Nat} (hn:Nf x d) (hd:den≤65536):Nf (BX x d den).1 (BX x d den).2:=by
 unfold BX
 split
 ·exact hn
 ·exact Nf.nf hd
theorem WV {x:Int} {k:Nat}:(x / 2 ^ k).natAbs≤x.natAbs:=by
 have h1:=Int.mul_ediv_add_emod x (2 ^ k)
 have h2:=Int.emod_nonneg x (Afe k)
 have h3:=Int.emod_lt_of_pos x (Bv k)
 have hp:=Bv k
 generalize (2:Int) ^ k=P at *
 generalize hq:x / P=q at *
 rcases Int.lt_or_le q 0 with hlt|hge
 ·have:P*q≤q:=by
   have:=Int.mul_le_mul_of_nonpos_right (show (1:Int)≤P by omega) (ck hlt)
   omega
  rcases Int.lt_or_le x 0 with hx|hx
  ·by_cases hP:P=1
   ·subst hP;omega
   ·have h4:2*(-q)≤P*(-q):=fq (by omega) (by omega)
    rw [Int.mul_neg] at h4
    by_cases hq1:q = -1
    ·subst hq1;omega
    ·have h5:P*(-q - 1) ≥ 1*(-q - 1):=fq (by omega) (by omega)
     rw [Int.mul_sub,Int.mul_neg] at h5
     omega
  ·exfalso
   have:0≤q:=by rw [←hq];exact Int.ediv_nonneg hx (by omega)
   omega
 ·have:1*q≤P*q:=fq (by omega) hge
  omega
theorem Afn {x:Int} {d k:Nat} (hl:(Ad x.natAbs).length≤k):(Ad (BX x d den).1.natAbs).length≤k:=by
 unfold BX
 split
 ·exact hl
 ·exact lT (Bt (lT (Gm _ _) WV)) hl
theorem Asb (h:p:=by first|exact xCl func83 (NG)|exact xCl func83 (NH)):p:=h
theorem WW (x:Int) (d den:Nat) (hn:Nf x d) (hl:(Ad x.natAbs).length≤40000) (hd:den≤65536):CV prog An 169 [aDy false x d,aI (den:Int)] [aDy false (AiE (x,d) den).1 (AiE (x,d) den).2,aE 0]:=by
 refine cvz func169 ntmps169 ?_
 have NG:=ER x d hn hl
 have hnn:Nf (-x) d:=⟨hn.1,fun h=>by have:=hn.2 h;omega⟩
 have FL:=(Tf (-x) d den hnn (by rw [Int.natAbs_neg];exact hl) hd).cv
 have NH:=ER (BX (-x) d den).1 (BX (-x) d den).2 (AiN hnn hd) (Afn (by rw [Int.natAbs_neg];exact hl))
 repeat' (with_reducible first|refine qq ?_|(refine Tx 0 ?_;refine gN xBo <| gN (xAl Ak) <| gO xA ?_)|(refine Tx 1 ?_;refine gO xL <| gO Asb <| gO xM <| gO (xCl func122 (FL)) <| gO xMt <| gO (by exact Es rfl rfl rfl) <| gO xEx <| gN (xAl Ak) <| gZ (xSk Ab) <| gO xA ?_)|(refine Tx 2 ?_;refine gO xL <| gO Asb <| gO xM <| gZ (xSk Ab) <| gO xA ?_))
 exact AN rfl (.cons_ (rvW Ab rfl) (.cons_ (Fv rfl rfl) .nil_))
def ivR (r s:Rv):Bool:=vdB r.rw && vdB s.rw && decide (Cf r.rw.x r.rw.d s.rw.x s.rw.d≤0)
def RvL (r:Rv):Prop:=Az r.ws∧r.ws.length≤40000
def dIr (t:Bool) (a:Rv × Rv):List D:=dRv t a.1++dRv t a.2
def RvB (r:Rv):Prop:=Az r.ws∧r.ws.length≤35184372087808
theorem Ra (h:RvL r):RvB r:=⟨h.1,lT h.2 (by decide)⟩
theorem Afo {x y:Int} {dx dy:Nat} (h:sgI x=sgI y):Wd x dx y dy=if x<0 then -sgI (((x.natAbs*2 ^ (max dx dy - dx):Nat):Int) - ((y.natAbs*2 ^ (max dx dy - dy):Nat):Int)) else sgI (((x.natAbs*2 ^ (max dx dy - dx):Nat):Int) - ((y.natAbs*2 ^ (max dx dy - dy):Nat):Int)):=by
 rw [Pi,Pi]
 by_cases hx:x<0
 ·have hy:y<0:=by unfold sgI at h;(repeat' split at h) <;> omega
  rw [if_pos hx,if_pos hx,if_pos hy,←ZH]
  unfold Wd
  congr 1
  omega
 ·have hy:¬ y<0:=by unfold sgI at h;(repeat' split at h) <;> omega
  rw [if_neg hx,if_neg hx,if_neg hy]
  rfl
theorem Asc (h:p:=by first|exact xCl func28 (SX)|exact xCl func28 (SY)):p:=h
theorem AiO (k:p') (h:Hd9 p'→p:=by with_reducible first|(intro Z9;refine qq ?_;exact Z9.o)|(intro Z9;refine Tx 0 ?_;refine gN xBo <| gN xBo <| gO xA ?_;exact Z9.o)|(intro Z9;refine BB (id:=1) AJ (by kernel_rfl) ?_;refine gP xL <| gP Asc <| gP xL <| gP Asc <| gP xA <| gP xA ?_;refine Ke ?_;exact Z9.o)|(intro Z9;refine Tx 2 ?_;refine gO xM <| gO xM <| gO xNe ?_;exact Z9.o)|fail):p:=h ⟨k⟩
theorem Asd (k:p') (h:Hd9 p'→p:=by with_reducible first|(intro Z9;refine Tx 6 ?_;refine gO xL <| gO xL <| gO (xCl func29 (AL)) <| gO xMt <| gO xEx <| gO xEx <| gO xEx <| gO xEx <| gO xEx <| gO xA <| gO xA <| gO xA <| gO xA <| gO xA ?_;exact Z9.o)|(intro Z9;refine Tx 7 ?_;refine gO xM <| gO xM <| gO (xCl func30 (CP.cv)) <| gO xA ?_;exact Z9.o)|(intro Z9;refine Tx 8 ?_;refine gO xM ?_;exact Z9.o)|fail):p:=h ⟨k⟩
theorem Afp (x:Int) (dx:Nat) (y:Int) (dy:Nat) (hnx:Nf x dx) (hny:Nf y dy) (lx:(Ad x.natAbs).length≤35184372087808) (ly:(Ad y.natAbs).length≤35184372087808):CV prog An 9 [aDy false x dx,aDy false y dy] [aI (Cf x dx y dy)]:=by
 refine cvz func9 ntmps9 ?_
 have SX:=GF x dx hnx lx
 have SY:=GF y dy hny ly
 rw [Ug]
 have r1:=Gv x
 have r2:=Gv y
 have hm:=Gb x (max dx dy - dx)
 have hn:=Gb y (max dx dy - dy)
 by_cases h1:sgI x=sgI y
 case neg =>
  by_cases h2:sgI x<sgI y
  case pos =>
   rw [show Wd x dx y dy = -1 from AdQ (by rw [hm,hn];exact h2)]
   clear hm hn
   repeat' (with_reducible first|refine AiO ?_|(refine Tx 3 ?_;refine gO xM <| gO xM <| gO xLt ?_)|(refine Tx 4 ?_;refine gO xA ?_))
   exact YN
  rw [show Wd x dx y dy=1 from Akn (by rw [hm,hn];omega)]
  clear hm hn
  repeat' (with_reducible first|refine AiO ?_|(refine Tx 3 ?_;refine gO xM <| gO xM <| gO xLt ?_)|(refine Tx 5 ?_;refine gO xA ?_))
  exact YN
 clear hm hn
 rw [Afo h1]
 have AL:=ZY x dx y dy hnx hny lx ly
 have hdx:=hnx.1
 have hdy:=hny.1
 have hX:(Ad (x.natAbs*2 ^ ((max dx dy) - dx))).length≤36000000000000:=lT (BO x.natAbs ((max dx dy) - dx)) (by omega)
 have hY:(Ad (y.natAbs*2 ^ ((max dx dy) - dy))).length≤36000000000000:=lT (BO y.natAbs ((max dx dy) - dy)) (by omega)
 have CP:=QI (G:=An) false false (x.natAbs*2 ^ ((max dx dy) - dx)) (y.natAbs*2 ^ ((max dx dy) - dy)) hX hY
 generalize (x.natAbs*2 ^ ((max dx dy) - dx))=p at *
 generalize (y.natAbs*2 ^ ((max dx dy) - dy))=q at *
 have r3:=Gv ((p:Int) - (q:Int))
 generalize sgI ((p:Int) - (q:Int))=c at *
 by_cases h2:x<0
 case pos =>
  rw [if_pos h2]
  rw [decide_eq_true h2] at AL
  repeat' (with_reducible first|refine AiO ?_|refine Asd ?_|(refine Tx 9 ?_;refine gO xM <| gO Aiy <| gO xA ?_))
  exact YN
 rw [if_neg h2]
 rw [decide_eq_false h2] at AL
 repeat' (with_reducible first|refine AiO ?_|refine Asd ?_|(refine Tx 10 ?_;refine gO xM <| gO xA ?_))
 exact YN
theorem Ase (k:p') (h:Hd9 p'→p:=by with_reducible first|(intro Z9;refine Tx 1 ?_;refine gO xF <| gO xL <| gO (xCl func58 (V1)) <| gO xM ?_;(first|iterate 3 refine Jd ?_|(refine Jy (xFa BI Ab) ?_;refine Jy (xLa Ab) ?_;refine Jy (xCl func58 (V2)) ?_));refine gO xPk <| gO xM ?_;(first|iterate 6 refine Jd ?_|(refine Jy (xFa Er Ab) ?_;refine Jy (xLa Ab) ?_;refine Jy (xFa BI Ab) ?_;refine Jy (xLa Ab) ?_;refine Jy (xCl func9 (CM)) ?_;refine Jy xLe ?_));refine gO xPk <| gO xA ?_;exact Z9.o)|fail):p:=h ⟨k⟩
theorem Rb (r s:Rv) (hr:RvB r) (hs:RvB s):CV prog An 57 [.agg (dIr false (r,s))] [aB (ivR r s)]:=by
 refine cvz func57 ntmps57 ?_
 have V1:=(MD (G:=An) false r hr.1 (lT hr.2 (by decide))).cv
 have V2:=(MD (G:=An) false s hs.1 (lT hs.2 (by decide))).cv
 by_cases c1:vdB r.rw=true
 case neg =>
  rw [ci] at c1
  rw [c1] at V1
  repeat' (with_reducible first|refine qq ?_|(refine Tx 0 ?_;refine gN xBo <| gO xA ?_)|(refine Tx 1 ?_;refine gO xF <| gO xL <| gO (xCl func58 (V1)) <| gO xM ?_;(first|iterate 3 refine Jd ?_|(refine Jy (xFa BI Ab) ?_;refine Jy (xLa Ab) ?_;refine Jy (xCl func58 (V1)) ?_));refine gO xPk <| gO xM ?_;(first|iterate 4 refine Jd ?_|(refine Jy (xFa Er Ab) ?_;refine Jy (xLa Ab) ?_;refine Jy (xFa BI Ab) ?_;refine Jy (xLa Ab) ?_));refine Jd ?_;(first|refine Jd ?_|refine Jy xLe ?_);refine gO xPk <| gO xA ?_))
  exact AN rfl (.cons_ (GI rfl (by unfold ivR;rw [c1];rfl)) .nil_)
 by_cases c2:vdB s.rw=true
 case neg =>
  rw [ci] at c2
  rw [c1] at V1
  rw [c2] at V2
  repeat' (with_reducible first|refine qq ?_|(refine Tx 0 ?_;refine gN xBo <| gO xA ?_)|(refine Tx 1 ?_;refine gO xF <| gO xL <| gO (xCl func58 (V1)) <| gO xM ?_;(first|iterate 3 refine Jd ?_|(refine Jy (xFa BI Ab) ?_;refine Jy (xLa Ab) ?_;refine Jy (xCl func58 (V2)) ?_));refine gO xPk <| gO xM ?_;(first|iterate 4 refine Jd ?_|(refine Jy (xFa Er Ab) ?_;refine Jy (xLa Ab) ?_;refine Jy (xFa BI Ab) ?_;refine Jy (xLa Ab) ?_));refine Jd ?_;(first|refine Jd ?_|refine Jy xLe ?_);refine gO xPk <| gO xA ?_))
  exact AN rfl (.cons_ (GI rfl (by unfold ivR;rw [c1,c2];rfl)) .nil_)
 rw [c1] at V1
 rw [c2] at V2
 obtain ⟨e1,n1,k1⟩:=Yx (t:=false) hr.1 c1
 obtain ⟨e2,n2,k2⟩:=Yx (t:=false) hs.1 c2
 have CM:=Afp r.rw.x r.rw.d s.rw.x s.rw.d n1 n2 (lT (dp k1) hr.2) (lT (dp k2) hs.2)
 unfold aDy at CM
 rw [←e1,←e2] at CM
 by_cases c3:Cf r.rw.x r.rw.d s.rw.x s.rw.d≤0
 case pos =>
  repeat' (with_reducible first|refine qq ?_|(refine Tx 0 ?_;refine gN xBo <| gO xA ?_)|refine Ase ?_)
  exact AN rfl (.cons_ (GI rfl (by unfold ivR;rw [c1,c2,decide_eq_true c3];rfl)) .nil_)
 case neg =>
  repeat' (with_reducible first|refine qq ?_|(refine Tx 0 ?_;refine gN xBo <| gO xA ?_)|refine Ase ?_)
  exact AN rfl (.cons_ (GI rfl (by unfold ivR;rw [c1,c2,decide_eq_false c3];rfl)) .nil_)
theorem Oa (r s:Rv) (hr:RvL r) (hs:RvL s):CV prog An 57 [.agg (dIr false (r,s))] [aB (ivR r s)]:=Rb r s (Ra hr) (Ra hs)
theorem OD {p:Pq} {d:Nat} (h:Sm p n d) (hn:n≤1280000):RvL (Ew p):=⟨Bd _,h.lenN 40000 (by omega)⟩
theorem Afq {a:Iq} {d:Nat} (h:IwS a n d):ivR (Ew a.1) (Ew a.2)=true:=by
 unfold ivR
 rw [QZ h.s1.ok,QZ h.s2.ok]
 have:Cf (Ew a.1).rw.x (Ew a.1).rw.d (Ew a.2).rw.x (Ew a.2).rw.d=Oz (rvP (Ew a.1)) (rvP (Ew a.2)):=rfl
 rw [Hh,Hh] at this
 rw [this,decide_eq_true ((WK h.s1.le h.s2.le).2 h.le)]
 rfl
theorem AbT (a:Iq) {n d:Nat} (h:IwS a n d) (hn:n≤1280000):CV prog An 57 [aIw false a] [aB true]:=by
 have:=Oa (Ew a.1) (Ew a.2) (OD h.s1 hn) (OD h.s2 hn)
 rw [Afq h] at this
 unfold dIr at this
 rwa [QY,QY] at this
theorem Rc (x:Int) (d:Nat) (hn:Nf x d) (hl:(Ad x.natAbs).length≤40000):CV prog An 166 [aDy false x d] [aDy false x d]:=by
 refine cvz func166 ntmps166 ?_
 have SH:=Bj x d 0 hn (lT hl (by decide)) (by have:=hn.1;omega)
 rw [Dx hn] at SH
 repeat' (with_reducible first|refine qq ?_|(refine Tx 0 ?_;refine gN xBo <| gN (xAl Ak) ?_)|(refine Tx 1 ?_;refine gO xL <| gO (xCl func27 (SH)) <| gZ (xSk Ab) ?_))
 exact Lf
theorem MM (h:p:=by
 exact AN rfl (.cons_ (rvJ Ae rfl) .nil_)):p:=h
theorem Asf (h:p:=by first|exact xCl func166 (S1)|exact xCl func166 (S2)):p:=h
theorem AiP (a:Iq) {n d:Nat} (h:IwS a n d) (hn:n≤1280000) (l1:(Ad a.1.1.natAbs).length≤40000) (l2:(Ad a.2.1.natAbs).length≤40000):CV prog An 168 [aIw false a] [aIw false a]:=by
 refine cvz func168 ntmps168 ?_
 have V:=AbT a h hn
 have S1:=Rc a.1.1 a.1.2 h.s1.ok l1
 have S2:=Rc a.2.1 a.2.2 h.s2.ok l2
 repeat' (with_reducible first|refine qq ?_|(refine Tx 0 ?_;refine gN xBo <| gN (xAl Am) ?_)|(refine Tx 1 ?_;refine gO xL <| gO (xCl func57 (V)) <| gO Aiy ?_)|(refine AE (id:=3) 7 AJ (by kernel_rfl) ?_;dsimp only [List.take,List.drop];refine gP xF <| gP xL <| gP Asf <| gP xF <| gP xL <| gP Asf <| gP (by exact AH rfl Dp rfl rfl) ?_;refine Ke ?_;refine gZ (xSk Ae) ?_))
 exact MM
theorem Dq (a:Iq) (h:IwS a 20000 20000):CV prog An 168 [aIw false a] [aIw false a]:=AiP a h (by decide) h.s1.lz h.s2.lz
theorem Dz (p:Pq) (hn:Nf p.1 p.2) (hl:(Ad p.1.natAbs).length≤40000):CV prog An 79 [aDy false p.1 p.2] [aIw false (p,p)]:=by
 refine cvz func79 ntmps79 ?_
 have S1:=Rc p.1 p.2 hn hl
 repeat' (with_reducible first|refine qq ?_|(refine Tx 0 ?_;refine gN xBo <| gN (xAl Am) ?_)|(refine AE (id:=1) 5 AJ (by kernel_rfl) ?_;dsimp only [List.take,List.drop];refine gP xL <| gP (xCl func166 (S1)) <| gP xL <| gP (xCl func166 (S1)) <| gP (by exact AH rfl Dp rfl rfl) ?_;refine Ke ?_;refine gZ (xSk Ae) ?_))
 exact MM
theorem OE {l:List Pq} {k:Nat} {p:Pq} (h:l[k]?=some p):((Ar dyP l).drop (k*3)).take 3=dyP p:=Yt h
theorem Afr {G:World→Prop} {t e:TypeId} {x l:Operand} {tg:Bool} {s lo:Nat} {k:IntKind} {z:Int} {cs:List D} (ho:o.op=.slice t x (some l) none none) (hx:F.ev x=.one (.d (.row tg s n cs))) (hl:F.ev l=.one (.d (.val (.int k z)))) (hz:z=(lo:Int)) (ht:TyS P t e s) (h1:lo≤n):AU P G o F H (.one (.d (.row tg s (n - lo) (cs.drop (lo*s))))) []:=Aey ho hx hl hz ht h1
theorem MO (t:Bool) (L:List Pq) (hne:L≠[]) (hs:∀ p∈L,Sm p 40064 40000) (hL:L.length≤100):CV prog An 170 [.one (.row t 3 L.length (Ar dyP L))] [aIw false (DJ L)]:=by
 refine cvz func170 ntmps170 ?_
 obtain ⟨p,l,rfl⟩:∃ p l,L=p::l:=by cases L with|nil=>exact absurd rfl hne|cons p l=>exact ⟨p,l,rfl⟩
 have hp:=hs p (gp ..)
 have hpl:=lT (hp.lenN 1252 (by decide)) (show 1252≤40000 by decide)
 have PT:=Dz p hp.ok hpl
 have hlen:(p::l).length=l.length+1:=cq
 repeat' (with_reducible first|refine qq ?_|(refine Tx 0 ?_;refine gN (xAl Am) ?_)|(refine Tx 1 ?_;refine gO xM <| gO (by exact Sp (i:=0) rfl rfl rfl rfl Af (by omega) (by decide) (OE (l:=p::l) (k:=0) rfl)) <| gO xL <| gO (xCl func79 (PT)) <| gN (xAl Am) <| gZ (xSk Ae) ?_)|(refine Tx 2 ?_;refine gO xM <| gO (by exact Afr (lo:=1) rfl rfl rfl rfl Af (by omega)) <| gO xN <| gO xM ?_))
 refine AY (Bz 2) (Aq (fun n Fr H=>∃ k:Nat,k≤l.length∧n=l.length - k∧IwS ((l.take (k)).foldl Uy (p,p)) 40064 40000∧Fr=ofL [(2,vr 0),(3,vr 1),(11,vd (.row t 3 ((p::l).length - 1) ((Ar dyP (p::l)).drop (1*3)))),(12,vi (((p::l).length - 1:Nat))),(13,vi ((k:Nat)))]∧H=[.box 45 [.d (.val (.bool false)),.d (.val (.slice none 0 0)),.d (.val (.int .i64 0)),.d (.val (.bool false)),.d (.val (.slice none 0 0)),.d (.val (.int .i64 0))],.box 45 ((dIw false ((l.take (k)).foldl Uy (p,p))).map C.d)]) (n0:=l.length) ⟨0,af _,rfl,.pt hp,rfl,rfl⟩ ?_)
 rintro n Fr H ⟨k,hk,rfl,hS,rfl,rfl⟩
 by_cases hlt:k<l.length
 case pos =>
  obtain ⟨x,hx⟩:∃ x,l[k]?=some x:=⟨_,gE hlt⟩
  have hxs:=hs x (gq _ (gM hx))
  have hxl:=lT (hxs.lenN 1252 (by decide)) (show 1252≤40000 by decide)
  have a1:=hS.s1
  have a2:=hS.s2
  have a1l:=lT (a1.lenN 1252 (by decide)) (show 1252≤40000 by decide)
  have a2l:=lT (a2.lenN 1252 (by decide)) (show 1252≤40000 by decide)
  have hnx:Uy ((l.take (k)).foldl Uy (p,p)) x=((l.take (k+1)).foldl Uy (p,p)):=by rw [ak,hx,dr,io];rfl
  have hIS:IwS (Uy ((l.take (k)).foldl Uy (p,p)) x) 40064 40000:=⟨Sm.min a1 hxs,Sm.max a2 hxs,by show gv (WN _ x)≤gv (Md _ x);rw [QV a1.le hxs.le,Hg a2.le hxs.le];have:=hS.le;omega⟩
  rw [hnx] at hIS
  have hxd:(((Ar dyP (p::l)).drop (1*3)).drop (k*3)).take 3=dyP x:=by rw [kx,show 1*3+k*3=(k+1)*3 by omega];exact OE (l:=p::l) (k:=k+1) (by rw [fi];exact hx)
  generalize hT:((l.take (k)).foldl Uy (p,p))=T at *
  have MN:=Mz T.1.1 T.1.2 x.1 x.2 a1.ok hxs.ok a1l hxl
  have MX:=Ek T.2.1 T.2.2 x.1 x.2 a2.ok hxs.ok a2l hxl
  repeat' (with_reducible first|refine qq ?_|(refine Tx 3 ?_;refine gO xLt ?_)|(refine Tx 4 ?_;refine gO (xIr Af (hxd)) <| gO xL <| gN (xAl Ak) <| gZ (xSk Ab) ?_)|(refine AE (id:=5) 9 AJ (by kernel_rfl) ?_;dsimp only [List.take,List.drop];refine gP xF <| gP xL <| gP xL <| gP (xCl func158 (MN)) <| gP xF <| gP xL <| gP xL <| gP (xCl func91 (MX)) <| gP xF ?_;refine Ke ?_;refine gZ (xSk Ab) <| gO xF <| gZ (xSk Ab) ?_)|(refine Tx 6 ?_;refine gO xAd <| gO xM ?_))
  refine ⟨_,_,Bz 2 (hH:=by rw [←hnx];rfl),_,?_,k+1,by omega,rfl,hIS,rfl,rfl⟩
  ·omega
 obtain rfl:k=l.length:=by omega
 clear hlt hk
 rw [az]
 repeat' (with_reducible first|refine qq ?_|(refine Tx 3 ?_;refine gO xLt ?_)|(refine Tx 7 ?_;refine gO xL <| gZ (xSk Ae) ?_))
 exact MM
theorem LW (x:Int) {n d:Nat} (h:x.natAbs<2 ^ 63) (hn:63≤n):Sm (x,0) n d:=⟨⟨af _,fun h=>absurd rfl h⟩,au h (ba (by decide) hn),af _⟩
theorem AkJ (x:Int) (h:x.natAbs<2 ^ 63):Sm (x,0) 40064 40000:=LW x h (by decide)
theorem Asg (h:p:=by first|exact xCl func123 (O1)|exact xCl func123 (O2)):p:=h
theorem WX (x y:Int) (hx : -9223372036854775807≤x∧x<9223372036854775808) (hy : -9223372036854775807≤y∧y<9223372036854775808):CV prog An 133 [aI x,aI y] [aIw false (DJ [(x,0),(y,0)])]:=by
 refine cvz func133 ntmps133 ?_
 have O1:=Fg x (by omega) (by omega)
 have O2:=Fg y (by omega) (by omega)
 have s1:Sm (x,0) 40064 40000:=AkJ x (by omega)
 have s2:Sm (y,0) 40064 40000:=AkJ y (by omega)
 have SP:=MO true [(x,0),(y,0)] (by simp) (fun p hp=>by simp only [et,ew,or_false] at hp;rcases hp with rfl|rfl <;> assumption) (bl rfl)
 repeat' (with_reducible first|refine qq ?_|(refine Tx 0 ?_;refine gN (xAl Am) ?_)|(refine Tx 1 ?_;refine gO xM <| gO Asg <| gO xM <| gO Asg <| gN (by exact HH rfl Af Ak rfl rfl rfl rfl (by decide) (by decide)) <| gO (xCl func170 (SP)) <| gZ (xSk Ae) ?_))
 exact MM
theorem Ash (h:p:=by first|exact xCl func83 (N2)|exact xCl func83 (N1)):p:=h
theorem UG (a:Iq) (h:IwS a 20000 20000):CV prog An 139 [aIw false a] [aIw false (AiF a)]:=by
 refine cvz func139 ntmps139 ?_
 have h1:=h.s1
 have h2:=h.s2
 have hl:=h1.l4
 have hm:=h2.l4
 have AR:=Dq a h
 have N1:=ER a.1.1 a.1.2 h1.ok hl
 have N2:=ER a.2.1 a.2.2 h2.ok hm
 repeat' (with_reducible first|refine qq ?_|(refine Tx 0 ?_;refine gN xBo <| gN (xAl Am) ?_)|(refine Tx 1 ?_;refine gO xL <| gO (xCl func168 (AR)) <| gZ (xSk Ae) ?_)|(refine AE (id:=2) 7 AJ (by kernel_rfl) ?_;dsimp only [List.take,List.drop];refine gP xF <| gP xL <| gP Ash <| gP xF <| gP xL <| gP Ash <| gP (by exact AH rfl Dp rfl rfl) ?_;refine Ke ?_;refine gZ (xSk Ae) ?_))
 exact MM
theorem OW (h:p:=by first|exact xCl func168 (AA)|exact xCl func168 (AB)):p:=h
theorem Asi (h:p:=by first|exact xCl func146 (C1)|exact xCl func146 (C2)):p:=h
theorem UH (a b:Iq) (h:IwS a 20000 20000) (k:IwS b 20000 20000):CV prog An 136 [aIw false a,aIw false b] [aIw false (AkD a b)]:=by
 refine cvz func136 ntmps136 ?_
 have h1:=h.s1
 have h2:=h.s2
 have hl:=h1.l4
 have hm:=h2.l4
 have k1:=k.s1
 have k2:=k.s2
 have kl:=k1.l4
 have km:=k2.l4
 have AA:=Dq a h
 have AB:=Dq b k
 have C1:=CY a.1.1 a.1.2 b.1.1 b.1.2 h1.ok k1.ok hl kl
 have C2:=CY a.2.1 a.2.2 b.2.1 b.2.2 h2.ok k2.ok hm km
 repeat' (with_reducible first|refine qq ?_|(refine Tx 0 ?_;refine gN xBo <| gN xBo <| gN (xAl Am) ?_)|(refine AE (id:=1) 4 AJ (by kernel_rfl) ?_;dsimp only [List.take,List.drop];refine gP xL <| gP OW <| gP xL <| gP OW ?_;refine Ke ?_;refine gZ (xSk Ae) <| gZ (xSk Ae) ?_)|(refine AE (id:=2) 11 AJ (by kernel_rfl) ?_;dsimp only [List.take,List.drop];refine gP xF <| gP xL <| gP xF <| gP xL <| gP Asi <| gP xF <| gP xL <| gP xF <| gP xL <| gP Asi <| gP (by exact AH rfl Dp rfl rfl) ?_;refine Ke ?_;refine gZ (xSk Ae) ?_))
 exact MM
theorem Asj (h:p:=by first|exact xCl func158 (C1)|exact xCl func158 (C2)):p:=h
theorem UI (a b:Iq) (h:IwS a 20000 20000) (k:IwS b 20000 20000):CV prog An 141 [aIw false a,aIw false b] [aIw false (AkF a b)]:=by
 refine cvz func141 ntmps141 ?_
 have h1:=h.s1
 have h2:=h.s2
 have hl:=h1.l4
 have hm:=h2.l4
 have k1:=k.s1
 have k2:=k.s2
 have kl:=k1.l4
 have km:=k2.l4
 have AA:=Dq a h
 have AB:=Dq b k
 have C1:=Mz a.1.1 a.1.2 b.1.1 b.1.2 h1.ok k1.ok hl kl
 have C2:=Mz a.2.1 a.2.2 b.2.1 b.2.2 h2.ok k2.ok hm km
 repeat' (with_reducible first|refine qq ?_|(refine Tx 0 ?_;refine gN xBo <| gN xBo <| gN (xAl Am) ?_)|(refine AE (id:=1) 4 AJ (by kernel_rfl) ?_;dsimp only [List.take,List.drop];refine gP xL <| gP OW <| gP xL <| gP OW ?_;refine Ke ?_;refine gZ (xSk Ae) <| gZ (xSk Ae) ?_)|(refine AE (id:=2) 11 AJ (by kernel_rfl) ?_;dsimp only [List.take,List.drop];refine gP xF <| gP xL <| gP xF <| gP xL <| gP Asj <| gP xF <| gP xL <| gP xF <| gP xL <| gP Asj <| gP (by exact AH rfl Dp rfl rfl) ?_;refine Ke ?_;refine gZ (xSk Ae) ?_))
 exact MM
theorem Ask (h:p:=by first|exact xCl func91 (C1)|exact xCl func91 (C2)):p:=h
theorem UJ (a b:Iq) (h:IwS a 20000 20000) (k:IwS b 20000 20000):CV prog An 142 [aIw false a,aIw false b] [aIw false (AiG a b)]:=by
 refine cvz func142 ntmps142 ?_
 have h1:=h.s1
 have h2:=h.s2
 have hl:=h1.l4
 have hm:=h2.l4
 have k1:=k.s1
 have k2:=k.s2
 have kl:=k1.l4
 have km:=k2.l4
 have AA:=Dq a h
 have AB:=Dq b k
 have C1:=Ek a.1.1 a.1.2 b.1.1 b.1.2 h1.ok k1.ok hl kl
 have C2:=Ek a.2.1 a.2.2 b.2.1 b.2.2 h2.ok k2.ok hm km
 repeat' (with_reducible first|refine qq ?_|(refine Tx 0 ?_;refine gN xBo <| gN xBo <| gN (xAl Am) ?_)|(refine AE (id:=1) 4 AJ (by kernel_rfl) ?_;dsimp only [List.take,List.drop];refine gP xL <| gP OW <| gP xL <| gP OW ?_;refine Ke ?_;refine gZ (xSk Ae) <| gZ (xSk Ae) ?_)|(refine AE (id:=2) 11 AJ (by kernel_rfl) ?_;dsimp only [List.take,List.drop];refine gP xF <| gP xL <| gP xF <| gP xL <| gP Ask <| gP xF <| gP xL <| gP xF <| gP xL <| gP Ask <| gP (by exact AH rfl Dp rfl rfl) ?_;refine Ke ?_;refine gZ (xSk Ae) ?_))
 exact MM
theorem AiQ (h:p:=by first|exact xCl func149 (C0)|exact xCl func149 (C1)|exact xCl func149 (C2)|exact xCl func149 (C3)):p:=h
theorem UK (a b:Iq) (h:IwS a 20000 20000) (k:IwS b 20000 20000):CV prog An 138 [aIw false a,aIw false b] [aIw false (AkE a b)]:=by
 refine cvz func138 ntmps138 ?_
 have h1:=h.s1
 have h2:=h.s2
 have hl:=h1.l4
 have hm:=h2.l4
 have k1:=k.s1
 have k2:=k.s2
 have kl:=k1.l4
 have km:=k2.l4
 have AA:=Dq a h
 have AB:=Dq b k
 have C0:=Gd a.1.1 a.1.2 b.1.1 b.1.2 h1.ok k1.ok hl kl (by have:=h1.d;have:=k1.d;omega)
 have s0:Sm (Dj a.1 b.1) 40064 40000:=(Sm.mul h1 k1 (by decide)).more (by decide) (by decide)
 have C1:=Gd a.1.1 a.1.2 b.2.1 b.2.2 h1.ok k2.ok hl km (by have:=h1.d;have:=k2.d;omega)
 have s1:Sm (Dj a.1 b.2) 40064 40000:=(Sm.mul h1 k2 (by decide)).more (by decide) (by decide)
 have C2:=Gd a.2.1 a.2.2 b.1.1 b.1.2 h2.ok k1.ok hm kl (by have:=h2.d;have:=k1.d;omega)
 have s2:Sm (Dj a.2 b.1) 40064 40000:=(Sm.mul h2 k1 (by decide)).more (by decide) (by decide)
 have C3:=Gd a.2.1 a.2.2 b.2.1 b.2.2 h2.ok k2.ok hm km (by have:=h2.d;have:=k2.d;omega)
 have s3:Sm (Dj a.2 b.2) 40064 40000:=(Sm.mul h2 k2 (by decide)).more (by decide) (by decide)
 have SP:=MO true [Dj a.1 b.1,Dj a.1 b.2,Dj a.2 b.1,Dj a.2 b.2] (by simp) (fun p hp=>by simp only [et,ew,or_false] at hp;rcases hp with rfl|rfl|rfl|rfl <;> assumption) (bl rfl)
 repeat' (with_reducible first|refine qq ?_|(refine Tx 0 ?_;refine gN xBo <| gN xBo <| gN (xAl Am) ?_)|(refine AE (id:=1) 4 AJ (by kernel_rfl) ?_;dsimp only [List.take,List.drop];refine gP xL <| gP OW <| gP xL <| gP OW ?_;refine Ke ?_;refine gZ (xSk Ae) <| gZ (xSk Ae) ?_)|(refine AE (id:=2) 22 AJ (by kernel_rfl) ?_;dsimp only [List.take,List.drop];refine gP xF <| gP xL <| gP xF <| gP xL <| gP AiQ <| gP xF <| gP xL <| gP xF <| gP xL <| gP AiQ <| gP xF <| gP xL <| gP xF <| gP xL <| gP AiQ <| gP xF <| gP xL <| gP xF <| gP xL <| gP AiQ <| gQ (by exact Qx rfl rfl Af Ak (by decide) (by decide) (by decide) rfl rfl rfl) <| gP (xCl func170 (SP)) ?_;refine Ke ?_;refine gZ (xSk Ae) ?_))
 exact MM
theorem Rd (a b:Iq) (h:IwS a 20000 20000) (k:IwS b 20000 20000):CV prog An 82 [aIw false a,aIw false b] [aIw false (LU a b)]:=by
 refine cvz func82 ntmps82 ?_
 have h1:=h.s1
 have h2:=h.s2
 have hl:=h1.l4
 have hm:=h2.l4
 have k1:=k.s1
 have k2:=k.s2
 have kl:=k1.l4
 have km:=k2.l4
 have AA:=Dq a h
 have AB:=Dq b k
 have s0:=Sm.more (n':=40064) (d':=40000) h1 (by decide) (by decide)
 have s1:=Sm.more (n':=40064) (d':=40000) h2 (by decide) (by decide)
 have s2:=Sm.more (n':=40064) (d':=40000) k1 (by decide) (by decide)
 have s3:=Sm.more (n':=40064) (d':=40000) k2 (by decide) (by decide)
 have SP:=MO true [a.1,a.2,b.1,b.2] (by simp) (fun p hp=>by simp only [et,ew,or_false] at hp;rcases hp with rfl|rfl|rfl|rfl <;> assumption) (bl rfl)
 repeat' (with_reducible first|refine qq ?_|(refine Tx 0 ?_;refine gN xBo <| gN xBo <| gN (xAl Am) ?_)|(refine AE (id:=1) 4 AJ (by kernel_rfl) ?_;dsimp only [List.take,List.drop];refine gP xL <| gP OW <| gP xL <| gP OW ?_;refine Ke ?_;refine gZ (xSk Ae) <| gZ (xSk Ae) ?_)|(refine Tx 2 ?_;refine gO xF <| gO xL <| gO xF <| gO xL <| gO xF <| gO xL <| gO xF <| gO xL <| gN (by exact Qx rfl rfl Af Ak (by decide) (by decide) (by decide) rfl rfl rfl) <| gO (xCl func170 (SP)) <| gZ (xSk Ae) ?_))
 exact MM
theorem IZ (a:Iq) (f:Pq) (h:IwS a 20000 20000) (hf:Sm f 20000 20000):CV prog An 132 [aIw false a,aDy false f.1 f.2] [aIw false (OA a f)]:=by
 refine cvz func132 ntmps132 ?_
 have PT:=Dz f hf.ok hf.lz
 have ML:=UK a (f,f) h (.pt hf)
 repeat' (with_reducible first|refine qq ?_|(refine Tx 0 ?_;refine gN xBo <| gN xBo <| gN (xAl Am) ?_)|(refine AE (id:=1) 4 AJ (by kernel_rfl) ?_;dsimp only [List.take,List.drop];refine gP xL <| gP xL <| gP (xCl func79 (PT)) <| gP (xCl func138 (ML)) ?_;refine Ke ?_;refine gZ (xSk Ae) ?_))
 exact MM
theorem Aap (a b:Iq) (h:IwS a 20000 20000) (k:IwS b 20000 20000):CV prog An 137 [aIw false a,aIw false b] [aIw false (AnV a b)]:=by
 refine cvz func137 ntmps137 ?_
 have NG:=UG b k
 have AD:=UH a (AiF b) h k.neg
 repeat' (with_reducible first|refine qq ?_|(refine Tx 0 ?_;refine gN xBo <| gN xBo <| gN (xAl Am) ?_)|(refine AE (id:=1) 4 AJ (by kernel_rfl) ?_;dsimp only [List.take,List.drop];refine gP xL <| gP xL <| gP (xCl func139 (NG)) <| gP (xCl func136 (AD)) ?_;refine Ke ?_;refine gZ (xSk Ae) ?_))
 exact MM
theorem rvJ0 {t:Tmp} {k:Nat} {q:Pq} (hk:TyK P ty true k) (hi:6=k) (hF:F t=.one (.ref id 0 none):=by with_unfolding_all exact rfl) (hH:H[id]?=some (.box ty' ([.d (.val (.bool false)),.d (.val (.slice none 0 0)),.d (.val (.int .i64 0))]++(dDy false q.1 q.2).map C.d)):=by with_unfolding_all exact rfl):RV P F H (.cell t ty) (aIw false ((0,0),q)):=by
 obtain ⟨⟨dd,hu,hd⟩,hz⟩:=hk
 have e:dDy false 0 0=[.val (.bool false),.row false 1 0 [],.val (.int .i64 0)]:=A.agg.inj LO
 refine .cellA hF hH hu hd (by rw [hz,←hi];rfl) ?_
 show AP _ _ (dDy false 0 0++dDy false q.1 q.2)
 rw [e]
 refine .app (.cons_ (.d fun _=>.val _) (.cons_ .nil (.cons_ (.d fun _=>.val _) .nil_))) (AP.map_l.2 ⟨rfl,fun j x y hx hy=>?_⟩)
 rw [hx] at hy
 cases hy
 exact .d fun _=>NV _ _ x (gM hx)
theorem Asl (h:p:=by first|exact xCl func150 (A1)|exact xCl func150 (A2)):p:=h
theorem Asm (h:p:=by first|exact xCl func28 (G1)|exact xCl func28 (G2)):p:=h
theorem Aof (k:p') (h:Hd9 p'→p:=by with_reducible first|(intro Z9;refine qq ?_;exact Z9.o)|(intro Z9;refine Tx 0 ?_;refine gN xBo <| gN (xAl Am) ?_;exact Z9.o)|(intro Z9;refine Tx 1 ?_;refine gO xL <| gO (xCl func168 (AR)) <| gZ (xSk Ae) ?_;exact Z9.o)|(intro Z9;refine AE (id:=2) 9 AJ (by kernel_rfl) ?_;dsimp only [List.take,List.drop];refine gP xF <| gP xL <| gP Asl <| gP xF <| gP xL <| gP Asl <| gQ (by exact HH rfl Af Ak rfl rfl rfl rfl (by decide) (by decide)) <| gP (xCl func170 (SP)) <| gQ (xAl Am) ?_;refine Ke ?_;refine gZ (xSk Ae) ?_;exact Z9.o)|(intro Z9;refine Tx 3 ?_;refine gO xF <| gO xL <| gO Asm <| gO xLt <| gO xM ?_;(first|iterate 4 refine Jd ?_|(refine Jy (xFa BI Ab) ?_;refine Jy (xLa Ab) ?_;refine Jy Asm ?_;refine Jy xGt ?_));refine gO xPk ?_;exact Z9.o)|(intro Z9;refine Tx 5 ?_;refine gO xL <| gZ (xSk Ae) ?_;exact Z9.o)|fail):p:=h ⟨k⟩
theorem UL (a:Iq) (h:IwS a 20000 20000):CV prog An 140 [aIw false a] [aIw false (YI a)]:=by
 refine cvz func140 ntmps140 ?_
 have h1:=h.s1
 have h2:=h.s2
 have hl:=h1.l4
 have hm:=h2.l4
 have AR:=Dq a h
 have A1:=PA a.1.1 a.1.2 h1.ok hl
 have A2:=PA a.2.1 a.2.2 h2.ok hm
 have s1:Sm (Nc a.1) 40064 40000:=h1.abs.more (by decide) (by decide)
 have s2:Sm (Nc a.2) 40064 40000:=h2.abs.more (by decide) (by decide)
 have SP:=MO true [Nc a.1,Nc a.2] (by simp) (fun p hp=>by simp only [et,ew,or_false] at hp;rcases hp with rfl|rfl <;> assumption) (bl rfl)
 have G1:=GF a.1.1 a.1.2 h1.ok (lT hl (by decide))
 have G2:=GF a.2.1 a.2.2 h2.ok (lT hm (by decide))
 by_cases c1:a.1.1<0
 case pos =>
  by_cases c2:0<a.2.1
  case pos =>
   rw [show sgI a.1.1 = -1 by unfold sgI;(repeat' split) <;> omega] at G1
   rw [show sgI a.2.1=1 by unfold sgI;(repeat' split) <;> omega] at G2
   have e:YI a=((0,0),(DJ [Nc a.1,Nc a.2]).2):=if_pos ⟨c1,c2⟩
   rw [e]
   repeat' (with_reducible first|refine Aof ?_|(refine Tx 4 ?_;refine gO (by exact AH rfl Mq rfl rfl) <| gO xF <| gZ (xSk Ab) ?_))
   exact AN rfl (.cons_ (rvJ0 Ae rfl) .nil_)
  rw [show sgI a.1.1 = -1 by unfold sgI;(repeat' split) <;> omega] at G1
  have g2:sgI a.2.1≤0:=by unfold sgI;(repeat' split) <;> omega
  generalize sgI a.2.1=g at *
  rw [show YI a=DJ [Nc a.1,Nc a.2] from if_neg (fun h=>c2 h.2)]
  repeat' (with_reducible first|refine Aof ?_)
  exact MM
 have g1:0≤sgI a.1.1:=by unfold sgI;(repeat' split) <;> omega
 generalize sgI a.1.1=g at *
 rw [show YI a=DJ [Nc a.1,Nc a.2] from if_neg (fun h=>c1 h.1)]
 repeat' (with_reducible first|refine Aof ?_)
 exact MM
theorem Asn (h:p:=by first|exact xCl func79 (PV)|exact xCl func79 (PU)):p:=h
theorem WY (a:Iq) (v u:Pq) (h:IwS a 20000 20000) (hv:Sm v 20000 20000) (hu:Sm u 20000 20000) (hvu:Oz v u≤0):CV prog An 143 [aIw false a,aDy false v.1 v.2,aDy false u.1 u.2] [aIw false (YJ a v u),aE 0]:=by
 refine cvz func143 ntmps143 ?_
 have CM:=Ck v.1 v.2 u.1 u.2 hv.ok hu.ok hv.lz hu.lz
 have PV:=Dz v hv.ok hv.lz
 have PU:=Dz u hu.ok hu.lz
 have MX:=UJ a (v,v) h (.pt hv)
 have MN:=UI (AiG a (v,v)) (u,u) (h.max (.pt hv)) (.pt hu)
 have hle:Oz v u≤0:=hvu
 unfold Oz at hle
 repeat' (with_reducible first|refine qq ?_|(refine Tx 0 ?_;refine gN xBo <| gN xBo <| gN xBo <| gN (xAl Am) <| gO xA ?_)|(refine Tx 1 ?_;refine gO xL <| gO xL <| gO (xCl func9 (CM)) <| gO xGt ?_)|(refine AE (id:=3) 7 AJ (by kernel_rfl) ?_;dsimp only [List.take,List.drop];refine gP xL <| gP xL <| gP Asn <| gP (xCl func142 (MX)) <| gP xL <| gP Asn <| gP (xCl func141 (MN)) ?_;refine Ke ?_;refine gZ (xSk Ae) <| gO xA ?_))
 exact AN rfl (.cons_ (rvJ Ae rfl) (.cons_ (Fv rfl rfl) .nil_))
theorem AbU (a:Iq) (den:Nat) (h:IwS a 20000 20000) (hd:den≤65536):CV prog An 81 [aIw false a,aI (den:Int)] [aIw false (Il a den),aE 0]:=by
 refine cvz func81 ntmps81 ?_
 have h1:=h.s1
 have h2:=h.s2
 have hl:=h1.l4
 have hm:=h2.l4
 have AR:=Dq a h
 have FL:=(Tf a.1.1 a.1.2 den h1.ok hl hd).cv
 have CE:=WW a.2.1 a.2.2 den h2.ok hm hd
 repeat' (with_reducible first|refine qq ?_|(refine Tx 0 ?_;refine gN xBo <| gN (xAl Am) <| gO xA ?_)|(refine Tx 1 ?_;refine gO xL <| gO (xCl func168 (AR)) <| gZ (xSk Ae) ?_)|(refine Tx 2 ?_;refine gO xF <| gO xL <| gO xM <| gO (xCl func122 (FL)) <| gO xMt <| gO (by exact Es rfl rfl rfl) <| gO xEx <| gN (xAl Ak) <| gZ (xSk Ab) <| gO xA ?_)|(refine Tx 3 ?_;refine gO xM <| gO (xNE Ag) ?_)|(refine Tx 5 ?_;refine gO xF <| gO xL <| gO xM <| gO (xCl func169 (CE)) <| gO xMt <| gO (by exact Es rfl rfl rfl) <| gO xEx <| gN (xAl Ak) <| gZ (xSk Ab) <| gO xA ?_)|(refine Tx 6 ?_;refine gO xM <| gO (xNE Ag) ?_)|(refine Tx 8 ?_;refine gO xL <| gO xL <| gO (by exact AH rfl Dp rfl rfl) <| gZ (xSk Ae) <| gO xA ?_))
 exact AN rfl (.cons_ (rvJ Ae rfl) (.cons_ (Fv rfl rfl) .nil_))
theorem Aso (h:p:=by first|exact xCl func9 (C1)|exact xCl func9 (C2)):p:=h
theorem Aog (k:p') (h:Hd9 p'→p:=by with_reducible first|(intro Z9;refine qq ?_;exact Z9.o)|(intro Z9;refine Tx 0 ?_;refine gN xBo <| gN xBo <| gO xA ?_;exact Z9.o)|(intro Z9;refine AE (id:=1) 4 AJ (by kernel_rfl) ?_;dsimp only [List.take,List.drop];refine gP xL <| gP OW <| gP xL <| gP OW ?_;refine Ke ?_;refine gZ (xSk Ae) <| gZ (xSk Ae) ?_;exact Z9.o)|(intro Z9;refine Tx 2 ?_;refine gO xF <| gO xL <| gO xF <| gO xL <| gO Aso <| gO xLe <| gO xM ?_;(first|iterate 6 refine Jd ?_|(refine Jy (xFa BI Ab) ?_;refine Jy (xLa Ab) ?_;refine Jy (xFa BI Ab) ?_;refine Jy (xLa Ab) ?_;refine Jy Aso ?_;refine Jy xLe ?_));refine gO xPk <| gO xA ?_;exact Z9.o)|fail):p:=h ⟨k⟩
theorem BU (a b:Iq) (h:IwS a 20000 20000) (k:IwS b 20000 20000):CV prog An 144 [aIw false a,aIw false b] [aB (iIn a b)]:=by
 refine cvz func144 ntmps144 ?_
 have h1:=h.s1
 have h2:=h.s2
 have hl:=h1.l4
 have hm:=h2.l4
 have k1:=k.s1
 have k2:=k.s2
 have kl:=k1.l4
 have km:=k2.l4
 have AA:=Dq a h
 have AB:=Dq b k
 have C1:=Ck b.1.1 b.1.2 a.1.1 a.1.2 k1.ok h1.ok kl hl
 have C2:=Ck a.2.1 a.2.2 b.2.1 b.2.2 h2.ok k2.ok hm km
 by_cases c1:Cf b.1.1 b.1.2 a.1.1 a.1.2≤0
 case neg =>
  repeat' (with_reducible first|refine Aog ?_)
  exact AN rfl (.cons_ (GI rfl (by unfold iIn;rw [decide_eq_false c1];rfl)) .nil_)
 by_cases c2:Cf a.2.1 a.2.2 b.2.1 b.2.2≤0
 case pos =>
  repeat' (with_reducible first|refine Aog ?_)
  exact AN rfl (.cons_ (GI rfl (by unfold iIn;rw [decide_eq_true c1,decide_eq_true c2];rfl)) .nil_)
 case neg =>
  repeat' (with_reducible first|refine Aog ?_)
  exact AN rfl (.cons_ (GI rfl (by unfold iIn;rw [decide_eq_true c1,decide_eq_false c2];rfl)) .nil_)
theorem MP (a:Iq) (h:IwS a 20000 20000):CV prog An 151 [aIw false a] [aDy false (Lo a).1 (Lo a).2]:=by
 refine cvz func151 ntmps151 ?_
 have AB:=UL a h
 repeat' (with_reducible first|refine qq ?_|(refine Tx 0 ?_;refine gN xBo <| gN (xAl Ak) ?_)|(refine Tx 1 ?_;refine gO xL <| gO (xCl func140 (AB)) <| gO (by exact Adw rfl rfl BI Ab rfl) <| gZ (xSk Ab) ?_))
 exact Lf
theorem AkK {a b:Iq} {d n' d':Nat} (h:IwS a n d) (k:IwS b n' d') (e1:gv a.1=gv b.1) (e2:gv a.2=gv b.2):a=b:=Prod.ext (Tb h.s1.ok k.s1.ok e1) (Tb h.s2.ok k.s2.ok e2)
theorem Afs {s:Rv} (hr:Az r.ws) (hs:Az s.ws) (h:ivR r s=true):dIr false (r,s)=dIw false (rvP r,rvP s)∧Nf (rvP r).1 (rvP r).2∧Nf (rvP s).1 (rvP s).2∧gv (rvP r)≤gv (rvP s)∧(Ad (rvP r).1.natAbs).length=r.ws.length∧(Ad (rvP s).1.natAbs).length=s.ws.length:=by
 unfold ivR at h
 rw [aj,aj] at h
 obtain ⟨⟨h1,h2⟩,h3⟩:=h
 obtain ⟨e1,n1,k1⟩:=Yx (t:=false) hr h1
 obtain ⟨e2,n2,k2⟩:=Yx (t:=false) hs h2
 refine ⟨?_,n1,n2,(WK (p:=rvP r) (q:=rvP s) n1.le n2.le).1 (of_decide_eq_true h3),k1,k2⟩
 show dRv false r++dRv false s=_
 rw [e1,e2]
 rfl
theorem Asp {s:Rv} (hr:RvL r) (hs:RvL s) (h:ivR r s=true):dIr false (r,s)=dIw false (rvP r,rvP s)∧Nf (rvP r).1 (rvP r).2∧Nf (rvP s).1 (rvP s).2∧gv (rvP r)≤gv (rvP s)∧(Ad (rvP r).1.natAbs).length=r.ws.length∧(Ad (rvP s).1.natAbs).length=s.ws.length:=Afs hr.1 hs.1 h
end Go.Proofs.YtjlkgfeepocjfaaGreatDoor
