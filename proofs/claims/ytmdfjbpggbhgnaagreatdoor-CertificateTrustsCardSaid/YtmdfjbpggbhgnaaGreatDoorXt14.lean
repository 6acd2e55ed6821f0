/- What the proofs of this claim share, part 14. No conditions. -/
import Derived.Test.YtmdfjbpggbhgnaaGreatDoorXt13
import Derived.Test.YtmdfjbpggbhgnaaGreatDoorXt9
import Derived.Test.YtmdfjbpggbhgnaaGreatDoorXt10
import Derived.Test.YtmdfjbpggbhgnaaGreatDoorXt12
import Derived.Tactics2
set_option maxRecDepth 100000
set_option maxHeartbeats 4000000
set_option linter.all false
open Go.Proofs.Tryz
namespace Go.Proofs.YtmdfjbpggbhgnaaGreatDoor
open Go.RowKit
variable {p q:Int × Nat} {H:List Ob} {i id j n ty:Nat} {p':Prop} {f:Nat→Int} {bs:List Bk} {F os:List Int} {y:Bk} {ps:List Prt} {l:List (Option (Int × Nat))} {t:Bool}
theorem AcJ (g1 g2 g3:Nat) (w:World):CallsD prog 131 #[FA g1,FA g2,FA g3] .returning w fun e u' w'=>e=.returned (.tuple #[])∧u'=.returning∧w'=w:=by
 refine callsD_of_wpS func131 rfl fun c₀ cs hu=>?_
 apply wpS_seq
 apply wpS_region
 simp [wpOpsS,go_sem,recoverD,hu,ntmps131,Exit.thenS]
 apply wpS_seq
 apply wpS_region
 simp [wpOpsS,go_sem,Exit.thenS]
 refine wpS_cond (t:=false) (by simp [Act.eval,Array.replicate]) ?_
 simp only [dr,if_false]
 refine wpS_of_wp (wp_skip ?_)
 cases c₀
 simp_all [bodyPostS,results,results131]
theorem AcK (b0:Nat) (w:World) (g1 g2 g3:Nat) (v1 v2 v3:Value) (l1:b0≤g1) (l2:b0≤g2) (l3:b0≤g3) (n12:g1≠g2) (n13:g1≠g3) (n23:g2≠g3) (hb:b0≤w.heap.size)
  (h1:w.heap[g1]?=some (.cells #[v1] 28 (0,0))) (h2:w.heap[g2]?=some (.cells #[v2] 28 (0,0))) (h3:w.heap[g3]?=some (.cells #[v3] 36 (0,0))) :
  CallsD prog 131 #[FA g1,FA g2,FA g3] (.panicking [{ v:=.iface 176 (.agg #[]),recovered:=false }]) w fun e u' w'=>(∃ v,e=.returned v)∧settle u'=.returning∧Below b0 w w'∧w'.cell? ⟨g1,0,none⟩=some (.slice none 0 0)∧w'.cell? ⟨g2,0,none⟩=some (.slice none 0 0)∧w'.cell? ⟨g3,0,none⟩=some (.iface 109 (.int .i64 4)):=by
 refine callsD_of_wpS func131 rfl fun c₀ cs hu=>?_
 apply wpS_seq
 apply wpS_region
 simp [wpOpsS,go_sem,recoverD,hu,ntmps131,Exit.thenS]
 apply wpS_seq
 apply wpS_region
 simp [wpOpsS,go_sem,Exit.thenS]
 refine wpS_cond (t:=true) (by simp [Act.eval,Array.replicate]) ?_
 simp only [if_true]
 apply wpS_seq
 apply wpS_seq
 apply wpS_region
 simp [wpOpsS,go_sem,Exit.thenS,Instr.typeAssert,run_underlying underlying176]
 apply wpS_seq
 apply wpS_region
 simp [wpOpsS,go_sem,Exit.thenS]
 refine wpS_cond (t:=false) (by simp [Act.eval,Array.replicate]) ?_
 simp only [dr,if_false]
 refine wpS_of_wp (wp_skip ?_)
 show Code.wpS _ _ _ _ _ _
 have k1:=(Below.heap_alloc w (.cells #[] 176 (0,0)) g1 (Array.getElem?_eq_some_iff.1 h1).1).trans h1
 have k2:=(Below.heap_alloc w (.cells #[] 176 (0,0)) g2 (Array.getElem?_eq_some_iff.1 h2).1).trans h2
 have k3:=(Below.heap_alloc w (.cells #[] 176 (0,0)) g3 (Array.getElem?_eq_some_iff.1 h3).1).trans h3
 have hbel:Below b0 w (w.alloc (.cells #[] 176 (0,0))):=(ab _ _).alloc hb _
 generalize w.alloc (.cells #[] 176 (0,0))=W at k1 k2 k3 hbel ⊢
 have m1:=one_setCell (u:=.slice none 0 0) k1
 have m2:=(jf W ⟨g1,0,none⟩ (.slice none 0 0) g2 (fun h=>n12 h.symm)).trans k2
 have m3:=(jf W ⟨g1,0,none⟩ (.slice none 0 0) g3 (fun h=>n13 h.symm)).trans k3
 have hb1:=hbel.setCell (p:=⟨g1,0,none⟩) l1 (.slice none 0 0)
 have c1:W.cell? ⟨g1,0,none⟩=some v1:=by rw [cell_of_row W g1 0 _ _ (0,0) k1];rfl
 have z1:W.frozen? ⟨g1,0,none⟩=false:=by unfold World.frozen?;rw [k1];rfl
 generalize hW1:W.setCell ⟨g1,0,none⟩ (.slice none 0 0)=W1 at m1 m2 m3 hb1
 have q1:=(jf W1 ⟨g2,0,none⟩ (.slice none 0 0) g1 n12).trans m1
 have q2:=one_setCell (u:=.slice none 0 0) m2
 have q3:=(jf W1 ⟨g2,0,none⟩ (.slice none 0 0) g3 (fun h=>n23 h.symm)).trans m3
 have hb2:=hb1.setCell (p:=⟨g2,0,none⟩) l2 (.slice none 0 0)
 have c2:W1.cell? ⟨g2,0,none⟩=some v2:=by rw [cell_of_row W1 g2 0 _ _ (0,0) m2];rfl
 have z2:W1.frozen? ⟨g2,0,none⟩=false:=by unfold World.frozen?;rw [m2];rfl
 generalize hW2:W1.setCell ⟨g2,0,none⟩ (.slice none 0 0)=W2 at q1 q2 q3 hb2
 have r1:=(jf W2 ⟨g3,0,none⟩ (.iface 109 (.int .i64 4)) g1 n13).trans q1
 have r2:=(jf W2 ⟨g3,0,none⟩ (.iface 109 (.int .i64 4)) g2 n23).trans q2
 have r3:=one_setCell (u:=.iface 109 (.int .i64 4)) q3
 have hb3:=hb2.setCell (p:=⟨g3,0,none⟩) l3 (.iface 109 (.int .i64 4))
 have c3:W2.cell? ⟨g3,0,none⟩=some v3:=by rw [cell_of_row W2 g3 0 _ _ (0,0) q3];rfl
 have z3:W2.frozen? ⟨g3,0,none⟩=false:=by unfold World.frozen?;rw [q3];rfl
 generalize hW3:W2.setCell ⟨g3,0,none⟩ (.iface 109 (.int .i64 4))=W3 at r1 r2 r3 hb3
 have d1:W3.cell? ⟨g1,0,none⟩=some (.slice none 0 0):=by rw [cell_of_row W3 g1 0 _ _ (0,0) r1];rfl
 have d2:W3.cell? ⟨g2,0,none⟩=some (.slice none 0 0):=by rw [cell_of_row W3 g2 0 _ _ (0,0) r2];rfl
 have d3:W3.cell? ⟨g3,0,none⟩=some (.iface 109 (.int .i64 4)):=by rw [cell_of_row W3 g3 0 _ _ (0,0) r3];rfl
 have hse:settle (.panicking [{ v:=.iface 176 (.agg #[]),recovered:=true }])=.returning:=rfl
 apply wpS_region
 simp [wpOpsS,go_sem,FA,c1,z1,hW1,c2,z2,hW2,c3,z3,hW3,d1,d2,d3,hb3,hse,bodyPostS,results,results131]
theorem PA {X:Int} {Q:Nat} (h1:Nf p.1 p.2) (h2:Nf q.1 q.2) (e1:p.1*2 ^ Q=X*2 ^ p.2) (e2:q.1*2 ^ Q=X*2 ^ q.2):p=q:=by
 have key:∀ p q:Int × Nat,Nf q.1 q.2→p.1*2 ^ Q=X*2 ^ p.2→q.1*2 ^ Q=X*2 ^ q.2→p.2≤q.2→q.1=p.1*2 ^ (q.2 - p.2):=fun p q _ e1 e2 hle=>by
  have pw:(2:Int) ^ Q≠0:=fm (gg (by decide))
  refine en pw ?_
  rw [e2,ia,e1,ai,←ao]
  congr 2;omega
 have fin:∀ p q:Int × Nat,Nf q.1 q.2→p.1*2 ^ Q=X*2 ^ p.2→q.1*2 ^ Q=X*2 ^ q.2→p.2≤q.2→p=q:=fun p q hq e1 e2 hle=>by
  have h:=key p q hq e1 e2 hle
  by_cases hd:p.2=q.2
  ·rw [hd,fy] at h
   refine Prod.ext ?_ hd
   rw [h];show p.1=p.1*1;omega
  ·exfalso
   have ho:=hq.2 (by omega)
   obtain ⟨k,hk⟩:∃ k,q.2 - p.2=k+1:=⟨q.2 - p.2 - 1,by omega⟩
   rw [hk,Int.pow_succ,←ai] at h
   omega
 rcases Nat.le_total p.2 q.2 with h|h
 ·exact fin p q h2 e1 e2 h
 ·exact (fin q p h1 e2 e1 h).symm
theorem Sy (p:Int × Nat) {Q:Nat} (h:p.2≤Q):p.1*2 ^ Q=p.1*2 ^ (Q - p.2)*2 ^ p.2:=by
 rw [ai,←ao]
 congr 2;omega
theorem Alu {x v u:Int × Nat} (hx:Nf x.1 x.2) (hv:Nf v.1 v.2) (hu:Nf u.1 u.2) (h:Cm v.1 v.2 u.1 u.2≤0) :
  Dx v.1 v.2 (Dt u.1 u.2 x.1 x.2).1 (Dt u.1 u.2 x.1 x.2).2=Dt (Dx x.1 x.2 v.1 v.2).1 (Dx x.1 x.2 v.1 v.2).2 u.1 u.2:=by
 obtain ⟨Q,q1,q2,q3⟩:∃ Q,x.2≤Q∧v.2≤Q∧u.2≤Q:=⟨max x.2 (max v.2 u.2),by omega,by omega,by omega⟩
 have ex:=Sy x q1
 have ev:=Sy v q2
 have eu:=Sy u q3
 generalize x.1*2 ^ (Q - x.2)=X at ex
 generalize v.1*2 ^ (Q - v.2)=V at ev
 generalize u.1*2 ^ (Q - u.2)=U at eu
 have cm:∀ {a b:Int × Nat} {A B:Int},a.1*2 ^ Q=A*2 ^ a.2→b.1*2 ^ Q=B*2 ^ b.2→Cm a.1 a.2 b.1 b.2=sgI (A - B):=fun ha hb=>Py ha hb
 rw [cm ev eu,BZ] at h
 have hVU:V≤U:=by (repeat' split at h) <;> omega
 have mn:∀ {a b:Int × Nat} {A B:Int},a.1*2 ^ Q=A*2 ^ a.2→b.1*2 ^ Q=B*2 ^ b.2→Dt a.1 a.2 b.1 b.2=if B<A then b else a:=fun {a b A B} ha hb=>by
  unfold Dt
  rw [cm ha hb,BZ]
  by_cases h1:A<B
  ·rw [if_pos h1,if_neg (by decide),if_neg (by omega)]
  ·by_cases h2:B<A
   ·rw [if_neg h1,if_pos h2,if_pos (by decide),if_pos h2]
   ·rw [if_neg h1,if_neg h2,if_neg (by decide),if_neg h2]
 have mx:∀ {a b:Int × Nat} {A B:Int},a.1*2 ^ Q=A*2 ^ a.2→b.1*2 ^ Q=B*2 ^ b.2→Dx a.1 a.2 b.1 b.2=if A<B then b else a:=fun {a b A B} ha hb=>by
  unfold Dx
  rw [cm ha hb,BZ]
  by_cases h1:A<B
  ·rw [if_pos h1,if_pos (by decide),if_pos h1]
  ·by_cases h2:B<A
   ·rw [if_neg h1,if_pos h2,if_neg (by decide),if_neg h1]
   ·rw [if_neg h1,if_neg h2,if_neg (by decide),if_neg h1]
 rw [mn eu ex,mx ex ev]
 by_cases h1:X<U
 ·rw [if_pos h1,mx ev ex]
  by_cases h2:X<V
  ·rw [if_pos h2,mn ev eu,if_neg (by omega),if_neg (by omega)]
  ·rw [if_neg h2,mn ex eu,if_neg (c:=U<X) (by omega)]
   by_cases h3:V<X
   ·rw [if_pos h3]
   ·rw [if_neg h3]
    have:X=V:=by omega
    subst this
    exact PA hv hx ev ex
 ·rw [if_neg h1,mx ev eu]
  by_cases h2:X<V
  ·omega
  ·rw [if_neg h2,mn ex eu]
   by_cases h3:U<X
   ·rw [if_pos h3]
    by_cases h4:V<U
    ·rw [if_pos h4]
    ·rw [if_neg h4]
     have:V=U:=by omega
     subst this
     exact PA hv hu ev eu
   ·rw [if_neg h3]
    have hXU:X=U:=by omega
    subst hXU
    by_cases h4:V<X
    ·rw [if_pos h4]
     exact PA hu hx eu ex
    ·rw [if_neg h4]
     have:V=X:=by omega
     subst this
     exact PA hv hx ev ex
theorem PC:aDy false 0 0=.agg [.val (.bool false),.row false 1 0 [],.val (.int .i64 0)]:=by
 unfold aDy dDy wds
 rw [show (0:Int).natAbs=0 from rfl,AK]
 rfl
theorem rv_z {P:Program} {F:Frm} {t:Tmp} {ty' k:Nat} (hk:TyK P ty true k) (hi:3=k) (hF:F t=.one (.ref id 0 none):=by with_unfolding_all exact rfl) (hH:H[id]?=some (.box ty' [.d (.val (.bool false)),.d (.val (.slice none 0 0)),.d (.val (.int .i64 0))]):=by with_unfolding_all exact rfl):RV P F H (.cell t ty) (.agg [.val (.bool false),.row false 1 0 [],.val (.int .i64 0)]):=by
 obtain ⟨⟨dd,hu,hd⟩,hz⟩:=hk
 exact .cellA hF hH hu hd (by rw [hz,←hi];rfl) (.cons_ (.d fun _=>.val _) (.cons_ .nil (.cons_ (.d fun _=>.val _) .nil_)))
def Dc (y:Bk) (l:List (Int × Nat)) (ps:List Prt) (ins:List Int):Int × Nat :=
 if y.kind=0 then Ac (ins[((y.args[0]?).getD 0).toNat]?.getD 0) 0 (-((ps[((y.args[0]?).getD 0).toNat]?.map Prt.fr).getD 0)) else FL y l
theorem AcL {p:Prop} (k:p') (h:Hd9 p'→p:=by with_reducible first|(intro Z9;refine qq ?_;exact Z9.o)|(intro Z9;refine Tx 0 ?_;refine gN xBo <| gN (xAl Av) <| gO xA ?_;exact Z9.o)|(intro Z9;refine Tx 1 ?_;refine gO xF <| gO xD <| gO xLe <| gO xM ?_;(first|iterate 3 refine Jd ?_|(refine Jy (xFa DU Ak) ?_;refine Jy (xLd Ak) ?_;refine Jy xGe ?_));refine gO xPk <| gO xM ?_;(first|iterate 3 refine Jd ?_|(refine Jy (xFa EJ Ak) ?_;refine Jy (xLd Ak) ?_;refine Jy xLt ?_));refine gO xPk <| gO xM ?_;(first|iterate 3 refine Jd ?_|(refine Jy (xFa EJ Ak) ?_;refine Jy (xLd Ak) ?_;refine Jy xGt ?_));refine gO xPk ?_;exact Z9.o)|fail):p:=h ⟨k⟩
theorem Agz {p:Prop} (k:p') (h:Hd9 p'→p:=by with_reducible first|(intro Z9;refine Tx 2 ?_;refine gO (by exact AC rfl Pc rfl rfl) <| gO (xMi underlying109) <| gZ (xSk Ae) <| gO xA ?_;exact Z9.o)|fail):p:=h ⟨k⟩
theorem AgA {p:Prop} (h:p:=by
 exact Ax rfl (.cons_ (rv_z Ae rfl) (.cons_ (.tmp (.one (CA rfl fun _=>.val _))) .nil_))):p:=h
theorem XV (n e:Int):CV prog An 20 [.agg [dI n,dI e]] [aDy false (if Df n e then Ac n 0 e else (0,0)).1 (if Df n e then Ac n 0 e else (0,0)).2,aE (if Df n e then 0 else 3)]:=by
 refine cvz func20 ntmps20 ?_
 by_cases hs:Df n e
 case pos =>
  rw [if_pos hs,if_pos hs]
  obtain ⟨s1,s2,s3,s4⟩:=hs
  have OF:=Lm n (by omega) (by omega)
  have SH:=BR n 0 e ⟨by decide,fun h=>absurd rfl h⟩ (lT (AY (k:=2) (by omega)) (by decide)) (by omega)
  repeat' (with_reducible first|refine AcL ?_|(refine AJ (id:=3) 6 AX (by kernel_rfl) ?_;dsimp only [List.take,List.drop];refine gP xF <| gP xD <| gP (xCl func68 (OF)) <| gP xF <| gP xD <| gP (xCl func21 (SH)) ?_;refine Ke ?_;refine gZ (xSk Ae) <| gO xA ?_))
  exact Ax rfl (.cons_ (rvW Ae rfl) (.cons_ (Il rfl rfl) .nil_))
 rw [if_neg hs,if_neg hs,PC]
 unfold Df at hs
 by_cases c:n ≤ -2147483648
 case pos =>
  repeat' (with_reducible first|refine AcL ?_|refine Agz ?_)
  exact AgA
 have ca:=c
 clear c
 by_cases c:2147483648≤n
 case pos =>
  repeat' (with_reducible first|refine AcL ?_|refine Agz ?_)
  exact AgA
 have cb:=c
 clear c
 by_cases c:e < -62
 case pos =>
  repeat' (with_reducible first|refine AcL ?_|refine Agz ?_)
  exact AgA
 have cc:=c
 clear c
 have cd:30<e:=by omega
 repeat' (with_reducible first|refine AcL ?_|refine Agz ?_)
 exact AgA
theorem Me {p:Prop} (h:p:=by
 exact Ax rfl (.cons_ (rvW Ae rfl) .nil_)):p:=h
theorem FY (n e:Int) (hs:Df n e):CV prog An 130 [.agg [dI n,dI e]] [aDy false (Ac n 0 e).1 (Ac n 0 e).2]:=by
 refine cvz func130 ntmps130 ?_
 have VA:=XV n e
 rw [if_pos hs,if_pos hs] at VA
 repeat' (with_reducible first|refine qq ?_|(refine Tx 0 ?_;refine gN xBo <| gN (xAl Av) ?_)|(refine Tx 1 ?_;refine gO xL <| gO (xCl func20 (VA)) <| gO xMt <| gO (by exact Nz rfl rfl rfl) <| gO xEx <| gN (xAl Av) <| gZ (xSk Ae) <| gO xA ?_)|(refine Tx 2 ?_;refine gO xL <| gZ (xSk Ae) ?_))
 exact Me
theorem FB (t u:Bool) (y:Bk) (vals:List (Int × Nat)) (k:Nat) {i:Nat} {p:Int × Nat} (hk:y.args[k]?=some (i:Int)) (hp:vals[i]?=some p) (ha:y.args.length≤1000000) (hv:vals.length≤1000000):CV prog An 223 [aI (k:Int),.one (.ptr true [.row u 3 vals.length (AN dyP vals)]),.one (.ptr true (dBk t y))] [aDy false p.1 p.2]:=by
 refine cvz func223 ntmps223 ?_
 have l1:=(gS.1 hk).1
 have l2:=(gS.1 hp).1
 repeat' (with_reducible first|refine qq ?_|(refine Tx 0 ?_;refine gN (xAl Av) ?_)|(refine AJ (id:=1) 8 AX (by kernel_rfl) ?_;dsimp only [List.take,List.drop];refine gP xD <| gP xF <| gP xD <| gP xM <| gP (by first|exact xIr Af (AF hk)|exact xIr Af (Um hp)) <| gP xD <| gP (xIr Ai (Um hp)) <| gP xL ?_;refine Ke ?_;refine gZ (xSk Ae) ?_))
 exact Me
theorem PD {p:Prop} (k:p') (h:Hd9 p'→p:=by with_reducible first|(intro Z9;refine qq ?_;exact Z9.o)|(intro Z9;refine Tx 0 ?_;refine gN xBo <| gN xBo <| gN xBo <| gN (xAl Av) ?_;exact Z9.o)|(intro Z9;refine Tx 1 ?_;refine gO (by first|exact xMf [(2,0,none),(1,0,none)]|exact CU rfl (by repeat' first|exact CF rfl rfl|refine BG rfl rfl rfl ?_)) <| gO xA ?_;exact Z9.o)|(intro Z9;refine Tx 2 ?_;refine gO xF <| gO xD ?_;exact Z9.o)|(intro Z9;refine Tx 3 ?_;refine gO xEq <| gO xA ?_;exact Z9.o)|fail):p:=h ⟨k⟩
theorem Qx {p:Prop} (k:p') (h:Hd9 p'→p:=by with_reducible first|(intro Z9;refine Tx 5 ?_;refine gO xEq <| gO xA ?_;exact Z9.o)|fail):p:=h ⟨k⟩
theorem AoX {p:Prop} (h:p:=by first|exact xCl func130 (RV)|exact xCl func130 (RU)):p:=h
theorem AcM (t v:Bool) (ps:List Prt) (bs:List Bk) (os:List Int) (y:Bk) (vals l:List (Int × Nat)) (ins:List Int) (hk:y.kind=0∨y.kind=1∨y.kind=3∨y.kind=4∨y.kind=5∨y.kind=6∨y.kind=7∨y.kind=8∨y.kind=9∨y.kind=10∨y.kind=11) (ha:y.args.length≤1000000) (hvl:vals.length≤1000000) (hil:ins.length≤1000000) (hpl:ps.length≤1000000)
  (hl:∀ k:Nat,(k=0∧y.kind≠0∧y.kind≠1∨k=1∧(y.kind=3∨y.kind=4∨y.kind=7∨y.kind=8∨y.kind=9))→∃ p i,l[k]?=some p∧y.args[k]?=some ((i:Nat):Int)∧vals[i]?=some p) (hs:∀ p∈l,Sm p 20000 20000)
  (hin:y.kind=0→∃ (i:Nat) (z:Int) (pp:Prt),y.args[0]?=some (i:Int)∧ins[i]?=some z∧ps[i]?=some pp ∧ -9223372036854775808≤z∧z<9223372036854775808 ∧ -100≤pp.fr∧pp.fr≤100)
  (hsv:(y.kind=1∨y.kind=6∨y.kind=11)→Df y.vn y.ve) (hsu:y.kind=11→Df y.un y.ue) (hcl:y.kind=11→Cm (Ac y.vn 0 y.ve).1 (Ac y.vn 0 y.ve).2 (Ac y.un 0 y.ue).1 (Ac y.un 0 y.ue).2≤0):CV prog An 133 [aDg t ps bs os,.agg (dBk t y),.one (.row true 3 vals.length (AN dyP vals)),.one (Ba v ins)] [aDy false (Dc y l ps ins).1 (Dc y l ps ins).2]:=by
 refine cvz func133 ntmps133 ?_
 rcases hk with h|h|h|h|h|h|h|h|h|h|h
 ·
  obtain ⟨i0,z,pp,q0,r0,w0,z0,z1,f0,f1⟩:=hin h
  have l1:=(gS.1 q0).1
  have l2:=(gS.1 r0).1
  have l3:=(gS.1 w0).1
  have OF:=Lm z z0 z1
  have SH:=BR z 0 (-pp.fr) ⟨by decide,fun h=>absurd rfl h⟩ (lT (AY (k:=2) (by omega)) (by decide)) (by omega)
  have hb:Dc y l ps ins=Ac z 0 (-pp.fr):=by unfold Dc;rw [if_pos h,q0];simp [r0,w0]
  rw [hb]
  repeat' (with_reducible first|refine PD ?_|(refine AJ (id:=4) 19 AX (by kernel_rfl) ?_;dsimp only [List.take,List.drop];refine gP xM <| gP xF <| gP xD <| gP (xIr Af (AF q0)) <| gP xD <| gP (by first|exact xIr Af (AF q0)|exact xIr Af (AF r0)) <| gP xD <| gP (xCl func68 (OF)) <| gP xF <| gP xD <| gP xF <| gP xD <| gP (xIr Af (AF q0)) <| gP xD <| gP (xIr Bv (Fy w0)) <| gP xF <| gP xD <| gP (by first|exact Xp rfl rfl (by omega)|exact Aia rfl rfl) <| gP (xCl func21 (SH)) ?_;refine Ke ?_;refine gZ (xSk Ae) ?_))
  exact Me
 ·
  have hv:=hsv (by omega)
  have RV:=FY y.vn y.ve hv
  obtain ⟨v0,v1,e0,e1⟩:=hv
  have sv:Sm (Ac y.vn 0 y.ve) (32+200) 200:=Sm.shift (by omega) (by omega) (by omega)
  have lv:=lT (sv.len (by decide)) (show 50≤40000 by decide)
  have hb:Dc y l ps ins=(Ac y.vn 0 y.ve):=by unfold Dc FL;simp [h]
  rw [hb]
  repeat' (with_reducible first|refine PD ?_|refine Qx ?_|(refine Tx 6 ?_;refine gO xF <| gO xL <| gO (xCl func130 (RV)) <| gZ (xSk Ae) ?_))
  exact Me
 ·
  obtain ⟨p,i0,h0,q0,r0⟩:=hl 0 (by omega)
  have sp:=hs p (gM h0)
  have lp:=sp.l4
  have A0:=FB t true y vals 0 q0 r0 ha hvl
  obtain ⟨q,i1,h1,q1,r1⟩:=hl 1 (by omega)
  have sq:=hs q (gM h1)
  have lq:=sq.l4
  have A1:=FB t true y vals 1 q1 r1 ha hvl
  have C:=Db p.1 p.2 q.1 q.2 sp.ok sq.ok lp lq
  have hb:Dc y l ps ins=Cb p.1 p.2 q.1 q.2:=by unfold Dc FL;simp [h,h0,h1]
  rw [hb]
  repeat' (with_reducible first|refine PD ?_|refine Qx ?_|(refine Tx 7 ?_;refine gO xEq <| gO xA ?_)|(refine Tx 8 ?_;refine gO xM <| gO (xCc func223 A0 (args:=[_]) rfl) <| gO xM <| gO (xCc func223 A1 (args:=[_]) rfl) <| gO (xCl func152 (C)) <| gZ (xSk Ae) ?_))
  exact Me
 ·
  obtain ⟨p,i0,h0,q0,r0⟩:=hl 0 (by omega)
  have sp:=hs p (gM h0)
  have lp:=sp.l4
  have A0:=FB t true y vals 0 q0 r0 ha hvl
  obtain ⟨q,i1,h1,q1,r1⟩:=hl 1 (by omega)
  have sq:=hs q (gM h1)
  have lq:=sq.l4
  have A1:=FB t true y vals 1 q1 r1 ha hvl
  have C:=Agt p.1 p.2 q.1 q.2 sp.ok sq.ok lp lq
  have hb:Dc y l ps ins=Cb p.1 p.2 (-q.1) q.2:=by unfold Dc FL;simp [h,h0,h1]
  rw [hb]
  repeat' (with_reducible first|refine PD ?_|refine Qx ?_|(refine Tx 7 ?_;refine gO xEq <| gO xA ?_)|(refine Tx 9 ?_;refine gO xEq <| gO xA ?_)|(refine Tx 10 ?_;refine gO xM <| gO (xCc func223 A0 (args:=[_]) rfl) <| gO xM <| gO (xCc func223 A1 (args:=[_]) rfl) <| gO (xCl func224 (C)) <| gZ (xSk Ae) ?_))
  exact Me
 ·
  obtain ⟨p,i0,h0,q0,r0⟩:=hl 0 (by omega)
  have sp:=hs p (gM h0)
  have lp:=sp.l4
  have A0:=FB t true y vals 0 q0 r0 ha hvl
  have C:=Ou p.1 p.2 sp.ok lp
  have hb:Dc y l ps ins=(-p.1,p.2):=by unfold Dc FL;simp [h,h0]
  rw [hb]
  repeat' (with_reducible first|refine PD ?_|refine Qx ?_|(refine Tx 7 ?_;refine gO xEq <| gO xA ?_)|(refine Tx 9 ?_;refine gO xEq <| gO xA ?_)|(refine Tx 11 ?_;refine gO xEq <| gO xA ?_)|(refine Tx 13 ?_;refine gO xEq <| gO xA ?_)|(refine Tx 14 ?_;refine gO xM <| gO (xCc func223 A0 (args:=[_]) rfl) <| gO (xCl func176 (C)) <| gZ (xSk Ae) ?_))
  exact Me
 ·
  obtain ⟨p,i0,h0,q0,r0⟩:=hl 0 (by omega)
  have sp:=hs p (gM h0)
  have lp:=sp.l4
  have A0:=FB t true y vals 0 q0 r0 ha hvl
  have hv:=hsv (by omega)
  have RV:=FY y.vn y.ve hv
  obtain ⟨v0,v1,e0,e1⟩:=hv
  have sv:Sm (Ac y.vn 0 y.ve) (32+200) 200:=Sm.shift (by omega) (by omega) (by omega)
  have lv:=lT (sv.len (by decide)) (show 50≤40000 by decide)
  have C:=FM (Ac y.vn 0 y.ve).1 (Ac y.vn 0 y.ve).2 p.1 p.2 sv.ok sp.ok lv lp (by have:=sv.d;have:=sp.d;omega)
  have hb:Dc y l ps ins=Nd (Ac y.vn 0 y.ve).1 (Ac y.vn 0 y.ve).2 p.1 p.2:=by unfold Dc FL;simp [h,h0]
  rw [hb]
  repeat' (with_reducible first|refine PD ?_|refine Qx ?_|(refine Tx 7 ?_;refine gO xEq <| gO xA ?_)|(refine Tx 9 ?_;refine gO xEq <| gO xA ?_)|(refine Tx 11 ?_;refine gO xEq <| gO xA ?_)|(refine Tx 13 ?_;refine gO xEq <| gO xA ?_)|(refine Tx 15 ?_;refine gO xEq <| gO xA ?_)|(refine Tx 17 ?_;refine gO xEq <| gO xA ?_)|(refine Tx 18 ?_;refine gO xF <| gO xL <| gO (xCl func130 (RV)) <| gO xM <| gO (xCc func223 A0 (args:=[_]) rfl) <| gO (xCl func157 (C)) <| gZ (xSk Ae) ?_))
  exact Me
 ·
  obtain ⟨p,i0,h0,q0,r0⟩:=hl 0 (by omega)
  have sp:=hs p (gM h0)
  have lp:=sp.l4
  have A0:=FB t true y vals 0 q0 r0 ha hvl
  obtain ⟨q,i1,h1,q1,r1⟩:=hl 1 (by omega)
  have sq:=hs q (gM h1)
  have lq:=sq.l4
  have A1:=FB t true y vals 1 q1 r1 ha hvl
  have C:=FM p.1 p.2 q.1 q.2 sp.ok sq.ok lp lq (by have:=sp.d;have:=sq.d;omega)
  have hb:Dc y l ps ins=Nd p.1 p.2 q.1 q.2:=by unfold Dc FL;simp [h,h0,h1]
  rw [hb]
  repeat' (with_reducible first|refine PD ?_|refine Qx ?_|(refine Tx 7 ?_;refine gO xEq <| gO xA ?_)|(refine Tx 9 ?_;refine gO xEq <| gO xA ?_)|(refine Tx 11 ?_;refine gO xEq <| gO xA ?_)|(refine Tx 12 ?_;refine gO xM <| gO (xCc func223 A0 (args:=[_]) rfl) <| gO xM <| gO (xCc func223 A1 (args:=[_]) rfl) <| gO (xCl func157 (C)) <| gZ (xSk Ae) ?_))
  exact Me
 ·
  obtain ⟨p,i0,h0,q0,r0⟩:=hl 0 (by omega)
  have sp:=hs p (gM h0)
  have lp:=sp.l4
  have A0:=FB t true y vals 0 q0 r0 ha hvl
  obtain ⟨q,i1,h1,q1,r1⟩:=hl 1 (by omega)
  have sq:=hs q (gM h1)
  have lq:=sq.l4
  have A1:=FB t true y vals 1 q1 r1 ha hvl
  have C:=Mc p.1 p.2 q.1 q.2 sp.ok sq.ok lp lq
  have hb:Dc y l ps ins=Dt p.1 p.2 q.1 q.2:=by unfold Dc FL;simp [h,h0,h1]
  rw [hb]
  repeat' (with_reducible first|refine PD ?_|refine Qx ?_|(refine Tx 7 ?_;refine gO xEq <| gO xA ?_)|(refine Tx 9 ?_;refine gO xEq <| gO xA ?_)|(refine Tx 11 ?_;refine gO xEq <| gO xA ?_)|(refine Tx 13 ?_;refine gO xEq <| gO xA ?_)|(refine Tx 15 ?_;refine gO xEq <| gO xA ?_)|(refine Tx 17 ?_;refine gO xEq <| gO xA ?_)|(refine Tx 19 ?_;refine gO xEq <| gO xA ?_)|(refine Tx 20 ?_;refine gO xM <| gO (xCc func223 A0 (args:=[_]) rfl) <| gO xM <| gO (xCc func223 A1 (args:=[_]) rfl) <| gO (xCl func225 (C)) <| gZ (xSk Ae) ?_))
  exact Me
 ·
  obtain ⟨p,i0,h0,q0,r0⟩:=hl 0 (by omega)
  have sp:=hs p (gM h0)
  have lp:=sp.l4
  have A0:=FB t true y vals 0 q0 r0 ha hvl
  obtain ⟨q,i1,h1,q1,r1⟩:=hl 1 (by omega)
  have sq:=hs q (gM h1)
  have lq:=sq.l4
  have A1:=FB t true y vals 1 q1 r1 ha hvl
  have C:=ED p.1 p.2 q.1 q.2 sp.ok sq.ok lp lq
  have hb:Dc y l ps ins=Dx p.1 p.2 q.1 q.2:=by unfold Dc FL;simp [h,h0,h1]
  rw [hb]
  repeat' (with_reducible first|refine PD ?_|refine Qx ?_|(refine Tx 7 ?_;refine gO xEq <| gO xA ?_)|(refine Tx 9 ?_;refine gO xEq <| gO xA ?_)|(refine Tx 11 ?_;refine gO xEq <| gO xA ?_)|(refine Tx 13 ?_;refine gO xEq <| gO xA ?_)|(refine Tx 15 ?_;refine gO xEq <| gO xA ?_)|(refine Tx 17 ?_;refine gO xEq <| gO xA ?_)|(refine Tx 19 ?_;refine gO xEq <| gO xA ?_)|(refine Tx 21 ?_;refine gO xEq <| gO xA ?_)|(refine Tx 22 ?_;refine gO xM <| gO (xCc func223 A0 (args:=[_]) rfl) <| gO xM <| gO (xCc func223 A1 (args:=[_]) rfl) <| gO (xCl func156 (C)) <| gZ (xSk Ae) ?_))
  exact Me
 ·
  obtain ⟨p,i0,h0,q0,r0⟩:=hl 0 (by omega)
  have sp:=hs p (gM h0)
  have lp:=sp.l4
  have A0:=FB t true y vals 0 q0 r0 ha hvl
  have C:=Ov p.1 p.2 sp.ok lp
  have hb:Dc y l ps ins=(((p.1.natAbs:Nat):Int),p.2):=by unfold Dc FL;simp [h,h0]
  rw [hb]
  repeat' (with_reducible first|refine PD ?_|refine Qx ?_|(refine Tx 7 ?_;refine gO xEq <| gO xA ?_)|(refine Tx 9 ?_;refine gO xEq <| gO xA ?_)|(refine Tx 11 ?_;refine gO xEq <| gO xA ?_)|(refine Tx 13 ?_;refine gO xEq <| gO xA ?_)|(refine Tx 15 ?_;refine gO xEq <| gO xA ?_)|(refine Tx 16 ?_;refine gO xM <| gO (xCc func223 A0 (args:=[_]) rfl) <| gO (xCl func158 (C)) <| gZ (xSk Ae) ?_))
  exact Me
 ·
  obtain ⟨p,i0,h0,q0,r0⟩:=hl 0 (by omega)
  have sp:=hs p (gM h0)
  have lp:=sp.l4
  have A0:=FB t true y vals 0 q0 r0 ha hvl
  have hv:=hsv (by omega)
  have RV:=FY y.vn y.ve hv
  obtain ⟨v0,v1,e0,e1⟩:=hv
  have sv:Sm (Ac y.vn 0 y.ve) (32+200) 200:=Sm.shift (by omega) (by omega) (by omega)
  have lv:=lT (sv.len (by decide)) (show 50≤40000 by decide)
  have hu:=hsu h
  have RU:=FY y.un y.ue hu
  obtain ⟨u0,u1,d0,d1⟩:=hu
  have su:Sm (Ac y.un 0 y.ue) (32+200) 200:=Sm.shift (by omega) (by omega) (by omega)
  have lu:=lT (su.len (by decide)) (show 50≤40000 by decide)
  have sm:Sm (Dt (Ac y.un 0 y.ue).1 (Ac y.un 0 y.ue).2 p.1 p.2) 20000 20000:=Sm.min (su.more (by decide) (by decide)) sp
  have lm:=sm.l4
  have C:=Mc (Ac y.un 0 y.ue).1 (Ac y.un 0 y.ue).2 p.1 p.2 su.ok sp.ok lu lp
  have C2:=ED (Ac y.vn 0 y.ve).1 (Ac y.vn 0 y.ve).2 (Dt (Ac y.un 0 y.ue).1 (Ac y.un 0 y.ue).2 p.1 p.2).1 (Dt (Ac y.un 0 y.ue).1 (Ac y.un 0 y.ue).2 p.1 p.2).2 sv.ok sm.ok lv lm
  rw [Alu sp.ok sv.ok su.ok (hcl h)] at C2
  have hb:Dc y l ps ins=Dt (Dx p.1 p.2 (Ac y.vn 0 y.ve).1 (Ac y.vn 0 y.ve).2).1 (Dx p.1 p.2 (Ac y.vn 0 y.ve).1 (Ac y.vn 0 y.ve).2).2 (Ac y.un 0 y.ue).1 (Ac y.un 0 y.ue).2:=by unfold Dc FL;simp [h,h0]
  rw [hb]
  repeat' (with_reducible first|refine PD ?_|refine Qx ?_|(refine Tx 7 ?_;refine gO xEq <| gO xA ?_)|(refine Tx 9 ?_;refine gO xEq <| gO xA ?_)|(refine Tx 11 ?_;refine gO xEq <| gO xA ?_)|(refine Tx 13 ?_;refine gO xEq <| gO xA ?_)|(refine Tx 15 ?_;refine gO xEq <| gO xA ?_)|(refine Tx 17 ?_;refine gO xEq <| gO xA ?_)|(refine Tx 19 ?_;refine gO xEq <| gO xA ?_)|(refine Tx 21 ?_;refine gO xEq <| gO xA ?_)|(refine AJ (id:=23) 10 AX (by kernel_rfl) ?_;dsimp only [List.take,List.drop];refine gP xF <| gP xL <| gP AoX <| gP xF <| gP xL <| gP AoX <| gP xM <| gP (xCc func223 A0 (args:=[_]) rfl) <| gP (xCl func225 (C)) <| gP (xCl func156 (C2)) ?_;refine Ke ?_;refine gZ (xSk Ae) ?_))
  exact Me
def GQ:Nat:=65536
def gv (p:Int × Nat):Int:=p.1*2 ^ (GQ - p.2)
theorem Rg (n:Nat):(2:Int) ^ n≠0:=fm (gg (by decide))
theorem Cf (n:Nat):(0:Int)<2 ^ n:=gg (by decide)
theorem PE (h:p.2≤GQ):p.1*2 ^ GQ=gv p*2 ^ p.2:=Sy p h
theorem Nf.le {x:Int} {d:Nat} (h:Nf x d):d≤GQ:=h.1
theorem AcN {m:Int} {d:Nat} (h:d≤GQ):gv (nf m d)=m*2 ^ (GQ - d):=by
 have e:=AaY m d
 have l:=AjF m d
 refine en (Rg d) ?_
 unfold gv
 rw [ia,e,ai,ai,←ao,←ao]
 congr 2
 omega
theorem Mf (p:Int × Nat):gv (-p.1,p.2) = -gv p:=ct ..
theorem Wc:gv (0,0)=0:=Int.zero_mul _
theorem ND (p:Int × Nat):gv (((p.1.natAbs:Nat):Int),p.2)=((gv p).natAbs:Int):=by
 unfold gv
 rw [ff,jx,fx]
 congr 1
theorem DN (hp:p.2≤GQ) (hq:q.2≤GQ):gv (Cb p.1 p.2 q.1 q.2)=gv p+gv q:=by
 unfold Cb
 rw [AcN (by omega),ic,ai,ai,←ao,←ao,show max p.2 q.2 - p.2+(GQ - max p.2 q.2)=GQ - p.2 by omega,show max p.2 q.2 - q.2+(GQ - max p.2 q.2)=GQ - q.2 by omega]
 rfl
theorem IB (h:p.2+q.2≤GQ):gv (Nd p.1 p.2 q.1 q.2)*2 ^ GQ=gv p*gv q:=by
 unfold Nd
 rw [AcN h]
 unfold gv
 have e1:p.1*q.1*2 ^ (GQ - (p.2+q.2))*2 ^ GQ=p.1*q.1*2 ^ (GQ - (p.2+q.2)+GQ):=by rw [ai,←ao]
 have e2:p.1*2 ^ (GQ - p.2)*(q.1*2 ^ (GQ - q.2))=p.1*q.1*2 ^ (GQ - p.2+(GQ - q.2)):=by rw [ao];simp only [ai,Int.mul_left_comm,bz]
 rw [e1,e2]
 congr 2
 omega
theorem Aio (hp:p.2≤GQ) (hq:q.2≤GQ):Cm p.1 p.2 q.1 q.2=sgI (gv p - gv q):=Py (PE hp) (PE hq)
theorem Aip (hp:Nf p.1 p.2) (hq:Nf q.1 q.2) (h:gv p=gv q):p=q:=PA hp hq (PE hp.le) (by rw [h];exact PE hq.le)
theorem NF (hp:p.2≤GQ) (hq:q.2≤GQ):Cm p.1 p.2 q.1 q.2≤0 ↔ gv p≤gv q:=by
 rw [Aio hp hq,BZ]
 by_cases h1:gv p<gv q
 ·rw [if_pos h1];exact ⟨fun _=>bl h1,fun _=>by decide⟩
 ·rw [if_neg h1]
  by_cases h2:gv q<gv p
  ·rw [if_pos h2];exact ⟨fun h=>absurd h (by decide),fun h=>by omega⟩
  ·rw [if_neg h2];exact ⟨fun _=>by omega,fun _=>by decide⟩
theorem AcO (hp:p.2≤GQ) (hq:q.2≤GQ):0≤Cm p.1 p.2 q.1 q.2 ↔ gv q≤gv p:=by
 rw [Aio hp hq,BZ]
 by_cases h1:gv p<gv q
 ·rw [if_pos h1];exact ⟨fun h=>absurd h (by decide),fun h=>by omega⟩
 ·rw [if_neg h1]
  by_cases h2:gv q<gv p
  ·rw [if_pos h2];exact ⟨fun _=>by omega,fun _=>by decide⟩
  ·rw [if_neg h2];exact ⟨fun _=>by omega,fun _=>by decide⟩
theorem AoY (hp:p.2≤GQ) (hq:q.2≤GQ):Dt p.1 p.2 q.1 q.2=if gv q<gv p then q else p:=by
 unfold Dt
 by_cases h:gv q<gv p
 ·rw [if_pos h,if_pos (Int.not_le.1 fun hc=>by have:=(NF hp hq).1 hc;omega)]
 ·rw [if_neg h,if_neg (by have:=(NF hp hq).2 (by omega);omega)]
theorem AoZ (hp:p.2≤GQ) (hq:q.2≤GQ):Dx p.1 p.2 q.1 q.2=if gv p<gv q then q else p:=by
 unfold Dx
 by_cases h:gv p<gv q
 ·rw [if_pos h,if_pos (Int.not_le.1 fun hc=>by have:=(AcO hp hq).1 hc;omega)]
 ·rw [if_neg h,if_neg (by have:=(AcO hp hq).2 (by omega);omega)]
theorem FD (hp:p.2≤GQ) (hq:q.2≤GQ):gv (Dt p.1 p.2 q.1 q.2)=min (gv p) (gv q):=by
 rw [AoY hp hq]
 split <;> omega
theorem DP (hp:p.2≤GQ) (hq:q.2≤GQ):gv (Dx p.1 p.2 q.1 q.2)=max (gv p) (gv q):=by
 rw [AoZ hp hq]
 split <;> omega
theorem Mg (hp:p.2≤GQ) (hn:n≤65536):gv (Ac p.1 p.2 (n:Int))=gv p*2 ^ n:=by
 unfold Ac
 rw [if_neg (by omega),AcN hp,show (max (-65536) (min ((n:Nat):Int) 65536)).toNat=n by omega]
 exact ia ..
theorem Mh (hp:p.2+n≤GQ) (hn:n≤65536):gv (Ac p.1 p.2 (-(n:Int)))*2 ^ n=gv p:=by
 unfold Ac
 by_cases h0:n=0
 ·subst h0
  rw [if_neg (by omega),AcN (by omega)]
  show p.1*2 ^ (max (-65536) (min (-((0:Nat):Int)) 65536)).toNat*2 ^ (GQ - p.2)*2 ^ 0=gv p
  rw [show (max (-65536) (min (-((0:Nat):Int)) 65536)).toNat=0 by omega,Int.pow_zero,je,je]
  rfl
 ·rw [if_pos (by omega),AcN (by omega),show (-(max (-65536) (min (-(n:Int)) 65536))).toNat=n by omega,ai,←ao]
  unfold gv
  congr 2
  omega
theorem Mi (n:Int):gv (n,0)=n*2 ^ GQ:=rfl
def PF (bs:List Bk) (j:Nat):Bk:=bs[j]?.getD bk0
def scA (F:List Int) (j:Nat):Int:=F[j]?.getD 0
def FE (ps:List Prt) (a:Int):Int:=(ps[a.toNat]?.getD ⟨0,0,0⟩).fr
def Mj (bs:List Bk) (F:List Int) (j:Nat):Int:=Dq (PF bs j).vn (PF bs j).ve (scA F j)
def AgB (bs:List Bk) (F:List Int) (j:Nat):Int:=Dq (PF bs j).un (PF bs j).ue (scA F j)
def Qy (bs:List Bk) (F:List Int) (j:Nat):Int:=BJ (PF bs j).vn (PF bs j).ve (scA F j)
def AgC (bs:List Bk) (F:List Int) (j:Nat):Int:=BJ (PF bs j).un (PF bs j).ue (scA F j)
def IC (bs:List Bk) (F:List Int) (j:Nat):Int :=
 if AG bs j=1∨AG bs j=2 then Qy bs F j else if AG bs j=11 then (if Qy bs F j=0 then AgC bs F j else Qy bs F j) else 0
def Ed (bs:List Bk) (F:List Int) (j:Nat):Int:=if AG bs j=1∨AG bs j=2∨AG bs j=11 then Mj bs F j else 0
def GF (bs:List Bk) (F:List Int) (j:Nat):Int:=if AG bs j=11 then AgB bs F j else 0
def tab (n:Nat) (f:Nat→Int):List Int:=(List.range n).map f
theorem Fa (n:Nat) (f:Nat→Int):(tab n f).length=n:=by simp [tab]
theorem GU (h:j<n):(tab n f)[j]?=some (f j):=by simp [tab,h]
theorem Wd {k:Nat} {g:Nat→Int} {z:Int} (hz:g k=z) (h:∀ j,j≠k→g j=f j):(tab n f).set k z=tab n g:=by
 refine fj fun j=>?_
 simp only [tab,bt,af,kh,ag,ko]
 by_cases hkj:k=j
 ·subst hkj
  by_cases hk:k<n
  ·simp [hk,hz]
  ·simp [hk]
 ·rw [if_neg hkj]
  by_cases hj:j<n
  ·simp [hj,h j (Ne.symm hkj)]
  ·simp [hj]
theorem HH {g:Nat→Int} (h:∀ j,j<n→g j=f j):tab n f=tab n g:=by
 unfold tab
 exact ig fun j hj=>(h j (List.mem_range.1 hj)).symm
theorem AgD (n:Nat):tab n (fun _=>0)=List.replicate n 0:=by simp [tab,List.map_const']
def IE (p:Nat→Bool) (j:Nat):Nat:=((List.range j).filter p).length
theorem Mk (p:Nat→Bool) (t j:Nat):∀ n,((List.range n).filter p)[t]?=some j ↔ j<n∧p j=true∧IE p j=t
 | 0=>by simp
 | n+1=>by
  rw [ek,ki]
  have ih:=Mk p t j n
  by_cases hn:p n=true
  ·simp only [kc,hn,if_true,List.filter_nil]
   by_cases ht:t<((List.range n).filter p).length
   ·rw [de ht,ih]
    constructor
    ·exact fun h=>⟨by omega,h.2⟩
    ·rintro ⟨h1,h2,h3⟩
     refine ⟨?_,h2,h3⟩
     rcases ba j n with h|h
     ·exact h
     ·obtain rfl:j=n:=by omega
      unfold IE at h3
      omega
   ·rw [dg (by omega)]
    constructor
    ·intro h
     have h0:t - ((List.range n).filter p).length=0:=by
      rcases cn (t - ((List.range n).filter p).length) with h1|h1
      ·exact h1
      ·rw [dv (by simp;omega)] at h
       cases h
     rw [h0] at h
     have e:n=j:=by simpa using h
     subst e
     exact ⟨by omega,hn,by unfold IE;omega⟩
    ·rintro ⟨h1,h2,h3⟩
     rcases ba j n with h|h
     ·have h4:=ih.2 ⟨h,h2,h3⟩
      have:=(gS.1 h4).1
      omega
     ·obtain rfl:j=n:=by omega
      have:t - ((List.range j).filter p).length=0:=by unfold IE at h3;omega
      rw [this]
      rfl
  ·simp only [kc,hn,List.filter_nil,az]
   simp only [dr,if_false,az]
   rw [ih]
   constructor
   ·exact fun h=>⟨by omega,h.2⟩
   ·rintro ⟨h1,h2,h3⟩
    refine ⟨?_,h2,h3⟩
    rcases ba j n with h|h
    ·exact h
    ·obtain rfl:j=n:=by omega
     exact absurd h2 hn
def dlB (bs:List Bk) (i:Nat):Bool:=AG bs i == 2
def cpB (bs:List Bk) (i:Nat):Bool:=AG bs i == 11
def dlK (bs:List Bk) (k:Nat):List Nat:=(List.range k).filter (dlB bs)
def cpK (bs:List Bk) (k:Nat):List Nat:=(List.range k).filter (cpB bs)
theorem GV (bs:List Bk):Bx bs=dlK bs bs.length:=rfl
theorem HJ (bs:List Bk) (k:Nat):dlK bs (k+1)=if AG bs k=2 then dlK bs k++[k] else dlK bs k:=by
 unfold dlK
 rw [ek,ki]
 by_cases h:AG bs k=2
 ·rw [if_pos h];simp [dlB,h]
 ·rw [if_neg h];simp [dlB,h]
theorem HM (bs:List Bk) (k:Nat):cpK bs (k+1)=if AG bs k=11 then cpK bs k++[k] else cpK bs k:=by
 unfold cpK
 rw [ek,ki]
 by_cases h:AG bs k=11
 ·rw [if_pos h];simp [cpB,h]
 ·rw [if_neg h];simp [cpB,h]
theorem We (bs:List Bk) (k:Nat):(dlK bs k).length≤k:=by
 have:=kg (dlB bs) (List.range k)
 simpa [dlK] using this
theorem Wf (bs:List Bk) (k:Nat):(cpK bs k).length≤k:=by
 have:=kg (cpB bs) (List.range k)
 simpa [cpK] using this
def AM (bs:List Bk) (j:Nat):Int :=
 if AG bs j=2 then (bs.length:Int)+(IE (dlB bs) j:Int) else if AG bs j=11 then (bs.length:Int)+((dlK bs bs.length).length:Int)+2*(IE (cpB bs) j:Int) else 0
def opM (k:Int):Int:=if k=3 then 3 else if k=4 then 4 else if k=8 then 8 else if k=9 then 9 else if k=5 then 5 else 10
def Bt (b:Bk):Int:=b.args[0]?.getD 0
def FP (b:Bk):Int:=b.args[1]?.getD 0
def Fb (ps:List Prt) (bs:List Bk) (F:List Int) (j:Nat) (c:Int):List Ins :=
 let b:=PF bs j
 let s:=scA F j
 let s0:=scA F (Bt b).toNat
 let s1:=scA F (FP b).toNat
 if b.kind=0 then [⟨0,j,Bt b,0,s - FE ps (Bt b),0,0⟩]
 else if b.kind=1 then [⟨1,j,0,0,0,0,Mj bs F j⟩]
 else if b.kind=6 then [⟨6,j,Bt b,0,s - s0+b.ve,0,b.vn⟩]
 else if b.kind=7 then [⟨7,j,Bt b,FP b,s - s0 - s1,0,0⟩]
 else if b.kind=11 then [⟨9,j,Bt b,c,s - s0,0,0⟩,⟨8,j,j,c+1,0,0,0⟩]
 else if b.args.length=2 then [⟨opM b.kind,j,Bt b,FP b,s - s0,s - s1,0⟩]
 else [⟨opM b.kind,j,Bt b,0,s - s0,0,0⟩]
def mv1 (bs:List Bk) (F:List Int) (j:Nat):Ins:=⟨2,AM bs j,Bt (PF bs j),0,scA F j - scA F (Bt (PF bs j)).toNat,0,0⟩
def mv2 (bs:List Bk) (j:Nat):Ins:=⟨2,j,AM bs j,0,0,0,0⟩
def Cg (ps:List Prt) (bs:List Bk) (F:List Int):List Ins :=
 (BH bs).flatMap (fun j=>Fb ps bs F j (AM bs j))++(Bx bs).map (mv1 bs F)++(Bx bs).map (mv2 bs)
def Cv (bs:List Bk) (F:List Int):List Int :=
 tab bs.length (fun j=>if AG bs j=2 then Ed bs F j else 0)++List.replicate (Bx bs).length 0++(cpK bs bs.length).flatMap (fun j=>[Ed bs F j,GF bs F j])
def AgE (x:Ins):Bool:=decide (-62≤x.sa∧x.sa≤30 ∧ -62≤x.sb∧x.sb≤30)
def GW (z:Int):Bool:=decide (0≤z∧z≤30)
def GX (ps:List Prt) (bs:List Bk) (F:List Int):Int :=
 if ¬ F.length=bs.length then 11 else if ¬ F.all GW=true then 3 else if ¬ Ah ((List.range bs.length).map (IC bs F))=0 then Ah ((List.range bs.length).map (IC bs F))
 else if (Cg ps bs F).all AgE=true then 0 else 3
theorem PG {l:List Int} {k:Nat} {e:Int} (h:∀ j x,j<k→l[j]?=some x→x=0) (hk:l[k]?=some e) (he:e≠0):Ah l=e:=by
 induction l generalizing k with
 | nil=>simp at hk
 | cons x l ih =>
  unfold Ah
  cases k with
  | zero =>
   have:x=e:=by simpa using hk
   rw [if_neg (by rw [this];exact he),this]
  | succ k =>
   have hx:x=0:=h 0 x (by omega) rfl
   rw [if_pos hx]
   exact ih (k:=k) (fun j y hj hy=>h (j+1) y (by omega) (by simpa using hy)) (by simpa using hk)
theorem Ml {l:List Int} (h:∀ x∈l,x=0):Ah l=0:=by
 induction l with
 | nil=>rfl
 | cons x l ih =>
  unfold Ah
  rw [if_pos (h x (by simp))]
  exact ih fun y hy=>h y (by simp [hy])
theorem Apa {k:Nat} (hk:k<bs.length) (h:∀ j,j<k→IC bs F j=0) (he:IC bs F k≠0):Ah ((List.range bs.length).map (IC bs F))=IC bs F k :=
 PG (k:=k) (fun j x hj hx=>by
  have hjn:j<bs.length:=by omega
  simp [hjn] at hx
  rw [←hx]
  exact h j hj) (by simp [hk]) he
theorem Alv (h:∀ j,j<bs.length→IC bs F j=0):Ah ((List.range bs.length).map (IC bs F))=0 :=
 Ml fun x hx=>by
  obtain ⟨j,hj,rfl⟩:=List.mem_map.1 hx
  exact h j (List.mem_range.1 hj)
section
variable {ps:List Prt} {bs:List Bk} {F:List Int}
theorem cp_1 (h:¬ F.length=bs.length):GX ps bs F=11:=if_pos h
theorem cp_2 (h:F.length=bs.length) (h2:¬ F.all GW=true):GX ps bs F=3:=by unfold GX;rw [if_neg (not_not_intro h),if_pos h2]
theorem Ari (h:F.length=bs.length) (h2:F.all GW=true) {k:Nat} (hk:k<bs.length) (h3:∀ j,j<k→IC bs F j=0) (he:IC bs F k≠0):GX ps bs F=IC bs F k:=by
 unfold GX
 rw [if_neg (not_not_intro h),if_neg (not_not_intro h2),Apa hk h3 he,if_pos he]
theorem cp_4 (h:F.length=bs.length) (h2:F.all GW=true) (h3:∀ j,j<bs.length→IC bs F j=0):GX ps bs F=if (Cg ps bs F).all AgE=true then 0 else 3:=by
 unfold GX
 rw [if_neg (not_not_intro h),if_neg (not_not_intro h2),Alv h3,if_neg (by simp)]
theorem Dk (h2:F.all GW=true) (j:Nat):0≤scA F j∧scA F j≤30:=by
 unfold scA
 cases hj:F[j]? with
 | none=>simp
 | some z =>
  have:=List.all_eq_true.1 h2 z (gM hj)
  have:=of_decide_eq_true this
  simpa using this
theorem Di (h:bs[j]?=some y):PF bs j=y:=by unfold PF;rw [h];rfl
theorem Ck (h:bs[j]?=some y):AG bs j=y.kind:=by unfold AG;rw [h];rfl
theorem FZ {z:Int} (h:F[j]?=some z):scA F j=z:=by unfold scA;rw [h];rfl
end
section
variable {ps:List Prt} {bs:List Bk} {os:List Int}
theorem Wg (h:Bl ps bs os=0) {i:Nat} {y:Bk} (hy:bs[i]?=some y):BQ ps.length bs.length y=0 :=
 Cu (Acd (LS h).2.1) _ (List.mem_map.2 ⟨y,gM hy,rfl⟩)
theorem Cl (h:Bl ps bs os=0) {i:Nat} {y:Bk} (hy:bs[i]?=some y):0≤AO y.kind∧((y.args.length:Nat):Int)=AO y.kind∧∀ a∈y.args,0≤a∧a<(Cn ps.length bs.length y.kind:Int):=XK (Wg h hy)
theorem Mn (h:Bl ps bs os=0) {i:Nat} {y:Bk} (hy:bs[i]?=some y) (hv:Pt y.kind=true):Df y.vn y.ve:=by
 have h1:=Wg h hy
 have ha:=Cl h hy
 unfold BQ at h1
 rw [if_neg (by omega),if_neg (not_not_intro ha.2.1)] at h1
 by_cases h3:Ah (y.args.map (NC (Cn ps.length bs.length y.kind)))=0
 ·rw [if_neg (not_not_intro h3)] at h1
  by_cases h4:CG y.vn y.ve (Pt y.kind)=0
  ·rw [hv] at h4
   unfold CG at h4
   rw [if_pos rfl] at h4
   by_cases h5:Df y.vn y.ve
   ·exact h5
   ·rw [if_neg h5] at h4;cases h4
  ·rw [if_pos h4] at h1
   exact absurd h1 h4
 ·rw [if_pos h3] at h1
  cases h1
theorem Mo (h:Bl ps bs os=0) {i:Nat} {p:Prt} (hp:ps[i]?=some p):DW p=0:=by
 have h1:=(LS h).2.1
 unfold Er at h1
 rw [AI] at h1
 by_cases h2:Ah (ps.map DW)=0
 ·exact Cu h2 _ (List.mem_map.2 ⟨p,gM hp,rfl⟩)
 ·rw [if_neg h2] at h1
  exact absurd h1 h2
theorem Rh {u:Nat} (h:(BH bs)[u]?=some i):i<bs.length∧AG bs i≠2:=(FJ bs.length (EX.nil bs)).mem i (gM h)
theorem AcP:(BH bs).length≤bs.length:=lT (FJ bs.length (EX.nil bs)).le (GP bs)
end
theorem AcQ {u:Nat} (h:(BH bs)[u]?=some i) :
  ((BH bs).take (u+1)).flatMap (fun j=>Fb ps bs F j (AM bs j))=((BH bs).take u).flatMap (fun j=>Fb ps bs F j (AM bs j))++Fb ps bs F i (AM bs i):=by
 rw [aw,h]
 simp
theorem AgF (j:Nat) (c:Int):(Fb ps bs F j c).length≤2:=by
 unfold Fb
 dsimp only
 repeat' split
 all_goals simp
theorem AgG (l:List Nat):(l.flatMap (fun j=>Fb ps bs F j (AM bs j))).length≤2*l.length:=by
 induction l with
 | nil=>simp
 | cons x l ih =>
  have:=AgF (ps:=ps) (bs:=bs) (F:=F) x (AM bs x)
  simp only [List.flatMap_cons,ak,bk]
  omega
theorem Asa {a b:Int} (h:a=b):Ending.returned (.int .i64 a)=.returned (.int .i64 b):=by rw [h]
theorem Sz (k:Int) (w:World):Calls prog 118 #[.int .i64 k] w fun e w'=>e=.returned (.int .i64 (opM k))∧w=w':=by
 go_enter func118,ntmps118
 go_wp2
 all_goals
  go_ret
  exact ⟨Asa (by unfold opM;simp_all),rfl⟩
theorem ZF:TyB prog 176 [] []:=⟨⟨_,underlying176,by kernel_rfl⟩,by kernel_rfl,by kernel_rfl⟩
abbrev CI (p:Int × Nat):Bool:=AoU p.1.natAbs p.2
def tlV:Value:=.iface 176 (.agg #[])
def tlC:List PanicEntry:=[{ v:=tlV,recovered:=false }]
def cV:Option (Int × Nat)→List C
 | none=>[.d (.val (.bool false)),.d (.val (.slice none 0 0)),.d (.val (.int .i64 0))]
 | some p=>(dDy false p.1 p.2).map C.d
def cVs (l:List (Option (Int × Nat))):List C:=(l.map cV).flatten
def gV (l:List (Option (Int × Nat))):List (Int × Nat):=l.map (·.getD (0,0))
theorem PH (o:Option (Int × Nat)):(cV o).length=3:=by cases o <;> rfl
theorem Alw (l:List (Option (Int × Nat))):(cVs l).length=l.length*3:=by
 induction l with
 | nil=>rfl
 | cons o l ih =>
  have:(cVs (o::l)).length=(cV o).length+(cVs l).length:=by simp [cVs]
  rw [this,ih,PH,bk];omega
theorem Gs (o:Option (Int × Nat)) (l:List (Option (Int × Nat))):cVs (o::l)=cV o++cVs l:=by simp [cVs]
theorem Aiq:∀ {l:List (Option (Int × Nat))} {i:Nat} {o:Option (Int × Nat)},l[i]?=some o→((cVs l).drop (i*3)).take 3=cV o
 | [],i,o,h=>by simp at h
 | q::l,0,o,h=>by
  simp only [gq,Option.some.injEq] at h
  subst h
  rw [Gs,gx,jq,lj (by rw [PH];omega),aq (by rw [PH];omega)]
 | q::l,i+1,o,h=>by
  simp only [fg] at h
  rw [Gs,show (i+1)*3=(cV q).length+i*3 by rw [PH];omega,←List.drop_drop,List.drop_left]
  exact Aiq h
theorem AcR:∀ {l:List (Option (Int × Nat))} {i:Nat} (p:Int × Nat),i<l.length→(cVs l).take (i*3)++(dDy false p.1 p.2).map C.d++(cVs l).drop (i*3+3)=cVs (l.set i (some p))
 | [],i,p,h=>by simp at h
 | q::l,0,p,h=>by
  rw [Gs,gx,gy,ef,bc,df,Gs,show (3:Nat)=(cV q).length from (PH q).symm,List.drop_left]
  rfl
 | q::l,i+1,p,h=>by
  have ih:=AcR (l:=l) (i:=i) p (by simpa using h)
  rw [Gs,di,Gs,←ih,show (i+1)*3+3=(cV q).length+(i*3+3) by rw [PH];omega,←List.drop_drop,List.drop_left,show (i+1)*3=(cV q).length+i*3 by rw [PH];omega,List.take_length_add_append]
  simp
theorem Alx (n:Nat):Ex (madeCells (Value.agg #[.bool false,.slice none 0 0,.int .i64 0]).cells (n*3)).toList=cVs (List.replicate n none):=by
 have h1:∀ a:Nat,(madeCells (Value.agg #[.bool false,.slice none 0 0,.int .i64 0]).cells a).toList=(List.range a).map (fun j=>#[Value.bool false,.slice none 0 0,.int .i64 0][j % 3]!):=fun a=>by
  unfold madeCells
  rw [Array.toList_map,Array.toList_range]
  rfl
 rw [h1]
 induction n with
 | zero=>rfl
 | succ n ih =>
  rw [show (n+1)*3=n*3+1+1+1 by omega,ek,ek,ek,List.replicate_succ']
  simp only [gz,Ex] at ih ⊢
  rw [ih]
  simp only [cVs,gz,List.flatten_append,ce,ga,show n*3 % 3=0 by omega,show (n*3+1) % 3=1 by omega,show (n*3+1+1) % 3=2 by omega,kp]
  rfl
theorem Aly:∀ c∈cVs l,C.bel n c:=fun c hc=>by
 obtain ⟨cs,hcs,hc⟩:=List.mem_flatten.1 hc
 obtain ⟨o,_,rfl⟩:=List.mem_map.1 hcs
 cases o with
 | none=>simp [cV] at hc;rcases hc with rfl|rfl|rfl <;> trivial
 | some p=>exact AoT c hc
theorem PI (x:Int) (d:Nat):∀ u∈dDy false x d,Dg u:=fun u hu=>by
 simp only [dDy,bo,bp,or_false] at hu
 rcases hu with rfl|rfl|rfl
 ·exact .val _
 ·refine .row fun u hu=>?_
  obtain ⟨v,_,rfl⟩:=List.mem_map.1 hu
  exact .val _
 ·exact .val _
theorem Apb (o:Option (Int × Nat)):AV (Gj t H) (cV o) (dyP (o.getD (0,0))):=by
 cases o with
 | none =>
  show AV (Gj t H) _ (dDy false 0 0)
  have e:dDy false 0 0=[.val (.bool false),.row false 1 0 [],.val (.int .i64 0)]:=A.agg.inj PC
  rw [e]
  exact .cons_ (.d fun _=>.val _) (.cons_ .nil (.cons_ (.d fun _=>.val _) .nil_))
 | some p=>exact AV.map_l.2 ⟨rfl,fun j a b ha hb=>by
   have:(dDy false p.1 p.2)[j]?=some b:=hb
   rw [ha] at this
   cases this
   exact .d fun _=>PI _ _ a (gM ha)⟩
theorem Alz (l:List (Option (Int × Nat))):AV (Gj t H) (cVs l) (AN dyP (gV l)):=by
 induction l with
 | nil=>exact AV.nil_
 | cons o l ih =>
  rw [Gs]
  exact (Apb o).app ih
theorem AcS (l:List (Option (Int × Nat))):(gV l).length=l.length:=af ..
theorem ZG (h:l[i]?=some (some p)):(gV l)[i]?=some p:=by
 unfold gV
 rw [ag,h]
 rfl
theorem Wh {c:C} {y:D} (hc:c=.own id n) (hH:H[id]?=some (.row ty 3 n (cVs l))) (hy:y=.row t 3 n (AN dyP (gV l))):Gj t H c y:=Ej hc hH hy (Alz l)
theorem AcT {c:C} {y:D} {l:List (Int × Nat)} (hc:c=.own id n) (hH:H[id]?=some (.row ty 3 n ((AN dyP l).map C.d))) (hy:y=.row t 3 n (AN dyP l)):Gj t H c y :=
 Ej hc hH hy (AV.map_l.2 ⟨rfl,fun j a b ha hb=>by
  rw [ha] at hb
  cases hb
  exact .d fun _=>Dp (f:=dyP) (fun p=>PI _ _) l a (gM ha)⟩)
section
variable {P:Program} {G:World→Prop} {o:Oper} {F:Frm} {H:List Ob}
theorem AgH {t e:TypeId} {x y:Operand} {by_:Nat} {k k':IntKind} (ho:o.op=.makeSlice t x y) (hx:F.ev x=.one (.d (.val (.int k (n:Int))))) (hy:F.ev y=.one (.d (.val (.int k' (n:Int))))) (ht:TyS P t e 3) (hz:TyZ P e (.agg #[.bool false,.slice none 0 0,.int .i64 0]) 3 by_) (hn:n≤1000000) (hby:by_≤1000) :
  Bb P G o F H (.one (.own H.length n)) [.row e 3 n (cVs (List.replicate n none))]:=by
 have:=BP (P:=P) (G:=G) (H:=H) ho hx hy ht hz hn hby
 rwa [Alx] at this
theorem Apc {t ty:TypeId} {x:Operand} (ho:o.op=.load t x) (hx:F.ev x=.one (.ref id (i*3) (some n))) (hH:H[id]?=some (.row ty 3 n (cVs l))) (hp:l[i]?=some (some p)) (hk:TyK P t true 3):Bb P G o F H (.agg ((dDy false p.1 p.2).map C.d)) [] :=
 RT ho hx (.row hH) hk (Aiq hp) rfl
theorem Apd {t ty:TypeId} {x y:Operand} {l':List (Option (Int × Nat))} (ho:o.op=.store t x y) (hx:F.ev x=.one (.ref id (i*3) (some n))) (hH:H[id]?=some (.row ty 3 n (cVs l))) (hy:F.ev y=.agg ((dDy false p.1 p.2).map C.d)) (hty:TyK P t true 3) (hi:i<l.length) (hl:l.set i (some p)=l'):TOk P G o F H .any (H.set id (.row ty 3 n (cVs l'))):=by
 have h3:((dDy false p.1 p.2).map C.d).length=3:=rfl
 have:=TQ (P:=P) (G:=G) ho hx hH rfl (show Fm (F.ev y)=some ((dDy false p.1 p.2).map C.d) by rw [hy];rfl) hty rfl (by rw [h3];show i*3+3≤(cVs l).length;rw [Alw];omega)
 rw [h3] at this
 simp only [Ob.cs,Ob.setC] at this
 rw [AcR p hi,hl] at this
 exact this
end
def LB:Nat:=4096
theorem LBx:LB≤20000:=by decide
def LC:Nat:=9000
theorem Arj:LB≤LC:=by decide
theorem ZH (hn:Nf p.1 p.2) (h:CI p=false):Sm p LB LB:=by
 have h1:¬ 4096<max (CS p.1.natAbs) p.2:=of_decide_eq_false h
 exact ⟨hn,HG.1 (by unfold LB;omega),by unfold LB;omega⟩
def Mp (vs:List (Option (Int × Nat))) (y:Bk):List (Int × Nat):=if y.kind=0 then [] else y.args.map fun a=>(vs[a.toNat]?.getD none).getD (0,0)
def tkV (ps:List Prt) (bs:List Bk) (ins:List Int) (vs:List (Option (Int × Nat))) (i:Nat):Int × Nat:=match bs[i]? with
 | some y=>Dc y (Mp vs y) ps ins
 | none=>(0,0)
def AlA (ps:List Prt) (bs:List Bk) (ins:List Int) (vs:List (Option (Int × Nat))) (l:List Nat):List (Option (Int × Nat)):=l.foldl (fun v i=>v.set i (some (tkV ps bs ins v i))) vs
def Wi (dl:List Nat) (st:List (Int × Nat)) (vs:List (Option (Int × Nat))):List (Option (Int × Nat)):=(dl.zip st).foldl (fun v p=>v.set p.1 (some p.2)) vs
theorem XW (ps:List Prt) (bs:List Bk) (ins:List Int):∀ (l:List Nat) (vs:List (Option (Int × Nat))),(AlA ps bs ins vs l).length=vs.length
 | [],vs=>rfl
 | i::l,vs=>by show (AlA ps bs ins _ l).length=_;rw [XW ps bs ins l];simp
theorem Mq:∀ (dl:List Nat) (st:List (Int × Nat)) (vs:List (Option (Int × Nat))),(Wi dl st vs).length=vs.length
 | [],st,vs=>rfl
 | i::dl,[],vs=>rfl
 | i::dl,x::st,vs=>by show (Wi dl st _).length=_;rw [Mq dl st];simp
theorem AcU (ps:List Prt) (bs:List Bk) (ins:List Int) (vs:List (Option (Int × Nat))) {l:List Nat} {t j:Nat} (h:l[t]?=some j):AlA ps bs ins vs (l.take (t+1))=(AlA ps bs ins vs (l.take t)).set j (some (tkV ps bs ins (AlA ps bs ins vs (l.take t)) j)):=by
 unfold AlA
 rw [aw,h,fe,fo]
 rfl
theorem PJ (vs:List (Option (Int × Nat))) {dl:List Nat} {st:List (Int × Nat)} {t j:Nat} {p:Int × Nat} (h:dl[t]?=some j) (h2:st[t]?=some p):Wi (dl.take (t+1)) (st.take (t+1)) vs=(Wi (dl.take t) (st.take t) vs).set j (some p):=by
 have l1:=(gS.1 h).1
 have l2:=(gS.1 h2).1
 unfold Wi
 rw [aw,aw,h,h2,fe,fe,List.zip_append (by simp;omega),fo]
 rfl
def Ln (ps:List Prt) (bs:List Bk) (st:List (Int × Nat)) (ins:List Int) (t:Nat):List (Option (Int × Nat)):=AlA ps bs ins (Wi (Bx bs) st (List.replicate bs.length none)) ((BH bs).take t)
def Us (ps:List Prt) (bs:List Bk) (st:List (Int × Nat)) (ins:List Int) (t:Nat):Int × Nat:=tkV ps bs ins (Ln ps bs st ins t) ((BH bs)[t]?.getD 0)
def DD (ps:List Prt) (bs:List Bk) (st:List (Int × Nat)) (ins:List Int):Bool:=st.any CI || (List.range (BH bs).length).any fun t=>CI (Us ps bs st ins t)
def Qn (ps:List Prt) (bs:List Bk) (st:List (Int × Nat)) (ins:List Int):List (Int × Nat):=gV (Ln ps bs st ins (BH bs).length)
def AlB (bs:List Bk) (i:Nat):Nat:=(((bs[i]?.map Bk.args).getD [])[0]?.getD 0).toNat
def Fk (ps:List Prt) (bs:List Bk) (st:List (Int × Nat)) (ins:List Int):List (Int × Nat):=(Bx bs).map fun i=>((Qn ps bs st ins)[AlB bs i]?).getD (0,0)
theorem HW (ps:List Prt) (bs:List Bk) (st:List (Int × Nat)) (ins:List Int) (t:Nat):(Ln ps bs st ins t).length=bs.length:=by unfold Ln;rw [XW,Mq,fa]
theorem Mr {st:List (Int × Nat)} {ins:List Int} {t:Nat} (h:(BH bs)[t]?=some j):Ln ps bs st ins (t+1)=(Ln ps bs st ins t).set j (some (Us ps bs st ins t)):=by
 unfold Us
 rw [h]
 exact AcU ps bs ins _ h
theorem XY (ps:List Prt) (bs:List Bk) (st:List (Int × Nat)) (ins:List Int):Ln ps bs st ins 0=Wi (Bx bs) st (List.replicate bs.length none):=rfl
structure Has (vs:List (Option (Int × Nat))) (D:Nat→Prop):Prop where
 at_:∀ i,D i→∃ p,vs[i]?=some (some p)∧Sm p LB LB
theorem Has.set {vs:List (Option (Int × Nat))} {D D':Nat→Prop} (h:Has vs D) {j:Nat} {p:Int × Nat} (hj:j<vs.length) (hp:Sm p LB LB) (hD:∀ i,D' i→D i∨i=j):Has (vs.set j (some p)) D':=⟨fun i hi=>by
 rw [bt]
 by_cases hij:j=i
 ·rw [if_pos hij,if_pos hj]
  exact ⟨p,rfl,hp⟩
 ·rw [if_neg hij]
  rcases hD i hi with h1|h1
  ·exact h.at_ i h1
  ·exact absurd h1.symm hij⟩
theorem Sm.zero (n d:Nat):Sm (0,0) n d:=⟨⟨by decide,fun h=>absurd rfl h⟩,bj n,ad d⟩
theorem CL {l:List (Int × Nat)} {d:Nat} (h:∀ p∈l,Sm p n d) (k:Nat):Sm (l[k]?.getD (0,0)) n d:=by
 cases hk:l[k]? with
 | none=>exact Sm.zero n d
 | some p=>exact h p (gM hk)
theorem Ape {l:List (Int × Nat)} (hl:∀ p∈l,Sm p LB LB) (hv:(y.kind=1∨y.kind=6∨y.kind=11)→Df y.vn y.ve) (hu:y.kind=11→Df y.un y.ue) (hk:y.kind=1∨y.kind=3∨y.kind=4∨y.kind=5∨y.kind=6∨y.kind=7∨y.kind=8∨y.kind=9∨y.kind=10∨y.kind=11):Sm (FL y l) LC LC:=by
 have a:=CL hl 0
 have b:=CL hl 1
 have sc:∀ {n e:Int},Df n e→Sm (Ac n 0 e) LB LB:=fun h=>by
  obtain ⟨h1,h2,h3,h4⟩:=h
  exact (Sm.shift (n:=32) (by omega) (by omega) (by omega)).more (by decide) (by decide)
 have up:∀ {r:Int × Nat},Sm r LB LB→Sm r LC LC:=fun h=>h.more (by decide) (by decide)
 unfold FL
 generalize l[0]?.getD (0,0)=p at a ⊢
 generalize l[1]?.getD (0,0)=q at b ⊢
 rcases hk with h|h|h|h|h|h|h|h|h|h <;> simp only [h,Int.reduceEq,if_true,if_false,reduceIte]
 ·exact up (sc (hv (.inl h)))
 ·exact (Sm.sum a b (by decide:LB≤65536)).more (by decide:LB+LB+1≤LC) Arj
 ·exact (Sm.sum a b.neg (by decide:LB≤65536)).more (by decide:LB+LB+1≤LC) Arj
 ·exact up a.neg
 ·exact (Sm.mul (sc (hv (.inr (.inl h)))) a (by decide:LB≤30000)).more (by decide:LB+LB≤LC) (by decide:LB+LB≤LC)
 ·exact (Sm.mul a b (by decide:LB≤30000)).more (by decide:LB+LB≤LC) (by decide:LB+LB≤LC)
 ·exact up (Sm.min a b)
 ·exact up (Sm.max a b)
 ·exact up a.abs
 ·exact up (Sm.min (Sm.max a (sc (hv (.inr (.inr h))))) (sc (hu h)))
theorem Ms (h:Bl ps bs os=0) {i:Nat} {y:Bk} (hy:bs[i]?=some y) (hk:y.kind=11):Df y.vn y.ve∧Df y.un y.ue∧Cm (Ac y.vn 0 y.ve).1 (Ac y.vn 0 y.ve).2 (Ac y.un 0 y.ue).1 (Ac y.un 0 y.ue).2≤0:=by
 have h1:=Wg h hy
 have ha:=Cl h hy
 have hv:=Mn h hy (by unfold Pt;rw [hk];rfl)
 unfold BQ at h1
 rw [if_neg (by omega),if_neg (not_not_intro ha.2.1)] at h1
 by_cases h3:Ah (y.args.map (NC (Cn ps.length bs.length y.kind)))=0
 ·rw [if_neg (not_not_intro h3)] at h1
  by_cases h4:CG y.vn y.ve (Pt y.kind)=0
  ·rw [if_neg (not_not_intro h4)] at h1
   by_cases h5:CG y.un y.ue (Lk y.kind)=0
   ·rw [if_neg (not_not_intro h5)] at h1
    have hc:Lk y.kind=true:=by unfold Lk;rw [hk];rfl
    rw [hc] at h5
    have hu:=Pu h5
    refine ⟨hv,hu,?_⟩
    rw [Py (Hx hv.2.2.1 hv.2.2.2) (Hx hu.2.2.1 hu.2.2.2)]
    by_cases h6:0<NR y.vn y.ve y.un y.ue
    ·rw [if_pos ⟨hc,h6⟩] at h1;cases h1
    ·exact Int.not_lt.1 h6
   ·rw [if_pos h5] at h1;exact absurd h1 h5
  ·rw [if_pos h4] at h1;exact absurd h1 h4
 ·rw [if_pos h3] at h1;cases h1
theorem Ow (h:Bl ps bs os=0) {i:Nat} {y:Bk} (hy:bs[i]?=some y):y.kind=0∨y.kind=1∨y.kind=2∨y.kind=3∨y.kind=4∨y.kind=5∨y.kind=6∨y.kind=7∨y.kind=8∨y.kind=9∨y.kind=10∨y.kind=11:=by
 have:=(Cl h hy).1
 unfold AO at this
 (repeat' split at this) <;> omega
theorem Ni (h:bs[i]?=some y):AG bs i=y.kind:=by unfold AG;rw [h];rfl
theorem XZ (h:bs[i]?=some y) (h0:y.kind≠0):GD bs i=y.args:=by
 unfold GD QY
 rw [Ni h,if_neg h0,h]
 rfl
def AmX (ps:List Prt) (ins:List Int) (i:Nat):Bool:=match ps[i]?,ins[i]? with
 | some p,some z=>decide (p.lo≤z∧z≤p.hi)
 | _,_=>true
def Ut (ps:List Prt) (ins:List Int):Bool:=(List.range ins.length).all (AmX ps ins)
theorem Air {ins:List Int} (h:Ut ps ins=true) {i:Nat} {p:Prt} {z:Int} (hp:ps[i]?=some p) (hz:ins[i]?=some z):p.lo≤z∧z≤p.hi:=by
 have:=List.all_eq_true.1 h i (List.mem_range.2 (gS.1 hz).1)
 unfold AmX at this
 rw [hp,hz] at this
 exact of_decide_eq_true this
def Afs (bs:List Bk) (t:Nat) (i:Nat):Prop:=(i<bs.length∧AG bs i=2)∨i∈(BH bs).take t
structure Tick (ps:List Prt) (bs:List Bk) (ins:List Int) (vs:List (Option (Int × Nat))) (y:Bk):Prop where
 hk:y.kind=0∨y.kind=1∨y.kind=3∨y.kind=4∨y.kind=5∨y.kind=6∨y.kind=7∨y.kind=8∨y.kind=9∨y.kind=10∨y.kind=11
 args:y.kind≠0→∀ (k:Nat) (a:Int),y.args[k]?=some a→∃ p,0≤a∧a.toNat<bs.length∧vs[a.toNat]?=some (some p)∧(Mp vs y)[k]?=some p
 len:y.args.length≤2
 hl:∀ k:Nat,(k=0∧y.kind≠0∧y.kind≠1∨k=1∧(y.kind=3∨y.kind=4∨y.kind=7∨y.kind=8∨y.kind=9))→∃ p i,(Mp vs y)[k]?=some p∧y.args[k]?=some ((i:Nat):Int)∧(gV vs)[i]?=some p
 hs:∀ p∈Mp vs y,Sm p LB LB
 hin:y.kind=0→∃ (i:Nat) (z:Int) (pp:Prt),y.args[0]?=some (i:Int)∧ins[i]?=some z∧ps[i]?=some pp ∧ -9223372036854775808≤z∧z<9223372036854775808 ∧ -100≤pp.fr∧pp.fr≤100
 hsv:(y.kind=1∨y.kind=6∨y.kind=11)→Df y.vn y.ve
 hsu:y.kind=11→Df y.un y.ue
 hcl:y.kind=11→Cm (Ac y.vn 0 y.ve).1 (Ac y.vn 0 y.ve).2 (Ac y.un 0 y.ue).1 (Ac y.un 0 y.ue).2≤0
 sm:Sm (Dc y (Mp vs y) ps ins) LC LC
theorem AgI (he:Bl ps bs os=0) {ins:List Int} (hi:Ut ps ins=true) (hil:ins.length=ps.length) {vs:List (Option (Int × Nat))} {j:Nat} {y:Bk} (hy:bs[j]?=some y) (hk2:y.kind≠2) (hv:y.kind≠0→∀ a∈y.args,0≤a→a<(bs.length:Int)→∃ p,vs[a.toNat]?=some (some p)∧Sm p LB LB):Tick ps bs ins vs y:=by
 have hK:=Ow he hy
 have hA:=Cl he hy
 have hlen:y.args.length≤2:=by
  have h1:=hA.1
  have h2:=hA.2.1
  unfold AO at h1 h2
  (repeat' split at h2) <;> omega
 have args:y.kind≠0→∀ (k:Nat) (a:Int),y.args[k]?=some a→∃ p,0≤a∧a.toNat<bs.length∧vs[a.toNat]?=some (some p)∧(Mp vs y)[k]?=some p∧Sm p LB LB:=fun h0 k a ha=>by
  have hm:=gM ha
  have hb:=hA.2.2 a hm
  rw [show Cn ps.length bs.length y.kind=bs.length from if_neg h0] at hb
  obtain ⟨p,hp,hsm⟩:=hv h0 a hm hb.1 hb.2
  exact ⟨p,hb.1,by omega,hp,by unfold Mp;rw [if_neg h0,ag,ha,bu,hp];rfl,hsm⟩
 have hs:y.kind≠0→∀ p∈Mp vs y,Sm p LB LB:=fun h0 p hp=>by
  obtain ⟨k,hk⟩:=List.mem_iff_getElem?.1 hp
  have hk':=hk
  unfold Mp at hk'
  rw [if_neg h0,ag,dq] at hk'
  obtain ⟨a,ha,_⟩:=hk'
  obtain ⟨q,_,_,_,h4,h5⟩:=args h0 k a ha
  rw [hk] at h4
  cases h4
  exact h5
 have hin:y.kind=0→∃ (i:Nat) (z:Int) (pp:Prt),y.args[0]?=some (i:Int)∧ins[i]?=some z∧ps[i]?=some pp ∧ -9223372036854775808≤z∧z<9223372036854775808 ∧ -100≤pp.fr∧pp.fr≤100:=fun h0=>by
  have h1:=hA.2.1
  rw [h0] at h1
  have hl1:y.args.length=1:=by unfold AO at h1;(repeat' split at h1) <;> omega
  obtain ⟨a,ha⟩:∃ a,y.args[0]?=some a:=⟨_,gE (by omega)⟩
  have hb:=hA.2.2 a (gM ha)
  rw [show Cn ps.length bs.length y.kind=ps.length from if_pos h0] at hb
  obtain ⟨z,hz⟩:∃ z,ins[a.toNat]?=some z:=⟨_,gE (by omega)⟩
  obtain ⟨p,hp⟩:∃ p,ps[a.toNat]?=some p:=⟨_,gE (by omega)⟩
  have hr:=Air hi hp hz
  have hpp:=Mo he hp
  have h3 : -2147483648≤p.lo∧p.lo≤p.hi∧p.hi<2147483648∧0≤p.fr∧p.fr≤30:=cw fun hn=>by unfold DW at hpp;rw [if_neg hn] at hpp;cases hpp
  exact ⟨a.toNat,z,p,by rw [ha];congr 1;omega,hz,hp,by omega,by omega,by omega,by omega⟩
 have hsv:(y.kind=1∨y.kind=6∨y.kind=11)→Df y.vn y.ve:=fun h=>Mn he hy (by unfold Pt;rcases h with h|h|h <;> rw [h] <;> rfl)
 have hsu:y.kind=11→Df y.un y.ue:=fun h=>(Ms he hy h).2.1
 have h0s:y.kind=0→∀ p∈([]:List (Int × Nat)),Sm p LB LB:=fun _ p hp=>by cases hp
 have hk3:y.kind=0∨y.kind=1∨y.kind=3∨y.kind=4∨y.kind=5∨y.kind=6∨y.kind=7∨y.kind=8∨y.kind=9∨y.kind=10∨y.kind=11:=by clear hin args hs;omega
 refine ⟨hk3,fun h0 k a ha=>?_,hlen,fun k hk=>?_,?_,hin,hsv,hsu,fun h=>(Ms he hy h).2.2,?_⟩
 ·obtain ⟨p,h1,h2,h3,h4,_⟩:=args h0 k a ha
  exact ⟨p,h1,h2,h3,h4⟩
 ·have h0:y.kind≠0:=by omega
  have hkl:k<y.args.length:=by
   have h1:=hA.2.1
   unfold AO at h1
   (repeat' split at h1) <;> omega
  obtain ⟨a,ha⟩:∃ a,y.args[k]?=some a:=⟨_,gE hkl⟩
  obtain ⟨p,h1,h2,h3,h4,_⟩:=args h0 k a ha
  exact ⟨p,a.toNat,h4,by rw [ha];congr 1;omega,ZG h3⟩
 ·by_cases h0:y.kind=0
  ·unfold Mp;rw [if_pos h0];exact h0s h0
  ·exact hs h0
 ·unfold Dc
  by_cases h0:y.kind=0
  ·rw [if_pos h0]
   obtain ⟨i,z,pp,q1,q2,q3,q4,q5,q6,q7⟩:=hin h0
   rw [q1]
   simp only [ci,am,q2,q3,bu]
   exact (Sm.shift (n:=64) (by omega) (by omega) (by omega)).more (by decide) (by decide)
  ·rw [if_neg h0]
   exact Ape (hs h0) hsv hsu (by clear hin args hs;omega)
theorem Wj (he:Bl ps bs os=0) {ins:List Int} (hi:Ut ps ins=true) (hil:ins.length=ps.length) {vs:List (Option (Int × Nat))} {t j:Nat} (hj:(BH bs)[t]?=some j) (hv:Has vs (Afs bs t)):∃ y,bs[j]?=some y∧y.kind≠2∧Tick ps bs ins vs y:=by
 obtain ⟨hjl,hk2⟩:=Rh hj
 obtain ⟨y,hy⟩:∃ y,bs[j]?=some y:=⟨_,gE hjl⟩
 rw [Ni hy] at hk2
 refine ⟨y,hy,hk2,AgI he hi hil hy hk2 fun h0 a ha a0 a1=>?_⟩
 have hsplit:BH bs=(BH bs).take t++j::(BH bs).drop (t+1):=by
  obtain ⟨hlt,he⟩:=gS.1 hj
  rw [←he,←du hlt,gj]
 have hd:=Om hsplit (a:=a) (by rw [XZ hy h0];exact ha)
 exact hv.at_ a.toNat (hd.imp (fun h=>⟨by omega,h⟩) id)
theorem Apf {p:Prop} (h:p:=by first|exact AcD rfl rfl rfl hm|exact GI rfl rfl rfl):p:=h
theorem Uu (p:Int × Nat) (hn:Nf p.1 p.2) (lp:(Ad p.1.natAbs).length≤40000) (h:CI p=false):CV prog An 132 [aDy false p.1 p.2] [aDy false p.1 p.2]:=by
 refine cvz func132 ntmps132 ?_
 have BT:=Sw p.1 p.2 hn lp
 have hm:max ((CS p.1.natAbs:Nat):Int) (p.2:Int)=((max (CS p.1.natAbs) p.2:Nat):Int):=by omega
 have hl:¬ 4096<max (CS p.1.natAbs) p.2:=of_decide_eq_false h
 repeat' (with_reducible first|refine qq ?_|(refine Tx 0 ?_;refine gN xBo <| gN (xAl Av) ?_)|(refine BX (id:=1) AX (by kernel_rfl) ?_;refine gP xL <| gP (xCl func212 (BT)) <| gP xF <| gP xD <| gP Apf <| gP xGt ?_;refine Ke ?_)|(refine Tx 3 ?_;refine gO xL <| gZ (xSk Ae) ?_))
 exact Me
theorem Ri (p:Int × Nat) (hn:Nf p.1 p.2) (lp:(Ad p.1.natAbs).length≤40000) (h:CI p=true):CVP prog An 132 [aDy false p.1 p.2] tlC:=by
 refine AoV Uf func132 rfl ntmps132 (bf rfl) ?_
 have BT:=Sw p.1 p.2 hn lp
 have hm:max ((CS p.1.natAbs:Nat):Int) (p.2:Int)=((max (CS p.1.natAbs) p.2:Nat):Int):=by omega
 have hl:4096<max (CS p.1.natAbs) p.2:=of_decide_eq_true h
 repeat' (with_reducible first|(refine AcG (id:=2) (chain:=tlC) 2 (by kernel_rfl) (by with_unfolding_all exact rfl) (by with_unfolding_all exact rfl) ?_;dsimp only [List.take];refine gO (by exact AC rfl ZF rfl rfl) <| gO (by exact Wb rfl rfl underlying176 rfl) ?_;refine Je ?_;exact ⟨by with_unfolding_all exact Agw rfl rfl,by with_unfolding_all exact rfl⟩)|refine qq ?_|(refine Tx 0 ?_;refine gN xBo <| gN (xAl Av) ?_)|(refine BX (id:=1) AX (by kernel_rfl) ?_;refine gP xL <| gP (xCl func212 (BT)) <| gP xF <| gP xD <| gP Apf <| gP xGt ?_;refine Ke ?_))
abbrev Pq:=Int × Nat
abbrev Ee (p q:Pq):Pq:=Cb p.1 p.2 q.1 q.2
abbrev Vk (p:Pq):Pq:=(-p.1,p.2)
abbrev IG (p:Pq):Pq:=(((p.1.natAbs:Nat):Int),p.2)
abbrev Cz (p q:Pq):Pq:=Nd p.1 p.2 q.1 q.2
abbrev NH (p q:Pq):Pq:=Dt p.1 p.2 q.1 q.2
abbrev Ga (p q:Pq):Pq:=Dx p.1 p.2 q.1 q.2
abbrev ZI (p q:Pq):Int:=Cm p.1 p.2 q.1 q.2
abbrev Gy (p:Pq) (n:Int):Pq:=Ac p.1 p.2 n
abbrev Iq:=Pq × Pq
def dIw (t:Bool) (a:Iq):List D:=dDy t a.1.1 a.1.2++dDy t a.2.1 a.2.2
def aIw (t:Bool) (a:Iq):A:=.agg (dIw t a)
structure IwS (a:Iq) (n d:Nat):Prop where
 s1:Sm a.1 n d
 s2:Sm a.2 n d
 le:gv a.1≤gv a.2
theorem IwS.more {a:Iq} {d n' d':Nat} (h:IwS a n d) (h1:n≤n') (h2:d≤d'):IwS a n' d':=⟨h.s1.more h1 h2,h.s2.more h1 h2,h.le⟩
def GY (a:Iq) (x:Pq):Iq:=(NH a.1 x,Ga a.2 x)
def Dd:List Pq→Iq
 | []=>((0,0),(0,0))
 | p::l=>l.foldl GY (p,p)
def Aft (a:Iq):Iq:=(Vk a.2,Vk a.1)
def AgJ (a b:Iq):Iq:=(Ee a.1 b.1,Ee a.2 b.2)
def AmY (a b:Iq):Iq:=AgJ a (Aft b)
def Wl (a b:Iq):Iq:=Dd [Cz a.1 b.1,Cz a.1 b.2,Cz a.2 b.1,Cz a.2 b.2]
def PK (a:Iq) (f:Pq):Iq:=Wl a (f,f)
def AgK (a b:Iq):Iq:=(NH a.1 b.1,NH a.2 b.2)
def Afu (a b:Iq):Iq:=(Ga a.1 b.1,Ga a.2 b.2)
def Uv (a b:Iq):Iq:=Dd [a.1,a.2,b.1,b.2]
def Rj (a:Iq):Iq:=if a.1.1<0∧0<a.2.1 then ((0,0),(Dd [IG a.1,IG a.2]).2) else Dd [IG a.1,IG a.2]
def ZJ (a:Iq) (v u:Pq):Iq:=AgK (Afu a (v,v)) (u,u)
def iIn (a b:Iq):Bool:=decide (ZI b.1 a.1≤0) && decide (ZI a.2 b.2≤0)
def Gb (a:Iq):Pq:=(Rj a).2
theorem Sm.le {p:Pq} {d:Nat} (h:Sm p n d):p.2≤GQ:=h.ok.le
section
variable {a b:Iq} {n d:Nat}
theorem Mt {p q:Pq} (hp:Sm p n d) (hq:Sm q n d):gv (Dd [p,q]).1=min (gv p) (gv q)∧gv (Dd [p,q]).2=max (gv p) (gv q)∧IwS (Dd [p,q]) n d:=by
 have e1:gv (NH p q)=min (gv p) (gv q):=FD hp.le hq.le
 have e2:gv (Ga p q)=max (gv p) (gv q):=DP hp.le hq.le
 refine ⟨e1,e2,Sm.min hp hq,Sm.max hp hq,?_⟩
 show gv (NH p q)≤gv (Ga p q)
 omega
theorem EL {p q r s:Pq} (hp:Sm p n d) (hq:Sm q n d) (hr:Sm r n d) (hs:Sm s n d):gv (Dd [p,q,r,s]).1=min (min (min (gv p) (gv q)) (gv r)) (gv s)∧gv (Dd [p,q,r,s]).2=max (max (max (gv p) (gv q)) (gv r)) (gv s)∧IwS (Dd [p,q,r,s]) n d:=by
 have m1:Sm (NH p q) n d:=Sm.min hp hq
 have m2:Sm (NH (NH p q) r) n d:=Sm.min m1 hr
 have x1:Sm (Ga p q) n d:=Sm.max hp hq
 have x2:Sm (Ga (Ga p q) r) n d:=Sm.max x1 hr
 have e1:gv (NH (NH (NH p q) r) s)=min (min (min (gv p) (gv q)) (gv r)) (gv s):=by rw [FD m2.le hs.le,FD m1.le hr.le,FD hp.le hq.le]
 have e2:gv (Ga (Ga (Ga p q) r) s)=max (max (max (gv p) (gv q)) (gv r)) (gv s):=by rw [DP x2.le hs.le,DP x1.le hr.le,DP hp.le hq.le]
 refine ⟨e1,e2,Sm.min m2 hs,Sm.max x2 hs,?_⟩
 show gv (NH (NH (NH p q) r) s)≤gv (Ga (Ga (Ga p q) r) s)
 omega
theorem IwS.neg (h:IwS a n d):IwS (Aft a) n d:=⟨h.s2.neg,h.s1.neg,by show gv (Vk a.2)≤gv (Vk a.1);rw [Mf,Mf];have:=h.le;omega⟩
theorem IwS.add (h:IwS a n d) (k:IwS b n d) (hd:d≤65536):IwS (AgJ a b) (n+d+1) d:=⟨Sm.sum h.s1 k.s1 hd,Sm.sum h.s2 k.s2 hd,by
 show gv (Ee a.1 b.1)≤gv (Ee a.2 b.2)
 rw [DN h.s1.le k.s1.le,DN h.s2.le k.s2.le]
 have:=h.le;have:=k.le;omega⟩
theorem IwS.sub (h:IwS a n d) (k:IwS b n d) (hd:d≤65536):IwS (AmY a b) (n+d+1) d:=h.add k.neg hd
theorem IwS.min (h:IwS a n d) (k:IwS b n d):IwS (AgK a b) n d:=⟨Sm.min h.s1 k.s1,Sm.min h.s2 k.s2,by
 show gv (NH a.1 b.1)≤gv (NH a.2 b.2)
 rw [FD h.s1.le k.s1.le,FD h.s2.le k.s2.le]
 have:=h.le;have:=k.le;omega⟩
theorem IwS.max (h:IwS a n d) (k:IwS b n d):IwS (Afu a b) n d:=⟨Sm.max h.s1 k.s1,Sm.max h.s2 k.s2,by
 show gv (Ga a.1 b.1)≤gv (Ga a.2 b.2)
 rw [DP h.s1.le k.s1.le,DP h.s2.le k.s2.le]
 have:=h.le;have:=k.le;omega⟩
theorem IwS.pt {p:Pq} (h:Sm p n d):IwS (p,p) n d:=⟨h,h,fi _⟩
theorem IwS.mul (h:IwS a n d) (k:IwS b n d) (hd:d≤30000):IwS (Wl a b) (n+n) (d+d):=(EL (Sm.mul h.s1 k.s1 hd) (Sm.mul h.s1 k.s2 hd) (Sm.mul h.s2 k.s1 hd) (Sm.mul h.s2 k.s2 hd)).2.2
theorem IwS.hull (h:IwS a n d) (k:IwS b n d):IwS (Uv a b) n d:=(EL h.s1 h.s2 k.s1 k.s2).2.2
theorem IwS.clip {v u:Pq} (h:IwS a n d) (hv:Sm v n d) (hu:Sm u n d):IwS (ZJ a v u) n d:=(h.max (.pt hv)).min (.pt hu)
theorem Ais {p:Pq}:p.1<0 ↔ gv p<0:=by
 unfold gv
 exact ⟨fun h=>mi h (Cf _),fun h=>Int.not_le.1 fun hc=>by have:=jd hc (bl (Cf (GQ - p.2)));omega⟩
theorem Ait {p:Pq}:0<p.1 ↔ 0<gv p:=by
 unfold gv
 exact ⟨fun h=>Int.mul_pos h (Cf _),fun h=>Int.not_le.1 fun hc=>by have:=Int.mul_nonpos_of_nonpos_of_nonneg hc (bl (Cf (GQ - p.2)));omega⟩
theorem IwS.abs (h:IwS a n d):IwS (Rj a) n d:=by
 obtain ⟨h1,h2,h3⟩:=Mt h.s1.abs h.s2.abs
 unfold Rj
 split
 ·refine ⟨Sm.zero n d,h3.s2,?_⟩
  show gv (0,0)≤gv (Dd [IG a.1,IG a.2]).2
  rw [Wc,h2,ND,ND]
  omega
 ·exact h3
theorem Nj (h:IwS a n d):gv (Rj a).1=(if gv a.1<0∧0<gv a.2 then 0 else min ((gv a.1).natAbs:Int) (gv a.2).natAbs)∧gv (Rj a).2=max ((gv a.1).natAbs:Int) (gv a.2).natAbs:=by
 obtain ⟨h1,h2,h3⟩:=Mt h.s1.abs h.s2.abs
 rw [ND,ND] at h1 h2
 unfold Rj
 by_cases hc:a.1.1<0∧0<a.2.1
 ·rw [if_pos hc,if_pos ⟨Ais.1 hc.1,Ait.1 hc.2⟩]
  exact ⟨Wc,h2⟩
 ·rw [if_neg hc,if_neg (fun h=>hc ⟨Ais.2 h.1,Ait.2 h.2⟩)]
  exact ⟨h1,h2⟩
theorem Apg (h:IwS a n d) (k:IwS b n d):iIn a b=decide (gv b.1≤gv a.1∧gv a.2≤gv b.2):=by
 unfold iIn
 rw [Bool.eq_iff_iff,ah,decide_eq_true_eq,decide_eq_true_eq,decide_eq_true_eq,NF k.s1.le h.s1.le,NF h.s2.le k.s2.le]
end
theorem AcV (a:Iq):∀ u∈dIw false a,Dg u:=fun u hu=>by
 rcases List.mem_append.1 hu with h|h <;> exact PI _ _ u h
theorem rvJ {P:Program} {F:Frm} {t:Tmp} {ty' k:Nat} {a:Iq} (hk:TyK P ty true k) (hi:6=k) (hF:F t=.one (.ref id 0 none):=by with_unfolding_all exact rfl) (hH:H[id]?=some (.box ty' ((dIw false a).map C.d)):=by with_unfolding_all exact rfl):RV P F H (.cell t ty) (aIw false a):=by
 obtain ⟨⟨dd,hu,hd⟩,hz⟩:=hk
 refine .cellA hF hH hu hd (by rw [hz,←hi];rfl) (AV.map_l.2 ⟨rfl,fun j x y hx hy=>?_⟩)
 rw [hx] at hy
 cases hy
 exact .d fun _=>AcV a x (gM hx)
theorem AlC:dIw false ((0,0),(0,0))=[.val (.bool false),.row false 1 0 [],.val (.int .i64 0),.val (.bool false),.row false 1 0 [],.val (.int .i64 0)]:=by
 have e:dDy false 0 0=[.val (.bool false),.row false 1 0 [],.val (.int .i64 0)]:=A.agg.inj PC
 show dDy false 0 0++dDy false 0 0=_
 rw [e]
 rfl
end Go.Proofs.YtmdfjbpggbhgnaaGreatDoor
