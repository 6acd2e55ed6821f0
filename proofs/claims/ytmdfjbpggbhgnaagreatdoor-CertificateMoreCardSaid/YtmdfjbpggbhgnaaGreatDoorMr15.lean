/- What the proofs of this claim share, part 15. No conditions. -/
import Derived.Test.YtmdfjbpggbhgnaaGreatDoorMr10
import Derived.Test.YtmdfjbpggbhgnaaGreatDoorMr9
import Derived.Test.YtmdfjbpggbhgnaaGreatDoorMr11
import Derived.Test.YtmdfjbpggbhgnaaGreatDoorMr14
import Derived.Test.YtmdfjbpggbhgnaaGreatDoorMr12
import Derived.Test.YtmdfjbpggbhgnaaGreatDoorMr8
import Derived.Test.YtmdfjbpggbhgnaaGreatDoorMr5
import Derived.Test.YtmdfjbpggbhgnaaGreatDoorMr6
import Derived.Tactics2
set_option maxRecDepth 100000
set_option maxHeartbeats 4000000
set_option linter.all false
open Go.Proofs.Tryz
namespace Go.Proofs.YtmdfjbpggbhgnaaGreatDoor
open Go.RowKit
variable {q:Int × Nat} {P:Program} {F:Frm} {H:List Ob} {den i id n ty ty':Nat} {p p':Prop} {e:Int} {y:Bk} {l:List (Option (Int × Nat))} {t:TypeId} {ps:List Prt} {bs:List Bk} {os zs:List Int} {g:FuncId} {fn:Func} {c:Code}
theorem Aiw {p:Int × Nat} {X:Int} {Q:Nat} (h1:Nf p.1 p.2) (h2:Nf q.1 q.2) (e1:p.1*2 ^ Q=X*2 ^ p.2) (e2:q.1*2 ^ Q=X*2 ^ q.2):p=q:=by
 have key:∀ p q:Int × Nat,Nf q.1 q.2→p.1*2 ^ Q=X*2 ^ p.2→q.1*2 ^ Q=X*2 ^ q.2→p.2≤q.2→q.1=p.1*2 ^ (q.2 - p.2):=fun p q _ e1 e2 hle=>by
  have pw:(2:Int) ^ Q≠0:=jb (gq (by decide))
  refine jv pw ?_
  rw [e2,jc,e1,ar,←av]
  congr 2;omega
 have fin:∀ p q:Int × Nat,Nf q.1 q.2→p.1*2 ^ Q=X*2 ^ p.2→q.1*2 ^ Q=X*2 ^ q.2→p.2≤q.2→p=q:=fun p q hq e1 e2 hle=>by
  have h:=key p q hq e1 e2 hle
  by_cases hd:p.2=q.2
  ·rw [hd,ei] at h
   refine Prod.ext ?_ hd
   rw [h];show p.1=p.1*1;omega
  ·exfalso
   have ho:=hq.2 (by omega)
   obtain ⟨k,hk⟩:∃ k,q.2 - p.2=k+1:=⟨q.2 - p.2 - 1,by omega⟩
   rw [hk,il,←ar] at h
   omega
 rcases Nat.le_total p.2 q.2 with h|h
 ·exact fin p q h2 e1 e2 h
 ·exact (fin q p h1 e2 e1 h).symm
theorem Aix (p:Int × Nat) {Q:Nat} (h:p.2≤Q):p.1*2 ^ Q=p.1*2 ^ (Q - p.2)*2 ^ p.2:=by
 rw [ar,←av]
 congr 2;omega
theorem Gy:aDy false 0 0=.agg [.val (.bool false),.row false 1 0 [],.val (.int .i64 0)]:=by
 unfold aDy dDy wds
 rw [show (0:Int).natAbs=0 from rfl,AF]
 rfl
theorem AoX {t:Tmp} {k:Nat} (hk:TyK P ty true k) (hi:3=k) (hF:F t=.one (.ref id 0 none):=by with_unfolding_all exact rfl) (hH:H[id]?=some (.box ty' [.d (.val (.bool false)),.d (.val (.slice none 0 0)),.d (.val (.int .i64 0))]):=by with_unfolding_all exact rfl):RV P F H (.cell t ty) (.agg [.val (.bool false),.row false 1 0 [],.val (.int .i64 0)]):=by
 obtain ⟨⟨dd,hu,hd⟩,hz⟩:=hk
 exact .cellA hF hH hu hd (by rw [hz,←hi];rfl) (.cons_ (.d fun _=>.val _) (.cons_ .nil (.cons_ (.d fun _=>.val _) .nil_)))
theorem Aal (k:p') (h:Hd9 p'→p:=by with_reducible first|(intro Z9;refine qq ?_;exact Z9.o)|(intro Z9;refine Tx 0 ?_;refine gN xBo <| gN (xAl Aj) <| gO xA ?_;exact Z9.o)|(intro Z9;refine Tx 1 ?_;refine gO xF <| gO xD <| gO xLe <| gO xM ?_;(first|iterate 3 refine Jd ?_|(refine Jy (xFa DU AE) ?_;refine Jy (xLd AE) ?_;refine Jy xGe ?_));refine gO xPk <| gO xM ?_;(first|iterate 3 refine Jd ?_|(refine Jy (xFa Es AE) ?_;refine Jy (xLd AE) ?_;refine Jy xLt ?_));refine gO xPk <| gO xM ?_;(first|iterate 3 refine Jd ?_|(refine Jy (xFa Es AE) ?_;refine Jy (xLd AE) ?_;refine Jy xGt ?_));refine gO xPk ?_;exact Z9.o)|fail):p:=h ⟨k⟩
theorem AdD (k:p') (h:Hd9 p'→p:=by with_reducible first|(intro Z9;refine Tx 2 ?_;refine gO (by exact AO rfl Fl rfl rfl) <| gO (xMi underlying109) <| gZ (xSk Aa) <| gO xA ?_;exact Z9.o)|fail):p:=h ⟨k⟩
theorem VY (h:p:=by
 exact Ax rfl (.cons_ (AoX Aa rfl) (.cons_ (.tmp (.one (AX rfl fun _=>.val _))) .nil_))):p:=h
theorem QT (n e:Int):CV prog Ah 20 [.agg [dI n,dI e]] [aDy false (if DE n e then Ae n 0 e else (0,0)).1 (if DE n e then Ae n 0 e else (0,0)).2,aE (if DE n e then 0 else 3)]:=by
 refine cvz func20 ntmps20 ?_
 by_cases hs:DE n e
 case pos =>
  rw [if_pos hs,if_pos hs]
  obtain ⟨s1,s2,s3,s4⟩:=hs
  have OF:=Ff n (by omega) (by omega)
  have SH:=BH n 0 e ⟨by decide,fun h=>absurd rfl h⟩ (lT (AC (k:=2) (by omega)) (by decide)) (by omega)
  repeat' (with_reducible first|refine Aal ?_|(refine AG (id:=3) 6 AV (by kernel_rfl) ?_;dsimp only [List.take,List.drop];refine gP xF <| gP xD <| gP (xCl func68 (OF)) <| gP xF <| gP xD <| gP (xCl func21 (SH)) ?_;refine Ke ?_;refine gZ (xSk Aa) <| gO xA ?_))
  exact Ax rfl (.cons_ (rvW Aa rfl) (.cons_ (Gl rfl rfl) .nil_))
 rw [if_neg hs,if_neg hs,Gy]
 unfold DE at hs
 by_cases c:n ≤ -2147483648
 case pos =>
  repeat' (with_reducible first|refine Aal ?_|refine AdD ?_)
  exact VY
 have ca:=c
 clear c
 by_cases c:2147483648≤n
 case pos =>
  repeat' (with_reducible first|refine Aal ?_|refine AdD ?_)
  exact VY
 have cb:=c
 clear c
 by_cases c:e < -62
 case pos =>
  repeat' (with_reducible first|refine Aal ?_|refine AdD ?_)
  exact VY
 have cc:=c
 clear c
 have cd:30<e:=by omega
 repeat' (with_reducible first|refine Aal ?_|refine AdD ?_)
 exact VY
theorem XD (n e:Int) (hs:DE n e):CV prog Ah 130 [.agg [dI n,dI e]] [aDy false (Ae n 0 e).1 (Ae n 0 e).2]:=by
 refine cvz func130 ntmps130 ?_
 have VA:=QT n e
 rw [if_pos hs,if_pos hs] at VA
 repeat' (with_reducible first|refine qq ?_|(refine Tx 0 ?_;refine gN xBo <| gN (xAl Aj) ?_)|(refine Tx 1 ?_;refine gO xL <| gO (xCl func20 (VA)) <| gO xMt <| gO (by exact DB rfl rfl rfl) <| gO xEx <| gN (xAl Aj) <| gZ (xSk Aa) <| gO xA ?_)|(refine Tx 2 ?_;refine gO xL <| gZ (xSk Aa) ?_))
 exact Ax rfl (.cons_ (rvW Aa rfl) .nil_)
def Aod (bs:List Bk) (j:Nat):Bk:=bs[j]?.getD bk0
def scA (F:List Int) (j:Nat):Int:=F[j]?.getD 0
def VZ (ps:List Prt) (a:Int):Int:=(ps[a.toNat]?.getD ⟨0,0,0⟩).fr
def Cp (b:Bk):Int:=b.args[0]?.getD 0
def EN (b:Bk):Int:=b.args[1]?.getD 0
theorem Uw {l:List Int} {k:Nat} (h:∀ j x,j<k→l[j]?=some x→x=0) (hk:l[k]?=some e) (he:e≠0):Ap l=e:=by
 induction l generalizing k with
 | nil=>simp at hk
 | cons x l ih =>
  unfold Ap
  cases k with
  | zero =>
   have:x=e:=by simpa using hk
   rw [if_neg (by rw [this];exact he),this]
  | succ k =>
   have hx:x=0:=h 0 x (by omega) rfl
   rw [if_pos hx]
   exact ih (k:=k) (fun j y hj hy=>h (j+1) y (by omega) (by simpa using hy)) (by simpa using hk)
section
variable {ps:List Prt} {bs:List Bk} {F:List Int}
theorem Ij {j:Nat} (h:bs[j]?=some y):Aod bs j=y:=by unfold Aod;rw [h];rfl
end
section
variable {ps:List Prt} {bs:List Bk} {os:List Int}
theorem Ux (h:Bc ps bs os=0) {i:Nat} {y:Bk} (hy:bs[i]?=some y):BR ps.length bs.length y=0 :=
 CU (Zv (Su h).2.1) _ (List.mem_map.2 ⟨y,gM hy,rfl⟩)
theorem GY (h:Bc ps bs os=0) {i:Nat} {y:Bk} (hy:bs[i]?=some y):0≤Bp y.kind∧((y.args.length:Nat):Int)=Bp y.kind∧∀ a∈y.args,0≤a∧a<(Ei ps.length bs.length y.kind:Int):=VP (Ux h hy)
theorem LQ (h:Bc ps bs os=0) {i:Nat} {y:Bk} (hy:bs[i]?=some y) (hv:OJ y.kind=true):DE y.vn y.ve:=by
 have h1:=Ux h hy
 have ha:=GY h hy
 unfold BR at h1
 rw [if_neg (by omega),if_neg (not_not_intro ha.2.1)] at h1
 by_cases h3:Ap (y.args.map (Mf (Ei ps.length bs.length y.kind)))=0
 ·rw [if_neg (not_not_intro h3)] at h1
  by_cases h4:Cm y.vn y.ve (OJ y.kind)=0
  ·rw [hv] at h4
   unfold Cm at h4
   rw [if_pos rfl] at h4
   by_cases h5:DE y.vn y.ve
   ·exact h5
   ·rw [if_neg h5] at h4;cases h4
  ·rw [if_pos h4] at h1
   exact absurd h1 h4
 ·rw [if_pos h3] at h1
  cases h1
theorem AdE (h:Bc ps bs os=0) {i:Nat} {p:Prt} (hp:ps[i]?=some p):EO p=0:=by
 have h1:=(Su h).2.1
 unfold EA at h1
 rw [Bj] at h1
 by_cases h2:Ap (ps.map EO)=0
 ·exact CU h2 _ (List.mem_map.2 ⟨p,gM hp,rfl⟩)
 ·rw [if_neg h2] at h1
  exact absurd h1 h2
theorem SI {u:Nat} (h:(Dd bs)[u]?=some i):i<bs.length∧CO bs i≠2:=(Nz bs.length (Gj.nil bs)).mem i (gM h)
theorem Aam:(Dd bs).length≤bs.length:=lT (Nz bs.length (Gj.nil bs)).le (Gv bs)
end
abbrev Dm (p:Int × Nat):Bool:=SF p.1.natAbs p.2
def cV:Option (Int × Nat)→List C
 | none=>[.d (.val (.bool false)),.d (.val (.slice none 0 0)),.d (.val (.int .i64 0))]
 | some p=>(dDy false p.1 p.2).map C.d
def cVs (l:List (Option (Int × Nat))):List C:=(l.map cV).flatten
def gV (l:List (Option (Int × Nat))):List (Int × Nat):=l.map (·.getD (0,0))
theorem NZ (o:Option (Int × Nat)):(cV o).length=3:=by cases o <;> rfl
theorem Aiy (l:List (Option (Int × Nat))):(cVs l).length=l.length*3:=by
 induction l with
 | nil=>rfl
 | cons o l ih =>
  have:(cVs (o::l)).length=(cV o).length+(cVs l).length:=by simp [cVs]
  rw [this,ih,NZ,bw];omega
theorem FU (o:Option (Int × Nat)) (l:List (Option (Int × Nat))):cVs (o::l)=cV o++cVs l:=by simp [cVs]
theorem Afq:∀ {l:List (Option (Int × Nat))} {i:Nat} {o:Option (Int × Nat)},l[i]?=some o→((cVs l).drop (i*3)).take 3=cV o
 | [],i,o,h=>by simp at h
 | q::l,0,o,h=>by
  simp only [gk,Option.some.injEq] at h
  subst h
  rw [FU,fc,im,jq (by rw [NZ];omega),al (by rw [NZ];omega)]
 | q::l,i+1,o,h=>by
  simp only [ew] at h
  rw [FU,show (i+1)*3=(cV q).length+i*3 by rw [NZ];omega,←jd,je]
  exact Afq h
theorem Aan:∀ {l:List (Option (Int × Nat))} {i:Nat} (p:Int × Nat),i<l.length→(cVs l).take (i*3)++(dDy false p.1 p.2).map C.d++(cVs l).drop (i*3+3)=cVs (l.set i (some p))
 | [],i,p,h=>by simp at h
 | q::l,0,p,h=>by
  rw [FU,fc,jr,dz,bo,bk,FU,show (3:Nat)=(cV q).length from (NZ q).symm,je]
  rfl
 | q::l,i+1,p,h=>by
  have ih:=Aan (l:=l) (i:=i) p (by simpa using h)
  rw [FU,bl,FU,←ih,show (i+1)*3+3=(cV q).length+(i*3+3) by rw [NZ];omega,←jd,je,show (i+1)*3=(cV q).length+i*3 by rw [NZ];omega,List.take_length_add_append]
  simp
theorem Aiz (n:Nat):Em (madeCells (Value.agg #[.bool false,.slice none 0 0,.int .i64 0]).cells (n*3)).toList=cVs (List.replicate n none):=by
 have h1:∀ a:Nat,(madeCells (Value.agg #[.bool false,.slice none 0 0,.int .i64 0]).cells a).toList=(List.range a).map (fun j=>#[Value.bool false,.slice none 0 0,.int .i64 0][j % 3]!):=fun a=>by
  unfold madeCells
  rw [kp,Array.toList_range]
  rfl
 rw [h1]
 induction n with
 | zero=>rfl
 | succ n ih =>
  rw [show (n+1)*3=n*3+1+1+1 by omega,de,de,de,List.replicate_succ']
  simp only [fv,Em] at ih ⊢
  rw [ih]
  simp only [cVs,fv,List.flatten_append,bp,List.map_nil,show n*3 % 3=0 by omega,show (n*3+1) % 3=1 by omega,show (n*3+1+1) % 3=2 by omega,List.append_assoc]
  rfl
theorem Aao:∀ c∈cVs l,C.bel n c:=fun c hc=>by
 obtain ⟨cs,hcs,hc⟩:=List.mem_flatten.1 hc
 obtain ⟨o,_,rfl⟩:=List.mem_map.1 hcs
 cases o with
 | none=>simp [cV] at hc;rcases hc with rfl|rfl|rfl <;> trivial
 | some p=>exact AdA c hc
theorem Lz (x:Int) (d:Nat):∀ u∈dDy false x d,DQ u:=fun u hu=>by
 simp only [dDy,dk,dm,or_false] at hu
 rcases hu with rfl|rfl|rfl
 ·exact .val _
 ·refine .row fun u hu=>?_
  obtain ⟨v,_,rfl⟩:=List.mem_map.1 hu
  exact .val _
 ·exact .val _
theorem Amc {t:Bool} (o:Option (Int × Nat)):AY (Fd t H) (cV o) (dyP (o.getD (0,0))):=by
 cases o with
 | none =>
  show AY (Fd t H) _ (dDy false 0 0)
  have e:dDy false 0 0=[.val (.bool false),.row false 1 0 [],.val (.int .i64 0)]:=A.agg.inj Gy
  rw [e]
  exact .cons_ (.d fun _=>.val _) (.cons_ .nil (.cons_ (.d fun _=>.val _) .nil_))
 | some p=>exact AY.map_l.2 ⟨rfl,fun j a b ha hb=>by
   have:(dDy false p.1 p.2)[j]?=some b:=hb
   rw [ha] at this
   cases this
   exact .d fun _=>Lz _ _ a (gM ha)⟩
theorem AiA {t:Bool} (l:List (Option (Int × Nat))):AY (Fd t H) (cVs l) (Av dyP (gV l)):=by
 induction l with
 | nil=>exact AY.nil_
 | cons o l ih =>
  rw [FU]
  exact (Amc o).app ih
theorem AiB {t:Bool} {c:C} {y:D} (hc:c=.own id n) (hH:H[id]?=some (.row ty 3 n (cVs l))) (hy:y=.row t 3 n (Av dyP (gV l))):Fd t H c y:=Cg hc hH hy (AiA l)
theorem AiC {t:Bool} {c:C} {y:D} {l:List (Int × Nat)} (hc:c=.own id n) (hH:H[id]?=some (.row ty 3 n ((Av dyP l).map C.d))) (hy:y=.row t 3 n (Av dyP l)):Fd t H c y :=
 Cg hc hH hy (AY.map_l.2 ⟨rfl,fun j a b ha hb=>by
  rw [ha] at hb
  cases hb
  exact .d fun _=>Cc (f:=dyP) (fun p=>Lz _ _) l a (gM ha)⟩)
section
variable {P:Program} {G:World→Prop} {o:Oper} {F:Frm} {H:List Ob}
theorem AdF {e:TypeId} {x y:Operand} {by_:Nat} {k k':IntKind} (ho:o.op=.makeSlice t x y) (hx:F.ev x=.one (.d (.val (.int k (n:Int))))) (hy:F.ev y=.one (.d (.val (.int k' (n:Int))))) (ht:TyS P t e 3) (hz:TyZ P e (.agg #[.bool false,.slice none 0 0,.int .i64 0]) 3 by_) (hn:n≤1000000) (hby:by_≤1000) :
  AN P G o F H (.one (.own H.length n)) [.row e 3 n (cVs (List.replicate n none))]:=by
 have:=Bs (P:=P) (G:=G) (H:=H) ho hx hy ht hz hn hby
 rwa [Aiz] at this
theorem Oa {ty:TypeId} {x:Operand} {p:Int × Nat} (ho:o.op=.load t x) (hx:F.ev x=.one (.ref id (i*3) (some n))) (hH:H[id]?=some (.row ty 3 n (cVs l))) (hp:l[i]?=some (some p)) (hk:TyK P t true 3):AN P G o F H (.agg ((dDy false p.1 p.2).map C.d)) [] :=
 Qo ho hx (.row hH) hk (Afq hp) rfl
theorem Wa {ty:TypeId} {x y:Operand} {l':List (Option (Int × Nat))} {p:Int × Nat} (ho:o.op=.store t x y) (hx:F.ev x=.one (.ref id (i*3) (some n))) (hH:H[id]?=some (.row ty 3 n (cVs l))) (hy:F.ev y=.agg ((dDy false p.1 p.2).map C.d)) (hty:TyK P t true 3) (hi:i<l.length) (hl:l.set i (some p)=l'):TOk P G o F H .any (H.set id (.row ty 3 n (cVs l'))):=by
 have h3:((dDy false p.1 p.2).map C.d).length=3:=rfl
 have:=IG (P:=P) (G:=G) ho hx hH rfl (show Ek (F.ev y)=some ((dDy false p.1 p.2).map C.d) by rw [hy];rfl) hty rfl (by rw [h3];show i*3+3≤(cVs l).length;rw [Aiy];omega)
 rw [h3] at this
 simp only [Ob.cs,Ob.setC] at this
 rw [Aan p hi,hl] at this
 exact this
end
def LB:Nat:=4096
theorem LBx:LB≤20000:=by decide
def LC:Nat:=9000
theorem lb_c:LB≤LC:=by decide
theorem AiD {p:Int × Nat} (hn:Nf p.1 p.2) (h:Dm p=false):Sm p LB LB:=by
 have h1:¬ 4096<max (Bl p.1.natAbs) p.2:=of_decide_eq_false h
 exact ⟨hn,Dl.1 (by unfold LB;omega),by unfold LB;omega⟩
def Aoe (bs:List Bk) (i:Nat):Nat:=(((bs[i]?.map Bk.args).getD [])[0]?.getD 0).toNat
theorem Sm.zero (n d:Nat):Sm (0,0) n d:=⟨⟨by decide,fun h=>absurd rfl h⟩,ax n,ad d⟩
theorem Df {l:List (Int × Nat)} {d:Nat} (h:∀ p∈l,Sm p n d) (k:Nat):Sm (l[k]?.getD (0,0)) n d:=by
 cases hk:l[k]? with
 | none=>exact Sm.zero n d
 | some p=>exact h p (gM hk)
theorem MF (h:Bc ps bs os=0) {i:Nat} {y:Bk} (hy:bs[i]?=some y) (hk:y.kind=11):DE y.vn y.ve∧DE y.un y.ue∧BI (Ae y.vn 0 y.ve).1 (Ae y.vn 0 y.ve).2 (Ae y.un 0 y.ue).1 (Ae y.un 0 y.ue).2≤0:=by
 have h1:=Ux h hy
 have ha:=GY h hy
 have hv:=LQ h hy (by unfold OJ;rw [hk];rfl)
 unfold BR at h1
 rw [if_neg (by omega),if_neg (not_not_intro ha.2.1)] at h1
 by_cases h3:Ap (y.args.map (Mf (Ei ps.length bs.length y.kind)))=0
 ·rw [if_neg (not_not_intro h3)] at h1
  by_cases h4:Cm y.vn y.ve (OJ y.kind)=0
  ·rw [if_neg (not_not_intro h4)] at h1
   by_cases h5:Cm y.un y.ue (Ii y.kind)=0
   ·rw [if_neg (not_not_intro h5)] at h1
    have hc:Ii y.kind=true:=by unfold Ii;rw [hk];rfl
    rw [hc] at h5
    have hu:=NF h5
    refine ⟨hv,hu,?_⟩
    rw [ZO (GV hv.2.2.1 hv.2.2.2) (GV hu.2.2.1 hu.2.2.2)]
    by_cases h6:0<Me y.vn y.ve y.un y.ue
    ·rw [if_pos ⟨hc,h6⟩] at h1;cases h1
    ·exact Int.not_lt.1 h6
   ·rw [if_pos h5] at h1;exact absurd h1 h5
  ·rw [if_pos h4] at h1;exact absurd h1 h4
 ·rw [if_pos h3] at h1;cases h1
theorem Wb (h:Bc ps bs os=0) {i:Nat} {y:Bk} (hy:bs[i]?=some y):y.kind=0∨y.kind=1∨y.kind=2∨y.kind=3∨y.kind=4∨y.kind=5∨y.kind=6∨y.kind=7∨y.kind=8∨y.kind=9∨y.kind=10∨y.kind=11:=by
 have:=(GY h hy).1
 unfold Bp at this
 (repeat' split at this) <;> omega
theorem LA (h:bs[i]?=some y):CO bs i=y.kind:=by unfold CO;rw [h];rfl
theorem AdG (h:bs[i]?=some y) (h0:y.kind≠0):Md bs i=y.args:=by
 unfold Md Vw
 rw [LA h,if_neg h0,h]
 rfl
def AiE (bs:List Bk) (t:Nat) (i:Nat):Prop:=(i<bs.length∧CO bs i=2)∨i∈(Dd bs).take t
theorem Oc {l:List Nat} {t j:Nat} (h:l[t]?=some j):(BU l)[t]?=some (j:Int):=by simp [BU,h]
def okQ {α:Type} (e:Int) (l:List α):List α:=if e=0 then l else []
theorem Uy {α:Type} (h:e≠0) (l:List α):okQ e l=[]:=if_neg h
theorem Aap {α:Type} (h:e=0) (l:List α):okQ e l=l:=if_pos h
def AoY (l:List (Int × Nat)):A:=.one (.row false 3 l.length (Av dyP l))
def rvP (r:Rv):Int × Nat:=(r.rw.x,r.rw.d)
def AjP (rs:List Rv):D:=.row false 3 rs.length (Av (dRv false) rs)
theorem Aaq {rs:List Rv} {k:Nat} {r:Rv} (h:rs[k]?=some r):((Av (dRv false) rs).drop (k*3)).take 3=dRv false r:=FO (f:=dRv false) (s:=3) (fun _=>rfl) h
theorem Fw {α:Type} {p:α→Prop} {l:List α} {k:Nat} {x:α} (h:∀ q∈l.take k,p q) (hx:l[k]?=some x) (hp:p x):∀ q∈l.take (k+1),p q:=fun q hq=>by
 rw [ay,hx] at hq
 rcases List.mem_append.1 hq with hq|hq
 ·exact h q hq
 ·simp only [ff,dk,dm,or_false] at hq
  rw [hq];exact hp
theorem Aar {p:Nat→Prop} {k:Nat} (h:∀ i,i<k→p i) (hk:p k):∀ i,i<k+1→p i:=fun i hi=>by
 by_cases hik:i=k
 ·rw [hik];exact hk
 ·exact h i (by omega)
theorem Od {k:Nat} (h:(Bn bs)[k]?=some i):i<bs.length∧CO bs i=2:=by
 have:=gM h
 unfold Bn at this
 rw [List.mem_filter,jo] at this
 exact ⟨this.1,by simpa using this.2⟩
theorem Aas (h:Bc ps bs os=0) {i:Nat} {y:Bk} (hy:bs[i]?=some y) (hk:y.kind=2):∃ b:Nat,y.args[0]?=some (b:Int)∧b<bs.length:=by
 have hA:=GY h hy
 have h1:=hA.2.1
 rw [hk] at h1
 have hl1:y.args.length=1:=by unfold Bp at h1;(repeat' split at h1) <;> omega
 obtain ⟨a,ha⟩:∃ a,y.args[0]?=some a:=⟨_,gE (by omega)⟩
 have hb:=hA.2.2 a (gM ha)
 rw [show Ei ps.length bs.length y.kind=bs.length from if_neg (by omega)] at hb
 exact ⟨a.toNat,by rw [ha];congr 1;omega,by omega⟩
theorem Aat {b:Nat} (hy:bs[i]?=some y) (ha:y.args[0]?=some (b:Int)):Aoe bs i=b:=by
 unfold Aoe
 rw [hy,cw,bh,ha]
 rfl
section
variable {P:Program}
def Afr (P:Program) (g:FuncId) (vs:List Value) (p:Int→Bool) (zs:List Int) (w:World):Prop:=∀ w',Below w.heap.size w w'→∀ z∈zs,Calls P g (Value.int .i64 z::vs).toArray w' fun e w2=>e=.returned (.bool (p z))∧Below w'.heap.size w' w2
theorem fn_G {vs:List Value} {p:Int→Bool}:∀ w w',Below w.heap.size w w'→Afr P g vs p zs w→Afr P g vs p zs w':=fun _ _ hb h w2 hb2=>h w2 (hb.trans (hb2.mono hb.size))
variable {o:Oper} {F:Frm} {H:List Ob}
theorem PB {vs : List Value} {p : Int → Bool} {r x : Operand} {ts : Array TypeId} {z : Int} (hf : P.funcs[g]? = some fn) (hz : z ∈ zs) (hn : (fn.name == "runtime.NumGoroutine") = false := by kernel_rfl) (hb : fn.body = some c := by with_unfolding_all exact rfl)
  (ho:o.op=.call { callee:=.value r,args:=#[x],argTypes:=ts }:=by with_unfolding_all exact rfl) (hr:F.ev r=.one (.d (.val (.func (.func g) #[] vs.toArray))):=by with_unfolding_all exact rfl) (hx:F.ev x=.one (.d (.val (.int .i64 z))):=by with_unfolding_all exact rfl) :
  AN P (Afr P g vs p zs) o F H (.one (.d (.val (.bool (p z))))) []:=by
 intro b0 m a hp hcx hg hb0 _ hor K Q hK
 have er:=Dg (m:=m) (v:=a.eval r) (by rw [←hr];exact Ba hor (by rw [ho];simp [Op.operands,Call.operands]))
 have ex:=Dg (m:=m) (v:=a.eval x) (by rw [←hx];exact Ba hor (by rw [ho];simp [Op.operands,Call.operands]))
 unfold Oper.wp execOp
 simp only [ho,resolve,er,Deferred.ofValue,ah,bu,au,invoke]
 rw [Ew hf hn hb]
 rw [gl]
 have he:((#[]:Array Value)++#[x].map a.eval++vs.toArray)=(Value.int .i64 z::vs).toArray:=fp (by simp [ex])
 rw [he]
 refine (hg m.w (ab _ _) z hz).mono fun e w' ⟨hev,hbel⟩=>?_
 subst hev
 exact hK _ w' [] ⟨rfl,hbel,fun k e hk=>by simp at hk,List.Pairwise.nil⟩ (Br.val rfl)
theorem AdH {f:FuncId} {x y:Operand} {ts:Array TypeId} {t:Bool} {p:Int→Bool} {rs:List (Nat × Nat × Option Nat)} {cargs:List A} {b:Bool} {Gt:World→Prop} (hG:∀ w w',Below w.heap.size w w'→Gt w→Gt w') (hf:P.funcs[f]?=some fn) (h:∀ vs,CV P (Afr P g vs p zs) f [.one (Bd t zs),.one (.val (.func (.func g) #[] vs.toArray))] [aB b]) (hC:∀ z∈zs,CV P Gt g (aI z::cargs) [aB (p z)])
  (hn : (fn.name == "runtime.NumGoroutine") = false := by kernel_rfl) (hb : fn.body = some c := by with_unfolding_all exact rfl)
  (ho:o.op=.call { callee:=.value (.func f),args:=#[x,y],argTypes:=ts }:=by with_unfolding_all exact rfl) (hx:F.ev x=.one (.d (Bd t zs)):=by with_unfolding_all exact rfl) (hy:F.ev y=.one (.clo (.func g) rs):=by with_unfolding_all exact rfl)
  (hcl:AY (fun (p:Nat × Nat × Option Nat) y=>Ip true H (.one (.ref p.1 p.2.1 p.2.2)) y) rs cargs:=by with_unfolding_all first|((repeat' first|exact Bh rfl rfl|refine Au rfl rfl ?_ ?_|exact Sn rfl) <;> fail)|fail):AN P Gt o F H (.one (.d (.val (.bool b)))) []:=by
 intro b0 m a hp hcx hg hb0 _ hor K Q hK
 rw [az] at hp
 have h1:=Ba (F:=F) hor (x:=x) (by rw [ho];simp [Op.operands,Call.operands])
 have h2:=Ba (F:=F) hor (x:=y) (by rw [ho];simp [Op.operands,Call.operands])
 rw [hx] at h1
 rw [hy] at h2
 obtain ⟨vs,hve,hvl⟩:=h2
 let Sx:Eh:=fun t b=>m.S t b∨(t=true∧∃ id e,m.E id=some e∧e.own=some b)
 have hlt:∀ t b,Sx t b→b<m.w.heap.size:=fun t b hb=>by
  rcases hb with hb|⟨_,id,e,he,hown⟩
  ·exact hcx.lt t b hb
  ·exact (Et.lt (hcx.each id e he).1 hown).2
 have hc':AY (EM m.w Sx) cargs vs:=⟨hcl.1.symm.trans hvl.1,fun j y v hy hv=>by
   obtain ⟨p,hpj⟩:∃ p,rs[j]?=some p:=⟨_,gE (by have:=(gS.1 hv).1;have:=hvl.1;omega)⟩
   exact Ip.rel (x:=.one (.ref p.1 p.2.1 p.2.2)) hcx (fun b hb=>.inl hb) (fun _ b hb=>.inl hb) (fun id e g he hg=>.inr ⟨rfl,id,e,he,hg⟩) ((hcl.2 j p y hpj hy).pre hp) (hvl.2 j p v hpj hv)⟩
 have hfn:Afr P g vs p zs m.w:=fun w' hb' z hz =>
  (hC z hz w' Sx (Value.int .i64 z::vs) (hG _ _ hb' hg) (fun t b hb=>aj (hlt t b hb) hb'.size) (.cons_ (Br.val rfl) (hc'.imp fun _ _=>EM.mono (fun _ _ h=>h) fun t b hb=>hb'.block b (hlt t b hb)))).mono fun e w2 ⟨v,he,hr,hbl⟩=>by
   have h4:Br w2 _ (dB (p z)) v:=hr
   cases h4
   exact ⟨he,hbl⟩
 have hcalls:=h vs m.w Sx [a.eval x,.func (.func g) #[] vs.toArray] hfn hlt (.cons_ (Br.mono (fun t b hb=>.inl hb) (fun _ _ _=>rfl) h1) (.cons_ (Br.val rfl) .nil_))
 unfold Oper.wp execOp
 simp only [ho,resolve,Act.eval,Deferred.ofValue,ah,bu,au,invoke]
 rw [Ew hf hn hb]
 rw [gl]
 have he:((#[]:Array Value)++#[x,y].map a.eval++#[])=[a.eval x,.func (.func g) #[] vs.toArray].toArray:=fp (by simp [hve])
 rw [he]
 refine hcalls.mono fun e w' ⟨v,hev,hr,hbel⟩=>?_
 subst hev
 have h4:Br w' _ (dB b) v:=hr
 cases h4
 exact hK _ w' [] ⟨rfl,hbel,fun k e hk=>by simp at hk,List.Pairwise.nil⟩ (Br.val rfl)
end
def AdI (p:Int→Bool):List Int→Nat→Int
 | [],_ => -1
 | z::l,k=>if p z=true then (k:Int) else AdI p l (k+1)
theorem QU {p:Int→Bool} {zs:List Int}:∀ {k:Nat},(∀ z∈zs.take k,p z=false)→k≤zs.length→AdI p zs 0=AdI p (zs.drop k) k
 | 0,_,_=>rfl
 | k+1,h,hk=>by
  obtain ⟨z,hz⟩:∃ z,zs[k]?=some z:=⟨_,gE (by omega)⟩
  rw [QU (k:=k) (fun z hz=>h z (by rw [ay];exact List.mem_append_left _ hz)) (by omega),dv (by omega)]
  have he:zs[k]=z:=by obtain ⟨h1,h2⟩:=gS.1 hz;exact h2
  rw [he]
  have:=h z (by rw [ay,hz];simp)
  show (if p z=true then (k:Int) else AdI p (zs.drop (k+1)) (k+1))=_
  rw [this]
  rfl
theorem Aau {p:Int→Bool}:∀ (zs:List Int) (k:Nat),decide (0≤AdI p zs k)=zs.any p
 | [],_=>rfl
 | z::l,k=>by
  unfold AdI
  rw [List.any_cons]
  cases h:p z with
  | true=>simp
  | false=>simpa using Aau l (k+1)
theorem AdJ (hf : prog.funcs[g]? = some fn) (hn : (fn.name == "runtime.NumGoroutine") = false) (hbd : fn.body = some c) (t : Bool) (vs : List Value) (p : Int → Bool) (zs : List Int) (hl : zs.length ≤ 1000000) : CV prog (Afr prog g vs p zs) 253 [.one (Bd t zs), .one (.val (.func (.func g) #[] vs.toArray))] [aI (AdI p zs 0)] := by
 refine Ahm fn_G func253 rfl ntmps253 (bi rfl) ?_
 repeat' (with_reducible first|refine qq ?_|(refine Tx 0 ?_;refine gO xA ?_)|(refine Tx 1 ?_;refine gO xM <| gO xN <| gO xM ?_))
 refine AQ (Bu 0) (Aq (fun n Fr H=>∃ k:Nat,k≤zs.length∧n=zs.length - k∧(∀ z∈zs.take k,p z=false)∧Fr=ofL [(0,vd (Bd t zs)),(1,vd (.val (.func (.func g) #[] vs.toArray))),(7,vi zs.length),(8,vi ((k:Nat)))]∧H=[]) (n0:=zs.length) ⟨0,ad _,rfl,(fun z hz=>by simp at hz),rfl,rfl⟩ ?_)
 rintro n Fr H ⟨k,hk,rfl,hall,rfl,rfl⟩
 by_cases hlt:k<zs.length
 case pos =>
  obtain ⟨z,hz⟩:∃ z,zs[k]?=some z:=⟨_,gE hlt⟩
  have hzm:=gM hz
  have hsk:=QU hall hk
  rw [dv hlt,(gS.1 hz).2,show AdI p (z::zs.drop (k+1)) k=if p z=true then (k:Int) else AdI p (zs.drop (k+1)) (k+1) from rfl] at hsk
  cases hp:p z
  case true =>
   rw [hp,if_pos rfl] at hsk
   repeat' (with_reducible first|refine qq ?_|(refine Tx 2 ?_;refine gO xLt ?_)|(refine Tx 3 ?_;refine gO xM <| gO xA ?_)|(refine Tx 4 ?_;refine gO xM <| gO xM <| gO xM <| gO (xIr Ad (AI hz)) <| gO xD <| gO (by exact (hp ▸ PB (p:=p) hf hzm hn hbd)) ?_)|(refine Tx 5 ?_;refine gO xM <| gO xA ?_))
   exact Ax rfl (.cons_ (Qu rfl hsk.symm) .nil_)
  rw [hp,if_neg (by decide)] at hsk
  repeat' (with_reducible first|refine qq ?_|(refine Tx 2 ?_;refine gO xLt ?_)|(refine Tx 3 ?_;refine gO xM <| gO xA ?_)|(refine Tx 4 ?_;refine gO xM <| gO xM <| gO xM <| gO (xIr Ad (AI hz)) <| gO xD <| gO (by exact (hp ▸ PB (p:=p) hf hzm hn hbd)) ?_)|(refine Tx 6 ?_;refine gO xAd <| gO xM ?_))
  refine ⟨_,_,Bu 0,_,by omega,k+1,by omega,rfl,Fw hall hz hp,rfl,rfl⟩
 obtain rfl:k=zs.length:=by omega
 have hsk:=QU hall hk
 rw [gi] at hsk
 repeat' (with_reducible first|refine qq ?_|(refine Tx 2 ?_;refine gO xLt ?_)|(refine Tx 7 ?_;refine gO xA ?_))
 exact Ax rfl (.cons_ (Qu rfl hsk.symm) .nil_)
theorem Uz (hf : prog.funcs[g]? = some fn) (hn : (fn.name == "runtime.NumGoroutine") = false) (hbd : fn.body = some c) (t : Bool) (vs : List Value) (p : Int → Bool) (zs : List Int) (hl : zs.length ≤ 1000000) : CV prog (Afr prog g vs p zs) 213 [.one (Bd t zs), .one (.val (.func (.func g) #[] vs.toArray))] [aB (zs.any p)] := by
 refine Ahm fn_G func213 rfl ntmps213 (bi rfl) ?_
 have IX:=AdJ hf hn hbd t vs p zs hl
 rw [←Aau zs 0]
 repeat' (with_reducible first|refine qq ?_|(refine Tx 0 ?_;refine gO xA ?_)|(refine Tx 1 ?_;refine gO xM <| gO xM <| gO (xCl func253 (IX)) <| gO xGe <| gO xA ?_))
 exact Ax rfl (.cons_ (DD rfl rfl) .nil_)
def GQ:Nat:=65536
def gv (p:Int × Nat):Int:=p.1*2 ^ (GQ - p.2)
theorem Aav (n:Nat):(2:Int) ^ n≠0:=jb (gq (by decide))
theorem Be (n:Nat):(0:Int)<2 ^ n:=gq (by decide)
theorem QV {p:Int × Nat} (h:p.2≤GQ):p.1*2 ^ GQ=gv p*2 ^ p.2:=Aix p h
theorem Nf.le {x:Int} {d:Nat} (h:Nf x d):d≤GQ:=h.1
theorem XE {m:Int} {d:Nat} (h:d≤GQ):gv (nf m d)=m*2 ^ (GQ - d):=by
 have e:=Acs m d
 have l:=Acr m d
 refine jv (Aav d) ?_
 unfold gv
 rw [jc,e,ar,ar,←av,←av]
 congr 2
 omega
theorem Hp (p:Int × Nat):gv (-p.1,p.2) = -gv p:=dq ..
theorem FV:gv (0,0)=0:=Int.zero_mul _
theorem Oe (p:Int × Nat):gv (((p.1.natAbs:Nat):Int),p.2)=((gv p).natAbs:Int):=by
 unfold gv
 rw [gf,iv,fm]
 congr 1
theorem Fx {p:Int × Nat} (hp:p.2≤GQ) (hq:q.2≤GQ):gv (Ci p.1 p.2 q.1 q.2)=gv p+gv q:=by
 unfold Ci
 rw [XE (by omega),Int.add_mul,ar,ar,←av,←av,show max p.2 q.2 - p.2+(GQ - max p.2 q.2)=GQ - p.2 by omega,show max p.2 q.2 - q.2+(GQ - max p.2 q.2)=GQ - q.2 by omega]
 rfl
theorem Aaw {p:Int × Nat} (h:p.2+q.2≤GQ):gv (NP p.1 p.2 q.1 q.2)*2 ^ GQ=gv p*gv q:=by
 unfold NP
 rw [XE h]
 unfold gv
 have e1:p.1*q.1*2 ^ (GQ - (p.2+q.2))*2 ^ GQ=p.1*q.1*2 ^ (GQ - (p.2+q.2)+GQ):=by rw [ar,←av]
 have e2:p.1*2 ^ (GQ - p.2)*(q.1*2 ^ (GQ - q.2))=p.1*q.1*2 ^ (GQ - p.2+(GQ - q.2)):=by rw [av];simp only [ar,Int.mul_left_comm,eg]
 rw [e1,e2]
 congr 2
 omega
theorem Aax {p:Int × Nat} (hp:p.2≤GQ) (hq:q.2≤GQ):BI p.1 p.2 q.1 q.2=sgI (gv p - gv q):=ZO (QV hp) (QV hq)
theorem Og {p:Int × Nat} (hp:Nf p.1 p.2) (hq:Nf q.1 q.2) (h:gv p=gv q):p=q:=Aiw hp hq (QV hp.le) (by rw [h];exact QV hq.le)
theorem LS {p:Int × Nat} (hp:p.2≤GQ) (hq:q.2≤GQ):BI p.1 p.2 q.1 q.2≤0 ↔ gv p≤gv q:=by
 rw [Aax hp hq,Cw]
 by_cases h1:gv p<gv q
 ·rw [if_pos h1];exact ⟨fun _=>bf h1,fun _=>by decide⟩
 ·rw [if_neg h1]
  by_cases h2:gv q<gv p
  ·rw [if_pos h2];exact ⟨fun h=>absurd h (by decide),fun h=>by omega⟩
  ·rw [if_neg h2];exact ⟨fun _=>by omega,fun _=>by decide⟩
theorem Amd {p:Int × Nat} (hp:p.2≤GQ) (hq:q.2≤GQ):BI p.1 p.2 q.1 q.2=0 ↔ gv p=gv q:=by
 rw [Aax hp hq,Cw]
 by_cases h1:gv p<gv q
 ·rw [if_pos h1];exact ⟨fun h=>absurd h (by decide),fun h=>by omega⟩
 ·rw [if_neg h1]
  by_cases h2:gv q<gv p
  ·rw [if_pos h2];exact ⟨fun h=>absurd h (by decide),fun h=>by omega⟩
  ·rw [if_neg h2];exact ⟨fun _=>by omega,fun _=>rfl⟩
theorem Oh {p:Int × Nat} (hp:p.2≤GQ) (hq:q.2≤GQ):0≤BI p.1 p.2 q.1 q.2 ↔ gv q≤gv p:=by
 rw [Aax hp hq,Cw]
 by_cases h1:gv p<gv q
 ·rw [if_pos h1];exact ⟨fun h=>absurd h (by decide),fun h=>by omega⟩
 ·rw [if_neg h1]
  by_cases h2:gv q<gv p
  ·rw [if_pos h2];exact ⟨fun _=>by omega,fun _=>by decide⟩
  ·rw [if_neg h2];exact ⟨fun _=>by omega,fun _=>by decide⟩
theorem Ame {p:Int × Nat} (hp:p.2≤GQ) (hq:q.2≤GQ):Gh p.1 p.2 q.1 q.2=if gv q<gv p then q else p:=by
 unfold Gh
 by_cases h:gv q<gv p
 ·rw [if_pos h,if_pos (Int.not_le.1 fun hc=>by have:=(LS hp hq).1 hc;omega)]
 ·rw [if_neg h,if_neg (by have:=(LS hp hq).2 (by omega);omega)]
theorem Amf {p:Int × Nat} (hp:p.2≤GQ) (hq:q.2≤GQ):FJ p.1 p.2 q.1 q.2=if gv p<gv q then q else p:=by
 unfold FJ
 by_cases h:gv p<gv q
 ·rw [if_pos h,if_pos (Int.not_le.1 fun hc=>by have:=(Oh hp hq).1 hc;omega)]
 ·rw [if_neg h,if_neg (by have:=(Oh hp hq).2 (by omega);omega)]
theorem LU {p:Int × Nat} (hp:p.2≤GQ) (hq:q.2≤GQ):gv (Gh p.1 p.2 q.1 q.2)=min (gv p) (gv q):=by
 rw [Ame hp hq]
 split <;> omega
theorem Fy {p:Int × Nat} (hp:p.2≤GQ) (hq:q.2≤GQ):gv (FJ p.1 p.2 q.1 q.2)=max (gv p) (gv q):=by
 rw [Amf hp hq]
 split <;> omega
theorem SJ {p:Int × Nat} (hp:p.2≤GQ) (hn:n≤65536):gv (Ae p.1 p.2 (n:Int))=gv p*2 ^ n:=by
 unfold Ae
 rw [if_neg (by omega),XE hp,show (max (-65536) (min ((n:Nat):Int) 65536)).toNat=n by omega]
 exact jc ..
theorem Oi {p:Int × Nat} (hp:p.2+n≤GQ) (hn:n≤65536):gv (Ae p.1 p.2 (-(n:Int)))*2 ^ n=gv p:=by
 unfold Ae
 by_cases h0:n=0
 ·subst h0
  rw [if_neg (by omega),XE (by omega)]
  show p.1*2 ^ (max (-65536) (min (-((0:Nat):Int)) 65536)).toNat*2 ^ (GQ - p.2)*2 ^ 0=gv p
  rw [show (max (-65536) (min (-((0:Nat):Int)) 65536)).toNat=0 by omega,Int.pow_zero,Int.mul_one,Int.mul_one]
  rfl
 ·rw [if_pos (by omega),XE (by omega),show (-(max (-65536) (min (-(n:Int)) 65536))).toNat=n by omega,ar,←av]
  unfold gv
  congr 2
  omega
theorem Oj (n:Int):gv (n,0)=n*2 ^ GQ:=rfl
theorem QW {p:Int × Nat} (hp:p.2≤GQ) (hd:den≤GQ):gv (Bg p.1 p.2 den)≤gv p∧gv p<gv (Bg p.1 p.2 den)+2 ^ (GQ - den)∧∃ k:Int,gv (Bg p.1 p.2 den)=k*2 ^ (GQ - den):=by
 unfold Bg
 by_cases h:p.2≤den
 ·rw [if_pos h]
  show gv p≤gv p∧gv p<gv p+2 ^ (GQ - den)∧∃ k:Int,gv p=k*2 ^ (GQ - den)
  refine ⟨dc _,by have:=Be (GQ - den);omega,p.1*2 ^ (den - p.2),?_⟩
  unfold gv
  rw [ar,←av]
  congr 2
  omega
 ·rw [if_neg h,XE hd]
  have e:gv p=p.1*2 ^ (GQ - p.2):=rfl
  have hk:(2:Int) ^ (GQ - den)=2 ^ (p.2 - den)*2 ^ (GQ - p.2):=by rw [←av];congr 1;omega
  have h1:=Int.mul_ediv_add_emod p.1 (2 ^ (p.2 - den))
  have h2:=Int.emod_nonneg p.1 (Aav (p.2 - den))
  have h3:=Int.emod_lt_of_pos p.1 (Be (p.2 - den))
  have e2:p.1 / 2 ^ (p.2 - den)*2 ^ (GQ - den)=p.1 / 2 ^ (p.2 - den)*2 ^ (p.2 - den)*2 ^ (GQ - p.2):=by rw [hk,ar]
  refine ⟨?_,?_,_,rfl⟩
  ·rw [e2,e]
   refine fg ?_ (bf (Be _))
   rw [eg];omega
  ·rw [e2,e,hk,←Int.add_mul]
   refine lg ?_ (Be _)
   rw [eg (p.1 / _)];omega
abbrev Pq:=Int × Nat
abbrev Dn (p q:Pq):Pq:=Ci p.1 p.2 q.1 q.2
abbrev IQ (p:Pq):Pq:=(-p.1,p.2)
abbrev FW (p:Pq):Pq:=(((p.1.natAbs:Nat):Int),p.2)
abbrev CB (p q:Pq):Pq:=NP p.1 p.2 q.1 q.2
abbrev Ru (p q:Pq):Pq:=Gh p.1 p.2 q.1 q.2
abbrev Gz (p q:Pq):Pq:=FJ p.1 p.2 q.1 q.2
abbrev Ir (p q:Pq):Int:=BI p.1 p.2 q.1 q.2
abbrev DP (p:Pq) (n:Int):Pq:=Ae p.1 p.2 n
abbrev PC (p:Pq) (n:Nat):Pq:=Bg p.1 p.2 n
abbrev XF (p:Pq) (n:Nat):Pq:=IQ (PC (IQ p) n)
abbrev Iq:=Pq × Pq
def dIw (t:Bool) (a:Iq):List D:=dDy t a.1.1 a.1.2++dDy t a.2.1 a.2.2
def aIw (t:Bool) (a:Iq):A:=.agg (dIw t a)
structure IwS (a:Iq) (n d:Nat):Prop where
 s1:Sm a.1 n d
 s2:Sm a.2 n d
 le:gv a.1≤gv a.2
theorem IwS.more {a:Iq} {d n' d':Nat} (h:IwS a n d) (h1:n≤n') (h2:d≤d'):IwS a n' d':=⟨h.s1.more h1 h2,h.s2.more h1 h2,h.le⟩
def GA (a:Iq) (x:Pq):Iq:=(Ru a.1 x,Gz a.2 x)
def CC:List Pq→Iq
 | []=>((0,0),(0,0))
 | p::l=>l.foldl GA (p,p)
def AdK (a:Iq):Iq:=(IQ a.2,IQ a.1)
def Afs (a b:Iq):Iq:=(Dn a.1 b.1,Dn a.2 b.2)
def AiF (a b:Iq):Iq:=Afs a (AdK b)
def Aft (a b:Iq):Iq:=CC [CB a.1 b.1,CB a.1 b.2,CB a.2 b.1,CB a.2 b.2]
def LV (a:Iq) (f:Pq):Iq:=Aft a (f,f)
def Afu (a b:Iq):Iq:=(Ru a.1 b.1,Ru a.2 b.2)
def AdL (a b:Iq):Iq:=(Gz a.1 b.1,Gz a.2 b.2)
def Ik (a b:Iq):Iq:=CC [a.1,a.2,b.1,b.2]
def QX (a:Iq):Iq:=if a.1.1<0∧0<a.2.1 then ((0,0),(CC [FW a.1,FW a.2]).2) else CC [FW a.1,FW a.2]
def UA (a:Iq) (v u:Pq):Iq:=Afu (AdL a (v,v)) (u,u)
def GB (a:Iq) (den:Nat):Iq:=(PC a.1 den,XF a.2 den)
def iIn (a b:Iq):Bool:=decide (Ir b.1 a.1≤0) && decide (Ir a.2 b.2≤0)
def FX (a:Iq):Pq:=(QX a).2
theorem Sm.le {p:Pq} {d:Nat} (h:Sm p n d):p.2≤GQ:=h.ok.le
section
variable {a b:Iq} {n d:Nat}
theorem Fz {p q:Pq} (hp:Sm p n d) (hq:Sm q n d):gv (CC [p,q]).1=min (gv p) (gv q)∧gv (CC [p,q]).2=max (gv p) (gv q)∧IwS (CC [p,q]) n d:=by
 have e1:gv (Ru p q)=min (gv p) (gv q):=LU hp.le hq.le
 have e2:gv (Gz p q)=max (gv p) (gv q):=Fy hp.le hq.le
 refine ⟨e1,e2,Sm.min hp hq,Sm.max hp hq,?_⟩
 show gv (Ru p q)≤gv (Gz p q)
 omega
theorem FA {p q r s:Pq} (hp:Sm p n d) (hq:Sm q n d) (hr:Sm r n d) (hs:Sm s n d):gv (CC [p,q,r,s]).1=min (min (min (gv p) (gv q)) (gv r)) (gv s)∧gv (CC [p,q,r,s]).2=max (max (max (gv p) (gv q)) (gv r)) (gv s)∧IwS (CC [p,q,r,s]) n d:=by
 have m1:Sm (Ru p q) n d:=Sm.min hp hq
 have m2:Sm (Ru (Ru p q) r) n d:=Sm.min m1 hr
 have x1:Sm (Gz p q) n d:=Sm.max hp hq
 have x2:Sm (Gz (Gz p q) r) n d:=Sm.max x1 hr
 have e1:gv (Ru (Ru (Ru p q) r) s)=min (min (min (gv p) (gv q)) (gv r)) (gv s):=by rw [LU m2.le hs.le,LU m1.le hr.le,LU hp.le hq.le]
 have e2:gv (Gz (Gz (Gz p q) r) s)=max (max (max (gv p) (gv q)) (gv r)) (gv s):=by rw [Fy x2.le hs.le,Fy x1.le hr.le,Fy hp.le hq.le]
 refine ⟨e1,e2,Sm.min m2 hs,Sm.max x2 hs,?_⟩
 show gv (Ru (Ru (Ru p q) r) s)≤gv (Gz (Gz (Gz p q) r) s)
 omega
theorem IwS.neg (h:IwS a n d):IwS (AdK a) n d:=⟨h.s2.neg,h.s1.neg,by show gv (IQ a.2)≤gv (IQ a.1);rw [Hp,Hp];have:=h.le;omega⟩
theorem IwS.add (h:IwS a n d) (k:IwS b n d) (hd:d≤65536):IwS (Afs a b) (n+d+1) d:=⟨Sm.sum h.s1 k.s1 hd,Sm.sum h.s2 k.s2 hd,by
 show gv (Dn a.1 b.1)≤gv (Dn a.2 b.2)
 rw [Fx h.s1.le k.s1.le,Fx h.s2.le k.s2.le]
 have:=h.le;have:=k.le;omega⟩
theorem IwS.sub (h:IwS a n d) (k:IwS b n d) (hd:d≤65536):IwS (AiF a b) (n+d+1) d:=h.add k.neg hd
theorem IwS.min (h:IwS a n d) (k:IwS b n d):IwS (Afu a b) n d:=⟨Sm.min h.s1 k.s1,Sm.min h.s2 k.s2,by
 show gv (Ru a.1 b.1)≤gv (Ru a.2 b.2)
 rw [LU h.s1.le k.s1.le,LU h.s2.le k.s2.le]
 have:=h.le;have:=k.le;omega⟩
theorem IwS.max (h:IwS a n d) (k:IwS b n d):IwS (AdL a b) n d:=⟨Sm.max h.s1 k.s1,Sm.max h.s2 k.s2,by
 show gv (Gz a.1 b.1)≤gv (Gz a.2 b.2)
 rw [Fy h.s1.le k.s1.le,Fy h.s2.le k.s2.le]
 have:=h.le;have:=k.le;omega⟩
theorem IwS.pt {p:Pq} (h:Sm p n d):IwS (p,p) n d:=⟨h,h,dc _⟩
theorem IwS.mul (h:IwS a n d) (k:IwS b n d) (hd:d≤30000):IwS (Aft a b) (n+n) (d+d):=(FA (Sm.mul h.s1 k.s1 hd) (Sm.mul h.s1 k.s2 hd) (Sm.mul h.s2 k.s1 hd) (Sm.mul h.s2 k.s2 hd)).2.2
theorem IwS.hull (h:IwS a n d) (k:IwS b n d):IwS (Ik a b) n d:=(FA h.s1 h.s2 k.s1 k.s2).2.2
theorem IwS.clip {v u:Pq} (h:IwS a n d) (hv:Sm v n d) (hu:Sm u n d):IwS (UA a v u) n d:=(h.max (.pt hv)).min (.pt hu)
theorem Wc {p:Pq}:p.1<0 ↔ gv p<0:=by
 unfold gv
 exact ⟨fun h=>gr h (Be _),fun h=>Int.not_le.1 fun hc=>by have:=gu hc (bf (Be (GQ - p.2)));omega⟩
theorem Wd {p:Pq}:0<p.1 ↔ 0<gv p:=by
 unfold gv
 exact ⟨fun h=>Int.mul_pos h (Be _),fun h=>Int.not_le.1 fun hc=>by have:=lh hc (bf (Be (GQ - p.2)));omega⟩
theorem IwS.abs (h:IwS a n d):IwS (QX a) n d:=by
 obtain ⟨h1,h2,h3⟩:=Fz h.s1.abs h.s2.abs
 unfold QX
 split
 ·refine ⟨Sm.zero n d,h3.s2,?_⟩
  show gv (0,0)≤gv (CC [FW a.1,FW a.2]).2
  rw [FV,h2,Oe,Oe]
  omega
 ·exact h3
theorem Aay (h:IwS a n d):gv (QX a).1=(if gv a.1<0∧0<gv a.2 then 0 else min ((gv a.1).natAbs:Int) (gv a.2).natAbs)∧gv (QX a).2=max ((gv a.1).natAbs:Int) (gv a.2).natAbs:=by
 obtain ⟨h1,h2,h3⟩:=Fz h.s1.abs h.s2.abs
 rw [Oe,Oe] at h1 h2
 unfold QX
 by_cases hc:a.1.1<0∧0<a.2.1
 ·rw [if_pos hc,if_pos ⟨Wc.1 hc.1,Wd.1 hc.2⟩]
  exact ⟨FV,h2⟩
 ·rw [if_neg hc,if_neg (fun h=>hc ⟨Wc.2 h.1,Wd.2 h.2⟩)]
  exact ⟨h1,h2⟩
theorem Aaz (h:IwS a n d) (k:IwS b n d):iIn a b=decide (gv b.1≤gv a.1∧gv a.2≤gv b.2):=by
 unfold iIn
 rw [Bool.eq_iff_iff,ai,decide_eq_true_eq,decide_eq_true_eq,decide_eq_true_eq,LS k.s1.le h.s1.le,LS h.s2.le k.s2.le]
end
theorem EH (a:Iq):∀ u∈dIw false a,DQ u:=fun u hu=>by
 rcases List.mem_append.1 hu with h|h <;> exact Lz _ _ u h
theorem rvJ {t:Tmp} {k:Nat} {a:Iq} (hk:TyK P ty true k) (hi:6=k) (hF:F t=.one (.ref id 0 none):=by with_unfolding_all exact rfl) (hH:H[id]?=some (.box ty' ((dIw false a).map C.d)):=by with_unfolding_all exact rfl):RV P F H (.cell t ty) (aIw false a):=by
 obtain ⟨⟨dd,hu,hd⟩,hz⟩:=hk
 refine .cellA hF hH hu hd (by rw [hz,←hi];rfl) (AY.map_l.2 ⟨rfl,fun j x y hx hy=>?_⟩)
 rw [hx] at hy
 cases hy
 exact .d fun _=>EH a x (gM hx)
theorem AaA:dIw false ((0,0),(0,0))=[.val (.bool false),.row false 1 0 [],.val (.int .i64 0),.val (.bool false),.row false 1 0 [],.val (.int .i64 0)]:=by
 have e:dDy false 0 0=[.val (.bool false),.row false 1 0 [],.val (.int .i64 0)]:=A.agg.inj Gy
 show dDy false 0 0++dDy false 0 0=_
 rw [e]
 rfl
structure StOk (bs:List Bk) (st:List (Int × Nat)):Prop where
 len:st.length=(Bn bs).length
 sm:∀ p∈st,Sm p LB LB
section
variable {ps:List Prt} {bs:List Bk} {os:List Int} {st:List (Int × Nat)} {ins:List Int}
theorem Amg (h:i∈Bn bs):i<bs.length∧CO bs i=2:=by
 obtain ⟨k,hk⟩:=List.mem_iff_getElem?.1 h
 exact Od hk
end
def AoZ (bs:List Bk) (i:Nat):Int:=(bs[i]?.getD bk0).vn
def Apa (bs:List Bk) (i:Nat):Int:=(bs[i]?.getD bk0).ve
def Cr (bs:List Bk):List (Int × Nat):=(Bn bs).map fun i=>Ae (AoZ bs i) 0 (Apa bs i)
theorem MH (he:Bc ps bs os=0):StOk bs (Cr bs):=⟨by unfold Cr;rw [af],fun p hp=>by
 obtain ⟨i,hi,rfl⟩:=List.mem_map.1 hp
 obtain ⟨h1,h2⟩:=Amg hi
 obtain ⟨y,hy⟩:∃ y,bs[i]?=some y:=⟨_,gE h1⟩
 rw [LA hy] at h2
 obtain ⟨s1,s2,s3,s4⟩:=LQ he hy (by unfold OJ;rw [h2];rfl)
 unfold AoZ Apa
 rw [hy]
 exact (Sm.shift (n:=32) (by simp only [bh];omega) (by simp only [bh];omega) (by simp only [bh];omega)).more (by decide) (by decide)⟩
def CY (p:Int × Nat):Rv:=⟨decide (p.1<0),Ab p.1.natAbs,p.2⟩
theorem Amh (p:Int × Nat):(CY p).rw.x=p.1:=by
 show sg (decide (p.1<0)) (Az (Ab p.1.natAbs))=p.1
 rw [Am]
 unfold sg
 split <;> rename_i h
 ·have:=of_decide_eq_true h;omega
 ·have:¬ p.1<0:=by simpa using h
  omega
theorem EJ (p:Int × Nat):rvP (CY p)=p:=by
 unfold rvP
 rw [Amh]
 show (p.1,((p.2:Nat):Int).toNat)=p
 rw [am]
theorem GD (t:Bool) (p:Int × Nat):dRv t (CY p)=dDy t p.1 p.2:=by
 unfold dRv dDy wds
 rw [Ul]
 rfl
theorem QY {p:Int × Nat} (h:Nf p.1 p.2):vdB (CY p).rw=true:=by
 refine decide_eq_true ?_
 by_cases h0:(Ab p.1.natAbs).length=0
 ·refine (Adv (r:=(CY p).rw) h0).2 ?_
  have hz:p.1.natAbs=0:=by
   have:=Am p.1.natAbs
   rw [cj h0] at this
   exact this.symm
  have hd:p.2=0:=cm fun hne=>by have:=h.2 hne;omega
  exact ⟨decide_eq_false (by omega),by show ((p.2:Nat):Int)=0;omega⟩
 ·refine (Aaj (r:=(CY p).rw) h0).2 ⟨?_,by show (0:Int)≤(p.2:Nat);omega,by have:=h.1;show ((p.2:Nat):Int)≤65536;omega,?_⟩
  ·have hne:p.1.natAbs≠0:=fun hz=>h0 (by rw [hz,AF];rfl)
   obtain ⟨q,L,hL,hq,q0,_,_⟩:=PA hne
   show _≠_
   simp only [CY,Rv.rw]
   first|(rw [hL];simpa [hq] using q0)|simp_all
  ·by_cases hd:p.2=0
   ·left;show ((p.2:Nat):Int)=0;omega
   ·right
    have:=h.2 hd
    have hb:=GO (Ay p.1.natAbs) 0
    rw [Am] at hb
    simp only [Nat.pow_zero,Nat.div_one,Nat.zero_div,Nat.zero_mod] at hb
    show (Ab p.1.natAbs)[0]?.getD 0 % 2=1
    omega
theorem UB (l:List (Int × Nat)):AjP (l.map CY)=.row false 3 l.length (Av dyP l):=by
 unfold AjP Av
 rw [af,dj]
 congr 2
 exact fh fun p _=>GD false p
theorem LD (bs:List Bk):(Bn bs).length≤bs.length:=by unfold Bn;exact lT (List.length_filter_le _ _) (gp fd)
theorem AdM {k:Nat} (hi:(Bn bs)[k]?=some i) (hy:bs[i]?=some y):(Cr bs)[k]?=some (Ae y.vn 0 y.ve):=by
 unfold Cr AoZ Apa
 rw [ag,hi,cw,hy]
 rfl
theorem Ok {l:List (Int × Nat)} {k:Nat} {p:Int × Nat} (h:l[k]?=some p):(Av dyP (l.take k)).map C.d++(dDy false p.1 p.2).map C.d=(Av dyP (l.take (k+1))).map C.d∧(l.take k).length+1=(l.take (k+1)).length∧(l.take k).length≤k:=by
 refine ⟨?_,?_,by rw [ef];omega⟩
 ·rw [ay,h,ff,Nv,fv];rfl
 ·rw [ay,h,ak];rfl
theorem AaB (t:Bool) {ps:List Prt} {bs:List Bk} {os:List Int} (hl:EB ps bs os):CV prog Ah 53 [aDg t ps bs os] [AoY (okQ (Bc ps bs os) (Cr bs)),aE (Bc ps bs os)]:=by
 refine cvz func53 ntmps53 ?_
 have DL:=(IP t hl (ps:=ps) (bs:=bs) (os:=os)).cv
 have hnl:=Cl (Bn bs)
 by_cases h0:Bc ps bs os=0
 case neg =>
  rw [if_neg h0] at DL
  rw [Uy h0]
  repeat' (with_reducible first|refine qq ?_|(refine Tx 0 ?_;refine gN xBo <| gO xA <| gO xA ?_)|(refine Tx 1 ?_;refine gO xL <| gO (xCl func19 (DL)) <| gO xMt <| gO xEx <| gO xEx <| gO xA <| gO xA ?_)|(refine Tx 2 ?_;refine gO xM <| gO (xNE Al) ?_)|(refine Tx 3 ?_;refine gO xM <| gO xA <| gO xA ?_))
  exact Ax rfl (.cons_ (.tmp (.one (Ho rfl rfl))) (.cons_ (Acl rfl rfl) .nil_))
 rw [if_pos h0,h0] at DL
 rw [h0,Aap rfl]
 repeat' (with_reducible first|refine qq ?_|(refine Tx 0 ?_;refine gN xBo <| gO xA <| gO xA ?_)|(refine Tx 1 ?_;refine gO xL <| gO (xCl func19 (DL)) <| gO xMt <| gO xEx <| gO xEx <| gO xA <| gO xA ?_)|(refine Tx 2 ?_;refine gO xM <| gO (xNE Al) ?_)|(refine Tx 4 ?_;refine gO xA ?_)|(refine Tx 5 ?_;refine gO xM <| gO xN <| gO xM ?_))
 refine AQ (IC 6 43 3 rfl) ?_
 have hl2:=hl.l2
 have hdb:=LD bs
 have hsl:(Cr bs).length=(Bn bs).length:=(MH h0).len
 refine AQ (Bu 2) (Aq (fun n Fr H=>∃ k:Nat,k≤(Bn bs).length∧n=(Bn bs).length - k∧Fr=ofL [(1,vr 0),(6,vo 1 (((Cr bs).take k).length)),(17,vd (Bd false (BU (Bn bs)))),(18,vi ((BU (Bn bs)).length)),(19,vi ((k:Nat)))]∧H=[.box 26 [.d (DJ t ps),.d (Dc t bs),.d (Bd t os)],.row 43 3 ((Cr bs).take (k)).length ((Av dyP ((Cr bs).take (k))).map C.d)]) (n0:=(Bn bs).length) ⟨0,ad _,rfl,rfl,rfl⟩ ?_)
 rintro n Fr H ⟨k,hk,rfl,rfl,rfl⟩
 by_cases hlt:k<(Bn bs).length
 case pos =>
  obtain ⟨i,hi⟩:∃ i,(Bn bs)[k]?=some i:=⟨_,gE hlt⟩
  have hid:=Od hi
  have hil:=hid.1
  obtain ⟨y,hy⟩:∃ y,bs[i]?=some y:=⟨_,gE hil⟩
  have hk2:=hid.2
  rw [LA hy] at hk2
  have hsc:=LQ h0 hy (by unfold OJ;rw [hk2];rfl)
  have NU:=XD y.vn y.ve hsc
  obtain ⟨hap,hap2,hoL⟩:=Ok (AdM hi hy)
  repeat' (with_reducible first|refine qq ?_|(refine Tx 6 ?_;refine gO xLt ?_)|(refine Tx 7 ?_;refine gO (xIr Ad (AI (Oc hi))) <| gO xD <| gO xA ?_)|(refine Tx 8 ?_;refine gO xM <| gO xF <| gO xD <| gO xM <| gO (xIr Ai (Dj hy)) <| gO xF <| gO xL <| gO (xCl func130 (NU)) <| gN (by exact Cf rfl Af Aj rfl rfl (by decide) (by decide)) <| gT (by exact Vs rfl rfl rfl rfl rfl rfl Af Aj (by omega) (by decide) (by decide) rfl hap hap2) <| gO xA ?_)|(refine Tx 9 ?_;refine gO xAd <| gO xM ?_))
  refine ⟨_,_,Bu 2,_,?_,k+1,by omega,rfl,rfl,rfl⟩
  ·omega
 obtain rfl:k=(Bn bs).length:=by omega
 clear hlt hk
 rw [←hsl,bc]
 unfold AoY
 repeat' (with_reducible first|refine qq ?_|(refine Tx 6 ?_;refine gO xLt ?_)|(refine Tx 10 ?_;refine gO xM <| gO xA <| gO xA ?_))
 exact Ax rfl (.cons_ (.tmp (.one (AiC rfl rfl rfl))) (.cons_ (Gl rfl rfl) .nil_))
theorem AiG (k:p') (h:Hd9 p'→p:=by with_reducible first|(intro Z9;refine qq ?_;exact Z9.o)|(intro Z9;refine Tx 0 ?_;refine gO xA ?_;exact Z9.o)|(intro Z9;refine Tx 1 ?_;refine gO xM <| gO xM <| gO xGe <| gO xM ?_;(first|iterate 3 refine Jd ?_|(refine Jy xM1 ?_;refine Jy xM1 ?_;refine Jy xLe ?_));refine gO xPk <| gO xA ?_;exact Z9.o)|fail):p:=h ⟨k⟩
theorem Ev (n lo hi:Int):CV prog Ah 76 [aI n,aI lo,aI hi] [aB (Ig n lo hi)]:=by
 refine cvz func76 ntmps76 ?_
 unfold Ig
 by_cases c1:lo≤n
 case neg =>
  repeat' (with_reducible first|refine AiG ?_)
  exact Ax rfl (.cons_ (DD rfl ((decide_eq_false (by omega)).symm)) .nil_)
 by_cases c2:n≤hi
 case neg =>
  repeat' (with_reducible first|refine AiG ?_)
  exact Ax rfl (.cons_ (DD rfl ((decide_eq_false (by omega)).symm)) .nil_)
 repeat' (with_reducible first|refine AiG ?_)
 exact Ax rfl (.cons_ (DD rfl ((decide_eq_true (by omega)).symm)) .nil_)
theorem Ami (k:p') (h:Hd9 p'→p:=by with_reducible first|(intro Z9;refine qq ?_;exact Z9.o)|(intro Z9;refine Tx 0 ?_;refine gO xA ?_;exact Z9.o)|(intro Z9;refine Tx 1 ?_;refine gO xM ?_;exact Z9.o)|(intro Z9;refine Tx 2 ?_;refine gO xEq <| gO xA ?_;exact Z9.o)|(intro Z9;refine Tx 3 ?_;refine gO xA ?_;exact Z9.o)|(intro Z9;refine Tx 4 ?_;refine gO xEq <| gO xA ?_;exact Z9.o)|(intro Z9;refine Tx 5 ?_;refine gO xEq <| gO xA ?_;exact Z9.o)|(intro Z9;refine Tx 6 ?_;refine gO xEq <| gO xA ?_;exact Z9.o)|(intro Z9;refine Tx 7 ?_;refine gO xEq <| gO xA ?_;exact Z9.o)|(intro Z9;refine Tx 8 ?_;refine gO xEq <| gO xA ?_;exact Z9.o)|(intro Z9;refine Tx 9 ?_;refine gO xEq <| gO xA ?_;exact Z9.o)|(intro Z9;refine Tx 10 ?_;refine gO xA ?_;exact Z9.o)|(intro Z9;refine Tx 11 ?_;refine gO xEq <| gO xA ?_;exact Z9.o)|(intro Z9;refine Tx 12 ?_;refine gO xEq <| gO xA ?_;exact Z9.o)|(intro Z9;refine Tx 13 ?_;refine gO xEq <| gO xA ?_;exact Z9.o)|(intro Z9;refine Tx 14 ?_;refine gO xEq <| gO xA ?_;exact Z9.o)|(intro Z9;refine Tx 15 ?_;refine gO xEq <| gO xA ?_;exact Z9.o)|(intro Z9;refine Tx 16 ?_;refine gO xA ?_;exact Z9.o)|(intro Z9;refine Tx 17 ?_;refine gO xA ?_;exact Z9.o)|fail):p:=h ⟨k⟩
theorem IR (h:p:=by
 exact Ax rfl (.cons_ (Qu rfl rfl) .nil_)):p:=h
theorem AaC (k:Int):CV prog Ah 167 [aI k] [aI (Bp k)]:=by
 refine cvz func167 ntmps167 ?_
 have h:k=1∨k=0∨k=2∨k=5∨k=10∨k=6∨k=11∨k=3∨k=4∨k=7∨k=8∨k=9∨(k≠1∧k≠0∧k≠2∧k≠5∧k≠10∧k≠6∧k≠11∧k≠3∧k≠4∧k≠7∧k≠8∧k≠9):=by omega
 rcases h with rfl|rfl|rfl|rfl|rfl|rfl|rfl|rfl|rfl|rfl|rfl|rfl|h
 rotate_left 12
 ·have e:Bp k = -1:=by unfold Bp;rw [if_neg (by omega),if_neg (by omega),if_neg (by omega)]
  rw [e]
  repeat' (with_reducible first|refine Ami ?_)
  exact IR
 all_goals repeat' (with_reducible first|refine Ami ?_)
 all_goals exact Ax rfl (.cons_ (Qu rfl (by decide)) .nil_)
theorem UC (h:p:=by first|exact xNt|exact xNg):p:=h
theorem UD (k:p') (h:Hd9 p'→p:=by with_reducible first|(intro Z9;refine qq ?_;exact Z9.o)|(intro Z9;refine Tx 0 ?_;refine gN xBo <| gO xA ?_;exact Z9.o)|(intro Z9;refine Tx 1 ?_;refine gO xM <| gO UC ?_;exact Z9.o)|fail):p:=h ⟨k⟩
theorem Amj (h:p:=by first|exact xCl func76 (W1)|exact xCl func76 (W2)):p:=h
theorem AaD (k:p') (h:Hd9 p'→p:=by with_reducible first|(intro Z9;refine Tx 5 ?_;refine gO xF <| gO xD <| gO Amj <| gO UC <| gO xM ?_;(first|iterate 4 refine Jd ?_|(refine Jy (xFa Es AE) ?_;refine Jy (xLd AE) ?_;refine Jy Amj ?_;refine Jy UC ?_));refine gO xPk ?_;exact Z9.o)|fail):p:=h ⟨k⟩
theorem CQ (h:p:=by
 exact Ax rfl (.cons_ (Qu rfl (rfl)) .nil_)):p:=h
theorem PD (n e:Int) (used:Bool):CV prog Ah 168 [.agg [dI n,dI e],aB used] [aI (Cm n e used)]:=by
 refine cvz func168 ntmps168 ?_
 cases used
 case false =>
  unfold Cm
  rw [if_neg (by decide)]
  by_cases h1:n=0∧e=0
  case pos =>
   rw [if_pos h1]
   obtain ⟨rfl,rfl⟩:=h1
   repeat' (with_reducible first|refine UD ?_|(refine Tx 2 ?_;refine gO xL <| gO (by exact AO rfl Gs rfl rfl) <| gO (by first|exact QC rfl rfl rfl (rfl)|exact xNe) ?_)|(refine Tx 4 ?_;refine gO xA ?_))
   exact CQ
  case neg =>
   rw [if_neg h1]
   repeat' (with_reducible first|refine UD ?_|(refine Tx 2 ?_;refine gO xL <| gO (by exact AO rfl Gs rfl rfl) <| gO (by first|exact QC rfl rfl rfl (AlH h1)|exact xNe) ?_)|(refine Tx 3 ?_;refine gO xA ?_))
   exact CQ
 case true =>
  unfold Cm
  rw [if_pos rfl]
  have W1:=Ev n (-2147483647) 2147483647
  have W2:=Ev e (-62) 30
  unfold Ig at W1 W2
  by_cases c1 : -2147483648<n
  case neg =>
   rw [if_neg (fun h:DE n e=>c1 h.1)]
   rw [decide_eq_false (by omega)] at W1
   repeat' (with_reducible first|refine UD ?_|refine AaD ?_|(refine Tx 6 ?_;refine gO xA ?_))
   exact CQ
  by_cases c2:n<2147483648
  case neg =>
   rw [if_neg (fun h:DE n e=>c2 h.2.1)]
   rw [decide_eq_false (by omega)] at W1
   repeat' (with_reducible first|refine UD ?_|refine AaD ?_|(refine Tx 6 ?_;refine gO xA ?_))
   exact CQ
  by_cases c3 : -62≤e
  case neg =>
   rw [if_neg (fun h:DE n e=>c3 h.2.2.1)]
   rw [decide_eq_false (by omega)] at W2
   rw [decide_eq_true (by omega)] at W1
   repeat' (with_reducible first|refine UD ?_|refine AaD ?_|(refine Tx 6 ?_;refine gO xA ?_))
   exact CQ
  by_cases c4:e≤30
  case neg =>
   rw [if_neg (fun h:DE n e=>c4 h.2.2.2)]
   rw [decide_eq_false (by omega)] at W2
   rw [decide_eq_true (by omega)] at W1
   repeat' (with_reducible first|refine UD ?_|refine AaD ?_|(refine Tx 6 ?_;refine gO xA ?_))
   exact CQ
  rw [if_pos (show DE n e from ⟨c1,c2,c3,c4⟩)]
  rw [decide_eq_true (by omega)] at W1 W2
  repeat' (with_reducible first|refine UD ?_|refine AaD ?_|(refine Tx 7 ?_;refine gO xA ?_))
  exact CQ
theorem AaE (k:p') (h:Hd9 p'→p:=by with_reducible first|(intro Z9;refine Tx 1 ?_;refine gO xF <| gO xD <| gO xF <| gO xD <| gO xGt ?_;exact Z9.o)|fail):p:=h ⟨k⟩
theorem SL (k:p') (h:Hd9 p'→p:=by with_reducible first|(intro Z9;refine Tx 4 ?_;refine gO xF <| gO xD <| gO xF <| gO xD <| gO xGt ?_;exact Z9.o)|fail):p:=h ⟨k⟩
theorem AiH (k:p') (h:Hd9 p'→p:=by with_reducible first|(intro Z9;refine Tx 7 ?_;refine gO xF <| gO xD <| gO xF <| gO xD <| gO xLt <| gO xA ?_;exact Z9.o)|fail):p:=h ⟨k⟩
theorem Amk (k:p') (h:Hd9 p'→p:=by with_reducible first|(intro Z9;refine Tx 9 ?_;refine gO xF <| gO xD <| gO xF <| gO xD <| gO xGt <| gO xA ?_;exact Z9.o)|fail):p:=h ⟨k⟩
theorem AdN (k:p') (h:Hd9 p'→p:=by with_reducible first|(intro Z9;refine Tx 5 ?_;refine gO xF <| gO xD <| gO xEq <| gO xM ?_;(first|iterate 3 refine Jd ?_|(refine Jy (xFa DU AE) ?_;refine Jy (xLd AE) ?_;refine Jy xGe ?_));refine gO xPk <| gO xM ?_;(first|iterate 3 refine Jd ?_|(refine Jy (xFa DU AE) ?_;refine Jy (xLd AE) ?_;refine Jy xLe ?_));refine gO xPk ?_;exact Z9.o)|fail):p:=h ⟨k⟩
theorem AdO (k:p') (h:Hd9 p'→p:=by with_reducible first|(intro Z9;refine Tx 2 ?_;refine gO xF <| gO xD <| gO xEq <| gO xM ?_;(first|iterate 3 refine Jd ?_|(refine Jy (xFa DU AE) ?_;refine Jy (xLd AE) ?_;refine Jy xGe ?_));refine gO xPk <| gO xM ?_;(first|iterate 3 refine Jd ?_|(refine Jy (xFa DU AE) ?_;refine Jy (xLd AE) ?_;refine Jy xLe ?_));refine gO xPk ?_;exact Z9.o)|fail):p:=h ⟨k⟩
theorem Ol (h:p:=by
 by_cases q1:n<n2
 case pos =>
  rw [if_pos q1]
  repeat' (with_reducible first|refine qq ?_|refine AiH ?_|(refine Tx 8 ?_;refine gO xA ?_))
  exact Ax rfl (.cons_ (Qu rfl (rfl)) .nil_)
 rw [if_neg q1]
 by_cases q2:n2<n
 case pos =>
  rw [if_pos q2]
  repeat' (with_reducible first|refine qq ?_|refine AiH ?_|refine Amk ?_|(refine Tx 10 ?_;refine gO xA ?_))
  exact Ax rfl (.cons_ (Qu rfl (rfl)) .nil_)
 rw [if_neg q2]
 repeat' (with_reducible first|refine qq ?_|refine AiH ?_|refine Amk ?_|(refine Tx 11 ?_;refine gO xA ?_))
 exact Ax rfl (.cons_ (Qu rfl (rfl)) .nil_)):p:=h
theorem AdP (h:p:=by first|exact xS1 AE|exact xSk AE):p:=h
theorem AiI (an ae bn be:Int) (h1:DE an ae) (h2:DE bn be):CV prog Ah 169 [.agg [dI an,dI ae],.agg [dI bn,dI be]] [aI (Me an ae bn be)]:=by
 refine cvz func169 ntmps169 ?_
 obtain ⟨a0,a1,a2,a3⟩:=h1
 obtain ⟨b0,b1,b2,b3⟩:=h2
 repeat' (with_reducible first|refine qq ?_|(refine Tx 0 ?_;refine gN xBo <| gN xBo <| gO xA ?_))
 refine AQ (Bu 2) (Aq (fun m Fr H=>∃ n e:Int,Qw n e an ae be∧m=(e+62).toNat∧Fr=ofL [(2,vr 0),(3,vr 1)]∧H=[.box 61 [.d (.val (.int .i64 (n))),.d (.val (.int .i64 (e)))],.box 61 [.d (.val (.int .i64 (bn))),.d (.val (.int .i64 (be)))]]) (n0:=(ae+62).toNat) ⟨an,ae,⟨rfl,by omega,by omega,.inl rfl,by omega,fun _=>rfl⟩,rfl,rfl,rfl⟩ ?_)
 rintro m Fr H ⟨n,e,D1,rfl,rfl,rfl⟩
 have d1:=D1.lo
 have d2:=D1.small
 have d3:=D1.hi
 by_cases e1:be<e
 case neg =>
  have X1:e≤be∨n=0∨2147483648≤n∨n ≤ -2147483648:=.inl (by omega)
  repeat' (with_reducible first|refine qq ?_|refine AaE ?_)
  refine AQ (Bu 2) (Aq (fun m Fr H=>∃ n2 e2:Int,Qw n2 e2 bn be e∧m=(e2+62).toNat∧Fr=ofL [(2,vr 0),(3,vr 1)]∧H=[.box 61 [.d (.val (.int .i64 (n))),.d (.val (.int .i64 (e)))],.box 61 [.d (.val (.int .i64 (n2))),.d (.val (.int .i64 (e2)))]]) (n0:=(be+62).toNat) ⟨bn,be,⟨rfl,by omega,by omega,.inl rfl,by omega,fun _=>rfl⟩,rfl,rfl,rfl⟩ ?_)
  rintro m Fr H ⟨n2,e2,D2,rfl,rfl,rfl⟩
  have f1:=D2.lo
  have f2:=D2.small
  have f3:=D2.hi
  by_cases g1:e<e2
  case neg =>
   repeat' (with_reducible first|refine qq ?_|refine SL ?_)
   rw [FQ D1 X1 D2 (.inl (by omega)) ⟨a0,a1⟩ ⟨b0,b1⟩,Cw]
   exact Ol
  by_cases g2:n2=0
  case pos =>
   repeat' (with_reducible first|refine qq ?_|refine SL ?_|refine AdN ?_)
   rw [FQ D1 X1 D2 (.inr (.inl g2)) ⟨a0,a1⟩ ⟨b0,b1⟩,Cw]
   exact Ol
  by_cases g3:2147483648≤n2
  case pos =>
   repeat' (with_reducible first|refine qq ?_|refine SL ?_|refine AdN ?_)
   rw [FQ D1 X1 D2 (.inr (.inr (.inl g3))) ⟨a0,a1⟩ ⟨b0,b1⟩,Cw]
   exact Ol
  by_cases g4:n2 ≤ -2147483648
  case pos =>
   repeat' (with_reducible first|refine qq ?_|refine SL ?_|refine AdN ?_)
   rw [FQ D1 X1 D2 (.inr (.inr (.inr g4))) ⟨a0,a1⟩ ⟨b0,b1⟩,Cw]
   exact Ol
  repeat' (with_reducible first|refine qq ?_|refine SL ?_|refine AdN ?_|(refine Tx 6 ?_;refine gO xF <| gO xD <| gO (by exact Iy rfl rfl rfl (by omega)) <| gO xF <| gO xD <| gO xSb <| gO xF <| gZ AdP <| gO xF <| gZ AdP ?_))
  refine ⟨_,_,Bu 2,_,by omega,2*n2,e2 - 1,VE D2 ⟨by omega,by omega⟩ g1 (by omega),rfl,rfl,rfl⟩
 by_cases e2:n=0
 case pos =>
  have X1:e≤be∨n=0∨2147483648≤n∨n ≤ -2147483648:=.inr (.inl e2)
  repeat' (with_reducible first|refine qq ?_|refine AaE ?_|refine AdO ?_)
  refine AQ (Bu 2) (Aq (fun m Fr H=>∃ n2 e2:Int,Qw n2 e2 bn be e∧m=(e2+62).toNat∧Fr=ofL [(2,vr 0),(3,vr 1)]∧H=[.box 61 [.d (.val (.int .i64 (n))),.d (.val (.int .i64 (e)))],.box 61 [.d (.val (.int .i64 (n2))),.d (.val (.int .i64 (e2)))]]) (n0:=(be+62).toNat) ⟨bn,be,⟨rfl,by omega,by omega,.inl rfl,by omega,fun _=>rfl⟩,rfl,rfl,rfl⟩ ?_)
  rintro m Fr H ⟨n2,e2,D2,rfl,rfl,rfl⟩
  have f1:=D2.lo
  have f2:=D2.small
  have f3:=D2.hi
  by_cases g1:e<e2
  case neg =>
   repeat' (with_reducible first|refine qq ?_|refine SL ?_)
   rw [FQ D1 X1 D2 (.inl (by omega)) ⟨a0,a1⟩ ⟨b0,b1⟩,Cw]
   exact Ol
  exact absurd g1 (by omega)
 by_cases e3:2147483648≤n
 case pos =>
  have X1:e≤be∨n=0∨2147483648≤n∨n ≤ -2147483648:=.inr (.inr (.inl e3))
  repeat' (with_reducible first|refine qq ?_|refine AaE ?_|refine AdO ?_)
  refine AQ (Bu 2) (Aq (fun m Fr H=>∃ n2 e2:Int,Qw n2 e2 bn be e∧m=(e2+62).toNat∧Fr=ofL [(2,vr 0),(3,vr 1)]∧H=[.box 61 [.d (.val (.int .i64 (n))),.d (.val (.int .i64 (e)))],.box 61 [.d (.val (.int .i64 (n2))),.d (.val (.int .i64 (e2)))]]) (n0:=(be+62).toNat) ⟨bn,be,⟨rfl,by omega,by omega,.inl rfl,by omega,fun _=>rfl⟩,rfl,rfl,rfl⟩ ?_)
  rintro m Fr H ⟨n2,e2,D2,rfl,rfl,rfl⟩
  have f1:=D2.lo
  have f2:=D2.small
  have f3:=D2.hi
  by_cases g1:e<e2
  case neg =>
   repeat' (with_reducible first|refine qq ?_|refine SL ?_)
   rw [FQ D1 X1 D2 (.inl (by omega)) ⟨a0,a1⟩ ⟨b0,b1⟩,Cw]
   exact Ol
  exact absurd g1 (by omega)
 by_cases e4:n ≤ -2147483648
 case pos =>
  have X1:e≤be∨n=0∨2147483648≤n∨n ≤ -2147483648:=.inr (.inr (.inr e4))
  repeat' (with_reducible first|refine qq ?_|refine AaE ?_|refine AdO ?_)
  refine AQ (Bu 2) (Aq (fun m Fr H=>∃ n2 e2:Int,Qw n2 e2 bn be e∧m=(e2+62).toNat∧Fr=ofL [(2,vr 0),(3,vr 1)]∧H=[.box 61 [.d (.val (.int .i64 (n))),.d (.val (.int .i64 (e)))],.box 61 [.d (.val (.int .i64 (n2))),.d (.val (.int .i64 (e2)))]]) (n0:=(be+62).toNat) ⟨bn,be,⟨rfl,by omega,by omega,.inl rfl,by omega,fun _=>rfl⟩,rfl,rfl,rfl⟩ ?_)
  rintro m Fr H ⟨n2,e2,D2,rfl,rfl,rfl⟩
  have f1:=D2.lo
  have f2:=D2.small
  have f3:=D2.hi
  by_cases g1:e<e2
  case neg =>
   repeat' (with_reducible first|refine qq ?_|refine SL ?_)
   rw [FQ D1 X1 D2 (.inl (by omega)) ⟨a0,a1⟩ ⟨b0,b1⟩,Cw]
   exact Ol
  exact absurd g1 (by omega)
 repeat' (with_reducible first|refine qq ?_|refine AaE ?_|refine AdO ?_|(refine Tx 3 ?_;refine gO xF <| gO xD <| gO (by exact Iy rfl rfl rfl (by omega)) <| gO xF <| gO xD <| gO xSb <| gO xF <| gZ AdP <| gO xF <| gZ AdP ?_))
 refine ⟨_,_,Bu 2,_,by omega,2*n,e - 1,VE D1 ⟨by omega,by omega⟩ e1 (by omega),rfl,rfl,rfl⟩
theorem AdQ (k:p') (h:Hd9 p'→p:=by with_reducible first|(intro Z9;refine Tx 0 ?_;refine gN xBo <| gN xBo <| gO xA ?_;exact Z9.o)|(intro Z9;refine Tx 1 ?_;refine gO xF <| gO xD <| gO (xCl func167 (AR)) <| gO xA ?_;exact Z9.o)|(intro Z9;refine Tx 2 ?_;refine gO xM <| gO xLt ?_;exact Z9.o)|fail):p:=h ⟨k⟩
theorem Aml (k:p') (h:Hd9 p'→p:=by with_reducible first|(intro Z9;refine Tx 6 ?_;refine gO xF <| gO xD <| gO xN <| gO xA ?_;exact Z9.o)|(intro Z9;refine Tx 7 ?_;refine gO xF <| gO xD <| gO xEq ?_;exact Z9.o)|(intro Z9;refine Tx 9 ?_;refine gO xF <| gO xD <| gO xN <| gO xM ?_;exact Z9.o)|fail):p:=h ⟨k⟩
theorem QZ (k:p') (h:Hd9 p'→p:=by with_reducible first|(intro Z9;refine Tx 10 ?_;refine gO xLt ?_;exact Z9.o)|fail):p:=h ⟨k⟩
theorem AiJ (k:p') (h:Hd9 p'→p:=by with_reducible first|(intro Z9;refine Tx 11 ?_;refine gO (xIr Ad (AI hz)) <| gO xD <| gO xA ?_;exact Z9.o)|(intro Z9;refine Tx 12 ?_;refine gO xM <| gO xM <| gO xSb <| gO (xCl func76 (WI)) <| gO UC ?_;exact Z9.o)|fail):p:=h ⟨k⟩
theorem Amm (h:p:=by first|exact xCl func168 (SV)|exact xCl func168 (SU)):p:=h
theorem XG (k:p') (h:Hd9 p'→p:=by with_reducible first|(intro Z9;refine Tx 15 ?_;refine gO xF <| gO xD <| gO xEq <| gO xA ?_;exact Z9.o)|(intro Z9;refine Tx 16 ?_;refine gO xF <| gO xL <| gO xM <| gO xM ?_;(first|iterate 3 refine Jd ?_|(refine Jy (xFa Ed AE) ?_;refine Jy (xLd AE) ?_;refine Jy xEq ?_));refine gO xPk <| gO xM ?_;(first|iterate 3 refine Jd ?_|(refine Jy (xFa Ed AE) ?_;refine Jy (xLd AE) ?_;refine Jy xEq ?_));refine gO xPk <| gO xM ?_;(first|iterate 3 refine Jd ?_|(refine Jy (xFa Ed AE) ?_;refine Jy (xLd AE) ?_;refine Jy xEq ?_));refine gO xPk <| gO Amm <| gO xA ?_;exact Z9.o)|(intro Z9;refine Tx 17 ?_;refine gO xM <| gO xNe ?_;exact Z9.o)|fail):p:=h ⟨k⟩
theorem AaF (k:p') (h:Hd9 p'→p:=by with_reducible first|(intro Z9;refine Tx 19 ?_;refine gO xF <| gO xL <| gO xM <| gO Amm <| gO xA ?_;exact Z9.o)|(intro Z9;refine Tx 20 ?_;refine gO xM <| gO xNe ?_;exact Z9.o)|fail):p:=h ⟨k⟩
theorem Apb (k:p') (h:Hd9 p'→p:=by with_reducible first|(intro Z9;refine Tx 22 ?_;refine gO xM <| gO xM ?_;(first|iterate 4 refine Jd ?_|(refine Jy (xFa Ex AU) ?_;refine Jy (xLa AU) ?_;refine Jy (xFa Ee AU) ?_;refine Jy (xLa AU) ?_));refine Jd ?_;(first|refine Jd ?_|refine Jy xGt ?_);refine gO xPk ?_;exact Z9.o)|fail):p:=h ⟨k⟩
theorem Amn (k:p') (h:Hd9 p'→p:=by with_reducible first|(intro Z9;refine Tx 22 ?_;refine gO xM <| gO xM ?_;(first|iterate 6 refine Jd ?_|(refine Jy (xFa Ex AU) ?_;refine Jy (xLa AU) ?_;refine Jy (xFa Ee AU) ?_;refine Jy (xLa AU) ?_;refine Jy (xCl func169 (CM)) ?_;refine Jy xGt ?_));refine gO xPk ?_;exact Z9.o)|fail):p:=h ⟨k⟩
theorem SN (h:p:=by
 rw [h4] at SV
 by_cases h5:Cm y.un y.ue false=0
 case neg =>
  rw [be5 h1 h2 hM hf hv h4 hc h5]
  repeat' (with_reducible first|refine qq ?_|refine QZ ?_|refine XG ?_|refine AaF ?_|(refine Tx 21 ?_;refine gO xM <| gO xA ?_))
  exact Ax rfl (.cons_ (Qu rfl rfl) .nil_)
 rw [h5] at SU
 rw [be7 h1 h2 hM hf hv h4 hc h5 (fun h=>by cases h.1)]
 repeat' (with_reducible first|refine qq ?_|refine QZ ?_|refine XG ?_|refine AaF ?_|refine Apb ?_|(refine Tx 24 ?_;refine gO xA ?_))
 exact Ax rfl (.cons_ (Qu rfl (rfl)) .nil_)):p:=h
theorem PE (h:p:=by
 rw [be4 h1 h2 hM hf hv h4]
 repeat' (with_reducible first|refine qq ?_|refine QZ ?_|refine XG ?_|(refine Tx 18 ?_;refine gO xM <| gO xA ?_))
 exact Ax rfl (.cons_ (Qu rfl rfl) .nil_)):p:=h
theorem Afv (h:p:=by
 rw [decide_eq_true (by omega)] at WI
 obtain ⟨z0,z1⟩:=hb
 repeat' (with_reducible first|refine qq ?_|refine QZ ?_|refine AiJ ?_|(refine Tx 14 ?_;refine gO xAd <| gO xM ?_))
 refine ⟨_,_,Ls _ 2 ?_ ?_ ?_,_,by omega,k+1,by omega,rfl,VO hz ⟨z0,z1⟩ hf,rfl,rfl⟩
 ·rfl
 ·exact mB rfl rfl
 ·exact ⟨CN rfl,CN rfl,trivial⟩):p:=h
theorem AaG (t:Bool) {ps:List Prt} {bs:List Bk} {os:List Int} (hl:EB ps bs os) (y:Bk) (hyl:y.args.length≤1000000):CV prog Ah 77 [aDg t ps bs os,.agg (dBk t y)] [aI (BR ps.length bs.length y)]:=by
 refine cvz func77 ntmps77 ?_
 have AR:=AaC y.kind
 have SV:=PD y.vn y.ve (OJ y.kind)
 have SU:=PD y.un y.ue (Ii y.kind)
 have hl1:=hl.l1
 have hl2:=hl.l2
 by_cases h1:Bp y.kind<0
 case pos =>
  rw [be1 h1]
  repeat' (with_reducible first|refine qq ?_|refine AdQ ?_|(refine Tx 3 ?_;refine gO xA ?_))
  exact CQ
 by_cases h2:((y.args.length:Nat):Int)=Bp y.kind
 case neg =>
  rw [be2 h1 h2]
  repeat' (with_reducible first|refine qq ?_|refine AdQ ?_|(refine Tx 4 ?_;refine gO xF <| gO xD <| gO xN <| gO xM <| gO xNe ?_)|(refine Tx 5 ?_;refine gO xA ?_))
  exact CQ
 have hA2:y.args.length≤2:=by unfold Bp at h2;(repeat' split at h2) <;> omega
 by_cases k0:y.kind=0
 case pos =>
  have hM:Ei ps.length bs.length y.kind=ps.length:=if_pos k0
  repeat' (with_reducible first|refine qq ?_|refine AdQ ?_|(refine Tx 4 ?_;refine gO xF <| gO xD <| gO xN <| gO xM <| gO xNe ?_)|refine Aml ?_|(refine Tx 8 ?_;refine gO xF <| gO xD <| gO xN <| gO xA ?_))
  refine AQ (Bu 2) (Aq (fun n Fr H=>∃ k:Nat,k≤y.args.length∧n=y.args.length - k∧Ap ((y.args.map (Mf ps.length)).take k)=0∧Fr=ofL [(2,vr 0),(3,vr 1),(6,vi ps.length),(32,vd (Bd t y.args)),(33,vi y.args.length),(34,vi ((k:Nat)))]∧H=[.box 26 [.d (DJ t ps),.d (Dc t bs),.d (Bd t os)],.box 63 [.d (.val (.int .i64 y.kind)),.d (Bd t y.args),.d (.val (.int .i64 y.vn)),.d (.val (.int .i64 y.ve)),.d (.val (.int .i64 y.un)),.d (.val (.int .i64 y.ue))]]) (n0:=y.args.length) ⟨0,ad _,rfl,rfl,rfl,rfl⟩ ?_)
  rintro n Fr H ⟨k,hk,rfl,hf,rfl,rfl⟩
  by_cases hlt:k<y.args.length
  case pos =>
   obtain ⟨z,hz⟩:∃ z,y.args[k]?=some z:=⟨_,gE hlt⟩
   have WI:=Ev z 0 ((ps.length:Nat) - 1)
   unfold Ig at WI
   by_cases hb:0≤z∧z<((ps.length:Nat):Int)
   case neg =>
    rw [be3 h1 h2 hM (Qz hz hb hf)]
    rw [decide_eq_false (by omega)] at WI
    repeat' (with_reducible first|refine qq ?_|refine QZ ?_|refine AiJ ?_|(refine Tx 13 ?_;refine gO xA ?_))
    exact CQ
   exact Afv
  obtain rfl:k=y.args.length:=by omega
  rw [al (by rw [af];exact aa _)] at hf
  clear hlt hk
  generalize hv:OJ y.kind=vu at SV
  generalize hc:Ii y.kind=cu at SU
  have hv1:vu=false:=by rw [←hv,k0];rfl
  have hc1:cu=false:=by rw [←hc,k0];rfl
  subst hv1 hc1
  by_cases h4:Cm y.vn y.ve false=0
  case neg =>
   exact PE
  exact SN
 case neg =>
  have hM:Ei ps.length bs.length y.kind=bs.length:=if_neg k0
  repeat' (with_reducible first|refine qq ?_|refine AdQ ?_|(refine Tx 4 ?_;refine gO xF <| gO xD <| gO xN <| gO xM <| gO xNe ?_)|refine Aml ?_)
  refine AQ (Bu 2) (Aq (fun n Fr H=>∃ k:Nat,k≤y.args.length∧n=y.args.length - k∧Ap ((y.args.map (Mf bs.length)).take k)=0∧Fr=ofL [(2,vr 0),(3,vr 1),(6,vi bs.length),(32,vd (Bd t y.args)),(33,vi y.args.length),(34,vi ((k:Nat)))]∧H=[.box 26 [.d (DJ t ps),.d (Dc t bs),.d (Bd t os)],.box 63 [.d (.val (.int .i64 y.kind)),.d (Bd t y.args),.d (.val (.int .i64 y.vn)),.d (.val (.int .i64 y.ve)),.d (.val (.int .i64 y.un)),.d (.val (.int .i64 y.ue))]]) (n0:=y.args.length) ⟨0,ad _,rfl,rfl,rfl,rfl⟩ ?_)
  rintro n Fr H ⟨k,hk,rfl,hf,rfl,rfl⟩
  by_cases hlt:k<y.args.length
  case pos =>
   obtain ⟨z,hz⟩:∃ z,y.args[k]?=some z:=⟨_,gE hlt⟩
   have WI:=Ev z 0 ((bs.length:Nat) - 1)
   unfold Ig at WI
   by_cases hb:0≤z∧z<((bs.length:Nat):Int)
   case neg =>
    rw [be3 h1 h2 hM (Qz hz hb hf)]
    rw [decide_eq_false (by omega)] at WI
    repeat' (with_reducible first|refine qq ?_|refine QZ ?_|refine AiJ ?_|(refine Tx 13 ?_;refine gO xA ?_))
    exact CQ
   exact Afv
  obtain rfl:k=y.args.length:=by omega
  rw [al (by rw [af];exact aa _)] at hf
  clear hlt hk
  generalize hv:OJ y.kind=vu at SV
  generalize hc:Ii y.kind=cu at SU
  by_cases k11:y.kind=11
  case pos =>
   have hv1:vu=true:=by rw [←hv,k11];rfl
   have hc1:cu=true:=by rw [←hc,k11];rfl
   subst hv1 hc1
   by_cases h4:Cm y.vn y.ve true=0
   case neg =>
    exact PE
   rw [h4] at SV
   by_cases h5:Cm y.un y.ue true=0
   case neg =>
    rw [be5 h1 h2 hM hf hv h4 hc h5]
    repeat' (with_reducible first|refine qq ?_|refine QZ ?_|refine XG ?_|refine AaF ?_|(refine Tx 21 ?_;refine gO xM <| gO xA ?_))
    exact IR
   rw [h5] at SU
   have o1:=NF h4
   have o2:=NF h5
   have CM:=AiI y.vn y.ve y.un y.ue o1 o2
   generalize hq:Me y.vn y.ve y.un y.ue=q at CM
   by_cases h6:0<q
   case pos =>
    rw [be6 h1 h2 hM hf hv h4 hc h5 ⟨rfl,by rw [hq];exact h6⟩]
    repeat' (with_reducible first|refine qq ?_|refine QZ ?_|refine XG ?_|refine AaF ?_|refine Amn ?_|(refine Tx 23 ?_;refine gO xA ?_))
    exact CQ
   rw [be7 h1 h2 hM hf hv h4 hc h5 (fun h=>h6 (by rw [←hq];exact h.2))]
   repeat' (with_reducible first|refine qq ?_|refine QZ ?_|refine XG ?_|refine AaF ?_|refine Amn ?_|(refine Tx 24 ?_;refine gO xA ?_))
   exact CQ
  have hc1:cu=false:=by rw [←hc];exact DN k11
  subst hc1
  by_cases kv:y.kind=1∨y.kind=2∨y.kind=6
  case pos =>
   have hv1:vu=true:=by rw [←hv];rcases kv with h|h|h <;> (rw [h];rfl)
   subst hv1
   rcases kv with kv|kv|kv
   ·
    by_cases h4:Cm y.vn y.ve true=0
    case neg =>
     exact PE
    exact SN
   ·
    by_cases h4:Cm y.vn y.ve true=0
    case neg =>
     exact PE
    exact SN
   ·
    by_cases h4:Cm y.vn y.ve true=0
    case neg =>
     exact PE
    exact SN
  have hv1:vu=false:=by rw [←hv];unfold OJ;rw [DN k11,DN (by omega),DN (by omega),DN (by omega)];rfl
  subst hv1
  by_cases h4:Cm y.vn y.ve false=0
  case neg =>
   exact PE
  exact SN
theorem Afw (h:p:=by
 refine ⟨_,_,Ls _ 2 ?_ ?_ ?_,_,by omega,k+1,by omega,rfl,rfl,rfl⟩
 ·rfl
 ·exact mB rfl rfl
 ·exact ⟨CN rfl,Nx,trivial⟩):p:=h
theorem UE (t:Bool) {ps:List Prt} {bs:List Bk} {os:List Int} (hl:EB ps bs os):CV prog Ah 79 [aDg t ps bs os] [.one (Bd false (BU (Bn bs)))]:=by
 refine cvz func79 ntmps79 ?_
 have hl2:=hl.l2
 have hall:Bn bs=fl (Co bs) bs.length:=rfl
 repeat' (with_reducible first|refine qq ?_|(refine Tx 0 ?_;refine gN xBo <| gO xA ?_)|(refine Tx 1 ?_;refine gO xA ?_))
 refine AQ (IC 3 3 1 rfl) ?_
 repeat' (with_reducible first|refine qq ?_|(refine Tx 2 ?_;refine gO xF <| gO xD <| gO xN <| gO xM ?_))
 refine AQ (Bu 2) (Aq (fun n Fr H=>∃ k:Nat,k≤bs.length∧n=bs.length - k∧Fr=ofL [(1,vr 0),(3,vo 1 ((BU (fl (Co bs) k)).length)),(7,vd (Dc t bs)),(8,vi bs.length),(9,vi ((k:Nat)))]∧H=[.box 26 [.d (DJ t ps),.d (Dc t bs),.d (Bd t os)],.row 3 1 (BU (fl (Co bs) (k))).length (cI (BU (fl (Co bs) (k))))]) (n0:=bs.length) ⟨0,ad _,rfl,rfl,rfl⟩ ?_)
 rintro n Fr H ⟨k,hk,rfl,rfl,rfl⟩
 by_cases hlt:k<bs.length
 case pos =>
  obtain ⟨y,hy⟩:∃ y,bs[k]?=some y:=⟨_,gE hlt⟩
  have hfl:=AhC (Co bs) k
  have hnl:=Cl (fl (Co bs) k)
  by_cases k2:y.kind=2
  case pos =>
   have hd:Co bs k=true:=by unfold Co;rw [Ez hy,k2];rfl
   have hap:(BU (fl (Co bs) (k)))++[(k:Int)]=(BU (fl (Co bs) (k+1))):=by rw [Zm hd,Mu]
   have hap2:(BU (fl (Co bs) (k))).length+1=(BU (fl (Co bs) (k+1))).length:=by rw [←hap,ak];rfl
   repeat' (with_reducible first|refine qq ?_|(refine Tx 3 ?_;refine gO xLt ?_)|(refine Tx 4 ?_;refine gO xM <| gO (xIr Ai (Dj hy)) <| gO xL <| gN (xAl Bt) <| gO xA <| gZ (xSk Bi) ?_)|(refine Tx 5 ?_;refine gO xF <| gO xD <| gO xEq ?_)|(refine Tx 6 ?_;refine gO xM <| gO xM <| gN (by exact Cf rfl Ad CJ rfl rfl (by decide) (by decide)) <| gT (by exact Sj rfl rfl rfl rfl rfl rfl Ad CJ (by omega) (by decide) hap hap2) <| gO xA ?_)|(refine Tx 7 ?_;refine gO xAd <| gO xM ?_))
   exact Afw
  have hd:Co bs k=false:=by unfold Co;rw [Ez hy];exact DN k2
  have hno:(BU (fl (Co bs) (k+1)))=(BU (fl (Co bs) (k))):=by rw [AhB hd]
  repeat' (with_reducible first|refine qq ?_|(refine Tx 3 ?_;refine gO xLt ?_)|(refine Tx 4 ?_;refine gO xM <| gO (xIr Ai (Dj hy)) <| gO xL <| gN (xAl Bt) <| gO xA <| gZ (xSk Bi) ?_)|(refine Tx 5 ?_;refine gO xF <| gO xD <| gO xEq ?_)|(refine Tx 7 ?_;refine gO xAd <| gO xM ?_))
  rw [←hno]
  exact Afw
 obtain rfl:k=bs.length:=by omega
 rw [hall]
 repeat' (with_reducible first|refine qq ?_|(refine Tx 3 ?_;refine gO xLt ?_)|(refine Tx 8 ?_;refine gO xM <| gO xA ?_))
 exact Ax rfl (.cons_ (VS rfl rfl rfl) .nil_)
theorem AaH (t:Bool) (xs:List Int) (z:Int) (hn:xs.length≤1000000):CV prog Ah 170 [.one (Bd t xs),aI z] [aB (xs.contains z)]:=by
 refine cvz func170 ntmps170 ?_
 repeat' (with_reducible first|refine qq ?_|(refine Tx 0 ?_;refine gO xA ?_)|(refine Tx 1 ?_;refine gO xM <| gO xN <| gO xM ?_))
 refine AQ (Bu 0) (Aq (fun n Fr H=>∃ k:Nat,k≤xs.length∧n=xs.length - k∧(xs.take k).contains z=false∧Fr=ofL [(1,vi z),(7,vd (Bd t xs)),(8,vi xs.length),(9,vi ((k:Nat)))]∧H=[]) (n0:=xs.length) ⟨0,ad _,rfl,rfl,rfl,rfl⟩ ?_)
 rintro n Fr H ⟨k,hk,rfl,hc,rfl,rfl⟩
 by_cases hlt:k<xs.length
 case pos =>
  obtain ⟨x,hx⟩:∃ x,xs[k]?=some x:=⟨_,gE hlt⟩
  by_cases he:x=z
  case pos =>
   have hb:xs.contains z=true:=List.contains_iff_mem.2 (by rw [←he];exact gM hx)
   rw [hb]
   repeat' (with_reducible first|refine qq ?_|(refine Tx 2 ?_;refine gO xLt ?_)|(refine Tx 3 ?_;refine gO (xIr Ad (AI hx)) <| gO xD <| gO xA ?_)|(refine Tx 4 ?_;refine gO xM <| gO xM <| gO xEq ?_)|(refine Tx 5 ?_;refine gO xA ?_))
   exact Ax rfl (.cons_ (DD rfl (rfl)) .nil_)
  repeat' (with_reducible first|refine qq ?_|(refine Tx 2 ?_;refine gO xLt ?_)|(refine Tx 3 ?_;refine gO (xIr Ad (AI hx)) <| gO xD <| gO xA ?_)|(refine Tx 4 ?_;refine gO xM <| gO xM <| gO xEq ?_)|(refine Tx 6 ?_;refine gO xAd <| gO xM ?_))
  refine ⟨_,_,Bu 0,_,by omega,k+1,by omega,rfl,(by rw [ay,hx,ff,List.contains_append,hc,di];simp [Ne.symm he]),rfl,rfl⟩
 obtain rfl:k=xs.length:=by omega
 rw [bc] at hc
 rw [hc]
 repeat' (with_reducible first|refine qq ?_|(refine Tx 2 ?_;refine gO xLt ?_)|(refine Tx 7 ?_;refine gO xA ?_))
 exact Ax rfl (.cons_ (DD rfl (rfl)) .nil_)
theorem UF (t:Bool) (y:Bk):CVB prog Ah 171 [.agg (dBk t y)] (Bd t (if y.kind=0 then [] else y.args)):=by
 refine Afc QA func171 ntmps171 (bi rfl) rfl ?_
 by_cases k0:y.kind=0
 case pos =>
  rw [if_pos k0]
  repeat' (with_reducible first|refine qq ?_|(refine Tx 0 ?_;refine gN xBo <| gO xA ?_)|(refine Tx 1 ?_;refine gO xF <| gO xD <| gO xEq ?_)|(refine Tx 2 ?_;refine gO xA ?_)|(refine Tx 3 ?_;refine gO xF <| gO xD <| gO xA ?_))
  exact ⟨.inl rfl,_,_,results171,rfl,QB⟩
 rw [if_neg k0]
 repeat' (with_reducible first|refine qq ?_|(refine Tx 0 ?_;refine gN xBo <| gO xA ?_)|(refine Tx 1 ?_;refine gO xF <| gO xD <| gO xEq ?_)|(refine Tx 2 ?_;refine gO xA ?_)|(refine Tx 3 ?_;refine gO xF <| gO xD <| gO xA ?_))
 exact ⟨.inl rfl,_,_,results171,rfl,fun _ _ _ h=>h⟩
theorem AiK (k:p') (h:Hd9 p'→p:=by with_reducible first|(intro Z9;refine Tx 5 ?_;refine gO xM <| gO (xIr Ai (Dj hy)) <| gO xL <| gN (xAl Bt) <| gO xA <| gZ (xSk Bi) ?_;exact Z9.o)|(intro Z9;refine Tx 6 ?_;refine gO xF <| gO xD <| gO xEq <| gO xM ?_;(first|iterate 3 refine Jd ?_|(refine Jy xM1 ?_;refine Jy xM1 ?_;refine Jy (xCl func170 HC (ha:=by with_unfolding_all first|((repeat' first|exact Bh rfl rfl|refine Au rfl rfl ?_ ?_|refine DM rfl rfl ?_|refine BW rfl rfl ?_|exact AX rfl (fun h=>by cases h)|exact VT rfl rfl rfl rfl) <;> fail)|fail)) ?_));refine gO xPk ?_;exact Z9.o)|fail):p:=h ⟨k⟩
theorem AiL (k:p') (h:Hd9 p'→p:=by with_reducible first|(intro Z9;refine Tx 10 ?_;refine gO (xIr Ad (AI hz)) <| gO xD <| gO xA ?_;exact Z9.o)|(intro Z9;refine Tx 11 ?_;refine gO xM <| gO xM ?_;(first|iterate 8 refine Jd ?_|(refine Jy (xFa BO AP) ?_;refine Jy (xLd AP) ?_;refine Jy xM1 ?_;refine Jy (by exact Po (i:=z.toNat) rfl rfl rfl hzn Ai (by omega) (by decide) (Dj hx)) ?_;refine Jy (xFa Ed AE) ?_;refine Jy (xLd AE) ?_;refine Jy xEq ?_;refine Jy xM1 ?_));(first|iterate 3 refine Jd ?_|(refine Jy xM1 ?_;refine Jy xM1 ?_;refine Jy (xCl func170 HZ (ha:=by with_unfolding_all first|((repeat' first|exact Bh rfl rfl|refine Au rfl rfl ?_ ?_|refine DM rfl rfl ?_|refine BW rfl rfl ?_|exact AX rfl (fun h=>by cases h)|exact VT rfl rfl rfl rfl) <;> fail)|fail)) ?_));(first|refine Jd ?_|refine Jy xPk ?_);refine gO xPk <| gO xA ?_;exact Z9.o)|(intro Z9;refine Tx 12 ?_;refine gO xAd <| gO xM ?_;exact Z9.o)|fail):p:=h ⟨k⟩
theorem AaI (h:p:=by
 refine ⟨_,_,Ls _ 2 ?_ ?_ ?_,_,by omega,k+1,by omega,rfl,hN.succ hr,rfl,rfl⟩
 ·rfl
 ·exact mB rfl rfl
 ·exact ⟨CN rfl,Nx,trivial⟩):p:=h
theorem Afx (h:p:=by
 refine ⟨_,_,Ls _ 2 ?_ ?_ ?_,_,by omega,u+1,_,by omega,rfl,by rw [hst,←hb,hdz];try rfl,rfl,rfl⟩
 ·rfl
 ·exact mB rfl rfl
 ·exact ⟨CN rfl,Nx,trivial⟩):p:=h
theorem XH (t:Bool) {ps:List Prt} {bs:List Bk} {os:List Int} (hl:EB ps bs os) (hS:Vy bs):CV prog Ah 78 [aDg t ps bs os] [.one (Bd false (BU (Dd bs)))]:=by
 refine cvz func78 ntmps78 ?_
 have hl2:=hl.l2
 have hnd:=Gv bs
 repeat' (with_reducible first|refine qq ?_|(refine Tx 0 ?_;refine gN xBo <| gO xA ?_)|(refine Tx 1 ?_;refine gO xA ?_))
 refine AQ (IC 3 3 1 rfl) ?_
 refine AQ (Bu 2) (Aq (fun n Fr H=>∃ out:List Nat,Ih bs out∧n=Db bs - out.length∧Fr=ofL [(1,vr 0),(3,vo 1 ((BU out).length))]∧H=[.box 26 [.d (DJ t ps),.d (Dc t bs),.d (Bd t os)],.row 3 1 (BU out).length (cI (BU out))]) (n0:=Db bs) ⟨[],Ih.nil bs,rfl,rfl,rfl⟩ ?_)
 rintro n Fr H ⟨out,hO,rfl,rfl,rfl⟩
 have hle:=hO.ok.le
 have hnl:=Cl out
 repeat' (with_reducible first|refine qq ?_|(refine Tx 2 ?_;refine gO xA ?_)|(refine Tx 3 ?_;refine gO xF <| gO xD <| gO xN <| gO xM ?_))
 refine AQ (Bu 2) (Aq (fun n Fr H=>∃ k:Nat,k≤bs.length∧n=bs.length - k∧Qx bs out k∧Fr=ofL [(1,vr 0),(3,vo 1 ((BU out).length)),(4,vi (-1)),(11,vd (Dc t bs)),(12,vi bs.length),(13,vi ((k:Nat)))]∧H=[.box 26 [.d (DJ t ps),.d (Dc t bs),.d (Bd t os)],.row 3 1 (BU out).length (cI (BU out))]) (n0:=bs.length) ⟨0,ad _,rfl,Qx.zero bs out,rfl,rfl⟩ ?_)
 rintro n Fr H ⟨k,hk,rfl,hN,rfl,rfl⟩
 by_cases hlt:k<bs.length
 case pos =>
  obtain ⟨y,hy⟩:∃ y,bs[k]?=some y:=⟨_,gE hlt⟩
  have HC:=AaH true (BU out) (k:Int) (by omega)
  rw [VK] at HC
  have hdb:=VN (out:=out) hy
  generalize out.contains k=ck at HC hdb
  by_cases k2:y.kind=2
  case pos =>
   have hr:rdy bs out k=false:=by rw [NC,hdb,k2];rfl
   repeat' (with_reducible first|refine qq ?_|(refine Tx 4 ?_;refine gO xLt ?_)|refine AiK ?_|(refine Tx 15 ?_;refine gO xAd <| gO xM ?_))
   exact AaI
  rw [DN k2,di] at hdb
  cases ck
  case true =>
   have hr:rdy bs out k=false:=by rw [NC,hdb];rfl
   repeat' (with_reducible first|refine qq ?_|(refine Tx 4 ?_;refine gO xLt ?_)|refine AiK ?_|(refine Tx 15 ?_;refine gO xAd <| gO xM ?_))
   exact AaI
  have hrd:rdy bs out k=(Md bs k).all fun z=>En bs out z.toNat:=by rw [NC,hdb];rfl
  have BF:=UF t y
  obtain ⟨xs,hxs⟩:∃ xs,Md bs k=xs:=⟨_,rfl⟩
  rw [←Mt hy,hxs] at BF
  have hxl:xs.length≤1000000:=by rw [←hxs,Mt hy];have:=hl.la y (gM hy);split <;> first|exact this|exact ad _
  have hbd:∀ z∈xs,0≤z∧z<(bs.length:Int):=fun z hz=>hS k hlt z (by rw [hxs];exact hz)
  rw [hxs] at hrd
  repeat' (with_reducible first|refine qq ?_|(refine Tx 4 ?_;refine gO xLt ?_)|refine AiK ?_|(refine Tx 7 ?_;refine gO xA ?_)|(refine Tx 8 ?_;refine gO xL <| gO (xCb func171 BF) <| gO xN <| gO xM ?_))
  refine AQ (Bu 2) (Aq (fun n Fr H=>∃ (u:Nat) (b:Bool),u≤xs.length∧n=xs.length - u∧b=AhD bs out xs u∧Fr=ofL [(1,vr 0),(3,vo 1 ((BU out).length)),(4,vi (-1)),(5,vi ((k:Nat))),(7,vd (.val (.bool b))),(11,vd (Dc t bs)),(12,vi bs.length),(13,vi ((k:Nat))),(27,vd (Bd t xs)),(28,vi xs.length),(29,vi ((u:Nat)))]∧H=[.box 26 [.d (DJ t ps),.d (Dc t bs),.d (Bd t os)],.row 3 1 (BU out).length (cI (BU out))]) (n0:=xs.length) ⟨0,true,ad _,rfl,rfl,rfl,rfl⟩ ?_)
  rintro n Fr H ⟨u,b,hu,rfl,hb,rfl,rfl⟩
  by_cases hlu:u<xs.length
  case pos =>
   obtain ⟨z,hz⟩:∃ z,xs[u]?=some z:=⟨_,gE hlu⟩
   obtain ⟨z0,z1⟩:=hbd z (gM hz)
   obtain ⟨x,hx⟩:∃ x,bs[z.toNat]?=some x:=⟨_,gE (by omega)⟩
   have hst:=Sr (bs:=bs) (out:=out) hz
   have HZ:=AaH true (BU out) z (by omega)
   have ez:(BU out).contains z=out.contains z.toNat:=by rw [←VK,Int.toNat_of_nonneg z0]
   rw [ez] at HZ
   have hdz:=VN (out:=out) hx
   generalize out.contains z.toNat=cz at HZ hdz
   have hzn:z=((z.toNat:Nat):Int):=(Int.toNat_of_nonneg z0).symm
   cases b
   case false =>
    repeat' (with_reducible first|refine qq ?_|(refine Tx 9 ?_;refine gO xLt ?_)|refine AiL ?_)
    refine ⟨_,_,Bu 2,_,by omega,u+1,_,by omega,rfl,by rw [hst,←hb];try rfl,rfl,rfl⟩
   by_cases x2:x.kind=2
   case pos =>
    rw [x2] at hdz
    repeat' (with_reducible first|refine qq ?_|(refine Tx 9 ?_;refine gO xLt ?_)|refine AiL ?_)
    exact Afx
   rw [DN x2,di] at hdz
   repeat' (with_reducible first|refine qq ?_|(refine Tx 9 ?_;refine gO xLt ?_)|refine AiL ?_)
   exact Afx
  obtain rfl:u=xs.length:=by omega
  rw [VM (aa _),←hrd] at hb
  cases b
  case false =>
   have hr:=hb.symm
   repeat' (with_reducible first|refine qq ?_|(refine Tx 9 ?_;refine gO xLt ?_)|(refine Tx 13 ?_;refine gO xM ?_)|(refine Tx 15 ?_;refine gO xAd <| gO xM ?_))
   exact AaI
  have hnx:=AkZ hlt hN hb.symm
  have hO2:=hO.push hnx
  have hlt2:=hO.lt hnx
  have hap:BU out++[(k:Int)]=BU (out++[k]):=(Mu out k).symm
  have hap2:(BU out).length+1=(BU (out++[k])).length:=by rw [Cl,Cl,ak];rfl
  repeat' (with_reducible first|refine qq ?_|(refine Tx 9 ?_;refine gO xLt ?_)|(refine Tx 13 ?_;refine gO xM ?_)|(refine Tx 14 ?_;refine gO xM <| gO xA ?_)|(refine Tx 16 ?_;refine gO xM <| gO xLt ?_)|(refine Tx 18 ?_;refine gO xM <| gO xM <| gN (by exact Cf rfl Ad CJ rfl rfl (by decide) (by decide)) <| gT (by exact Sj rfl rfl rfl rfl rfl rfl Ad CJ (by omega) (by decide) hap hap2) <| gO xA ?_))
  refine ⟨_,_,Bu 2,_,(by rw [ak];show Db bs - (out.length+1)<_;omega),out++[k],hO2,rfl,rfl,rfl⟩
 obtain rfl:k=bs.length:=by omega
 have hod:=hO.done (AcR hN)
 rw [hod]
 repeat' (with_reducible first|refine qq ?_|(refine Tx 4 ?_;refine gO xLt ?_)|(refine Tx 16 ?_;refine gO xM <| gO xLt ?_)|(refine Tx 17 ?_;refine gO xM <| gO xA ?_))
 exact Ax rfl (.cons_ (VS rfl rfl rfl) .nil_)
theorem AdR (k:p') (h:Hd9 p'→p:=by with_reducible first|(intro Z9;refine Tx 0 ?_;refine gN xBo <| gO xA ?_;exact Z9.o)|(intro Z9;refine Tx 1 ?_;refine gO xF <| gO xD <| gO xN <| gO xGt <| gO xM ?_;(first|iterate 4 refine Jd ?_|(refine Jy (xFa BO AP) ?_;refine Jy (xLd AP) ?_;refine Jy (xLn Ai) ?_;refine Jy xGt ?_));refine gO xPk <| gO xM ?_;(first|iterate 4 refine Jd ?_|(refine Jy (xFa FN BJ) ?_;refine Jy (xLd BJ) ?_;refine Jy (xLn Ad) ?_;refine Jy xGt ?_));refine gO xPk ?_;exact Z9.o)|fail):p:=h ⟨k⟩
theorem AaJ (k:p') (h:Hd9 p'→p:=by with_reducible first|(intro Z9;refine Tx 5 ?_;refine gO (xIr Di (NJ hp)) <| gO xL <| gN (xAl Nu) <| gZ (xSk Ic) ?_;exact Z9.o)|(intro Z9;refine Tx 6 ?_;refine gO xF <| gO xD <| gO xLt <| gO xM ?_;(first|iterate 5 refine Jd ?_|(refine Jy (xFa Qs AE) ?_;refine Jy (xLd AE) ?_;refine Jy (xFa IE AE) ?_;refine Jy (xLd AE) ?_;refine Jy xGt ?_));refine gO xPk <| gO xM ?_;(first|iterate 3 refine Jd ?_|(refine Jy (xFa IE AE) ?_;refine Jy (xLd AE) ?_;refine Jy xGe ?_));refine gO xPk <| gO xM ?_;(first|iterate 4 refine Jd ?_|(refine Jy (xFa Ms AE) ?_;refine Jy (xLd AE) ?_;refine Jy (xCl func76 (WI)) ?_;refine Jy UC ?_));refine gO xPk ?_;exact Z9.o)|fail):p:=h ⟨k⟩
theorem Amo (k:p') (h:Hd9 p'→p:=by with_reducible first|(intro Z9;refine Tx 18 ?_;refine gO (xIr Ad (AI hz)) <| gO xD <| gO xA ?_;exact Z9.o)|(intro Z9;refine Tx 19 ?_;refine gO xM <| gO xF <| gO xD <| gO xN <| gO xSb <| gO (xCl func76 (WI)) <| gO UC ?_;exact Z9.o)|fail):p:=h ⟨k⟩
theorem Amp (k:p') (h:Hd9 p'→p:=by with_reducible first|(intro Z9;refine Ca (id:=22) AV (by kernel_rfl) ?_;refine gP xL <| gP (xCl func78 (OR)) <| gP xN <| gP xL <| gP (xCl func79 (DL)) <| gP xN <| gP xAd <| gP xF <| gP xD <| gP xN <| gP xNe ?_;refine Ke ?_;exact Z9.o)|fail):p:=h ⟨k⟩
theorem AaK (t:Bool) {ps:List Prt} {bs:List Bk} {os:List Int} (hl:EB ps bs os):CV prog Ah 25 [aDg t ps bs os] [aI (Bc ps bs os)]:=by
 refine cvz func25 ntmps25 ?_
 have hl1:=hl.l1
 have hl2:=hl.l2
 have hl3:=hl.l3
 by_cases hs:EW ps bs os
 case neg =>
  rw [de0 hs]
  unfold EW at hs
  by_cases c1:ps.length≤16
  case neg =>
   repeat' (with_reducible first|refine qq ?_|refine AdR ?_|(refine Tx 2 ?_;refine gO xA ?_))
   exact CQ
  by_cases c2:bs.length≤64
  case neg =>
   repeat' (with_reducible first|refine qq ?_|refine AdR ?_|(refine Tx 2 ?_;refine gO xA ?_))
   exact CQ
  have c3:¬ os.length≤16:=fun h=>hs ⟨c1,c2,h⟩
  repeat' (with_reducible first|refine qq ?_|refine AdR ?_|(refine Tx 2 ?_;refine gO xA ?_))
  exact CQ
 have hs2:=hs
 unfold EW at hs2
 obtain ⟨c1,c2,c3⟩:=hs2
 repeat' (with_reducible first|refine qq ?_|refine AdR ?_|(refine Tx 3 ?_;refine gO xF <| gO xD <| gO xN <| gO xM ?_))
 refine AQ (Bu 1) (Aq (fun n Fr H=>∃ k:Nat,k≤ps.length∧n=ps.length - k∧Ap ((ps.map EO).take k)=0∧Fr=ofL [(1,vr 0),(27,vd (DJ t ps)),(28,vi ps.length),(29,vi ((k:Nat)))]∧H=[.box 26 [.d (DJ t ps),.d (Dc t bs),.d (Bd t os)]]) (n0:=ps.length) ⟨0,ad _,rfl,rfl,rfl,rfl⟩ ?_)
 rintro n Fr H ⟨k,hk,rfl,hf,rfl,rfl⟩
 by_cases hlt:k<ps.length
 case pos =>
  obtain ⟨p,hp⟩:∃ p,ps[k]?=some p:=⟨_,gE hlt⟩
  have WI:=Ev p.fr 0 30
  unfold Ig at WI
  by_cases he:EO p=0
  case neg =>
   have h3:EO p=3:=by unfold EO at he ⊢;split at he;exact absurd rfl he;rename_i hn;rw [if_neg hn]
   rw [de1 hs (pe1 hp h3 (by decide) hf) (by decide)]
   unfold EO at he
   by_cases q1 : -2147483648≤p.lo
   case neg =>
    repeat' (with_reducible first|refine qq ?_|(refine Tx 4 ?_;refine gO xLt ?_)|refine AaJ ?_|(refine Tx 7 ?_;refine gO xA ?_))
    exact CQ
   by_cases q2:p.lo≤p.hi
   case neg =>
    repeat' (with_reducible first|refine qq ?_|(refine Tx 4 ?_;refine gO xLt ?_)|refine AaJ ?_|(refine Tx 7 ?_;refine gO xA ?_))
    exact CQ
   by_cases q3:p.hi<2147483648
   case neg =>
    repeat' (with_reducible first|refine qq ?_|(refine Tx 4 ?_;refine gO xLt ?_)|refine AaJ ?_|(refine Tx 7 ?_;refine gO xA ?_))
    exact CQ
   have q4:¬ (0≤p.fr∧p.fr≤30):=fun h=>he (if_pos ⟨q1,q2,q3,h.1,h.2⟩)
   rw [decide_eq_false q4] at WI
   repeat' (with_reducible first|refine qq ?_|(refine Tx 4 ?_;refine gO xLt ?_)|refine AaJ ?_|(refine Tx 7 ?_;refine gO xA ?_))
   exact CQ
  have hq:=he
  unfold EO at hq
  by_cases hn : -2147483648≤p.lo∧p.lo≤p.hi∧p.hi<2147483648∧0≤p.fr∧p.fr≤30
  case neg =>
   rw [if_neg hn] at hq
   cases hq
  obtain ⟨q1,q2,q3,q4,q5⟩:=hn
  rw [decide_eq_true ⟨q4,q5⟩] at WI
  repeat' (with_reducible first|refine qq ?_|(refine Tx 4 ?_;refine gO xLt ?_)|refine AaJ ?_|(refine Tx 8 ?_;refine gO xAd <| gO xM ?_))
  refine ⟨_,_,Bu 1,_,by omega,k+1,by omega,rfl,fs1 hp he hf,rfl,rfl⟩
 obtain rfl:k=ps.length:=by omega
 have hP:=hf
 rw [al (by rw [af];exact aa _)] at hP
 clear hlt hk hf
 repeat' (with_reducible first|refine qq ?_|(refine Tx 4 ?_;refine gO xLt ?_)|(refine Tx 9 ?_;refine gO xF <| gO xD <| gO xN <| gO xM ?_))
 refine AQ (Bu 1) (Aq (fun n Fr H=>∃ k:Nat,k≤bs.length∧n=bs.length - k∧Ap ((bs.map (BR ps.length bs.length)).take k)=0∧Fr=ofL [(1,vr 0),(56,vd (Dc t bs)),(57,vi bs.length),(58,vi ((k:Nat)))]∧H=[.box 26 [.d (DJ t ps),.d (Dc t bs),.d (Bd t os)]]) (n0:=bs.length) ⟨0,ad _,rfl,rfl,rfl,rfl⟩ ?_)
 rintro n Fr H ⟨k,hk,rfl,hf,rfl,rfl⟩
 by_cases hlt:k<bs.length
 case pos =>
  obtain ⟨y,hy⟩:∃ y,bs[k]?=some y:=⟨_,gE hlt⟩
  have BC:=AaG t hl y (hl.la y (gM hy))
  generalize he:BR ps.length bs.length y=e at BC
  by_cases h0:e=0
  case neg =>
   rw [de1 hs (pe2 hP hy he h0 hf) h0]
   repeat' (with_reducible first|refine qq ?_|(refine Tx 10 ?_;refine gO xLt ?_)|(refine Tx 11 ?_;refine gO (xIr Ai (Dj hy)) <| gO xL <| gN (xAl Bt) <| gZ (xSk Bi) ?_)|(refine Tx 12 ?_;refine gO xL <| gO xL <| gO (xCl func77 (BC)) <| gO xA ?_)|(refine Tx 13 ?_;refine gO xM <| gO xNe ?_)|(refine Tx 14 ?_;refine gO xM <| gO xA ?_))
   exact IR
  subst h0
  repeat' (with_reducible first|refine qq ?_|(refine Tx 10 ?_;refine gO xLt ?_)|(refine Tx 11 ?_;refine gO (xIr Ai (Dj hy)) <| gO xL <| gN (xAl Bt) <| gZ (xSk Bi) ?_)|(refine Tx 12 ?_;refine gO xL <| gO xL <| gO (xCl func77 (BC)) <| gO xA ?_)|(refine Tx 13 ?_;refine gO xM <| gO xNe ?_)|(refine Tx 15 ?_;refine gO xAd <| gO xM ?_))
  refine ⟨_,_,Bu 1,_,by omega,k+1,by omega,rfl,fs1 hy he hf,rfl,rfl⟩
 obtain rfl:k=bs.length:=by omega
 have hB:=hf
 rw [al (by rw [af];exact aa _)] at hB
 clear hlt hk hf
 repeat' (with_reducible first|refine qq ?_|(refine Tx 10 ?_;refine gO xLt ?_)|(refine Tx 16 ?_;refine gO xF <| gO xD <| gO xN <| gO xM ?_))
 refine AQ (Bu 1) (Aq (fun n Fr H=>∃ k:Nat,k≤os.length∧n=os.length - k∧Ap ((os.map (Mf bs.length)).take k)=0∧Fr=ofL [(1,vr 0),(70,vd (Bd t os)),(71,vi os.length),(72,vi ((k:Nat)))]∧H=[.box 26 [.d (DJ t ps),.d (Dc t bs),.d (Bd t os)]]) (n0:=os.length) ⟨0,ad _,rfl,rfl,rfl,rfl⟩ ?_)
 rintro n Fr H ⟨k,hk,rfl,hf,rfl,rfl⟩
 by_cases hlt:k<os.length
 case pos =>
  obtain ⟨z,hz⟩:∃ z,os[k]?=some z:=⟨_,gE hlt⟩
  have WI:=Ev z 0 ((bs.length:Nat) - 1)
  unfold Ig at WI
  by_cases hb:0≤z∧z<(bs.length:Int)
  case neg =>
   rw [de1 hs (pe3 hP hB hz (if_neg hb) (by decide) hf) (by decide)]
   rw [decide_eq_false (by omega)] at WI
   repeat' (with_reducible first|refine qq ?_|(refine Tx 17 ?_;refine gO xLt ?_)|refine Amo ?_|(refine Tx 20 ?_;refine gO xA ?_))
   exact CQ
  rw [decide_eq_true (by omega)] at WI
  have hb2:=hb
  obtain ⟨z0,z1⟩:=hb2
  repeat' (with_reducible first|refine qq ?_|(refine Tx 17 ?_;refine gO xLt ?_)|refine Amo ?_|(refine Tx 21 ?_;refine gO xAd <| gO xM ?_))
  refine ⟨_,_,Bu 1,_,by omega,k+1,by omega,rfl,fs1 hz (if_pos hb) hf,rfl,rfl⟩
 obtain rfl:k=os.length:=by omega
 have hO:=hf
 rw [al (by rw [af];exact aa _)] at hO
 clear hlt hk hf
 have hpe:=pe4 hP hB hO
 rw [de2 hs hpe]
 have OR:=XH t hl (Ug hB)
 have DL:=UE t hl
 have e1:=Cl (Dd bs)
 have e2:=Cl (Bn bs)
 have e3:=Ahx bs
 have e4:=Gv bs
 have e5:=Gj.le (Nz bs.length (Gj.nil bs))
 have e5:(Dd bs).length≤Db bs:=e5
 unfold Fo
 by_cases ho:(Dd bs).length=Db bs
 case pos =>
  rw [if_pos ho]
  repeat' (with_reducible first|refine qq ?_|(refine Tx 17 ?_;refine gO xLt ?_)|refine Amp ?_|(refine Tx 24 ?_;refine gO xA ?_))
  exact CQ
 rw [if_neg ho]
 repeat' (with_reducible first|refine qq ?_|(refine Tx 17 ?_;refine gO xLt ?_)|refine Amp ?_|(refine Tx 23 ?_;refine gO xA ?_))
 exact CQ
def LW (ps:List Prt) (bs:List Bk) (os:List Int):Bool:=decide (ps.length≤40∧bs.length≤80∧os.length≤40) && bs.all fun b=>decide (b.args.length≤10)
theorem AdS (k:p') (h:Hd9 p'→p:=by with_reducible first|(intro Z9;refine Tx 0 ?_;refine gN xBo <| gO xA ?_;exact Z9.o)|(intro Z9;refine Tx 1 ?_;refine gO xF <| gO xD <| gO xN <| gO xGt <| gO xM ?_;(first|iterate 4 refine Jd ?_|(refine Jy (xFa BO AP) ?_;refine Jy (xLd AP) ?_;refine Jy (xLn Ai) ?_;refine Jy xGt ?_));refine gO xPk <| gO xM ?_;(first|iterate 4 refine Jd ?_|(refine Jy (xFa FN BJ) ?_;refine Jy (xLd BJ) ?_;refine Jy (xLn Ad) ?_;refine Jy xGt ?_));refine gO xPk ?_;exact Z9.o)|fail):p:=h ⟨k⟩
theorem AaL (h:p:=by
 exact Ax rfl (.cons_ (DD rfl (by unfold LW;rw [decide_eq_false (by omega)];rfl)) .nil_)):p:=h
theorem AaM (t:Bool) (ps:List Prt) (bs:List Bk) (os:List Int):CV prog Ah 31 [aDg t ps bs os] [aB (LW ps bs os)]:=by
 refine cvz func31 ntmps31 ?_
 by_cases cp:40<ps.length
 case pos =>
  repeat' (with_reducible first|refine qq ?_|refine AdS ?_|(refine Tx 2 ?_;refine gO xA ?_))
  exact AaL
 by_cases cb:80<bs.length
 case pos =>
  repeat' (with_reducible first|refine qq ?_|refine AdS ?_|(refine Tx 2 ?_;refine gO xA ?_))
  exact AaL
 by_cases co:40<os.length
 case pos =>
  repeat' (with_reducible first|refine qq ?_|refine AdS ?_|(refine Tx 2 ?_;refine gO xA ?_))
  exact AaL
 repeat' (with_reducible first|refine qq ?_|refine AdS ?_|(refine Tx 3 ?_;refine gO xF <| gO xD <| gO xN <| gO xM ?_))
 refine AQ (Bu 1) (Aq (fun n Fr H=>∃ k:Nat,k≤bs.length∧n=bs.length - k∧(bs.take k).all (fun b:Bk=>decide (b.args.length≤10))=true∧Fr=ofL [(1,vr 0),(22,vd (Dc t bs)),(23,vi bs.length),(24,vi ((k:Nat)))]∧H=[.box 26 [.d (DJ t ps),.d (Dc t bs),.d (Bd t os)]]) (n0:=bs.length) ⟨0,ad _,rfl,rfl,rfl,rfl⟩ ?_)
 rintro n Fr H ⟨k,hk,rfl,hall,rfl,rfl⟩
 by_cases hlt:k<bs.length
 case pos =>
  obtain ⟨y,hy⟩:∃ y,bs[k]?=some y:=⟨_,gE hlt⟩
  by_cases hy10:y.args.length≤10
  case pos =>
   repeat' (with_reducible first|refine qq ?_|(refine Tx 4 ?_;refine gO xLt ?_)|(refine Tx 5 ?_;refine gO (xIr Ai (Dj hy)) <| gO xL <| gN (xAl Bt) <| gZ (xSk Bi) ?_)|(refine Tx 6 ?_;refine gO xF <| gO xD <| gO xN <| gO xGt ?_)|(refine Tx 8 ?_;refine gO xAd <| gO xM ?_))
   refine ⟨_,_,Bu 1,_,?_,k+1,by omega,rfl,VQ hy hall (decide_eq_true hy10),rfl,rfl⟩
   ·omega
  case neg =>
   repeat' (with_reducible first|refine qq ?_|(refine Tx 4 ?_;refine gO xLt ?_)|(refine Tx 5 ?_;refine gO (xIr Ai (Dj hy)) <| gO xL <| gN (xAl Bt) <| gZ (xSk Bi) ?_)|(refine Tx 6 ?_;refine gO xF <| gO xD <| gO xN <| gO xGt ?_)|(refine Tx 7 ?_;refine gO xA ?_))
   exact Ax rfl (.cons_ (DD rfl (by unfold LW;rw [show bs.all (fun b:Bk=>decide (b.args.length≤10))=false from List.all_eq_false.2 ⟨y,gM hy,by rw [decide_eq_false hy10];exact Bool.false_ne_true⟩,Bool.and_false])) .nil_)
 obtain rfl:k=bs.length:=by omega
 rw [bc] at hall
 repeat' (with_reducible first|refine qq ?_|(refine Tx 4 ?_;refine gO xLt ?_)|(refine Tx 9 ?_;refine gO xA ?_))
 exact Ax rfl (.cons_ (DD rfl (by unfold LW;rw [hall,decide_eq_true (by omega)];rfl)) .nil_)
theorem AdT (ps:List Prt) (bs:List Bk) (os:List Int):CV prog Ah 31 [aDg true ps bs os] [aB (LW ps bs os)]:=AaM true ps bs os
theorem AaN (h:LW ps bs os=true):EB ps bs os∧bs.length≤80:=by
 unfold LW at h
 rw [ai] at h
 have h1:=of_decide_eq_true h.1
 exact ⟨⟨by omega,by omega,by omega,fun b hb=>by have:=of_decide_eq_true (List.all_eq_true.1 h.2 b hb);omega⟩,h1.2.1⟩
theorem AaO {p:Int × Nat} {k:Nat} (h:Nf p.1 p.2) (hl:(Ab p.1.natAbs).length≤k) (hn:32*k≤n):Sm p n 65536:=by
 refine ⟨h,?_,h.1⟩
 have hlt:p.1.natAbs<2 ^ (32*(Ab p.1.natAbs).length):=by have:=BE (Ay p.1.natAbs);rw [Am] at this;rw [dp];exact this
 exact aj hlt (ap (by decide) (by omega))
def SO (r s:Rv):Bool:=decide (r.nb=s.nb∧r.den=s.den∧r.ws=s.ws)
theorem Amq {p:Int × Nat}:SO (CY p) (CY q)=decide (p=q):=by
 unfold SO
 refine decide_eq_decide.2 ⟨fun ⟨h1,h2,h3⟩=>?_,fun h=>by rw [h];exact ⟨rfl,rfl,rfl⟩⟩
 have:CY p=CY q:=by
  cases hp:CY p;cases hq:CY q
  simp_all
 rw [←EJ p,this,EJ]
section
variable {P:Program} {G:World→Prop} {o:Oper} {F:Frm} {H:List Ob}
theorem AdU {t':TypeId} {x y:Operand} {p q:Bool} (ho:o.op=.binOp .neq t x y t') (ht:P.underlying t=some .bool) (hx:F.ev x=.one (.d (.val (.bool p)))) (hy:F.ev y=.one (.d (.val (.bool q)))) (h:¬ p=q):AN P G o F H (.one (.d (.val (.bool true)))) []:=by
 have:=Um (P:=P) (G:=G) (H:=H) ho ht hx hy
 rwa [show (p != q)=true by cases p <;> cases q <;> simp_all] at this
theorem We {t':TypeId} {x y:Operand} {p q:Bool} (ho:o.op=.binOp .neq t x y t') (ht:P.underlying t=some .bool) (hx:F.ev x=.one (.d (.val (.bool p)))) (hy:F.ev y=.one (.d (.val (.bool q)))) (h:p=q):AN P G o F H (.one (.d (.val (.bool false)))) []:=by
 have:=Um (P:=P) (G:=G) (H:=H) ho ht hx hy
 rwa [show (p != q)=false by subst h;cases p <;> rfl] at this
end
theorem AdV {α:Type} {l m:List α} {k:Nat} {x:α} (h:l.take k=m.take k) (h1:l[k]?=some x) (h2:m[k]?=some x):l.take (k+1)=m.take (k+1):=by rw [ay,ay,h,h1,h2]
theorem Apc {α:Type} {l m:List α} {k:Nat} {x y:α} (h1:l[k]?=some x) (h2:m[k]?=some y) (h:x≠y):l≠m:=fun e=>h (by subst e;rw [h1] at h2;exact Option.some.inj h2)
theorem AaP (k:p') (h:Hd9 p'→p:=by with_reducible first|(intro Z9;refine Tx 1 ?_;refine gO xF <| gO xD <| gO xF <| gO xD <| gO (by first|exact We rfl underlying4 rfl rfl hb|exact xNe) <| gO xM ?_;(first|iterate 5 refine Jd ?_|(refine Jy (xFa Fk AE) ?_;refine Jy (xLd AE) ?_;refine Jy (xFa Fk AE) ?_;refine Jy (xLd AE) ?_;refine Jy xNe ?_));refine gO xPk <| gO xM ?_;(first|iterate 7 refine Jd ?_|(refine Jy (xFa Er BG) ?_;refine Jy (xLd BG) ?_;refine Jy (xLn Bw) ?_;refine Jy (xFa Er BG) ?_;refine Jy (xLd BG) ?_;refine Jy (xLn Bw) ?_;refine Jy xNe ?_));refine gO xPk ?_;exact Z9.o)|fail):p:=h ⟨k⟩
theorem Amr (h:p:=by first|exact xIr Bw (QG hp)|exact xIr Bw (QG hq)):p:=h
theorem Afy (k:p') (h:Hd9 p'→p:=by with_reducible first|(intro Z9;refine Tx 5 ?_;refine gO xM <| gO xA ?_;exact Z9.o)|(intro Z9;refine Ca (id:=6) AV (by kernel_rfl) ?_;refine gP xF <| gP xD <| gP xM <| gP Amr <| gP xD <| gP xF <| gP xD <| gP xM <| gP Amr <| gP xD <| gP xNe ?_;refine Ke ?_;exact Z9.o)|fail):p:=h ⟨k⟩
theorem AaQ (t u:Bool) (r s:Rv) (hr:r.ws.length≤1000000) (hs:s.ws.length≤1000000):CV prog Ah 27 [aRv t r,aRv u s] [aB (SO r s)]:=by
 refine cvz func27 ntmps27 ?_
 have l1:r.ws.length≤1000000:=hr
 have l2:s.ws.length≤1000000:=hs
 by_cases hb:r.nb=s.nb
 case neg =>
  repeat' (with_reducible first|refine qq ?_|(refine Tx 0 ?_;refine gN xBo <| gN xBo <| gO xA ?_)|(refine Tx 1 ?_;refine gO xF <| gO xD <| gO xF <| gO xD <| gO (by first|exact AdU rfl underlying4 rfl rfl hb|exact xNe) <| gO xM ?_;(first|iterate 5 refine Jd ?_|(refine Jy (xFa Fk AE) ?_;refine Jy (xLd AE) ?_;refine Jy (xFa Fk AE) ?_;refine Jy (xLd AE) ?_;refine Jy xNe ?_));refine gO xPk <| gO xM ?_;(first|iterate 7 refine Jd ?_|(refine Jy (xFa Er BG) ?_;refine Jy (xLd BG) ?_;refine Jy (xLn Bw) ?_;refine Jy (xFa Er BG) ?_;refine Jy (xLd BG) ?_;refine Jy (xLn Bw) ?_;refine Jy xNe ?_));refine gO xPk ?_)|(refine Tx 2 ?_;refine gO xA ?_))
  exact Ax rfl (.cons_ (DD rfl (by unfold SO;rw [decide_eq_false (fun h=>hb h.1)])) .nil_)
 by_cases hd:r.den=s.den
 case neg =>
  repeat' (with_reducible first|refine qq ?_|(refine Tx 0 ?_;refine gN xBo <| gN xBo <| gO xA ?_)|refine AaP ?_|(refine Tx 2 ?_;refine gO xA ?_))
  exact Ax rfl (.cons_ (DD rfl (by unfold SO;rw [decide_eq_false (fun h=>hd h.2.1)])) .nil_)
 by_cases hl:r.ws.length=s.ws.length
 case neg =>
  repeat' (with_reducible first|refine qq ?_|(refine Tx 0 ?_;refine gN xBo <| gN xBo <| gO xA ?_)|refine AaP ?_|(refine Tx 2 ?_;refine gO xA ?_))
  exact Ax rfl (.cons_ (DD rfl (by unfold SO;rw [decide_eq_false (fun h=>hl (by rw [h.2.2]))])) .nil_)
 repeat' (with_reducible first|refine qq ?_|(refine Tx 0 ?_;refine gN xBo <| gN xBo <| gO xA ?_)|refine AaP ?_|(refine Tx 3 ?_;refine gO xF <| gO xD <| gO xN <| gO xM ?_))
 refine AQ (Bu 2) (Aq (fun n Fr H=>∃ k:Nat,k≤r.ws.length∧n=r.ws.length - k∧r.ws.take k=s.ws.take k∧Fr=ofL [(2,vr 0),(3,vr 1),(29,vi r.ws.length),(30,vi ((k:Nat)))]∧H=[.box 43 ((dRv t r).map C.d),.box 43 ((dRv u s).map C.d)]) (n0:=r.ws.length) ⟨0,ad _,rfl,rfl,rfl,rfl⟩ ?_)
 rintro n Fr H ⟨k,hk,rfl,he,rfl,rfl⟩
 by_cases hlt:k<r.ws.length
 case pos =>
  obtain ⟨p,hp⟩:∃ p,r.ws[k]?=some p:=⟨_,gE hlt⟩
  obtain ⟨q,hq⟩:∃ q,s.ws[k]?=some q:=⟨_,gE (by omega)⟩
  by_cases e:p=q
  case neg =>
   repeat' (with_reducible first|refine qq ?_|(refine Tx 4 ?_;refine gO xLt ?_)|refine Afy ?_|(refine Tx 7 ?_;refine gO xA ?_))
   exact Ax rfl (.cons_ (DD rfl (by unfold SO;rw [decide_eq_false (fun h=>Apc hp hq e h.2.2)])) .nil_)
  subst e
  repeat' (with_reducible first|refine qq ?_|(refine Tx 4 ?_;refine gO xLt ?_)|refine Afy ?_|(refine Tx 8 ?_;refine gO xAd <| gO xM ?_))
  refine ⟨_,_,Bu 2,_,by omega,k+1,by omega,rfl,AdV he hp hq,rfl,rfl⟩
 obtain rfl:k=r.ws.length:=by omega
 clear hlt hk
 rw [bc,hl,bc] at he
 repeat' (with_reducible first|refine qq ?_|(refine Tx 4 ?_;refine gO xLt ?_)|(refine Tx 9 ?_;refine gO xA ?_))
 exact Ax rfl (.cons_ (DD rfl (by unfold SO;rw [decide_eq_true ⟨hb,hd,he⟩])) .nil_)
theorem AdW (t u:Bool) (p q:Int × Nat) (l1:(Ab p.1.natAbs).length≤1000000) (l2:(Ab q.1.natAbs).length≤1000000):CV prog Ah 27 [aDy t p.1 p.2,aDy u q.1 q.2] [aB (decide (p=q))]:=by
 have:=AaQ t u (CY p) (CY q) l1 l2
 rw [Amq] at this
 unfold aRv at this
 rwa [GD,GD] at this
theorem AaR (k:p') (h:Hd9 p'→p:=by with_reducible first|(intro Z9;refine qq ?_;exact Z9.o)|(intro Z9;refine Tx 0 ?_;refine gN xBo <| gO xA ?_;exact Z9.o)|(intro Z9;refine Tx 1 ?_;refine gO xL <| gO (xCl func69 (PX)) <| gO xMt <| gO xEx <| gO xEx <| gO xEx <| gO xA <| gO xA <| gO xA ?_;exact Z9.o)|(intro Z9;refine Tx 2 ?_;refine gO xM <| gO xN <| gO xEq <| gO xA ?_;exact Z9.o)|fail):p:=h ⟨k⟩
theorem IT (x:Int) (dx:Nat) (hnx:Nf x dx) (lx:(Ab x.natAbs).length≤40000):CV prog Ah 55 [aDy false x dx] [aI (sgI x)]:=by
 refine cvz func55 ntmps55 ?_
 have PX:=EX (G:=Ah) x dx hnx (lT lx (by decide))
 by_cases c0:x=0
 case pos =>
  have l0:((Ab x.natAbs).length:Int)=0:=by rw [show x.natAbs=0 by omega,AF];rfl
  rw [show decide (x<0)=false by rw [decide_eq_false (by omega)]] at PX
  rw [show sgI x=0 by unfold sgI;(repeat' split) <;> omega]
  repeat' (with_reducible first|refine AaR ?_|(refine Tx 3 ?_;refine gO xA ?_))
  exact IR
 by_cases cm1:x<0
 case pos =>
  have l0:¬ ((Ab x.natAbs).length:Int)=0:=fun hc=>by have:=Cj (n:=x.natAbs) (by omega);omega
  rw [show decide (x<0)=true by rw [decide_eq_true (by omega)]] at PX
  rw [show sgI x = -1 by unfold sgI;(repeat' split) <;> omega]
  repeat' (with_reducible first|refine AaR ?_|(refine Tx 4 ?_;refine gO xM <| gO xA ?_)|(refine Tx 5 ?_;refine gO xA ?_))
  exact IR
 have l0:¬ ((Ab x.natAbs).length:Int)=0:=fun hc=>by have:=Cj (n:=x.natAbs) (by omega);omega
 rw [show decide (x<0)=false by rw [decide_eq_false (by omega)]] at PX
 rw [show sgI x=1 by unfold sgI;(repeat' split) <;> omega]
 repeat' (with_reducible first|refine AaR ?_|(refine Tx 4 ?_;refine gO xM <| gO xA ?_)|(refine Tx 6 ?_;refine gO xA ?_))
 exact IR
theorem PF (x:Int) (d den:Nat) (hn:Nf x d) (hl:(Ab x.natAbs).length≤40000) (hd:den≤65536):CVF prog Ah 22 [aDy false x d,aI (den:Int)] [aDy false (Bg x d den).1 (Bg x d den).2,aE 0]:=fun w S vs hg hlt ha=>by
 obtain ⟨v,vs',rfl,h1,ha⟩:=ha.uncons
 obtain ⟨u,hu,h2⟩:=BB ha
 subst hu
 cases h2
 exact (Pc (Fq h1 hlt hn) (aa _) (lT hl (by decide)) hd hg).mono fun r w' ⟨v,he,hd,hb⟩=>⟨_,he,NI (EE hd) (Br.val rfl),hb⟩
theorem Wf {x:Int} {d:Nat} (hn:Nf x d) (hd:den≤65536):Nf (Bg x d den).1 (Bg x d den).2:=by
 unfold Bg
 split
 ·exact hn
 ·exact Nf.nf hd
theorem SQ {x:Int} {k:Nat}:(x / 2 ^ k).natAbs≤x.natAbs:=by
 have h1:=Int.mul_ediv_add_emod x (2 ^ k)
 have h2:=Int.emod_nonneg x (Aav k)
 have h3:=Int.emod_lt_of_pos x (Be k)
 have hp:=Be k
 generalize (2:Int) ^ k=P at *
 generalize hq:x / P=q at *
 rcases Int.lt_or_le q 0 with hlt|hge
 ·have:P*q≤q:=by
   have:=Int.mul_le_mul_of_nonpos_right (show (1:Int)≤P by omega) (bf hlt)
   omega
  rcases Int.lt_or_le x 0 with hx|hx
  ·by_cases hP:P=1
   ·subst hP;omega
   ·have h4:2*(-q)≤P*(-q):=fg (by omega) (by omega)
    rw [Int.mul_neg] at h4
    by_cases hq1:q = -1
    ·subst hq1;omega
    ·have h5:P*(-q - 1) ≥ 1*(-q - 1):=fg (by omega) (by omega)
     rw [Int.mul_sub,Int.mul_neg] at h5
     omega
  ·exfalso
   have:0≤q:=by rw [←hq];exact Int.ediv_nonneg hx (by omega)
   omega
 ·have:1*q≤P*q:=fg (by omega) hge
  omega
theorem Om {x:Int} {d k:Nat} (hl:(Ab x.natAbs).length≤k):(Ab (Bg x d den).1.natAbs).length≤k:=by
 unfold Bg
 split
 ·exact hl
 ·exact lT (AJ (lT (Gn _ _) SQ)) hl
theorem Ams (h:p:=by first|exact xCl func176 (NG)|exact xCl func176 (NH)):p:=h
theorem SR (x:Int) (d den:Nat) (hn:Nf x d) (hl:(Ab x.natAbs).length≤40000) (hd:den≤65536):CV prog Ah 153 [aDy false x d,aI (den:Int)] [aDy false (XF (x,d) den).1 (XF (x,d) den).2,aE 0]:=by
 refine cvz func153 ntmps153 ?_
 have NG:=FS x d hn hl
 have hnn:Nf (-x) d:=⟨hn.1,fun h=>by have:=hn.2 h;omega⟩
 have FL:=(PF (-x) d den hnn (by rw [ja];exact hl) hd).cv
 have NH:=FS (Bg (-x) d den).1 (Bg (-x) d den).2 (Wf hnn hd) (Om (by rw [ja];exact hl))
 repeat' (with_reducible first|refine qq ?_|(refine Tx 0 ?_;refine gN xBo <| gN (xAl Aj) <| gO xA ?_)|(refine Tx 1 ?_;refine gO xL <| gO Ams <| gO xM <| gO (xCl func22 (FL)) <| gO xMt <| gO (by exact DB rfl rfl rfl) <| gO xEx <| gN (xAl Aj) <| gZ (xSk Aa) <| gO xA ?_)|(refine Tx 2 ?_;refine gO xL <| gO Ams <| gO xM <| gZ (xSk Aa) <| gO xA ?_))
 exact Ax rfl (.cons_ (rvW Aa rfl) (.cons_ (Gl rfl rfl) .nil_))
def ivR (r s:Rv):Bool:=vdB r.rw && vdB s.rw && decide (BI r.rw.x r.rw.d s.rw.x s.rw.d≤0)
def RvL (r:Rv):Prop:=Ar r.ws∧r.ws.length≤40000
def dIr (t:Bool) (a:Rv × Rv):List D:=dRv t a.1++dRv t a.2
theorem Afz (k:p') (h:Hd9 p'→p:=by with_reducible first|(intro Z9;refine Tx 1 ?_;refine gO xF <| gO xL <| gO (xCl func123 (V1)) <| gO xM ?_;(first|iterate 3 refine Jd ?_|(refine Jy (xFa AM Aa) ?_;refine Jy (xLa Aa) ?_;refine Jy (xCl func123 (V2)) ?_));refine gO xPk <| gO xM ?_;(first|iterate 6 refine Jd ?_|(refine Jy (xFa Ce Aa) ?_;refine Jy (xLa Aa) ?_;refine Jy (xFa AM Aa) ?_;refine Jy (xLa Aa) ?_;refine Jy (xCl func15 (CM)) ?_;refine Jy xLe ?_));refine gO xPk <| gO xA ?_;exact Z9.o)|fail):p:=h ⟨k⟩
theorem GZ (r s:Rv) (hr:RvL r) (hs:RvL s):CV prog Ah 122 [.agg (dIr false (r,s))] [aB (ivR r s)]:=by
 refine cvz func122 ntmps122 ?_
 have V1:=(NV (G:=Ah) false r hr.1 (lT hr.2 (by decide))).cv
 have V2:=(NV (G:=Ah) false s hs.1 (lT hs.2 (by decide))).cv
 by_cases c1:vdB r.rw=true
 case neg =>
  rw [aw] at c1
  rw [c1] at V1
  repeat' (with_reducible first|refine qq ?_|(refine Tx 0 ?_;refine gN xBo <| gO xA ?_)|(refine Tx 1 ?_;refine gO xF <| gO xL <| gO (xCl func123 (V1)) <| gO xM ?_;(first|iterate 3 refine Jd ?_|(refine Jy (xFa AM Aa) ?_;refine Jy (xLa Aa) ?_;refine Jy (xCl func123 (V1)) ?_));refine gO xPk <| gO xM ?_;(first|iterate 4 refine Jd ?_|(refine Jy (xFa Ce Aa) ?_;refine Jy (xLa Aa) ?_;refine Jy (xFa AM Aa) ?_;refine Jy (xLa Aa) ?_));refine Jd ?_;(first|refine Jd ?_|refine Jy xLe ?_);refine gO xPk <| gO xA ?_))
  exact Ax rfl (.cons_ (DD rfl (by unfold ivR;rw [c1];rfl)) .nil_)
 by_cases c2:vdB s.rw=true
 case neg =>
  rw [aw] at c2
  rw [c1] at V1
  rw [c2] at V2
  repeat' (with_reducible first|refine qq ?_|(refine Tx 0 ?_;refine gN xBo <| gO xA ?_)|(refine Tx 1 ?_;refine gO xF <| gO xL <| gO (xCl func123 (V1)) <| gO xM ?_;(first|iterate 3 refine Jd ?_|(refine Jy (xFa AM Aa) ?_;refine Jy (xLa Aa) ?_;refine Jy (xCl func123 (V2)) ?_));refine gO xPk <| gO xM ?_;(first|iterate 4 refine Jd ?_|(refine Jy (xFa Ce Aa) ?_;refine Jy (xLa Aa) ?_;refine Jy (xFa AM Aa) ?_;refine Jy (xLa Aa) ?_));refine Jd ?_;(first|refine Jd ?_|refine Jy xLe ?_);refine gO xPk <| gO xA ?_))
  exact Ax rfl (.cons_ (DD rfl (by unfold ivR;rw [c1,c2];rfl)) .nil_)
 rw [c1] at V1
 rw [c2] at V2
 obtain ⟨e1,n1,k1⟩:=Uv (t:=false) hr.1 c1
 obtain ⟨e2,n2,k2⟩:=Uv (t:=false) hs.1 c2
 have CM:=BZ r.rw.x r.rw.d s.rw.x s.rw.d n1 n2 (lT (gp k1) hr.2) (lT (gp k2) hs.2)
 unfold aDy at CM
 rw [←e1,←e2] at CM
 by_cases c3:BI r.rw.x r.rw.d s.rw.x s.rw.d≤0
 case pos =>
  repeat' (with_reducible first|refine qq ?_|(refine Tx 0 ?_;refine gN xBo <| gO xA ?_)|refine Afz ?_)
  exact Ax rfl (.cons_ (DD rfl (by unfold ivR;rw [c1,c2,decide_eq_true c3];rfl)) .nil_)
 case neg =>
  repeat' (with_reducible first|refine qq ?_|(refine Tx 0 ?_;refine gN xBo <| gO xA ?_)|refine Afz ?_)
  exact Ax rfl (.cons_ (DD rfl (by unfold ivR;rw [c1,c2,decide_eq_false c3];rfl)) .nil_)
theorem Hq {p:Pq} {d:Nat} (h:Sm p n d) (hn:n≤1280000):RvL (CY p):=⟨Ay _,h.lenN 40000 (by omega)⟩
theorem XI {a:Iq} {d:Nat} (h:IwS a n d):ivR (CY a.1) (CY a.2)=true:=by
 unfold ivR
 rw [QY h.s1.ok,QY h.s2.ok]
 have:BI (CY a.1).rw.x (CY a.1).rw.d (CY a.2).rw.x (CY a.2).rw.d=Ir (rvP (CY a.1)) (rvP (CY a.2)):=rfl
 rw [EJ,EJ] at this
 rw [this,decide_eq_true ((LS h.s1.le h.s2.le).2 h.le)]
 rfl
theorem XJ (a:Iq) {n d:Nat} (h:IwS a n d) (hn:n≤1280000):CV prog Ah 122 [aIw false a] [aB true]:=by
 have:=GZ (CY a.1) (CY a.2) (Hq h.s1 hn) (Hq h.s2 hn)
 rw [XI h] at this
 unfold dIr at this
 rwa [GD,GD] at this
theorem Oo (x:Int) (d:Nat) (hn:Nf x d) (hl:(Ab x.natAbs).length≤40000):CV prog Ah 227 [aDy false x d] [aDy false x d]:=by
 refine cvz func227 ntmps227 ?_
 have SH:=BH x d 0 hn (lT hl (by decide)) (by have:=hn.1;omega)
 rw [Fv hn] at SH
 repeat' (with_reducible first|refine qq ?_|(refine Tx 0 ?_;refine gN xBo <| gN (xAl Aj) ?_)|(refine Tx 1 ?_;refine gO xL <| gO (xCl func21 (SH)) <| gZ (xSk Aa) ?_))
 exact Ax rfl (.cons_ (rvW Aa rfl) .nil_)
theorem DG (h:p:=by
 exact Ax rfl (.cons_ (rvJ Ac rfl) .nil_)):p:=h
theorem Amt (h:p:=by first|exact xCl func227 (S1)|exact xCl func227 (S2)):p:=h
theorem AdX (a:Iq) {n d:Nat} (h:IwS a n d) (hn:n≤1280000) (l1:(Ab a.1.1.natAbs).length≤40000) (l2:(Ab a.2.1.natAbs).length≤40000):CV prog Ah 228 [aIw false a] [aIw false a]:=by
 refine cvz func228 ntmps228 ?_
 have V:=XJ a h hn
 have S1:=Oo a.1.1 a.1.2 h.s1.ok l1
 have S2:=Oo a.2.1 a.2.2 h.s2.ok l2
 repeat' (with_reducible first|refine qq ?_|(refine Tx 0 ?_;refine gN xBo <| gN (xAl Ak) ?_)|(refine Tx 1 ?_;refine gO xL <| gO (xCl func122 (V)) <| gO UC ?_)|(refine AG (id:=3) 7 AV (by kernel_rfl) ?_;dsimp only [List.take,List.drop];refine gP xF <| gP xL <| gP Amt <| gP xF <| gP xL <| gP Amt <| gP (by exact AO rfl Cu rfl rfl) ?_;refine Ke ?_;refine gZ (xSk Ac) ?_))
 exact DG
theorem Dp (a:Iq) (h:IwS a 20000 20000):CV prog Ah 228 [aIw false a] [aIw false a]:=AdX a h (by decide) h.s1.lz h.s2.lz
theorem Dr (p:Pq) (hn:Nf p.1 p.2) (hl:(Ab p.1.natAbs).length≤40000):CV prog Ah 140 [aDy false p.1 p.2] [aIw false (p,p)]:=by
 refine cvz func140 ntmps140 ?_
 have S1:=Oo p.1 p.2 hn hl
 repeat' (with_reducible first|refine qq ?_|(refine Tx 0 ?_;refine gN xBo <| gN (xAl Ak) ?_)|(refine AG (id:=1) 5 AV (by kernel_rfl) ?_;dsimp only [List.take,List.drop];refine gP xL <| gP (xCl func227 (S1)) <| gP xL <| gP (xCl func227 (S1)) <| gP (by exact AO rfl Cu rfl rfl) ?_;refine Ke ?_;refine gZ (xSk Ac) ?_))
 exact DG
theorem Wg {l:List Pq} {k:Nat} {p:Pq} (h:l[k]?=some p):((Av dyP l).drop (k*3)).take 3=dyP p:=Aio h
theorem SS {G:World→Prop} {o:Oper} {e:TypeId} {x l:Operand} {tg:Bool} {s lo:Nat} {k:IntKind} {z:Int} {cs:List D} (ho:o.op=.slice t x (some l) none none) (hx:F.ev x=.one (.d (.row tg s n cs))) (hl:F.ev l=.one (.d (.val (.int k z)))) (hz:z=(lo:Int)) (ht:TyS P t e s) (h1:lo≤n):AN P G o F H (.one (.d (.row tg s (n - lo) (cs.drop (lo*s))))) []:=Aab ho hx hl hz ht h1
theorem AfA (h:p:=by
 refine ⟨_,_,Bu 2 (hH:=by rw [←hnx];rfl),_,?_,k+1,by omega,rfl,hIS,rfl,rfl⟩
 ·omega):p:=h
theorem IU (t:Bool) (L:List Pq) (hne:L≠[]) (hs:∀ p∈L,Sm p 40064 40000) (hL:L.length≤100):CV prog Ah 226 [.one (.row t 3 L.length (Av dyP L))] [aIw false (CC L)]:=by
 refine cvz func226 ntmps226 ?_
 obtain ⟨p,l,rfl⟩:∃ p l,L=p::l:=by cases L with|nil=>exact absurd rfl hne|cons p l=>exact ⟨p,l,rfl⟩
 have hp:=hs p (gz ..)
 have hpl:=lT (hp.lenN 1252 (by decide)) (show 1252≤40000 by decide)
 have PT:=Dr p hp.ok hpl
 have hlen:(p::l).length=l.length+1:=bw
 repeat' (with_reducible first|refine qq ?_|(refine Tx 0 ?_;refine gN (xAl Ak) ?_)|(refine Tx 1 ?_;refine gO xM <| gO (by exact Po (i:=0) rfl rfl rfl rfl Af (by omega) (by decide) (Wg (l:=p::l) (k:=0) rfl)) <| gO xL <| gO (xCl func140 (PT)) <| gN (xAl Ak) <| gZ (xSk Ac) ?_)|(refine Tx 2 ?_;refine gO xM <| gO (by exact SS (lo:=1) rfl rfl rfl rfl Af (by omega)) <| gO xN <| gO xM ?_))
 refine AQ (Bu 2) (Aq (fun n Fr H=>∃ k:Nat,k≤l.length∧n=l.length - k∧IwS ((l.take (k)).foldl GA (p,p)) 40064 40000∧Fr=ofL [(2,vr 0),(3,vr 1),(11,vd (.row t 3 ((p::l).length - 1) ((Av dyP (p::l)).drop (1*3)))),(12,vi (((p::l).length - 1:Nat))),(13,vi ((k:Nat)))]∧H=[.box 45 [.d (.val (.bool false)),.d (.val (.slice none 0 0)),.d (.val (.int .i64 0)),.d (.val (.bool false)),.d (.val (.slice none 0 0)),.d (.val (.int .i64 0))],.box 45 ((dIw false ((l.take (k)).foldl GA (p,p))).map C.d)]) (n0:=l.length) ⟨0,ad _,rfl,.pt hp,rfl,rfl⟩ ?_)
 rintro n Fr H ⟨k,hk,rfl,hS,rfl,rfl⟩
 by_cases hlt:k<l.length
 case pos =>
  obtain ⟨x,hx⟩:∃ x,l[k]?=some x:=⟨_,gE hlt⟩
  have hxs:=hs x (fx _ (gM hx))
  have hxl:=lT (hxs.lenN 1252 (by decide)) (show 1252≤40000 by decide)
  have a1:=hS.s1
  have a2:=hS.s2
  have a1l:=lT (a1.lenN 1252 (by decide)) (show 1252≤40000 by decide)
  have a2l:=lT (a2.lenN 1252 (by decide)) (show 1252≤40000 by decide)
  have hnx:GA ((l.take (k)).foldl GA (p,p)) x=((l.take (k+1)).foldl GA (p,p)):=by rw [ay,hx,ff,kx];rfl
  have hIS:IwS (GA ((l.take (k)).foldl GA (p,p)) x) 40064 40000:=⟨Sm.min a1 hxs,Sm.max a2 hxs,by show gv (Ru _ x)≤gv (Gz _ x);rw [LU a1.le hxs.le,Fy a2.le hxs.le];have:=hS.le;omega⟩
  rw [hnx] at hIS
  have hxd:(((Av dyP (p::l)).drop (1*3)).drop (k*3)).take 3=dyP x:=by rw [jd,show 1*3+k*3=(k+1)*3 by omega];exact Wg (l:=p::l) (k:=k+1) (by rw [ew];exact hx)
  generalize hT:((l.take (k)).foldl GA (p,p))=T at *
  have MN:=QQ T.1.1 T.1.2 x.1 x.2 a1.ok hxs.ok a1l hxl
  have MX:=EY T.2.1 T.2.2 x.1 x.2 a2.ok hxs.ok a2l hxl
  repeat' (with_reducible first|refine qq ?_|(refine Tx 3 ?_;refine gO xLt ?_)|(refine Tx 4 ?_;refine gO (xIr Af (hxd)) <| gO xL <| gN (xAl Aj) <| gZ (xSk Aa) ?_)|(refine AG (id:=5) 9 AV (by kernel_rfl) ?_;dsimp only [List.take,List.drop];refine gP xF <| gP xL <| gP xL <| gP (xCl func225 (MN)) <| gP xF <| gP xL <| gP xL <| gP (xCl func156 (MX)) <| gP xF ?_;refine Ke ?_;refine gZ (xSk Aa) <| gO xF <| gZ (xSk Aa) ?_)|(refine Tx 6 ?_;refine gO xAd <| gO xM ?_))
  exact AfA
 obtain rfl:k=l.length:=by omega
 clear hlt hk
 rw [bc]
 repeat' (with_reducible first|refine qq ?_|(refine Tx 3 ?_;refine gO xLt ?_)|(refine Tx 7 ?_;refine gO xL <| gZ (xSk Ac) ?_))
 exact DG
theorem Il (x:Int) {n d:Nat} (h:x.natAbs<2 ^ 63) (hn:63≤n):Sm (x,0) n d:=⟨⟨ad _,fun h=>absurd rfl h⟩,aj h (ap (by decide) hn),ad _⟩
theorem Wh (x:Int) (h:x.natAbs<2 ^ 63):Sm (x,0) 40064 40000:=Il x h (by decide)
theorem Amu (h:p:=by first|exact xCl func68 (O1)|exact xCl func68 (O2)):p:=h
theorem ST (x y:Int) (hx : -9223372036854775807≤x∧x<9223372036854775808) (hy : -9223372036854775807≤y∧y<9223372036854775808):CV prog Ah 139 [aI x,aI y] [aIw false (CC [(x,0),(y,0)])]:=by
 refine cvz func139 ntmps139 ?_
 have O1:=Ff x (by omega) (by omega)
 have O2:=Ff y (by omega) (by omega)
 have s1:Sm (x,0) 40064 40000:=Wh x (by omega)
 have s2:Sm (y,0) 40064 40000:=Wh y (by omega)
 have SP:=IU true [(x,0),(y,0)] (by simp) (fun p hp=>by simp only [dk,dm,or_false] at hp;rcases hp with rfl|rfl <;> assumption) (bi rfl)
 repeat' (with_reducible first|refine qq ?_|(refine Tx 0 ?_;refine gN (xAl Ak) ?_)|(refine Tx 1 ?_;refine gO xM <| gO Amu <| gO xM <| gO Amu <| gN (by exact Gu rfl Af Aj rfl rfl rfl rfl (by decide) (by decide)) <| gO (xCl func226 (SP)) <| gZ (xSk Ac) ?_))
 exact DG
theorem Amv (h:p:=by first|exact xCl func176 (N2)|exact xCl func176 (N1)):p:=h
theorem Ra (a:Iq) (h:IwS a 20000 20000):CV prog Ah 146 [aIw false a] [aIw false (AdK a)]:=by
 refine cvz func146 ntmps146 ?_
 have h1:=h.s1
 have h2:=h.s2
 have hl:=h1.l4
 have hm:=h2.l4
 have AR:=Dp a h
 have N1:=FS a.1.1 a.1.2 h1.ok hl
 have N2:=FS a.2.1 a.2.2 h2.ok hm
 repeat' (with_reducible first|refine qq ?_|(refine Tx 0 ?_;refine gN xBo <| gN (xAl Ak) ?_)|(refine Tx 1 ?_;refine gO xL <| gO (xCl func228 (AR)) <| gZ (xSk Ac) ?_)|(refine AG (id:=2) 7 AV (by kernel_rfl) ?_;dsimp only [List.take,List.drop];refine gP xF <| gP xL <| gP Amv <| gP xF <| gP xL <| gP Amv <| gP (by exact AO rfl Cu rfl rfl) ?_;refine Ke ?_;refine gZ (xSk Ac) ?_))
 exact DG
theorem Mg (h:p:=by first|exact xCl func228 (AA)|exact xCl func228 (AB)):p:=h
theorem Amw (h:p:=by first|exact xCl func152 (C1)|exact xCl func152 (C2)):p:=h
theorem Rb (a b:Iq) (h:IwS a 20000 20000) (k:IwS b 20000 20000):CV prog Ah 143 [aIw false a,aIw false b] [aIw false (Afs a b)]:=by
 refine cvz func143 ntmps143 ?_
 have h1:=h.s1
 have h2:=h.s2
 have hl:=h1.l4
 have hm:=h2.l4
 have k1:=k.s1
 have k2:=k.s2
 have kl:=k1.l4
 have km:=k2.l4
 have AA:=Dp a h
 have AB:=Dp b k
 have C1:=DF a.1.1 a.1.2 b.1.1 b.1.2 h1.ok k1.ok hl kl
 have C2:=DF a.2.1 a.2.2 b.2.1 b.2.2 h2.ok k2.ok hm km
 repeat' (with_reducible first|refine qq ?_|(refine Tx 0 ?_;refine gN xBo <| gN xBo <| gN (xAl Ak) ?_)|(refine AG (id:=1) 4 AV (by kernel_rfl) ?_;dsimp only [List.take,List.drop];refine gP xL <| gP Mg <| gP xL <| gP Mg ?_;refine Ke ?_;refine gZ (xSk Ac) <| gZ (xSk Ac) ?_)|(refine AG (id:=2) 11 AV (by kernel_rfl) ?_;dsimp only [List.take,List.drop];refine gP xF <| gP xL <| gP xF <| gP xL <| gP Amw <| gP xF <| gP xL <| gP xF <| gP xL <| gP Amw <| gP (by exact AO rfl Cu rfl rfl) ?_;refine Ke ?_;refine gZ (xSk Ac) ?_))
 exact DG
theorem Amx (h:p:=by first|exact xCl func225 (C1)|exact xCl func225 (C2)):p:=h
theorem Rc (a b:Iq) (h:IwS a 20000 20000) (k:IwS b 20000 20000):CV prog Ah 148 [aIw false a,aIw false b] [aIw false (Afu a b)]:=by
 refine cvz func148 ntmps148 ?_
 have h1:=h.s1
 have h2:=h.s2
 have hl:=h1.l4
 have hm:=h2.l4
 have k1:=k.s1
 have k2:=k.s2
 have kl:=k1.l4
 have km:=k2.l4
 have AA:=Dp a h
 have AB:=Dp b k
 have C1:=QQ a.1.1 a.1.2 b.1.1 b.1.2 h1.ok k1.ok hl kl
 have C2:=QQ a.2.1 a.2.2 b.2.1 b.2.2 h2.ok k2.ok hm km
 repeat' (with_reducible first|refine qq ?_|(refine Tx 0 ?_;refine gN xBo <| gN xBo <| gN (xAl Ak) ?_)|(refine AG (id:=1) 4 AV (by kernel_rfl) ?_;dsimp only [List.take,List.drop];refine gP xL <| gP Mg <| gP xL <| gP Mg ?_;refine Ke ?_;refine gZ (xSk Ac) <| gZ (xSk Ac) ?_)|(refine AG (id:=2) 11 AV (by kernel_rfl) ?_;dsimp only [List.take,List.drop];refine gP xF <| gP xL <| gP xF <| gP xL <| gP Amx <| gP xF <| gP xL <| gP xF <| gP xL <| gP Amx <| gP (by exact AO rfl Cu rfl rfl) ?_;refine Ke ?_;refine gZ (xSk Ac) ?_))
 exact DG
theorem Amy (h:p:=by first|exact xCl func156 (C1)|exact xCl func156 (C2)):p:=h
theorem Rd (a b:Iq) (h:IwS a 20000 20000) (k:IwS b 20000 20000):CV prog Ah 149 [aIw false a,aIw false b] [aIw false (AdL a b)]:=by
 refine cvz func149 ntmps149 ?_
 have h1:=h.s1
 have h2:=h.s2
 have hl:=h1.l4
 have hm:=h2.l4
 have k1:=k.s1
 have k2:=k.s2
 have kl:=k1.l4
 have km:=k2.l4
 have AA:=Dp a h
 have AB:=Dp b k
 have C1:=EY a.1.1 a.1.2 b.1.1 b.1.2 h1.ok k1.ok hl kl
 have C2:=EY a.2.1 a.2.2 b.2.1 b.2.2 h2.ok k2.ok hm km
 repeat' (with_reducible first|refine qq ?_|(refine Tx 0 ?_;refine gN xBo <| gN xBo <| gN (xAl Ak) ?_)|(refine AG (id:=1) 4 AV (by kernel_rfl) ?_;dsimp only [List.take,List.drop];refine gP xL <| gP Mg <| gP xL <| gP Mg ?_;refine Ke ?_;refine gZ (xSk Ac) <| gZ (xSk Ac) ?_)|(refine AG (id:=2) 11 AV (by kernel_rfl) ?_;dsimp only [List.take,List.drop];refine gP xF <| gP xL <| gP xF <| gP xL <| gP Amy <| gP xF <| gP xL <| gP xF <| gP xL <| gP Amy <| gP (by exact AO rfl Cu rfl rfl) ?_;refine Ke ?_;refine gZ (xSk Ac) ?_))
 exact DG
theorem AdY (h:p:=by first|exact xCl func157 (C0)|exact xCl func157 (C1)|exact xCl func157 (C2)|exact xCl func157 (C3)):p:=h
theorem Re (a b:Iq) (h:IwS a 20000 20000) (k:IwS b 20000 20000):CV prog Ah 145 [aIw false a,aIw false b] [aIw false (Aft a b)]:=by
 refine cvz func145 ntmps145 ?_
 have h1:=h.s1
 have h2:=h.s2
 have hl:=h1.l4
 have hm:=h2.l4
 have k1:=k.s1
 have k2:=k.s2
 have kl:=k1.l4
 have km:=k2.l4
 have AA:=Dp a h
 have AB:=Dp b k
 have C0:=Gx a.1.1 a.1.2 b.1.1 b.1.2 h1.ok k1.ok hl kl (by have:=h1.d;have:=k1.d;omega)
 have s0:Sm (CB a.1 b.1) 40064 40000:=(Sm.mul h1 k1 (by decide)).more (by decide) (by decide)
 have C1:=Gx a.1.1 a.1.2 b.2.1 b.2.2 h1.ok k2.ok hl km (by have:=h1.d;have:=k2.d;omega)
 have s1:Sm (CB a.1 b.2) 40064 40000:=(Sm.mul h1 k2 (by decide)).more (by decide) (by decide)
 have C2:=Gx a.2.1 a.2.2 b.1.1 b.1.2 h2.ok k1.ok hm kl (by have:=h2.d;have:=k1.d;omega)
 have s2:Sm (CB a.2 b.1) 40064 40000:=(Sm.mul h2 k1 (by decide)).more (by decide) (by decide)
 have C3:=Gx a.2.1 a.2.2 b.2.1 b.2.2 h2.ok k2.ok hm km (by have:=h2.d;have:=k2.d;omega)
 have s3:Sm (CB a.2 b.2) 40064 40000:=(Sm.mul h2 k2 (by decide)).more (by decide) (by decide)
 have SP:=IU true [CB a.1 b.1,CB a.1 b.2,CB a.2 b.1,CB a.2 b.2] (by simp) (fun p hp=>by simp only [dk,dm,or_false] at hp;rcases hp with rfl|rfl|rfl|rfl <;> assumption) (bi rfl)
 repeat' (with_reducible first|refine qq ?_|(refine Tx 0 ?_;refine gN xBo <| gN xBo <| gN (xAl Ak) ?_)|(refine AG (id:=1) 4 AV (by kernel_rfl) ?_;dsimp only [List.take,List.drop];refine gP xL <| gP Mg <| gP xL <| gP Mg ?_;refine Ke ?_;refine gZ (xSk Ac) <| gZ (xSk Ac) ?_)|(refine AG (id:=2) 22 AV (by kernel_rfl) ?_;dsimp only [List.take,List.drop];refine gP xF <| gP xL <| gP xF <| gP xL <| gP AdY <| gP xF <| gP xL <| gP xF <| gP xL <| gP AdY <| gP xF <| gP xL <| gP xF <| gP xL <| gP AdY <| gP xF <| gP xL <| gP xF <| gP xL <| gP AdY <| gQ (by exact Fm rfl rfl Af Aj (by decide) (by decide) (by decide) rfl rfl rfl) <| gP (xCl func226 (SP)) ?_;refine Ke ?_;refine gZ (xSk Ac) ?_))
 exact DG
theorem Oq (a b:Iq) (h:IwS a 20000 20000) (k:IwS b 20000 20000):CV prog Ah 142 [aIw false a,aIw false b] [aIw false (Ik a b)]:=by
 refine cvz func142 ntmps142 ?_
 have h1:=h.s1
 have h2:=h.s2
 have hl:=h1.l4
 have hm:=h2.l4
 have k1:=k.s1
 have k2:=k.s2
 have kl:=k1.l4
 have km:=k2.l4
 have AA:=Dp a h
 have AB:=Dp b k
 have s0:=Sm.more (n':=40064) (d':=40000) h1 (by decide) (by decide)
 have s1:=Sm.more (n':=40064) (d':=40000) h2 (by decide) (by decide)
 have s2:=Sm.more (n':=40064) (d':=40000) k1 (by decide) (by decide)
 have s3:=Sm.more (n':=40064) (d':=40000) k2 (by decide) (by decide)
 have SP:=IU true [a.1,a.2,b.1,b.2] (by simp) (fun p hp=>by simp only [dk,dm,or_false] at hp;rcases hp with rfl|rfl|rfl|rfl <;> assumption) (bi rfl)
 repeat' (with_reducible first|refine qq ?_|(refine Tx 0 ?_;refine gN xBo <| gN xBo <| gN (xAl Ak) ?_)|(refine AG (id:=1) 4 AV (by kernel_rfl) ?_;dsimp only [List.take,List.drop];refine gP xL <| gP Mg <| gP xL <| gP Mg ?_;refine Ke ?_;refine gZ (xSk Ac) <| gZ (xSk Ac) ?_)|(refine Tx 2 ?_;refine gO xF <| gO xL <| gO xF <| gO xL <| gO xF <| gO xL <| gO xF <| gO xL <| gN (by exact Fm rfl rfl Af Aj (by decide) (by decide) (by decide) rfl rfl rfl) <| gO (xCl func226 (SP)) <| gZ (xSk Ac) ?_))
 exact DG
theorem Hc (a:Iq) (f:Pq) (h:IwS a 20000 20000) (hf:Sm f 20000 20000):CV prog Ah 138 [aIw false a,aDy false f.1 f.2] [aIw false (LV a f)]:=by
 refine cvz func138 ntmps138 ?_
 have PT:=Dr f hf.ok hf.lz
 have ML:=Re a (f,f) h (.pt hf)
 repeat' (with_reducible first|refine qq ?_|(refine Tx 0 ?_;refine gN xBo <| gN xBo <| gN (xAl Ak) ?_)|(refine AG (id:=1) 4 AV (by kernel_rfl) ?_;dsimp only [List.take,List.drop];refine gP xL <| gP xL <| gP (xCl func140 (PT)) <| gP (xCl func145 (ML)) ?_;refine Ke ?_;refine gZ (xSk Ac) ?_))
 exact DG
theorem Wi (a b:Iq) (h:IwS a 20000 20000) (k:IwS b 20000 20000):CV prog Ah 144 [aIw false a,aIw false b] [aIw false (AiF a b)]:=by
 refine cvz func144 ntmps144 ?_
 have NG:=Ra b k
 have AD:=Rb a (AdK b) h k.neg
 repeat' (with_reducible first|refine qq ?_|(refine Tx 0 ?_;refine gN xBo <| gN xBo <| gN (xAl Ak) ?_)|(refine AG (id:=1) 4 AV (by kernel_rfl) ?_;dsimp only [List.take,List.drop];refine gP xL <| gP xL <| gP (xCl func146 (NG)) <| gP (xCl func143 (AD)) ?_;refine Ke ?_;refine gZ (xSk Ac) ?_))
 exact DG
theorem rvJ0 {t:Tmp} {k:Nat} {q:Pq} (hk:TyK P ty true k) (hi:6=k) (hF:F t=.one (.ref id 0 none):=by with_unfolding_all exact rfl) (hH:H[id]?=some (.box ty' ([.d (.val (.bool false)),.d (.val (.slice none 0 0)),.d (.val (.int .i64 0))]++(dDy false q.1 q.2).map C.d)):=by with_unfolding_all exact rfl):RV P F H (.cell t ty) (aIw false ((0,0),q)):=by
 obtain ⟨⟨dd,hu,hd⟩,hz⟩:=hk
 have e:dDy false 0 0=[.val (.bool false),.row false 1 0 [],.val (.int .i64 0)]:=A.agg.inj Gy
 refine .cellA hF hH hu hd (by rw [hz,←hi];rfl) ?_
 show AY _ _ (dDy false 0 0++dDy false q.1 q.2)
 rw [e]
 refine .app (.cons_ (.d fun _=>.val _) (.cons_ .nil (.cons_ (.d fun _=>.val _) .nil_))) (AY.map_l.2 ⟨rfl,fun j x y hx hy=>?_⟩)
 rw [hx] at hy
 cases hy
 exact .d fun _=>Lz _ _ x (gM hx)
theorem Amz (h:p:=by first|exact xCl func158 (A1)|exact xCl func158 (A2)):p:=h
theorem AmA (h:p:=by first|exact xCl func55 (G1)|exact xCl func55 (G2)):p:=h
theorem AaS (k:p') (h:Hd9 p'→p:=by with_reducible first|(intro Z9;refine qq ?_;exact Z9.o)|(intro Z9;refine Tx 0 ?_;refine gN xBo <| gN (xAl Ak) ?_;exact Z9.o)|(intro Z9;refine Tx 1 ?_;refine gO xL <| gO (xCl func228 (AR)) <| gZ (xSk Ac) ?_;exact Z9.o)|(intro Z9;refine AG (id:=2) 9 AV (by kernel_rfl) ?_;dsimp only [List.take,List.drop];refine gP xF <| gP xL <| gP Amz <| gP xF <| gP xL <| gP Amz <| gQ (by exact Gu rfl Af Aj rfl rfl rfl rfl (by decide) (by decide)) <| gP (xCl func226 (SP)) <| gQ (xAl Ak) ?_;refine Ke ?_;refine gZ (xSk Ac) ?_;exact Z9.o)|(intro Z9;refine Tx 3 ?_;refine gO xF <| gO xL <| gO AmA <| gO xLt <| gO xM ?_;(first|iterate 4 refine Jd ?_|(refine Jy (xFa AM Aa) ?_;refine Jy (xLa Aa) ?_;refine Jy AmA ?_;refine Jy xGt ?_));refine gO xPk ?_;exact Z9.o)|(intro Z9;refine Tx 5 ?_;refine gO xL <| gZ (xSk Ac) ?_;exact Z9.o)|fail):p:=h ⟨k⟩
theorem Rf (a:Iq) (h:IwS a 20000 20000):CV prog Ah 147 [aIw false a] [aIw false (QX a)]:=by
 refine cvz func147 ntmps147 ?_
 have h1:=h.s1
 have h2:=h.s2
 have hl:=h1.l4
 have hm:=h2.l4
 have AR:=Dp a h
 have A1:=QP a.1.1 a.1.2 h1.ok hl
 have A2:=QP a.2.1 a.2.2 h2.ok hm
 have s1:Sm (FW a.1) 40064 40000:=h1.abs.more (by decide) (by decide)
 have s2:Sm (FW a.2) 40064 40000:=h2.abs.more (by decide) (by decide)
 have SP:=IU true [FW a.1,FW a.2] (by simp) (fun p hp=>by simp only [dk,dm,or_false] at hp;rcases hp with rfl|rfl <;> assumption) (bi rfl)
 have G1:=IT a.1.1 a.1.2 h1.ok hl
 have G2:=IT a.2.1 a.2.2 h2.ok hm
 by_cases c1:a.1.1<0
 case pos =>
  by_cases c2:0<a.2.1
  case pos =>
   rw [show sgI a.1.1 = -1 by unfold sgI;(repeat' split) <;> omega] at G1
   rw [show sgI a.2.1=1 by unfold sgI;(repeat' split) <;> omega] at G2
   have e:QX a=((0,0),(CC [FW a.1,FW a.2]).2):=if_pos ⟨c1,c2⟩
   rw [e]
   repeat' (with_reducible first|refine AaS ?_|(refine Tx 4 ?_;refine gO (by exact AO rfl Fl rfl rfl) <| gO xF <| gZ (xSk Aa) ?_))
   exact Ax rfl (.cons_ (rvJ0 Ac rfl) .nil_)
  rw [show sgI a.1.1 = -1 by unfold sgI;(repeat' split) <;> omega] at G1
  have g2:sgI a.2.1≤0:=by unfold sgI;(repeat' split) <;> omega
  generalize sgI a.2.1=g at *
  rw [show QX a=CC [FW a.1,FW a.2] from if_neg (fun h=>c2 h.2)]
  repeat' (with_reducible first|refine AaS ?_)
  exact DG
 have g1:0≤sgI a.1.1:=by unfold sgI;(repeat' split) <;> omega
 generalize sgI a.1.1=g at *
 rw [show QX a=CC [FW a.1,FW a.2] from if_neg (fun h=>c1 h.1)]
 repeat' (with_reducible first|refine AaS ?_)
 exact DG
theorem AmB (h:p:=by first|exact xCl func140 (PV)|exact xCl func140 (PU)):p:=h
theorem SW (a:Iq) (v u:Pq) (h:IwS a 20000 20000) (hv:Sm v 20000 20000) (hu:Sm u 20000 20000) (hvu:Ir v u≤0):CV prog Ah 150 [aIw false a,aDy false v.1 v.2,aDy false u.1 u.2] [aIw false (UA a v u),aE 0]:=by
 refine cvz func150 ntmps150 ?_
 have CM:=BZ v.1 v.2 u.1 u.2 hv.ok hu.ok hv.lz hu.lz
 have PV:=Dr v hv.ok hv.lz
 have PU:=Dr u hu.ok hu.lz
 have MX:=Rd a (v,v) h (.pt hv)
 have MN:=Rc (AdL a (v,v)) (u,u) (h.max (.pt hv)) (.pt hu)
 have hle:Ir v u≤0:=hvu
 unfold Ir at hle
 repeat' (with_reducible first|refine qq ?_|(refine Tx 0 ?_;refine gN xBo <| gN xBo <| gN xBo <| gN (xAl Ak) <| gO xA ?_)|(refine Tx 1 ?_;refine gO xL <| gO xL <| gO (xCl func15 (CM)) <| gO xGt ?_)|(refine AG (id:=3) 7 AV (by kernel_rfl) ?_;dsimp only [List.take,List.drop];refine gP xL <| gP xL <| gP AmB <| gP (xCl func149 (MX)) <| gP xL <| gP AmB <| gP (xCl func148 (MN)) ?_;refine Ke ?_;refine gZ (xSk Ac) <| gO xA ?_))
 exact Ax rfl (.cons_ (rvJ Ac rfl) (.cons_ (Gl rfl rfl) .nil_))
theorem XK (a:Iq) (den:Nat) (h:IwS a 20000 20000) (hd:den≤65536):CV prog Ah 175 [aIw false a,aI (den:Int)] [aIw false (GB a den),aE 0]:=by
 refine cvz func175 ntmps175 ?_
 have h1:=h.s1
 have h2:=h.s2
 have hl:=h1.l4
 have hm:=h2.l4
 have AR:=Dp a h
 have FL:=(PF a.1.1 a.1.2 den h1.ok hl hd).cv
 have CE:=SR a.2.1 a.2.2 den h2.ok hm hd
 repeat' (with_reducible first|refine qq ?_|(refine Tx 0 ?_;refine gN xBo <| gN (xAl Ak) <| gO xA ?_)|(refine Tx 1 ?_;refine gO xL <| gO (xCl func228 (AR)) <| gZ (xSk Ac) ?_)|(refine Tx 2 ?_;refine gO xF <| gO xL <| gO xM <| gO (xCl func22 (FL)) <| gO xMt <| gO (by exact DB rfl rfl rfl) <| gO xEx <| gN (xAl Aj) <| gZ (xSk Aa) <| gO xA ?_)|(refine Tx 3 ?_;refine gO xM <| gO (xNE Al) ?_)|(refine Tx 5 ?_;refine gO xF <| gO xL <| gO xM <| gO (xCl func153 (CE)) <| gO xMt <| gO (by exact DB rfl rfl rfl) <| gO xEx <| gN (xAl Aj) <| gZ (xSk Aa) <| gO xA ?_)|(refine Tx 6 ?_;refine gO xM <| gO (xNE Al) ?_)|(refine Tx 8 ?_;refine gO xL <| gO xL <| gO (by exact AO rfl Cu rfl rfl) <| gZ (xSk Ac) <| gO xA ?_))
 exact Ax rfl (.cons_ (rvJ Ac rfl) (.cons_ (Gl rfl rfl) .nil_))
theorem AmC (h:p:=by first|exact xCl func15 (C1)|exact xCl func15 (C2)):p:=h
theorem AaT (k:p') (h:Hd9 p'→p:=by with_reducible first|(intro Z9;refine qq ?_;exact Z9.o)|(intro Z9;refine Tx 0 ?_;refine gN xBo <| gN xBo <| gO xA ?_;exact Z9.o)|(intro Z9;refine AG (id:=1) 4 AV (by kernel_rfl) ?_;dsimp only [List.take,List.drop];refine gP xL <| gP Mg <| gP xL <| gP Mg ?_;refine Ke ?_;refine gZ (xSk Ac) <| gZ (xSk Ac) ?_;exact Z9.o)|(intro Z9;refine Tx 2 ?_;refine gO xF <| gO xL <| gO xF <| gO xL <| gO AmC <| gO xLe <| gO xM ?_;(first|iterate 6 refine Jd ?_|(refine Jy (xFa AM Aa) ?_;refine Jy (xLa Aa) ?_;refine Jy (xFa AM Aa) ?_;refine Jy (xLa Aa) ?_;refine Jy AmC ?_;refine Jy xLe ?_));refine gO xPk <| gO xA ?_;exact Z9.o)|fail):p:=h ⟨k⟩
theorem BQ (a b:Iq) (h:IwS a 20000 20000) (k:IwS b 20000 20000):CV prog Ah 151 [aIw false a,aIw false b] [aB (iIn a b)]:=by
 refine cvz func151 ntmps151 ?_
 have h1:=h.s1
 have h2:=h.s2
 have hl:=h1.l4
 have hm:=h2.l4
 have k1:=k.s1
 have k2:=k.s2
 have kl:=k1.l4
 have km:=k2.l4
 have AA:=Dp a h
 have AB:=Dp b k
 have C1:=BZ b.1.1 b.1.2 a.1.1 a.1.2 k1.ok h1.ok kl hl
 have C2:=BZ a.2.1 a.2.2 b.2.1 b.2.2 h2.ok k2.ok hm km
 by_cases c1:BI b.1.1 b.1.2 a.1.1 a.1.2≤0
 case neg =>
  repeat' (with_reducible first|refine AaT ?_)
  exact Ax rfl (.cons_ (DD rfl (by unfold iIn;rw [decide_eq_false c1];rfl)) .nil_)
 by_cases c2:BI a.2.1 a.2.2 b.2.1 b.2.2≤0
 case pos =>
  repeat' (with_reducible first|refine AaT ?_)
  exact Ax rfl (.cons_ (DD rfl (by unfold iIn;rw [decide_eq_true c1,decide_eq_true c2];rfl)) .nil_)
 case neg =>
  repeat' (with_reducible first|refine AaT ?_)
  exact Ax rfl (.cons_ (DD rfl (by unfold iIn;rw [decide_eq_true c1,decide_eq_false c2];rfl)) .nil_)
theorem IV (a:Iq) (h:IwS a 20000 20000):CV prog Ah 159 [aIw false a] [aDy false (FX a).1 (FX a).2]:=by
 refine cvz func159 ntmps159 ?_
 have AB:=Rf a h
 repeat' (with_reducible first|refine qq ?_|(refine Tx 0 ?_;refine gN xBo <| gN (xAl Aj) ?_)|(refine Tx 1 ?_;refine gO xL <| gO (xCl func147 (AB)) <| gO (by exact RT rfl rfl AM Aa rfl) <| gZ (xSk Aa) ?_))
 exact Ax rfl (.cons_ (rvW Aa rfl) .nil_)
def AmD (r s:Rv):Iq:=if ivR r s=true then (rvP r,rvP s) else ((0,0),(0,0))
theorem AfB {a b:Iq} {d n' d':Nat} (h:IwS a n d) (k:IwS b n' d') (e1:gv a.1=gv b.1) (e2:gv a.2=gv b.2):a=b:=Prod.ext (Og h.s1.ok k.s1.ok e1) (Og h.s2.ok k.s2.ok e2)
section
variable {a b:Iq} {n d:Nat}
theorem AdZ (h:IwS a n d):(if iIn ((0,0),(0,0)) a=true then ((0,0),(CC [FW a.1,FW a.2]).2) else CC [FW a.1,FW a.2])=QX a:=by
 obtain ⟨e1,e2,e3⟩:=Fz h.s1.abs h.s2.abs
 rw [Oe,Oe] at e1 e2
 have hi:=Aaz (a:=((0,0),(0,0))) (.pt (Sm.zero n d)) h
 rw [FV] at hi
 have hle:=h.le
 by_cases hc:gv a.1≤0∧0≤gv a.2
 ·rw [if_pos (by rw [hi];exact decide_eq_true hc)]
  unfold QX
  by_cases h2:a.1.1<0∧0<a.2.1
  ·rw [if_pos h2]
  ·rw [if_neg h2]
   have h2':¬ (gv a.1<0∧0<gv a.2):=fun h=>h2 ⟨Wc.2 h.1,Wd.2 h.2⟩
   refine Prod.ext (Og (Sm.zero n d).ok e3.s1.ok ?_) rfl
   rw [e1];show gv (0,0)=_;rw [FV];omega
 ·rw [if_neg (by rw [hi,decide_eq_false hc];exact Bool.false_ne_true)]
  unfold QX
  rw [if_neg fun h=>hc ⟨by have:=Wc.1 h.1;omega,by have:=Wd.1 h.2;omega⟩]
end
theorem AaU {r s:Rv} (hr:RvL r) (hs:RvL s) (h:ivR r s=true):dIr false (r,s)=dIw false (rvP r,rvP s)∧Nf (rvP r).1 (rvP r).2∧Nf (rvP s).1 (rvP s).2∧gv (rvP r)≤gv (rvP s)∧(Ab (rvP r).1.natAbs).length=r.ws.length∧(Ab (rvP s).1.natAbs).length=s.ws.length:=by
 unfold ivR at h
 rw [ai,ai] at h
 obtain ⟨⟨h1,h2⟩,h3⟩:=h
 obtain ⟨e1,n1,k1⟩:=Uv (t:=false) hr.1 h1
 obtain ⟨e2,n2,k2⟩:=Uv (t:=false) hs.1 h2
 refine ⟨?_,n1,n2,(LS (p:=rvP r) (q:=rvP s) n1.le n2.le).1 (of_decide_eq_true h3),k1,k2⟩
 show dRv false r++dRv false s=_
 rw [e1,e2]
 rfl
theorem AmE {a:Iq} {d:Nat} (h:IwS a n d):AmD (CY a.1) (CY a.2)=a:=by unfold AmD;rw [if_pos (XI h),EJ,EJ]
theorem AaV (k:p') (h:Hd9 p'→p:=by with_reducible first|(intro Z9;refine qq ?_;exact Z9.o)|(intro Z9;refine Tx 0 ?_;refine gN xBo <| gO xA ?_;exact Z9.o)|(intro Z9;refine Tx 1 ?_;refine gO xL <| gO (xCl func105 (PX)) <| gZ (xSk Aa) ?_;exact Z9.o)|(intro Z9;refine Tx 2 ?_;refine gO xF <| gO xD <| gO xN <| gO xEq ?_;exact Z9.o)|fail):p:=h ⟨k⟩
theorem Wj (x:Int) (dx:Nat) (hnx:Nf x dx) (lx:(Ab x.natAbs).length≤40000):CV prog Ah 41 [aDy false x dx] [aI (sgI x)]:=by
 refine cvz func41 ntmps41 ?_
 have PX:=NN Ah x dx hnx (lT lx (by decide))
 by_cases c0:x=0
 case pos =>
  have l0:((Ab x.natAbs).length:Int)=0:=by rw [show x.natAbs=0 by omega,AF];rfl
  have hdx:decide (x<0)=false:=decide_eq_false (by omega)
  unfold aDy dDy at PX ⊢
  rw [hdx] at PX ⊢
  rw [show sgI x=0 by unfold sgI;(repeat' split) <;> omega]
  repeat' (with_reducible first|refine AaV ?_|(refine Tx 3 ?_;refine gO xA ?_))
  exact IR
 by_cases cm1:x<0
 case pos =>
  have l0:¬ ((Ab x.natAbs).length:Int)=0:=fun hc=>by have:=Cj (n:=x.natAbs) (by omega);omega
  have hdx:decide (x<0)=true:=decide_eq_true (by omega)
  unfold aDy dDy at PX ⊢
  rw [hdx] at PX ⊢
  rw [show sgI x = -1 by unfold sgI;(repeat' split) <;> omega]
  repeat' (with_reducible first|refine AaV ?_|(refine Tx 4 ?_;refine gO xF <| gO xD ?_)|(refine Tx 5 ?_;refine gO xA ?_))
  exact IR
 have l0:¬ ((Ab x.natAbs).length:Int)=0:=fun hc=>by have:=Cj (n:=x.natAbs) (by omega);omega
 have hdx:decide (x<0)=false:=decide_eq_false (by omega)
 unfold aDy dDy at PX ⊢
 rw [hdx] at PX ⊢
 rw [show sgI x=1 by unfold sgI;(repeat' split) <;> omega]
 repeat' (with_reducible first|refine AaV ?_|(refine Tx 4 ?_;refine gO xF <| gO xD ?_)|(refine Tx 6 ?_;refine gO xA ?_))
 exact IR
theorem AfC (k:p') (h:Hd9 p'→p:=by with_reducible first|(intro Z9;refine Tx 1 ?_;refine gO xF <| gO xL <| gO (xCl func81 (V1)) <| gO xM ?_;(first|iterate 3 refine Jd ?_|(refine Jy (xFa AM Aa) ?_;refine Jy (xLa Aa) ?_;refine Jy (xCl func81 (V2)) ?_));refine gO xPk <| gO xM ?_;(first|iterate 6 refine Jd ?_|(refine Jy (xFa Ce Aa) ?_;refine Jy (xLa Aa) ?_;refine Jy (xFa AM Aa) ?_;refine Jy (xLa Aa) ?_;refine Jy (xCl func29 (CM)) ?_;refine Jy xLe ?_));refine gO xPk <| gO xA ?_;exact Z9.o)|fail):p:=h ⟨k⟩
theorem PG (r s:Rv) (hr:RvL r) (hs:RvL s):CV prog Ah 80 [.agg (dIr false (r,s))] [aB (ivR r s)]:=by
 refine cvz func80 ntmps80 ?_
 have V1:=(NW (G:=Ah) false r hr.1 (lT hr.2 (by decide))).cv
 have V2:=(NW (G:=Ah) false s hs.1 (lT hs.2 (by decide))).cv
 by_cases c1:vdB r.rw=true
 case neg =>
  rw [aw] at c1
  rw [c1] at V1
  repeat' (with_reducible first|refine qq ?_|(refine Tx 0 ?_;refine gN xBo <| gO xA ?_)|(refine Tx 1 ?_;refine gO xF <| gO xL <| gO (xCl func81 (V1)) <| gO xM ?_;(first|iterate 3 refine Jd ?_|(refine Jy (xFa AM Aa) ?_;refine Jy (xLa Aa) ?_;refine Jy (xCl func81 (V1)) ?_));refine gO xPk <| gO xM ?_;(first|iterate 4 refine Jd ?_|(refine Jy (xFa Ce Aa) ?_;refine Jy (xLa Aa) ?_;refine Jy (xFa AM Aa) ?_;refine Jy (xLa Aa) ?_));refine Jd ?_;(first|refine Jd ?_|refine Jy xLe ?_);refine gO xPk <| gO xA ?_))
  exact Ax rfl (.cons_ (DD rfl (by unfold ivR;rw [c1];rfl)) .nil_)
 by_cases c2:vdB s.rw=true
 case neg =>
  rw [aw] at c2
  rw [c1] at V1
  rw [c2] at V2
  repeat' (with_reducible first|refine qq ?_|(refine Tx 0 ?_;refine gN xBo <| gO xA ?_)|(refine Tx 1 ?_;refine gO xF <| gO xL <| gO (xCl func81 (V1)) <| gO xM ?_;(first|iterate 3 refine Jd ?_|(refine Jy (xFa AM Aa) ?_;refine Jy (xLa Aa) ?_;refine Jy (xCl func81 (V2)) ?_));refine gO xPk <| gO xM ?_;(first|iterate 4 refine Jd ?_|(refine Jy (xFa Ce Aa) ?_;refine Jy (xLa Aa) ?_;refine Jy (xFa AM Aa) ?_;refine Jy (xLa Aa) ?_));refine Jd ?_;(first|refine Jd ?_|refine Jy xLe ?_);refine gO xPk <| gO xA ?_))
  exact Ax rfl (.cons_ (DD rfl (by unfold ivR;rw [c1,c2];rfl)) .nil_)
 rw [c1] at V1
 rw [c2] at V2
 obtain ⟨e1,n1,k1⟩:=Uv (t:=false) hr.1 c1
 obtain ⟨e2,n2,k2⟩:=Uv (t:=false) hs.1 c2
 have CM:=(QF (G:=Ah) false false r.rw.x r.rw.d s.rw.x s.rw.d n1 n2 (lT (gp k1) (lT hr.2 (by decide))) (lT (gp k2) (lT hs.2 (by decide)))).cv
 unfold aDy at CM
 rw [←e1,←e2] at CM
 by_cases c3:BI r.rw.x r.rw.d s.rw.x s.rw.d≤0
 case pos =>
  repeat' (with_reducible first|refine qq ?_|(refine Tx 0 ?_;refine gN xBo <| gO xA ?_)|refine AfC ?_)
  exact Ax rfl (.cons_ (DD rfl (by unfold ivR;rw [c1,c2,decide_eq_true c3];rfl)) .nil_)
 case neg =>
  repeat' (with_reducible first|refine qq ?_|(refine Tx 0 ?_;refine gN xBo <| gO xA ?_)|refine AfC ?_)
  exact Ax rfl (.cons_ (DD rfl (by unfold ivR;rw [c1,c2,decide_eq_false c3];rfl)) .nil_)
theorem rvJ1 {t:Tmp} {k:Nat} (hk:TyK P ty true k) (hi:6=k) (hF:F t=.one (.ref id 0 none):=by with_unfolding_all exact rfl) (hH:H[id]?=some (.box ty' [.d (.val (.bool false)),.d (.val (.slice none 0 0)),.d (.val (.int .i64 0)),.d (.val (.bool false)),.d (.val (.slice none 0 0)),.d (.val (.int .i64 0))]):=by with_unfolding_all exact rfl):RV P F H (.cell t ty) (.agg [.val (.bool false),.row false 1 0 [],.val (.int .i64 0),.val (.bool false),.row false 1 0 [],.val (.int .i64 0)]):=by
 obtain ⟨⟨dd,hu,hd⟩,hz⟩:=hk
 exact .cellA hF hH hu hd (by rw [hz,←hi];rfl) (.cons_ (.d fun _=>.val _) (.cons_ .nil (.cons_ (.d fun _=>.val _) (.cons_ (.d fun _=>.val _) (.cons_ .nil (.cons_ (.d fun _=>.val _) .nil_))))))
theorem AaW (r s:Rv) (hr:RvL r) (hs:RvL s):CV prog Ah 209 [.agg (dIr false (r,s))] [aIw false (AmD r s)]:=by
 refine cvz func209 ntmps209 ?_
 have V:=PG r s hr hs
 by_cases c:ivR r s=true
 case pos =>
  rw [show AmD r s=(rvP r,rvP s) from if_pos c]
  rw [c,(AaU hr hs c).1] at V
  rw [(AaU hr hs c).1]
  repeat' (with_reducible first|refine qq ?_|(refine Tx 0 ?_;refine gN xBo <| gN (xAl Ak) ?_)|(refine Tx 1 ?_;refine gO xL <| gO (xCl func80 (V)) ?_)|(refine Tx 2 ?_;refine gO xL <| gZ (xSk Ac) ?_))
  exact DG
 rw [show AmD r s=((0,0),(0,0)) from if_neg c]
 rw [aw] at c
 rw [c] at V
 unfold aIw
 rw [AaA]
 repeat' (with_reducible first|refine qq ?_|(refine Tx 0 ?_;refine gN xBo <| gN (xAl Ak) ?_)|(refine Tx 1 ?_;refine gO xL <| gO (xCl func80 (V)) ?_)|(refine Tx 3 ?_;refine gO (by exact AO rfl Cu rfl rfl) <| gZ (xSk Ac) ?_))
 exact Ax rfl (.cons_ (rvJ1 Ac rfl) .nil_)
theorem SZ (a:Iq) {n d:Nat} (h:IwS a n d) (hn:n≤1280000):CV prog Ah 209 [aIw false a] [aIw false a]:=by
 have:=AaW (CY a.1) (CY a.2) (Hq h.s1 hn) (Hq h.s2 hn)
 rw [AmE h] at this
 unfold dIr at this
 rwa [GD,GD] at this
theorem XL (p:Pq) (hn:Nf p.1 p.2) (hl:(Ab p.1.natAbs).length≤40000):CV prog Ah 187 [aDy false p.1 p.2] [aIw false (p,p)]:=by
 refine cvz func187 ntmps187 ?_
 have NM:=NN Ah p.1 p.2 hn (lT hl (by decide))
 repeat' (with_reducible first|refine qq ?_|(refine Tx 0 ?_;refine gN xBo <| gN (xAl Ak) ?_)|(refine Tx 1 ?_;refine gO xL <| gO (xCl func105 (NM)) <| gZ (xSk Aa) ?_)|(refine Tx 2 ?_;refine gO xL <| gO xL <| gO (by exact AO rfl Cu rfl rfl) <| gZ (xSk Ac) ?_))
 exact DG
theorem Ta (t:Bool) (L:List Pq) (hne:L≠[]) (hs:∀ p∈L,Sm p 40064 40000) (hL:L.length≤100):CV prog Ah 232 [.one (.row t 3 L.length (Av dyP L))] [aIw false (CC L)]:=by
 refine cvz func232 ntmps232 ?_
 obtain ⟨p,l,rfl⟩:∃ p l,L=p::l:=by cases L with|nil=>exact absurd rfl hne|cons p l=>exact ⟨p,l,rfl⟩
 have hp:=hs p (gz ..)
 have hpl:=lT (hp.lenN 1252 (by decide)) (show 1252≤40000 by decide)
 have PT:=XL p hp.ok hpl
 have hlen:(p::l).length=l.length+1:=bw
 repeat' (with_reducible first|refine qq ?_|(refine Tx 0 ?_;refine gN (xAl Ak) ?_)|(refine Tx 1 ?_;refine gO xM <| gO (by exact Po (i:=0) rfl rfl rfl rfl Af (by omega) (by decide) (Wg (l:=p::l) (k:=0) rfl)) <| gO xL <| gO (xCl func187 (PT)) <| gN (xAl Ak) <| gZ (xSk Ac) ?_)|(refine Tx 2 ?_;refine gO xM <| gO (by exact SS (lo:=1) rfl rfl rfl rfl Af (by omega)) <| gO xN <| gO xM ?_))
 refine AQ (Bu 2) (Aq (fun n Fr H=>∃ k:Nat,k≤l.length∧n=l.length - k∧IwS ((l.take (k)).foldl GA (p,p)) 40064 40000∧Fr=ofL [(2,vr 0),(3,vr 1),(11,vd (.row t 3 ((p::l).length - 1) ((Av dyP (p::l)).drop (1*3)))),(12,vi (((p::l).length - 1:Nat))),(13,vi ((k:Nat)))]∧H=[.box 45 [.d (.val (.bool false)),.d (.val (.slice none 0 0)),.d (.val (.int .i64 0)),.d (.val (.bool false)),.d (.val (.slice none 0 0)),.d (.val (.int .i64 0))],.box 45 ((dIw false ((l.take (k)).foldl GA (p,p))).map C.d)]) (n0:=l.length) ⟨0,ad _,rfl,.pt hp,rfl,rfl⟩ ?_)
 rintro n Fr H ⟨k,hk,rfl,hS,rfl,rfl⟩
 by_cases hlt:k<l.length
 case pos =>
  obtain ⟨x,hx⟩:∃ x,l[k]?=some x:=⟨_,gE hlt⟩
  have hxs:=hs x (fx _ (gM hx))
  have hxl:=lT (lT (hxs.lenN 1252 (by decide)) (show 1252≤40000 by decide)) (show 40000≤50000 by decide)
  have a1:=hS.s1
  have a2:=hS.s2
  have a1l:=lT (lT (a1.lenN 1252 (by decide)) (show 1252≤40000 by decide)) (show 40000≤50000 by decide)
  have a2l:=lT (lT (a2.lenN 1252 (by decide)) (show 1252≤40000 by decide)) (show 40000≤50000 by decide)
  have hnx:GA ((l.take (k)).foldl GA (p,p)) x=((l.take (k+1)).foldl GA (p,p)):=by rw [ay,hx,ff,kx];rfl
  have hIS:IwS (GA ((l.take (k)).foldl GA (p,p)) x) 40064 40000:=⟨Sm.min a1 hxs,Sm.max a2 hxs,by show gv (Ru _ x)≤gv (Gz _ x);rw [LU a1.le hxs.le,Fy a2.le hxs.le];have:=hS.le;omega⟩
  rw [hnx] at hIS
  have hxd:(((Av dyP (p::l)).drop (1*3)).drop (k*3)).take 3=dyP x:=by rw [jd,show 1*3+k*3=(k+1)*3 by omega];exact Wg (l:=p::l) (k:=k+1) (by rw [ew];exact hx)
  generalize hT:((l.take (k)).foldl GA (p,p))=T at *
  have MN:=(Ain Ah false false T.1.1 T.1.2 x.1 x.2 a1.ok hxs.ok a1l hxl).cv
  have MX:=(NR Ah false false T.2.1 T.2.2 x.1 x.2 a2.ok hxs.ok a2l hxl).cv
  repeat' (with_reducible first|refine qq ?_|(refine Tx 3 ?_;refine gO xLt ?_)|(refine Tx 4 ?_;refine gO (xIr Af (hxd)) <| gO xL <| gN (xAl Aj) <| gZ (xSk Aa) ?_)|(refine AG (id:=5) 9 AV (by kernel_rfl) ?_;dsimp only [List.take,List.drop];refine gP xF <| gP xL <| gP xL <| gP (xCl func255 (MN)) <| gP xF <| gP xL <| gP xL <| gP (xCl func100 (MX)) <| gP xF ?_;refine Ke ?_;refine gZ (xSk Aa) <| gO xF <| gZ (xSk Aa) ?_)|(refine Tx 6 ?_;refine gO xAd <| gO xM ?_))
  exact AfA
 obtain rfl:k=l.length:=by omega
 clear hlt hk
 rw [bc]
 repeat' (with_reducible first|refine qq ?_|(refine Tx 3 ?_;refine gO xLt ?_)|(refine Tx 7 ?_;refine gO xL <| gZ (xSk Ac) ?_))
 exact DG
theorem AmF (h:p:=by first|exact xCl func39 (O1)|exact xCl func39 (O2)):p:=h
theorem Tb (x y:Int) (hx : -9223372036854775807≤x∧x<9223372036854775808) (hy : -9223372036854775807≤y∧y<9223372036854775808):CV prog Ah 165 [aI x,aI y] [aIw false (CC [(x,0),(y,0)])]:=by
 refine cvz func165 ntmps165 ?_
 have O1:=(QE (G:=Ah) x (by omega) (by omega)).cv
 have O2:=(QE (G:=Ah) y (by omega) (by omega)).cv
 have s1:Sm (x,0) 40064 40000:=Wh x (by omega)
 have s2:Sm (y,0) 40064 40000:=Wh y (by omega)
 have SP:=Ta true [(x,0),(y,0)] (by simp) (fun p hp=>by simp only [dk,dm,or_false] at hp;rcases hp with rfl|rfl <;> assumption) (bi rfl)
 repeat' (with_reducible first|refine qq ?_|(refine Tx 0 ?_;refine gN (xAl Ak) ?_)|(refine Tx 1 ?_;refine gO xM <| gO AmF <| gO xM <| gO AmF <| gN (by exact Gu rfl Af Aj rfl rfl rfl rfl (by decide) (by decide)) <| gO (xCl func232 (SP)) <| gZ (xSk Ac) ?_))
 exact DG
theorem AmG (h:p:=by first|exact xCl func29 (C1)|exact xCl func29 (C2)):p:=h
theorem AaX (k:p') (h:Hd9 p'→p:=by with_reducible first|(intro Z9;refine qq ?_;exact Z9.o)|(intro Z9;refine Tx 0 ?_;refine gN xBo <| gN xBo <| gO xA ?_;exact Z9.o)|(intro Z9;refine Tx 1 ?_;refine gO xL <| gO (xCl func209 (AA)) <| gZ (xSk Ac) ?_;exact Z9.o)|(intro Z9;refine Tx 2 ?_;refine gO xF <| gO xL <| gO xL <| gO AmG <| gO xLe <| gO xM ?_;(first|iterate 5 refine Jd ?_|(refine Jy (xLa Aa) ?_;refine Jy (xFa AM Aa) ?_;refine Jy (xLa Aa) ?_;refine Jy AmG ?_;refine Jy xLe ?_));refine gO xPk <| gO xA ?_;exact Z9.o)|fail):p:=h ⟨k⟩
theorem Rg (a:Iq) (p:Pq) (h:IwS a 20000 20000) (hp:Sm p 20000 20000):CV prog Ah 116 [aIw false a,aDy false p.1 p.2] [aB (iIn (p,p) a)]:=by
 refine cvz func116 ntmps116 ?_
 have h1:=h.s1
 have h2:=h.s2
 have hl:=lT (h1.l4) (show 40000≤50000 by decide)
 have hm:=lT (h2.l4) (show 40000≤50000 by decide)
 have AA:=SZ a h (by decide)
 have hpl:=lT (hp.lenN 625 (by decide)) (show 625≤50000 by decide)
 have C1:=(QF (G:=Ah) false false a.1.1 a.1.2 p.1 p.2 h1.ok hp.ok hl hpl).cv
 have C2:=(QF (G:=Ah) false false p.1 p.2 a.2.1 a.2.2 hp.ok h2.ok hpl hm).cv
 by_cases c1:BI a.1.1 a.1.2 p.1 p.2≤0
 case neg =>
  repeat' (with_reducible first|refine AaX ?_)
  exact Ax rfl (.cons_ (DD rfl (by unfold iIn;rw [decide_eq_false c1];rfl)) .nil_)
 by_cases c2:BI p.1 p.2 a.2.1 a.2.2≤0
 case pos =>
  repeat' (with_reducible first|refine AaX ?_)
  exact Ax rfl (.cons_ (DD rfl (by unfold iIn;rw [decide_eq_true c1,decide_eq_true c2];rfl)) .nil_)
 case neg =>
  repeat' (with_reducible first|refine AaX ?_)
  exact Ax rfl (.cons_ (DD rfl (by unfold iIn;rw [decide_eq_true c1,decide_eq_false c2];rfl)) .nil_)
theorem AmH (h:p:=by first|exact xCl func101 (A1)|exact xCl func101 (A2)):p:=h
theorem AfD (k:p') (h:Hd9 p'→p:=by with_reducible first|(intro Z9;refine qq ?_;exact Z9.o)|(intro Z9;refine Tx 0 ?_;refine gN xBo <| gN (xAl Ak) ?_;exact Z9.o)|(intro Z9;refine Tx 1 ?_;refine gO xL <| gO (xCl func209 (AR)) <| gZ (xSk Ac) ?_;exact Z9.o)|(intro Z9;refine AG (id:=2) 9 AV (by kernel_rfl) ?_;dsimp only [List.take,List.drop];refine gP xF <| gP xL <| gP AmH <| gP xF <| gP xL <| gP AmH <| gQ (by exact Gu rfl Af Aj rfl rfl rfl rfl (by decide) (by decide)) <| gP (xCl func232 (SP)) <| gQ (xAl Ak) ?_;refine Ke ?_;refine gZ (xSk Ac) ?_;exact Z9.o)|(intro Z9;refine Tx 3 ?_;refine gO xL <| gO (by exact AO rfl Fl rfl rfl) <| gO (xCl func116 (CT)) ?_;exact Z9.o)|(intro Z9;refine Tx 5 ?_;refine gO xL <| gZ (xSk Ac) ?_;exact Z9.o)|fail):p:=h ⟨k⟩
theorem Aea (a:Iq) (h:IwS a 20000 20000):CV prog Ah 205 [aIw false a] [aIw false (QX a)]:=by
 refine cvz func205 ntmps205 ?_
 have h1:=h.s1
 have h2:=h.s2
 have hl:=lT (h1.l4) (show 40000≤50000 by decide)
 have hm:=lT (h2.l4) (show 40000≤50000 by decide)
 have AR:=SZ a h (by decide)
 have A1:=(Us Ah false a.1.1 a.1.2 h1.ok hl).cv
 have A2:=(Us Ah false a.2.1 a.2.2 h2.ok hm).cv
 have s1:Sm (FW a.1) 40064 40000:=h1.abs.more (by decide) (by decide)
 have s2:Sm (FW a.2) 40064 40000:=h2.abs.more (by decide) (by decide)
 have SP:=Ta true [FW a.1,FW a.2] (by simp) (fun p hp=>by simp only [dk,dm,or_false] at hp;rcases hp with rfl|rfl <;> assumption) (bi rfl)
 have CT:=Rg a (0,0) h (Sm.zero _ _)
 rw [Gy] at CT
 rw [←AdZ h]
 by_cases c:iIn ((0,0),(0,0)) a=true
 case pos =>
  rw [c] at CT
  rw [if_pos c]
  repeat' (with_reducible first|refine AfD ?_|(refine Tx 4 ?_;refine gO (by exact AO rfl Fl rfl rfl) <| gO xF <| gZ (xSk Aa) ?_))
  exact Ax rfl (.cons_ (rvJ0 Ac rfl) .nil_)
 rw [if_neg c]
 rw [aw] at c
 rw [c] at CT
 repeat' (with_reducible first|refine AfD ?_)
 exact DG
end Go.Proofs.YtmdfjbpggbhgnaaGreatDoor
