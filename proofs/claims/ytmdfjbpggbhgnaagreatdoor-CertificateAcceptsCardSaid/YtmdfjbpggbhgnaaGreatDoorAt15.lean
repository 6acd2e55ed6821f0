/- What the proofs of this claim share, part 15. No conditions. -/
import Derived.Test.YtmdfjbpggbhgnaaGreatDoorAt10
import Derived.Test.YtmdfjbpggbhgnaaGreatDoorAt9
import Derived.Test.YtmdfjbpggbhgnaaGreatDoorAt11
import Derived.Test.YtmdfjbpggbhgnaaGreatDoorAt14
import Derived.Test.YtmdfjbpggbhgnaaGreatDoorAt12
import Derived.Test.YtmdfjbpggbhgnaaGreatDoorAt8
import Derived.Test.YtmdfjbpggbhgnaaGreatDoorAt5
import Derived.Test.YtmdfjbpggbhgnaaGreatDoorAt6
import Derived.Tactics2
set_option maxRecDepth 100000
set_option maxHeartbeats 4000000
set_option linter.all false
open Go.Proofs.Tryz
namespace Go.Proofs.YtmdfjbpggbhgnaaGreatDoor
open Go.RowKit
variable {q:Int × Nat} {P:Program} {F:Frm} {H:List Ob} {d' den i id j n n' ty ty' u:Nat} {p p':Prop} {e s:Int} {y:Bk} {l:List (Option (Int × Nat))} {t w:Bool} {ps:List Prt} {bs:List Bk} {os zs:List Int} {g:FuncId} {fn:Func} {c:Code} {ts:Array TypeId}
theorem AeL {p:Int × Nat} {X:Int} {Q:Nat} (h1:Nf p.1 p.2) (h2:Nf q.1 q.2) (e1:p.1*2 ^ Q=X*2 ^ p.2) (e2:q.1*2 ^ Q=X*2 ^ q.2):p=q:=by
 have key:∀ p q:Int × Nat,Nf q.1 q.2→p.1*2 ^ Q=X*2 ^ p.2→q.1*2 ^ Q=X*2 ^ q.2→p.2≤q.2→q.1=p.1*2 ^ (q.2 - p.2):=fun p q _ e1 e2 hle=>by
  have pw:(2:Int) ^ Q≠0:=ii (Int.pow_pos (by decide))
  refine jn pw ?_
  rw [e2,ij,e1,ar,←aw]
  congr 2;omega
 have fin:∀ p q:Int × Nat,Nf q.1 q.2→p.1*2 ^ Q=X*2 ^ p.2→q.1*2 ^ Q=X*2 ^ q.2→p.2≤q.2→p=q:=fun p q hq e1 e2 hle=>by
  have h:=key p q hq e1 e2 hle
  by_cases hd:p.2=q.2
  ·rw [hd,du] at h
   refine Prod.ext ?_ hd
   rw [h];show p.1=p.1*1;omega
  ·exfalso
   have ho:=hq.2 (by omega)
   obtain ⟨k,hk⟩:∃ k,q.2 - p.2=k+1:=⟨q.2 - p.2 - 1,by omega⟩
   rw [hk,Int.pow_succ,←ar] at h
   omega
 rcases Nat.le_total p.2 q.2 with h|h
 ·exact fin p q h2 e1 e2 h
 ·exact (fin q p h1 e2 e1 h).symm
theorem AeM (p:Int × Nat) {Q:Nat} (h:p.2≤Q):p.1*2 ^ Q=p.1*2 ^ (Q - p.2)*2 ^ p.2:=by
 rw [ar,←aw]
 congr 2;omega
theorem Gy:aDy false 0 0=.agg [.val (.bool false),.row false 1 0 [],.val (.int .i64 0)]:=by
 unfold aDy dDy wds
 rw [show (0:Int).natAbs=0 from rfl,Ax]
 rfl
theorem Ale {t:Tmp} {k:Nat} (hk:TyK P ty true k) (hi:3=k) (hF:F t=.one (.ref id 0 none):=by with_unfolding_all exact rfl) (hH:H[id]?=some (.box ty' [.d (.val (.bool false)),.d (.val (.slice none 0 0)),.d (.val (.int .i64 0))]):=by with_unfolding_all exact rfl):RV P F H (.cell t ty) (.agg [.val (.bool false),.row false 1 0 [],.val (.int .i64 0)]):=by
 obtain ⟨⟨dd,hu,hd⟩,hz⟩:=hk
 exact .cellA hF hH hu hd (by rw [hz,←hi];rfl) (.cons_ (.d fun _=>.val _) (.cons_ .nil (.cons_ (.d fun _=>.val _) .nil_)))
theorem Ya (k:p') (h:Hd9 p'→p:=by with_reducible first|(intro Z9;refine qq ?_;exact Z9.o)|(intro Z9;refine Tx 0 ?_;refine gN xBo <| gN (xAl Am) <| gO xA ?_;exact Z9.o)|(intro Z9;refine Tx 1 ?_;refine gO xF <| gO xD <| gO xLe <| gO xM ?_;(first|iterate 3 refine Jd ?_|(refine Jy (xFa Hx AQ) ?_;refine Jy (xLd AQ) ?_;refine Jy xGe ?_));refine gO xPk <| gO xM ?_;(first|iterate 3 refine Jd ?_|(refine Jy (xFa Es AQ) ?_;refine Jy (xLd AQ) ?_;refine Jy xLt ?_));refine gO xPk <| gO xM ?_;(first|iterate 3 refine Jd ?_|(refine Jy (xFa Es AQ) ?_;refine Jy (xLd AQ) ?_;refine Jy xGt ?_));refine gO xPk ?_;exact Z9.o)|fail):p:=h ⟨k⟩
theorem AaE (k:p') (h:Hd9 p'→p:=by with_reducible first|(intro Z9;refine Tx 2 ?_;refine gO (by exact AU rfl GR rfl rfl) <| gO (xMi underlying109) <| gZ (xSk Ab) <| gO xA ?_;exact Z9.o)|fail):p:=h ⟨k⟩
theorem AaF (h:p:=by
 exact AE rfl (.cons_ (Ale Ab rfl) (.cons_ (.tmp (.one (Bs rfl fun _=>.val _))) .nil_))):p:=h
theorem Pc (n e:Int):CV prog Al 20 [.agg [dI n,dI e]] [aDy false (if DJ n e then Ad n 0 e else (0,0)).1 (if DJ n e then Ad n 0 e else (0,0)).2,aE (if DJ n e then 0 else 3)]:=by
 refine cvz func20 ntmps20 ?_
 by_cases hs:DJ n e
 case pos =>
  rw [if_pos hs,if_pos hs]
  obtain ⟨s1,s2,s3,s4⟩:=hs
  have OF:=Em n (by omega) (by omega)
  have SH:=Bo n 0 e ⟨by decide,fun h=>absurd rfl h⟩ (lT (Az (k:=2) (by omega)) (by decide)) (by omega)
  repeat' (with_reducible first|refine Ya ?_|(refine AM (id:=3) 6 Bb (by kernel_rfl) ?_;dsimp only [List.take,List.drop];refine gP xF <| gP xD <| gP (xCl func68 (OF)) <| gP xF <| gP xD <| gP (xCl func21 (SH)) ?_;refine Ke ?_;refine gZ (xSk Ab) <| gO xA ?_))
  exact AE rfl (.cons_ (rvW Ab rfl) (.cons_ (Fg rfl rfl) .nil_))
 rw [if_neg hs,if_neg hs,Gy]
 unfold DJ at hs
 by_cases c:n ≤ -2147483648
 case pos =>
  repeat' (with_reducible first|refine Ya ?_|refine AaE ?_)
  exact AaF
 have ca:=c
 clear c
 by_cases c:2147483648≤n
 case pos =>
  repeat' (with_reducible first|refine Ya ?_|refine AaE ?_)
  exact AaF
 have cb:=c
 clear c
 by_cases c:e < -62
 case pos =>
  repeat' (with_reducible first|refine Ya ?_|refine AaE ?_)
  exact AaF
 have cc:=c
 clear c
 have cd:30<e:=by omega
 repeat' (with_reducible first|refine Ya ?_|refine AaE ?_)
 exact AaF
theorem Ait (h:p:=by
 rw [if_pos hs,if_pos hs] at VA
 repeat' (with_reducible first|refine qq ?_|(refine Tx 0 ?_;refine gN xBo <| gN (xAl Am) ?_)|(refine Tx 1 ?_;refine gO xL <| gO (xCl func20 (VA)) <| gO xMt <| gO (by exact DS rfl rfl rfl) <| gO xEx <| gN (xAl Am) <| gZ (xSk Ab) <| gO xA ?_)|(refine Tx 2 ?_;refine gO xL <| gZ (xSk Ab) ?_))
 exact AE rfl (.cons_ (rvW Ab rfl) .nil_)):p:=h
theorem Vg (n e:Int) (hs:DJ n e):CV prog Al 130 [.agg [dI n,dI e]] [aDy false (Ad n 0 e).1 (Ad n 0 e).2]:=by
 refine cvz func130 ntmps130 ?_
 have VA:=Pc n e
 exact Ait
def Akj (bs:List Bk) (j:Nat):Bk:=bs[j]?.getD bk0
def scA (F:List Int) (j:Nat):Int:=F[j]?.getD 0
def Iy (ps:List Prt) (a:Int):Int:=(ps[a.toNat]?.getD ⟨0,0,0⟩).fr
def BQ (b:Bk):Int:=b.args[0]?.getD 0
def DX (b:Bk):Int:=b.args[1]?.getD 0
theorem Sl {l:List Int} {k:Nat} (h:∀ j x,j<k→l[j]?=some x→x=0) (hk:l[k]?=some e) (he:e≠0):Ap l=e:=by
 induction l generalizing k with
 | nil=>simp at hk
 | cons x l ih =>
  unfold Ap
  cases k with
  | zero =>
   have:x=e:=by simpa using hk
   rw [if_neg (by rw [this];exact he),this]
  | succ k =>
   have hx:x=0:=h 0 x (by omega) rfl
   rw [if_pos hx]
   exact ih (k:=k) (fun j y hj hy=>h (j+1) y (by omega) (by simpa using hy)) (by simpa using hk)
section
variable {ps:List Prt} {bs:List Bk} {F:List Int}
theorem Gz (h:bs[j]?=some y):Akj bs j=y:=by unfold Akj;rw [h];rfl
end
section
variable {ps:List Prt} {bs:List Bk} {os:List Int}
theorem Sn (h:AP ps bs os=0) {i:Nat} {y:Bk} (hy:bs[i]?=some y):BK ps.length bs.length y=0 :=
 CU (Xn (Iu h).2.1) _ (List.mem_map.2 ⟨y,gM hy,rfl⟩)
theorem FV (h:AP ps bs os=0) {i:Nat} {y:Bk} (hy:bs[i]?=some y):0≤Bp y.kind∧((y.args.length:Nat):Int)=Bp y.kind∧∀ a∈y.args,0≤a∧a<(DU ps.length bs.length y.kind:Int):=TP (Sn h hy)
theorem Mo (h:AP ps bs os=0) {i:Nat} {y:Bk} (hy:bs[i]?=some y) (hv:PC y.kind=true):DJ y.vn y.ve:=by
 have h1:=Sn h hy
 have ha:=FV h hy
 unfold BK at h1
 rw [if_neg (by omega),if_neg (not_not_intro ha.2.1)] at h1
 by_cases h3:Ap (y.args.map (MS (DU ps.length bs.length y.kind)))=0
 ·rw [if_neg (not_not_intro h3)] at h1
  by_cases h4:CN y.vn y.ve (PC y.kind)=0
  ·rw [hv] at h4
   unfold CN at h4
   rw [if_pos rfl] at h4
   by_cases h5:DJ y.vn y.ve
   ·exact h5
   ·rw [if_neg h5] at h4;cases h4
  ·rw [if_pos h4] at h1
   exact absurd h1 h4
 ·rw [if_pos h3] at h1
  cases h1
theorem AaG (h:AP ps bs os=0) {i:Nat} {p:Prt} (hp:ps[i]?=some p):Gb p=0:=by
 have h1:=(Iu h).2.1
 unfold DV at h1
 rw [AX] at h1
 by_cases h2:Ap (ps.map Gb)=0
 ·exact CU h2 _ (List.mem_map.2 ⟨p,gM hp,rfl⟩)
 ·rw [if_neg h2] at h1
  exact absurd h1 h2
theorem Mp (h:(BS bs)[u]?=some i):i<bs.length∧Cy bs i≠2:=(Mg bs.length (Fu.nil bs)).mem i (gM h)
theorem Pd:(BS bs).length≤bs.length:=lT (Mg bs.length (Fu.nil bs)).le (Mf bs)
end
abbrev Dr (p:Int × Nat):Bool:=AeK p.1.natAbs p.2
def cV:Option (Int × Nat)→List C
 | none=>[.d (.val (.bool false)),.d (.val (.slice none 0 0)),.d (.val (.int .i64 0))]
 | some p=>(dDy false p.1 p.2).map C.d
def cVs (l:List (Option (Int × Nat))):List C:=(l.map cV).flatten
def gV (l:List (Option (Int × Nat))):List (Int × Nat):=l.map (·.getD (0,0))
theorem Mq (o:Option (Int × Nat)):(cV o).length=3:=by cases o <;> rfl
theorem AeN (l:List (Option (Int × Nat))):(cVs l).length=l.length*3:=by
 induction l with
 | nil=>rfl
 | cons o l ih =>
  have:(cVs (o::l)).length=(cV o).length+(cVs l).length:=by simp [cVs]
  rw [this,ih,Mq,bl];omega
theorem ER (o:Option (Int × Nat)) (l:List (Option (Int × Nat))):cVs (o::l)=cV o++cVs l:=by simp [cVs]
theorem Acd:∀ {l:List (Option (Int × Nat))} {i:Nat} {o:Option (Int × Nat)},l[i]?=some o→((cVs l).drop (i*3)).take 3=cV o
 | [],i,o,h=>by simp at h
 | q::l,0,o,h=>by
  simp only [gu,Option.some.injEq] at h
  subst h
  rw [ER,fa,gr,ji (by rw [Mq];omega),ap (by rw [Mq];omega)]
 | q::l,i+1,o,h=>by
  simp only [fk] at h
  rw [ER,show (i+1)*3=(cV q).length+i*3 by rw [Mq];omega,←il,im]
  exact Acd h
theorem Yb:∀ {l:List (Option (Int × Nat))} {i:Nat} (p:Int × Nat),i<l.length→(cVs l).take (i*3)++(dDy false p.1 p.2).map C.d++(cVs l).drop (i*3+3)=cVs (l.set i (some p))
 | [],i,p,h=>by simp at h
 | q::l,0,p,h=>by
  rw [ER,fa,jj,dp,bj,ce,ER,show (3:Nat)=(cV q).length from (Mq q).symm,im]
  rfl
 | q::l,i+1,p,h=>by
  have ih:=Yb (l:=l) (i:=i) p (by simpa using h)
  rw [ER,cm,ER,←ih,show (i+1)*3+3=(cV q).length+(i*3+3) by rw [Mq];omega,←il,im,show (i+1)*3=(cV q).length+i*3 by rw [Mq];omega,List.take_length_add_append]
  simp
theorem AeO (n:Nat):DF (madeCells (Value.agg #[.bool false,.slice none 0 0,.int .i64 0]).cells (n*3)).toList=cVs (List.replicate n none):=by
 have h1:∀ a:Nat,(madeCells (Value.agg #[.bool false,.slice none 0 0,.int .i64 0]).cells a).toList=(List.range a).map (fun j=>#[Value.bool false,.slice none 0 0,.int .i64 0][j % 3]!):=fun a=>by
  unfold madeCells
  rw [ju,Array.toList_range]
  rfl
 rw [h1]
 induction n with
 | zero=>rfl
 | succ n ih =>
  rw [show (n+1)*3=n*3+1+1+1 by omega,cr,cr,cr,List.replicate_succ']
  simp only [gg,DF] at ih ⊢
  rw [ih]
  simp only [cVs,gg,List.flatten_append,bk,List.map_nil,show n*3 % 3=0 by omega,show (n*3+1) % 3=1 by omega,show (n*3+1+1) % 3=2 by omega,List.append_assoc]
  rfl
theorem Yc:∀ c∈cVs l,C.bel n c:=fun c hc=>by
 obtain ⟨cs,hcs,hc⟩:=List.mem_flatten.1 hc
 obtain ⟨o,_,rfl⟩:=List.mem_map.1 hcs
 cases o with
 | none=>simp [cV] at hc;rcases hc with rfl|rfl|rfl <;> trivial
 | some p=>exact AeJ c hc
theorem HM (x:Int) (d:Nat):∀ u∈dDy false x d,Da u:=fun u hu=>by
 simp only [dDy,dj,dk,or_false] at hu
 rcases hu with rfl|rfl|rfl
 ·exact .val _
 ·refine .row fun u hu=>?_
  obtain ⟨v,_,rfl⟩:=List.mem_map.1 hu
  exact .val _
 ·exact .val _
theorem Aiu (o:Option (Int × Nat)):AG (Er t H) (cV o) (dyP (o.getD (0,0))):=by
 cases o with
 | none =>
  show AG (Er t H) _ (dDy false 0 0)
  have e:dDy false 0 0=[.val (.bool false),.row false 1 0 [],.val (.int .i64 0)]:=A.agg.inj Gy
  rw [e]
  exact .cons_ (.d fun _=>.val _) (.cons_ .nil (.cons_ (.d fun _=>.val _) .nil_))
 | some p=>exact AG.map_l.2 ⟨rfl,fun j a b ha hb=>by
   have:(dDy false p.1 p.2)[j]?=some b:=hb
   rw [ha] at this
   cases this
   exact .d fun _=>HM _ _ a (gM ha)⟩
theorem AeP (l:List (Option (Int × Nat))):AG (Er t H) (cVs l) (Ay dyP (gV l)):=by
 induction l with
 | nil=>exact AG.nil_
 | cons o l ih =>
  rw [ER]
  exact (Aiu o).app ih
theorem AeQ {c:C} {y:D} (hc:c=.own id n) (hH:H[id]?=some (.row ty 3 n (cVs l))) (hy:y=.row t 3 n (Ay dyP (gV l))):Er t H c y:=CT hc hH hy (AeP l)
theorem AeR {c:C} {y:D} {l:List (Int × Nat)} (hc:c=.own id n) (hH:H[id]?=some (.row ty 3 n ((Ay dyP l).map C.d))) (hy:y=.row t 3 n (Ay dyP l)):Er t H c y :=
 CT hc hH hy (AG.map_l.2 ⟨rfl,fun j a b ha hb=>by
  rw [ha] at hb
  cases hb
  exact .d fun _=>Cv (f:=dyP) (fun p=>HM _ _) l a (gM ha)⟩)
section
variable {P:Program} {G:World→Prop} {o:Oper} {F:Frm} {H:List Ob}
theorem AaH {t e:TypeId} {x y:Operand} {by_:Nat} {k k':IntKind} (ho:o.op=.makeSlice t x y) (hx:F.ev x=.one (.d (.val (.int k (n:Int))))) (hy:F.ev y=.one (.d (.val (.int k' (n:Int))))) (ht:TyS P t e 3) (hz:TyZ P e (.agg #[.bool false,.slice none 0 0,.int .i64 0]) 3 by_) (hn:n≤1000000) (hby:by_≤1000) :
  AK P G o F H (.one (.own H.length n)) [.row e 3 n (cVs (List.replicate n none))]:=by
 have:=Bi (P:=P) (G:=G) (H:=H) ho hx hy ht hz hn hby
 rwa [AeO] at this
theorem Yd {t ty:TypeId} {x:Operand} {p:Int × Nat} (ho:o.op=.load t x) (hx:F.ev x=.one (.ref id (i*3) (some n))) (hH:H[id]?=some (.row ty 3 n (cVs l))) (hp:l[i]?=some (some p)) (hk:TyK P t true 3):AK P G o F H (.agg ((dDy false p.1 p.2).map C.d)) [] :=
 OB ho hx (.row hH) hk (Acd hp) rfl
theorem Aiv {t ty:TypeId} {x y:Operand} {l':List (Option (Int × Nat))} {p:Int × Nat} (ho:o.op=.store t x y) (hx:F.ev x=.one (.ref id (i*3) (some n))) (hH:H[id]?=some (.row ty 3 n (cVs l))) (hy:F.ev y=.agg ((dDy false p.1 p.2).map C.d)) (hty:TyK P t true 3) (hi:i<l.length) (hl:l.set i (some p)=l'):TOk P G o F H .any (H.set id (.row ty 3 n (cVs l'))):=by
 have h3:((dDy false p.1 p.2).map C.d).length=3:=rfl
 have:=Md (P:=P) (G:=G) ho hx hH rfl (show DQ (F.ev y)=some ((dDy false p.1 p.2).map C.d) by rw [hy];rfl) hty rfl (by rw [h3];show i*3+3≤(cVs l).length;rw [AeN];omega)
 rw [h3] at this
 simp only [Ob.cs,Ob.setC] at this
 rw [Yb p hi,hl] at this
 exact this
end
def LB:Nat:=4096
theorem LBx:LB≤20000:=by decide
def LC:Nat:=9000
theorem lb_c:LB≤LC:=by decide
theorem AeS {p:Int × Nat} (hn:Nf p.1 p.2) (h:Dr p=false):Sm p LB LB:=by
 have h1:¬ 4096<max (Be p.1.natAbs) p.2:=of_decide_eq_false h
 exact ⟨hn,Cw.1 (by unfold LB;omega),by unfold LB;omega⟩
def Akk (bs:List Bk) (i:Nat):Nat:=(((bs[i]?.map Bk.args).getD [])[0]?.getD 0).toNat
theorem Sm.zero (n d:Nat):Sm (0,0) n d:=⟨⟨by decide,fun h=>absurd rfl h⟩,ba n,ad d⟩
theorem En {l:List (Int × Nat)} {d:Nat} (h:∀ p∈l,Sm p n d) (k:Nat):Sm (l[k]?.getD (0,0)) n d:=by
 cases hk:l[k]? with
 | none=>exact Sm.zero n d
 | some p=>exact h p (gM hk)
theorem Lj (h:AP ps bs os=0) {i:Nat} {y:Bk} (hy:bs[i]?=some y) (hk:y.kind=11):DJ y.vn y.ve∧DJ y.un y.ue∧Bx (Ad y.vn 0 y.ve).1 (Ad y.vn 0 y.ve).2 (Ad y.un 0 y.ue).1 (Ad y.un 0 y.ue).2≤0:=by
 have h1:=Sn h hy
 have ha:=FV h hy
 have hv:=Mo h hy (by unfold PC;rw [hk];rfl)
 unfold BK at h1
 rw [if_neg (by omega),if_neg (not_not_intro ha.2.1)] at h1
 by_cases h3:Ap (y.args.map (MS (DU ps.length bs.length y.kind)))=0
 ·rw [if_neg (not_not_intro h3)] at h1
  by_cases h4:CN y.vn y.ve (PC y.kind)=0
  ·rw [if_neg (not_not_intro h4)] at h1
   by_cases h5:CN y.un y.ue (IM y.kind)=0
   ·rw [if_neg (not_not_intro h5)] at h1
    have hc:IM y.kind=true:=by unfold IM;rw [hk];rfl
    rw [hc] at h5
    have hu:=RZ h5
    refine ⟨hv,hu,?_⟩
    rw [XF (FS hv.2.2.1 hv.2.2.2) (FS hu.2.2.1 hu.2.2.2)]
    by_cases h6:0<Qs y.vn y.ve y.un y.ue
    ·rw [if_pos ⟨hc,h6⟩] at h1;cases h1
    ·exact Int.not_lt.1 h6
   ·rw [if_pos h5] at h1;exact absurd h1 h5
  ·rw [if_pos h4] at h1;exact absurd h1 h4
 ·rw [if_pos h3] at h1;cases h1
theorem Ub (h:AP ps bs os=0) {i:Nat} {y:Bk} (hy:bs[i]?=some y):y.kind=0∨y.kind=1∨y.kind=2∨y.kind=3∨y.kind=4∨y.kind=5∨y.kind=6∨y.kind=7∨y.kind=8∨y.kind=9∨y.kind=10∨y.kind=11:=by
 have:=(FV h hy).1
 unfold Bp at this
 (repeat' split at this) <;> omega
theorem Dv (h:bs[i]?=some y):Cy bs i=y.kind:=by unfold Cy;rw [h];rfl
theorem Lk (h:bs[i]?=some y) (h0:y.kind≠0):MZ bs i=y.args:=by
 unfold MZ TH
 rw [Dv h,if_neg h0,h]
 rfl
def ZD (bs:List Bk) (t:Nat) (i:Nat):Prop:=(i<bs.length∧Cy bs i=2)∨i∈(BS bs).take t
theorem Mr {l:List Nat} {t:Nat} (h:l[t]?=some j):(Cu l)[t]?=some (j:Int):=by simp [Cu,h]
def okQ {α:Type} (e:Int) (l:List α):List α:=if e=0 then l else []
theorem So {α:Type} (h:e≠0) (l:List α):okQ e l=[]:=if_neg h
theorem Ye {α:Type} (h:e=0) (l:List α):okQ e l=l:=if_pos h
def Alf (l:List (Int × Nat)):A:=.one (.row false 3 l.length (Ay dyP l))
def rvP (r:Rv):Int × Nat:=(r.rw.x,r.rw.d)
def Aiw (rs:List Rv):D:=.row false 3 rs.length (Ay (dRv false) rs)
theorem AaI {rs:List Rv} {k:Nat} {r:Rv} (h:rs[k]?=some r):((Ay (dRv false) rs).drop (k*3)).take 3=dRv false r:=EO (f:=dRv false) (s:=3) (fun _=>rfl) h
theorem EA {α:Type} {p:α→Prop} {l:List α} {k:Nat} {x:α} (h:∀ q∈l.take k,p q) (hx:l[k]?=some x) (hp:p x):∀ q∈l.take (k+1),p q:=fun q hq=>by
 rw [bg,hx] at hq
 rcases List.mem_append.1 hq with hq|hq
 ·exact h q hq
 ·simp only [gi,dj,dk,or_false] at hq
  rw [hq];exact hp
theorem Sp {p:Nat→Prop} {k:Nat} (h:∀ i,i<k→p i) (hk:p k):∀ i,i<k+1→p i:=fun i hi=>by
 by_cases hik:i=k
 ·rw [hik];exact hk
 ·exact h i (by omega)
theorem Iz {k:Nat} (h:(Bd bs)[k]?=some i):i<bs.length∧Cy bs i=2:=by
 have:=gM h
 unfold Bd at this
 rw [List.mem_filter,jg] at this
 exact ⟨this.1,by simpa using this.2⟩
theorem Yf (h:AP ps bs os=0) {i:Nat} {y:Bk} (hy:bs[i]?=some y) (hk:y.kind=2):∃ b:Nat,y.args[0]?=some (b:Int)∧b<bs.length:=by
 have hA:=FV h hy
 have h1:=hA.2.1
 rw [hk] at h1
 have hl1:y.args.length=1:=by unfold Bp at h1;(repeat' split at h1) <;> omega
 obtain ⟨a,ha⟩:∃ a,y.args[0]?=some a:=⟨_,gE (by omega)⟩
 have hb:=hA.2.2 a (gM ha)
 rw [show DU ps.length bs.length y.kind=bs.length from if_neg (by omega)] at hb
 exact ⟨a.toNat,by rw [ha];congr 1;omega,by omega⟩
theorem Yg {b:Nat} (hy:bs[i]?=some y) (ha:y.args[0]?=some (b:Int)):Akk bs i=b:=by
 unfold Akk
 rw [hy,ck,ax,ha]
 rfl
section
variable {P:Program}
def Ace (P:Program) (g:FuncId) (vs:List Value) (p:Int→Bool) (zs:List Int) (w:World):Prop:=∀ w',Below w.heap.size w w'→∀ z∈zs,Calls P g (Value.int .i64 z::vs).toArray w' fun e w2=>e=.returned (.bool (p z))∧Below w'.heap.size w' w2
theorem fn_G {vs:List Value} {p:Int→Bool}:∀ w w',Below w.heap.size w w'→Ace P g vs p zs w→Ace P g vs p zs w':=fun _ _ hb h w2 hb2=>h w2 (hb.trans (hb2.mono hb.size))
variable {o:Oper} {F:Frm} {H:List Ob}
theorem Oa {vs : List Value} {p : Int → Bool} {r x : Operand} {z : Int} (hf : P.funcs[g]? = some fn) (hz : z ∈ zs) (hn : (fn.name == "runtime.NumGoroutine") = false := by kernel_rfl) (hb : fn.body = some c := by with_unfolding_all exact rfl)
  (ho:o.op=.call { callee:=.value r,args:=#[x],argTypes:=ts }:=by with_unfolding_all exact rfl) (hr:F.ev r=.one (.d (.val (.func (.func g) #[] vs.toArray))):=by with_unfolding_all exact rfl) (hx:F.ev x=.one (.d (.val (.int .i64 z))):=by with_unfolding_all exact rfl) :
  AK P (Ace P g vs p zs) o F H (.one (.d (.val (.bool (p z))))) []:=by
 intro b0 m a hp hcx hg hb0 _ hor K Q hK
 have er:=CF (m:=m) (v:=a.eval r) (by rw [←hr];exact AO hor (by rw [ho];simp [Op.operands,Call.operands]))
 have ex:=CF (m:=m) (v:=a.eval x) (by rw [←hx];exact AO hor (by rw [ho];simp [Op.operands,Call.operands]))
 unfold Oper.wp execOp
 simp only [ho,resolve,er,Deferred.ofValue,ah,bo,av,invoke]
 rw [DN hf hn hb]
 rw [gc]
 have he:((#[]:Array Value)++#[x].map a.eval++vs.toArray)=(Value.int .i64 z::vs).toArray:=fm (by simp [ex])
 rw [he]
 refine (hg m.w (ab _ _) z hz).mono fun e w' ⟨hev,hbel⟩=>?_
 subst hev
 exact hK _ w' [] ⟨rfl,hbel,fun k e hk=>by simp at hk,List.Pairwise.nil⟩ (Bf.val rfl)
theorem AaJ {f:FuncId} {x y:Operand} {p:Int→Bool} {rs:List (Nat × Nat × Option Nat)} {cargs:List A} {b:Bool} {Gt:World→Prop} (hG:∀ w w',Below w.heap.size w w'→Gt w→Gt w') (hf:P.funcs[f]?=some fn) (h:∀ vs,CV P (Ace P g vs p zs) f [.one (Bw t zs),.one (.val (.func (.func g) #[] vs.toArray))] [aB b]) (hC:∀ z∈zs,CV P Gt g (aI z::cargs) [aB (p z)])
  (hn : (fn.name == "runtime.NumGoroutine") = false := by kernel_rfl) (hb : fn.body = some c := by with_unfolding_all exact rfl)
  (ho:o.op=.call { callee:=.value (.func f),args:=#[x,y],argTypes:=ts }:=by with_unfolding_all exact rfl) (hx:F.ev x=.one (.d (Bw t zs)):=by with_unfolding_all exact rfl) (hy:F.ev y=.one (.clo (.func g) rs):=by with_unfolding_all exact rfl)
  (hcl:AG (fun (p:Nat × Nat × Option Nat) y=>GH true H (.one (.ref p.1 p.2.1 p.2.2)) y) rs cargs:=by with_unfolding_all first|((repeat' first|exact Bt rfl rfl|refine AH rfl rfl ?_ ?_|exact Qp rfl) <;> fail)|fail):AK P Gt o F H (.one (.d (.val (.bool b)))) []:=by
 intro b0 m a hp hcx hg hb0 _ hor K Q hK
 rw [bd] at hp
 have h1:=AO (F:=F) hor (x:=x) (by rw [ho];simp [Op.operands,Call.operands])
 have h2:=AO (F:=F) hor (x:=y) (by rw [ho];simp [Op.operands,Call.operands])
 rw [hx] at h1
 rw [hy] at h2
 obtain ⟨vs,hve,hvl⟩:=h2
 let Sx:Dt:=fun t b=>m.S t b∨(t=true∧∃ id e,m.E id=some e∧e.own=some b)
 have hlt:∀ t b,Sx t b→b<m.w.heap.size:=fun t b hb=>by
  rcases hb with hb|⟨_,id,e,he,hown⟩
  ·exact hcx.lt t b hb
  ·exact (Et.lt (hcx.each id e he).1 hown).2
 have hc':AG (DY m.w Sx) cargs vs:=⟨hcl.1.symm.trans hvl.1,fun j y v hy hv=>by
   obtain ⟨p,hpj⟩:∃ p,rs[j]?=some p:=⟨_,gE (by have:=(gS.1 hv).1;have:=hvl.1;omega)⟩
   exact GH.rel (x:=.one (.ref p.1 p.2.1 p.2.2)) hcx (fun b hb=>.inl hb) (fun _ b hb=>.inl hb) (fun id e g he hg=>.inr ⟨rfl,id,e,he,hg⟩) ((hcl.2 j p y hpj hy).pre hp) (hvl.2 j p v hpj hv)⟩
 have hfn:Ace P g vs p zs m.w:=fun w' hb' z hz =>
  (hC z hz w' Sx (Value.int .i64 z::vs) (hG _ _ hb' hg) (fun t b hb=>ai (hlt t b hb) hb'.size) (.cons_ (Bf.val rfl) (hc'.imp fun _ _=>DY.mono (fun _ _ h=>h) fun t b hb=>hb'.block b (hlt t b hb)))).mono fun e w2 ⟨v,he,hr,hbl⟩=>by
   have h4:Bf w2 _ (dB (p z)) v:=hr
   cases h4
   exact ⟨he,hbl⟩
 have hcalls:=h vs m.w Sx [a.eval x,.func (.func g) #[] vs.toArray] hfn hlt (.cons_ (Bf.mono (fun t b hb=>.inl hb) (fun _ _ _=>rfl) h1) (.cons_ (Bf.val rfl) .nil_))
 unfold Oper.wp execOp
 simp only [ho,resolve,Act.eval,Deferred.ofValue,ah,bo,av,invoke]
 rw [DN hf hn hb]
 rw [gc]
 have he:((#[]:Array Value)++#[x,y].map a.eval++#[])=[a.eval x,.func (.func g) #[] vs.toArray].toArray:=fm (by simp [hve])
 rw [he]
 refine hcalls.mono fun e w' ⟨v,hev,hr,hbel⟩=>?_
 subst hev
 have h4:Bf w' _ (dB b) v:=hr
 cases h4
 exact hK _ w' [] ⟨rfl,hbel,fun k e hk=>by simp at hk,List.Pairwise.nil⟩ (Bf.val rfl)
end
def AaK (p:Int→Bool):List Int→Nat→Int
 | [],_ => -1
 | z::l,k=>if p z=true then (k:Int) else AaK p l (k+1)
theorem Pe {p:Int→Bool} {zs:List Int}:∀ {k:Nat},(∀ z∈zs.take k,p z=false)→k≤zs.length→AaK p zs 0=AaK p (zs.drop k) k
 | 0,_,_=>rfl
 | k+1,h,hk=>by
  obtain ⟨z,hz⟩:∃ z,zs[k]?=some z:=⟨_,gE (by omega)⟩
  rw [Pe (k:=k) (fun z hz=>h z (by rw [bg];exact List.mem_append_left _ hz)) (by omega),cn (by omega)]
  have he:zs[k]=z:=by obtain ⟨h1,h2⟩:=gS.1 hz;exact h2
  rw [he]
  have:=h z (by rw [bg,hz];simp)
  show (if p z=true then (k:Int) else AaK p (zs.drop (k+1)) (k+1))=_
  rw [this]
  rfl
theorem Yh {p:Int→Bool}:∀ (zs:List Int) (k:Nat),decide (0≤AaK p zs k)=zs.any p
 | [],_=>rfl
 | z::l,k=>by
  unfold AaK
  rw [List.any_cons]
  cases h:p z with
  | true=>simp
  | false=>simpa using Yh l (k+1)
theorem AaL (hf : prog.funcs[g]? = some fn) (hn : (fn.name == "runtime.NumGoroutine") = false) (hbd : fn.body = some c) (t : Bool) (vs : List Value) (p : Int → Bool) (zs : List Int) (hl : zs.length ≤ 1000000) : CV prog (Ace prog g vs p zs) 253 [.one (Bw t zs), .one (.val (.func (.func g) #[] vs.toArray))] [aI (AaK p zs 0)] := by
 refine Adz fn_G func253 rfl ntmps253 (bi rfl) ?_
 repeat' (with_reducible first|refine qq ?_|(refine Tx 0 ?_;refine gO xA ?_)|(refine Tx 1 ?_;refine gO xM <| gO xN <| gO xM ?_))
 refine Bm (Cb 0) (Aw (fun n Fr H=>∃ k:Nat,k≤zs.length∧n=zs.length - k∧(∀ z∈zs.take k,p z=false)∧Fr=ofL [(0,vd (Bw t zs)),(1,vd (.val (.func (.func g) #[] vs.toArray))),(7,vi zs.length),(8,vi ((k:Nat)))]∧H=[]) (n0:=zs.length) ⟨0,ad _,rfl,(fun z hz=>by simp at hz),rfl,rfl⟩ ?_)
 rintro n Fr H ⟨k,hk,rfl,hall,rfl,rfl⟩
 by_cases hlt:k<zs.length
 case pos =>
  obtain ⟨z,hz⟩:∃ z,zs[k]?=some z:=⟨_,gE hlt⟩
  have hzm:=gM hz
  have hsk:=Pe hall hk
  rw [cn hlt,(gS.1 hz).2,show AaK p (z::zs.drop (k+1)) k=if p z=true then (k:Int) else AaK p (zs.drop (k+1)) (k+1) from rfl] at hsk
  cases hp:p z
  case true =>
   rw [hp,if_pos rfl] at hsk
   repeat' (with_reducible first|refine qq ?_|(refine Tx 2 ?_;refine gO xLt ?_)|(refine Tx 3 ?_;refine gO xM <| gO xA ?_)|(refine Tx 4 ?_;refine gO xM <| gO xM <| gO xM <| gO (xIr Ae (AY hz)) <| gO xD <| gO (by exact (hp ▸ Oa (p:=p) hf hzm hn hbd)) ?_)|(refine Tx 5 ?_;refine gO xM <| gO xA ?_))
   exact AE rfl (.cons_ (WW rfl hsk.symm) .nil_)
  rw [hp,if_neg (by decide)] at hsk
  repeat' (with_reducible first|refine qq ?_|(refine Tx 2 ?_;refine gO xLt ?_)|(refine Tx 3 ?_;refine gO xM <| gO xA ?_)|(refine Tx 4 ?_;refine gO xM <| gO xM <| gO xM <| gO (xIr Ae (AY hz)) <| gO xD <| gO (by exact (hp ▸ Oa (p:=p) hf hzm hn hbd)) ?_)|(refine Tx 6 ?_;refine gO xAd <| gO xM ?_))
  refine ⟨_,_,Cb 0,_,by omega,k+1,by omega,rfl,EA hall hz hp,rfl,rfl⟩
 obtain rfl:k=zs.length:=by omega
 have hsk:=Pe hall hk
 rw [ga] at hsk
 repeat' (with_reducible first|refine qq ?_|(refine Tx 2 ?_;refine gO xLt ?_)|(refine Tx 7 ?_;refine gO xA ?_))
 exact AE rfl (.cons_ (WW rfl hsk.symm) .nil_)
theorem Sq (hf : prog.funcs[g]? = some fn) (hn : (fn.name == "runtime.NumGoroutine") = false) (hbd : fn.body = some c) (t : Bool) (vs : List Value) (p : Int → Bool) (zs : List Int) (hl : zs.length ≤ 1000000) : CV prog (Ace prog g vs p zs) 213 [.one (Bw t zs), .one (.val (.func (.func g) #[] vs.toArray))] [aB (zs.any p)] := by
 refine Adz fn_G func213 rfl ntmps213 (bi rfl) ?_
 have IX:=AaL hf hn hbd t vs p zs hl
 rw [←Yh zs 0]
 repeat' (with_reducible first|refine qq ?_|(refine Tx 0 ?_;refine gO xA ?_)|(refine Tx 1 ?_;refine gO xM <| gO xM <| gO (xCl func253 (IX)) <| gO xGe <| gO xA ?_))
 exact AE rfl (.cons_ (Fd rfl rfl) .nil_)
def GQ:Nat:=65536
def gv (p:Int × Nat):Int:=p.1*2 ^ (GQ - p.2)
theorem Yi (n:Nat):(2:Int) ^ n≠0:=ii (Int.pow_pos (by decide))
theorem AI (n:Nat):(0:Int)<2 ^ n:=Int.pow_pos (by decide)
theorem Pf {p:Int × Nat} (h:p.2≤GQ):p.1*2 ^ GQ=gv p*2 ^ p.2:=AeM p h
theorem Nf.le {x:Int} {d:Nat} (h:Nf x d):d≤GQ:=h.1
theorem Vh {m:Int} {d:Nat} (h:d≤GQ):gv (nf m d)=m*2 ^ (GQ - d):=by
 have e:=ZG m d
 have l:=Add m d
 refine jn (Yi d) ?_
 unfold gv
 rw [ij,e,ar,ar,←aw,←aw]
 congr 2
 omega
theorem EW (p:Int × Nat):gv (-p.1,p.2) = -gv p:=dc ..
theorem Dw:gv (0,0)=0:=Int.zero_mul _
theorem QG (p:Int × Nat):gv (((p.1.natAbs:Nat):Int),p.2)=((gv p).natAbs:Int):=by
 unfold gv
 rw [fz,jf,fh]
 congr 1
theorem EB {p:Int × Nat} (hp:p.2≤GQ) (hq:q.2≤GQ):gv (Ci p.1 p.2 q.1 q.2)=gv p+gv q:=by
 unfold Ci
 rw [Vh (by omega),ik,ar,ar,←aw,←aw,show max p.2 q.2 - p.2+(GQ - max p.2 q.2)=GQ - p.2 by omega,show max p.2 q.2 - q.2+(GQ - max p.2 q.2)=GQ - q.2 by omega]
 rfl
theorem Yj {p:Int × Nat} (h:p.2+q.2≤GQ):gv (OU p.1 p.2 q.1 q.2)*2 ^ GQ=gv p*gv q:=by
 unfold OU
 rw [Vh h]
 unfold gv
 have e1:p.1*q.1*2 ^ (GQ - (p.2+q.2))*2 ^ GQ=p.1*q.1*2 ^ (GQ - (p.2+q.2)+GQ):=by rw [ar,←aw]
 have e2:p.1*2 ^ (GQ - p.2)*(q.1*2 ^ (GQ - q.2))=p.1*q.1*2 ^ (GQ - p.2+(GQ - q.2)):=by rw [aw];simp only [ar,Int.mul_left_comm,ej]
 rw [e1,e2]
 congr 2
 omega
theorem Yk {p:Int × Nat} (hp:p.2≤GQ) (hq:q.2≤GQ):Bx p.1 p.2 q.1 q.2=sgI (gv p - gv q):=XF (Pf hp) (Pf hq)
theorem Oc {p:Int × Nat} (hp:Nf p.1 p.2) (hq:Nf q.1 q.2) (h:gv p=gv q):p=q:=AeL hp hq (Pf hp.le) (by rw [h];exact Pf hq.le)
theorem FA {p:Int × Nat} (hp:p.2≤GQ) (hq:q.2≤GQ):Bx p.1 p.2 q.1 q.2≤0 ↔ gv p≤gv q:=by
 rw [Yk hp hq,Fv]
 by_cases h1:gv p<gv q
 ·rw [if_pos h1];exact ⟨fun _=>au h1,fun _=>by decide⟩
 ·rw [if_neg h1]
  by_cases h2:gv q<gv p
  ·rw [if_pos h2];exact ⟨fun h=>absurd h (by decide),fun h=>by omega⟩
  ·rw [if_neg h2];exact ⟨fun _=>by omega,fun _=>by decide⟩
theorem Aix {p:Int × Nat} (hp:p.2≤GQ) (hq:q.2≤GQ):Bx p.1 p.2 q.1 q.2=0 ↔ gv p=gv q:=by
 rw [Yk hp hq,Fv]
 by_cases h1:gv p<gv q
 ·rw [if_pos h1];exact ⟨fun h=>absurd h (by decide),fun h=>by omega⟩
 ·rw [if_neg h1]
  by_cases h2:gv q<gv p
  ·rw [if_pos h2];exact ⟨fun h=>absurd h (by decide),fun h=>by omega⟩
  ·rw [if_neg h2];exact ⟨fun _=>by omega,fun _=>rfl⟩
theorem QH {p:Int × Nat} (hp:p.2≤GQ) (hq:q.2≤GQ):0≤Bx p.1 p.2 q.1 q.2 ↔ gv q≤gv p:=by
 rw [Yk hp hq,Fv]
 by_cases h1:gv p<gv q
 ·rw [if_pos h1];exact ⟨fun h=>absurd h (by decide),fun h=>by omega⟩
 ·rw [if_neg h1]
  by_cases h2:gv q<gv p
  ·rw [if_pos h2];exact ⟨fun _=>by omega,fun _=>by decide⟩
  ·rw [if_neg h2];exact ⟨fun _=>by omega,fun _=>by decide⟩
theorem Aiy {p:Int × Nat} (hp:p.2≤GQ) (hq:q.2≤GQ):Fa p.1 p.2 q.1 q.2=if gv q<gv p then q else p:=by
 unfold Fa
 by_cases h:gv q<gv p
 ·rw [if_pos h,if_pos (Int.not_le.1 fun hc=>by have:=(FA hp hq).1 hc;omega)]
 ·rw [if_neg h,if_neg (by have:=(FA hp hq).2 (by omega);omega)]
theorem Aiz {p:Int × Nat} (hp:p.2≤GQ) (hq:q.2≤GQ):EK p.1 p.2 q.1 q.2=if gv p<gv q then q else p:=by
 unfold EK
 by_cases h:gv p<gv q
 ·rw [if_pos h,if_pos (Int.not_le.1 fun hc=>by have:=(QH hp hq).1 hc;omega)]
 ·rw [if_neg h,if_neg (by have:=(QH hp hq).2 (by omega);omega)]
theorem Gj {p:Int × Nat} (hp:p.2≤GQ) (hq:q.2≤GQ):gv (Fa p.1 p.2 q.1 q.2)=min (gv p) (gv q):=by
 rw [Aiy hp hq]
 split <;> omega
theorem DA {p:Int × Nat} (hp:p.2≤GQ) (hq:q.2≤GQ):gv (EK p.1 p.2 q.1 q.2)=max (gv p) (gv q):=by
 rw [Aiz hp hq]
 split <;> omega
theorem Ha {p:Int × Nat} (hp:p.2≤GQ) (hn:n≤65536):gv (Ad p.1 p.2 (n:Int))=gv p*2 ^ n:=by
 unfold Ad
 rw [if_neg (by omega),Vh hp,show (max (-65536) (min ((n:Nat):Int) 65536)).toNat=n by omega]
 exact ij ..
theorem QI {p:Int × Nat} (hp:p.2+n≤GQ) (hn:n≤65536):gv (Ad p.1 p.2 (-(n:Int)))*2 ^ n=gv p:=by
 unfold Ad
 by_cases h0:n=0
 ·subst h0
  rw [if_neg (by omega),Vh (by omega)]
  show p.1*2 ^ (max (-65536) (min (-((0:Nat):Int)) 65536)).toNat*2 ^ (GQ - p.2)*2 ^ 0=gv p
  rw [show (max (-65536) (min (-((0:Nat):Int)) 65536)).toNat=0 by omega,Int.pow_zero,Int.mul_one,Int.mul_one]
  rfl
 ·rw [if_pos (by omega),Vh (by omega),show (-(max (-65536) (min (-(n:Int)) 65536))).toNat=n by omega,ar,←aw]
  unfold gv
  congr 2
  omega
theorem Hb (n:Int):gv (n,0)=n*2 ^ GQ:=rfl
theorem Pg {p:Int × Nat} (hp:p.2≤GQ) (hd:den≤GQ):gv (Bz p.1 p.2 den)≤gv p∧gv p<gv (Bz p.1 p.2 den)+2 ^ (GQ - den)∧∃ k:Int,gv (Bz p.1 p.2 den)=k*2 ^ (GQ - den):=by
 unfold Bz
 by_cases h:p.2≤den
 ·rw [if_pos h]
  show gv p≤gv p∧gv p<gv p+2 ^ (GQ - den)∧∃ k:Int,gv p=k*2 ^ (GQ - den)
  refine ⟨ci _,by have:=AI (GQ - den);omega,p.1*2 ^ (den - p.2),?_⟩
  unfold gv
  rw [ar,←aw]
  congr 2
  omega
 ·rw [if_neg h,Vh hd]
  have e:gv p=p.1*2 ^ (GQ - p.2):=rfl
  have hk:(2:Int) ^ (GQ - den)=2 ^ (p.2 - den)*2 ^ (GQ - p.2):=by rw [←aw];congr 1;omega
  have h1:=Int.mul_ediv_add_emod p.1 (2 ^ (p.2 - den))
  have h2:=Int.emod_nonneg p.1 (Yi (p.2 - den))
  have h3:=Int.emod_lt_of_pos p.1 (AI (p.2 - den))
  have e2:p.1 / 2 ^ (p.2 - den)*2 ^ (GQ - den)=p.1 / 2 ^ (p.2 - den)*2 ^ (p.2 - den)*2 ^ (GQ - p.2):=by rw [hk,ar]
  refine ⟨?_,?_,_,rfl⟩
  ·rw [e2,e]
   refine ct ?_ (au (AI _))
   rw [ej];omega
  ·rw [e2,e,hk,←ik]
   refine ki ?_ (AI _)
   rw [ej (p.1 / _)];omega
abbrev Pq:=Int × Nat
abbrev Ep (p q:Pq):Pq:=Ci p.1 p.2 q.1 q.2
abbrev Hc (p:Pq):Pq:=(-p.1,p.2)
abbrev Hm (p:Pq):Pq:=(((p.1.natAbs:Nat):Int),p.2)
abbrev CA (p q:Pq):Pq:=OU p.1 p.2 q.1 q.2
abbrev PD (p q:Pq):Pq:=Fa p.1 p.2 q.1 q.2
abbrev FW (p q:Pq):Pq:=EK p.1 p.2 q.1 q.2
abbrev Hd (p q:Pq):Int:=Bx p.1 p.2 q.1 q.2
abbrev Eh (p:Pq) (n:Int):Pq:=Ad p.1 p.2 n
abbrev Od (p:Pq) (n:Nat):Pq:=Bz p.1 p.2 n
abbrev AaM (p:Pq) (n:Nat):Pq:=Hc (Od (Hc p) n)
abbrev Iq:=Pq × Pq
def dIw (t:Bool) (a:Iq):List D:=dDy t a.1.1 a.1.2++dDy t a.2.1 a.2.2
def aIw (t:Bool) (a:Iq):A:=.agg (dIw t a)
structure IwS (a:Iq) (n d:Nat):Prop where
 s1:Sm a.1 n d
 s2:Sm a.2 n d
 le:gv a.1≤gv a.2
theorem IwS.more {a:Iq} {d:Nat} (h:IwS a n d) (h1:n≤n') (h2:d≤d'):IwS a n' d':=⟨h.s1.more h1 h2,h.s2.more h1 h2,h.le⟩
def FB (a:Iq) (x:Pq):Iq:=(PD a.1 x,FW a.2 x)
def Co:List Pq→Iq
 | []=>((0,0),(0,0))
 | p::l=>l.foldl FB (p,p)
def VM (a:Iq):Iq:=(Hc a.2,Hc a.1)
def Acf (a b:Iq):Iq:=(Ep a.1 b.1,Ep a.2 b.2)
def AeT (a b:Iq):Iq:=Acf a (VM b)
def Acg (a b:Iq):Iq:=Co [CA a.1 b.1,CA a.1 b.2,CA a.2 b.1,CA a.2 b.2]
def IA (a:Iq) (f:Pq):Iq:=Acg a (f,f)
def Yl (a b:Iq):Iq:=(PD a.1 b.1,PD a.2 b.2)
def VN (a b:Iq):Iq:=(FW a.1 b.1,FW a.2 b.2)
def GA (a b:Iq):Iq:=Co [a.1,a.2,b.1,b.2]
def Rq (a:Iq):Iq:=if a.1.1<0∧0<a.2.1 then ((0,0),(Co [Hm a.1,Hm a.2]).2) else Co [Hm a.1,Hm a.2]
def Sr (a:Iq) (v u:Pq):Iq:=Yl (VN a (v,v)) (u,u)
def FD (a:Iq) (den:Nat):Iq:=(Od a.1 den,AaM a.2 den)
def iIn (a b:Iq):Bool:=decide (Hd b.1 a.1≤0) && decide (Hd a.2 b.2≤0)
def DM (a:Iq):Pq:=(Rq a).2
theorem Sm.le {p:Pq} {d:Nat} (h:Sm p n d):p.2≤GQ:=h.ok.le
section
variable {a b:Iq} {n d:Nat}
theorem FE {p q:Pq} (hp:Sm p n d) (hq:Sm q n d):gv (Co [p,q]).1=min (gv p) (gv q)∧gv (Co [p,q]).2=max (gv p) (gv q)∧IwS (Co [p,q]) n d:=by
 have e1:gv (PD p q)=min (gv p) (gv q):=Gj hp.le hq.le
 have e2:gv (FW p q)=max (gv p) (gv q):=DA hp.le hq.le
 refine ⟨e1,e2,Sm.min hp hq,Sm.max hp hq,?_⟩
 show gv (PD p q)≤gv (FW p q)
 omega
theorem ED {p q r s:Pq} (hp:Sm p n d) (hq:Sm q n d) (hr:Sm r n d) (hs:Sm s n d):gv (Co [p,q,r,s]).1=min (min (min (gv p) (gv q)) (gv r)) (gv s)∧gv (Co [p,q,r,s]).2=max (max (max (gv p) (gv q)) (gv r)) (gv s)∧IwS (Co [p,q,r,s]) n d:=by
 have m1:Sm (PD p q) n d:=Sm.min hp hq
 have m2:Sm (PD (PD p q) r) n d:=Sm.min m1 hr
 have x1:Sm (FW p q) n d:=Sm.max hp hq
 have x2:Sm (FW (FW p q) r) n d:=Sm.max x1 hr
 have e1:gv (PD (PD (PD p q) r) s)=min (min (min (gv p) (gv q)) (gv r)) (gv s):=by rw [Gj m2.le hs.le,Gj m1.le hr.le,Gj hp.le hq.le]
 have e2:gv (FW (FW (FW p q) r) s)=max (max (max (gv p) (gv q)) (gv r)) (gv s):=by rw [DA x2.le hs.le,DA x1.le hr.le,DA hp.le hq.le]
 refine ⟨e1,e2,Sm.min m2 hs,Sm.max x2 hs,?_⟩
 show gv (PD (PD (PD p q) r) s)≤gv (FW (FW (FW p q) r) s)
 omega
theorem IwS.neg (h:IwS a n d):IwS (VM a) n d:=⟨h.s2.neg,h.s1.neg,by show gv (Hc a.2)≤gv (Hc a.1);rw [EW,EW];have:=h.le;omega⟩
theorem IwS.add (h:IwS a n d) (k:IwS b n d) (hd:d≤65536):IwS (Acf a b) (n+d+1) d:=⟨Sm.sum h.s1 k.s1 hd,Sm.sum h.s2 k.s2 hd,by
 show gv (Ep a.1 b.1)≤gv (Ep a.2 b.2)
 rw [EB h.s1.le k.s1.le,EB h.s2.le k.s2.le]
 have:=h.le;have:=k.le;omega⟩
theorem IwS.sub (h:IwS a n d) (k:IwS b n d) (hd:d≤65536):IwS (AeT a b) (n+d+1) d:=h.add k.neg hd
theorem IwS.min (h:IwS a n d) (k:IwS b n d):IwS (Yl a b) n d:=⟨Sm.min h.s1 k.s1,Sm.min h.s2 k.s2,by
 show gv (PD a.1 b.1)≤gv (PD a.2 b.2)
 rw [Gj h.s1.le k.s1.le,Gj h.s2.le k.s2.le]
 have:=h.le;have:=k.le;omega⟩
theorem IwS.max (h:IwS a n d) (k:IwS b n d):IwS (VN a b) n d:=⟨Sm.max h.s1 k.s1,Sm.max h.s2 k.s2,by
 show gv (FW a.1 b.1)≤gv (FW a.2 b.2)
 rw [DA h.s1.le k.s1.le,DA h.s2.le k.s2.le]
 have:=h.le;have:=k.le;omega⟩
theorem IwS.pt {p:Pq} (h:Sm p n d):IwS (p,p) n d:=⟨h,h,ci _⟩
theorem IwS.mul (h:IwS a n d) (k:IwS b n d) (hd:d≤30000):IwS (Acg a b) (n+n) (d+d):=(ED (Sm.mul h.s1 k.s1 hd) (Sm.mul h.s1 k.s2 hd) (Sm.mul h.s2 k.s1 hd) (Sm.mul h.s2 k.s2 hd)).2.2
theorem IwS.hull (h:IwS a n d) (k:IwS b n d):IwS (GA a b) n d:=(ED h.s1 h.s2 k.s1 k.s2).2.2
theorem IwS.clip {v u:Pq} (h:IwS a n d) (hv:Sm v n d) (hu:Sm u n d):IwS (Sr a v u) n d:=(h.max (.pt hv)).min (.pt hu)
theorem Ach {p:Pq}:p.1<0 ↔ gv p<0:=by
 unfold gv
 exact ⟨fun h=>jw h (AI _),fun h=>Int.not_le.1 fun hc=>by have:=fq hc (au (AI (GQ - p.2)));omega⟩
theorem Aci {p:Pq}:0<p.1 ↔ 0<gv p:=by
 unfold gv
 exact ⟨fun h=>Int.mul_pos h (AI _),fun h=>Int.not_le.1 fun hc=>by have:=Int.mul_nonpos_of_nonpos_of_nonneg hc (au (AI (GQ - p.2)));omega⟩
theorem IwS.abs (h:IwS a n d):IwS (Rq a) n d:=by
 obtain ⟨h1,h2,h3⟩:=FE h.s1.abs h.s2.abs
 unfold Rq
 split
 ·refine ⟨Sm.zero n d,h3.s2,?_⟩
  show gv (0,0)≤gv (Co [Hm a.1,Hm a.2]).2
  rw [Dw,h2,QG,QG]
  omega
 ·exact h3
theorem HW (h:IwS a n d):gv (Rq a).1=(if gv a.1<0∧0<gv a.2 then 0 else min ((gv a.1).natAbs:Int) (gv a.2).natAbs)∧gv (Rq a).2=max ((gv a.1).natAbs:Int) (gv a.2).natAbs:=by
 obtain ⟨h1,h2,h3⟩:=FE h.s1.abs h.s2.abs
 rw [QG,QG] at h1 h2
 unfold Rq
 by_cases hc:a.1.1<0∧0<a.2.1
 ·rw [if_pos hc,if_pos ⟨Ach.1 hc.1,Aci.1 hc.2⟩]
  exact ⟨Dw,h2⟩
 ·rw [if_neg hc,if_neg (fun h=>hc ⟨Ach.2 h.1,Aci.2 h.2⟩)]
  exact ⟨h1,h2⟩
theorem Ym (h:IwS a n d) (k:IwS b n d):iIn a b=decide (gv b.1≤gv a.1∧gv a.2≤gv b.2):=by
 unfold iIn
 rw [io,aj,decide_eq_true_eq,decide_eq_true_eq,decide_eq_true_eq,FA k.s1.le h.s1.le,FA h.s2.le k.s2.le]
end
theorem FF (a:Iq):∀ u∈dIw false a,Da u:=fun u hu=>by
 rcases List.mem_append.1 hu with h|h <;> exact HM _ _ u h
theorem rvJ {t:Tmp} {k:Nat} {a:Iq} (hk:TyK P ty true k) (hi:6=k) (hF:F t=.one (.ref id 0 none):=by with_unfolding_all exact rfl) (hH:H[id]?=some (.box ty' ((dIw false a).map C.d)):=by with_unfolding_all exact rfl):RV P F H (.cell t ty) (aIw false a):=by
 obtain ⟨⟨dd,hu,hd⟩,hz⟩:=hk
 refine .cellA hF hH hu hd (by rw [hz,←hi];rfl) (AG.map_l.2 ⟨rfl,fun j x y hx hy=>?_⟩)
 rw [hx] at hy
 cases hy
 exact .d fun _=>FF a x (gM hx)
theorem AeU:dIw false ((0,0),(0,0))=[.val (.bool false),.row false 1 0 [],.val (.int .i64 0),.val (.bool false),.row false 1 0 [],.val (.int .i64 0)]:=by
 have e:dDy false 0 0=[.val (.bool false),.row false 1 0 [],.val (.int .i64 0)]:=A.agg.inj Gy
 show dDy false 0 0++dDy false 0 0=_
 rw [e]
 rfl
structure StOk (bs:List Bk) (st:List (Int × Nat)):Prop where
 len:st.length=(Bd bs).length
 sm:∀ p∈st,Sm p LB LB
section
variable {ps:List Prt} {bs:List Bk} {os:List Int} {st:List (Int × Nat)} {ins:List Int}
theorem Ms (bs:List Bk):(BS bs).Nodup:=(Mg bs.length (Fu.nil bs)).nodup
theorem Uc {l:List Nat} (h:l.Nodup) {i j x:Nat} (hi:l[i]?=some x) (hj:l[j]?=some x):i=j:=by
 obtain ⟨h1,e1⟩:=gS.1 hi
 obtain ⟨h2,e2⟩:=gS.1 hj
 exact (List.getElem_inj (h₀:=h1) (h₁:=h2) h).1 (e1.trans e2.symm)
theorem AiA (h:i∈Bd bs):i<bs.length∧Cy bs i=2:=by
 obtain ⟨k,hk⟩:=List.mem_iff_getElem?.1 h
 exact Iz hk
end
def Alg (bs:List Bk) (i:Nat):Int:=(bs[i]?.getD bk0).vn
def Alh (bs:List Bk) (i:Nat):Int:=(bs[i]?.getD bk0).ve
def BV (bs:List Bk):List (Int × Nat):=(Bd bs).map fun i=>Ad (Alg bs i) 0 (Alh bs i)
theorem Ll (he:AP ps bs os=0):StOk bs (BV bs):=⟨by unfold BV;rw [af],fun p hp=>by
 obtain ⟨i,hi,rfl⟩:=List.mem_map.1 hp
 obtain ⟨h1,h2⟩:=AiA hi
 obtain ⟨y,hy⟩:∃ y,bs[i]?=some y:=⟨_,gE h1⟩
 rw [Dv hy] at h2
 obtain ⟨s1,s2,s3,s4⟩:=Mo he hy (by unfold PC;rw [h2];rfl)
 unfold Alg Alh
 rw [hy]
 exact (Sm.shift (n:=32) (by simp only [ax];omega) (by simp only [ax];omega) (by simp only [ax];omega)).more (by decide) (by decide)⟩
def DZ (p:Int × Nat):Rv:=⟨decide (p.1<0),Aa p.1.natAbs,p.2⟩
theorem AiB (p:Int × Nat):(DZ p).rw.x=p.1:=by
 show sg (decide (p.1<0)) (Ar (Aa p.1.natAbs))=p.1
 rw [Ao]
 unfold sg
 split <;> rename_i h
 ·have:=of_decide_eq_true h;omega
 ·have:¬ p.1<0:=by simpa using h
  omega
theorem IB (p:Int × Nat):rvP (DZ p)=p:=by
 unfold rvP
 rw [AiB]
 show (p.1,((p.2:Nat):Int).toNat)=p
 rw [ak]
theorem Mt (t:Bool) (p:Int × Nat):dRv t (DZ p)=dDy t p.1 p.2:=by
 unfold dRv dDy wds
 rw [XG]
 rfl
theorem Ss {p:Int × Nat} (h:Nf p.1 p.2):vdB (DZ p).rw=true:=by
 refine decide_eq_true ?_
 by_cases h0:(Aa p.1.natAbs).length=0
 ·refine (AeH (r:=(DZ p).rw) h0).2 ?_
  have hz:p.1.natAbs=0:=by
   have:=Ao p.1.natAbs
   rw [bw h0] at this
   exact this.symm
  have hd:p.2=0:=df fun hne=>by have:=h.2 hne;omega
  exact ⟨decide_eq_false (by omega),by show ((p.2:Nat):Int)=0;omega⟩
 ·refine (AaA (r:=(DZ p).rw) h0).2 ⟨?_,by show (0:Int)≤(p.2:Nat);omega,by have:=h.1;show ((p.2:Nat):Int)≤65536;omega,?_⟩
  ·have hne:p.1.natAbs≠0:=fun hz=>h0 (by rw [hz,Ax];rfl)
   obtain ⟨q,L,hL,hq,q0,_,_⟩:=NZ hne
   show _≠_
   simp only [DZ,Rv.rw]
   first|(rw [hL];simpa [hq] using q0)|simp_all
  ·by_cases hd:p.2=0
   ·left;show ((p.2:Nat):Int)=0;omega
   ·right
    have:=h.2 hd
    have hb:=GK (Au p.1.natAbs) 0
    rw [Ao] at hb
    simp only [Nat.pow_zero,Nat.div_one,Nat.zero_div,Nat.zero_mod] at hb
    show (Aa p.1.natAbs)[0]?.getD 0 % 2=1
    omega
theorem Su (l:List (Int × Nat)):Aiw (l.map DZ)=.row false 3 l.length (Ay dyP l):=by
 unfold Aiw Ay
 rw [af,de]
 congr 2
 exact dz fun p _=>Mt false p
theorem Ia (bs:List Bk):(Bd bs).length≤bs.length:=by unfold Bd;exact lT (List.length_filter_le _ _) (Nat.le_of_eq gj)
theorem AaN {k:Nat} (hi:(Bd bs)[k]?=some i) (hy:bs[i]?=some y):(BV bs)[k]?=some (Ad y.vn 0 y.ve):=by
 unfold BV Alg Alh
 rw [ag,hi,ck,hy]
 rfl
theorem AiC (h:p:=by
 refine ⟨?_,?_,by rw [eh];omega⟩
 ·rw [bg,h,gi,Ql,gg];rfl
 ·rw [bg,h,am];rfl):p:=h
theorem QJ {l:List (Int × Nat)} {k:Nat} {p:Int × Nat} (h:l[k]?=some p):(Ay dyP (l.take k)).map C.d++(dDy false p.1 p.2).map C.d=(Ay dyP (l.take (k+1))).map C.d∧(l.take k).length+1=(l.take (k+1)).length∧(l.take k).length≤k:=by
 exact AiC
theorem Yn (t:Bool) {ps:List Prt} {bs:List Bk} {os:List Int} (hl:Ff ps bs os):CV prog Al 53 [aDg t ps bs os] [Alf (okQ (AP ps bs os) (BV bs)),aE (AP ps bs os)]:=by
 refine cvz func53 ntmps53 ?_
 have DL:=(GZ t hl (ps:=ps) (bs:=bs) (os:=os)).cv
 have hnl:=Dg (Bd bs)
 by_cases h0:AP ps bs os=0
 case neg =>
  rw [if_neg h0] at DL
  rw [So h0]
  repeat' (with_reducible first|refine qq ?_|(refine Tx 0 ?_;refine gN xBo <| gO xA <| gO xA ?_)|(refine Tx 1 ?_;refine gO xL <| gO (xCl func19 (DL)) <| gO xMt <| gO xEx <| gO xEx <| gO xA <| gO xA ?_)|(refine Tx 2 ?_;refine gO xM <| gO (xNE Ai) ?_)|(refine Tx 3 ?_;refine gO xM <| gO xA <| gO xA ?_))
  exact AE rfl (.cons_ (.tmp (.one (Gh rfl rfl))) (.cons_ (ZB rfl rfl) .nil_))
 rw [if_pos h0,h0] at DL
 rw [h0,Ye rfl]
 repeat' (with_reducible first|refine qq ?_|(refine Tx 0 ?_;refine gN xBo <| gO xA <| gO xA ?_)|(refine Tx 1 ?_;refine gO xL <| gO (xCl func19 (DL)) <| gO xMt <| gO xEx <| gO xEx <| gO xA <| gO xA ?_)|(refine Tx 2 ?_;refine gO xM <| gO (xNE Ai) ?_)|(refine Tx 4 ?_;refine gO xA ?_)|(refine Tx 5 ?_;refine gO xM <| gO xN <| gO xM ?_))
 refine Bm (NF 6 43 3 rfl) ?_
 have hl2:=hl.l2
 have hdb:=Ia bs
 have hsl:(BV bs).length=(Bd bs).length:=(Ll h0).len
 refine Bm (Cb 2) (Aw (fun n Fr H=>∃ k:Nat,k≤(Bd bs).length∧n=(Bd bs).length - k∧Fr=ofL [(1,vr 0),(6,vo 1 (((BV bs).take k).length)),(17,vd (Bw false (Cu (Bd bs)))),(18,vi ((Cu (Bd bs)).length)),(19,vi ((k:Nat)))]∧H=[.box 26 [.d (EP t ps),.d (Ee t bs),.d (Bw t os)],.row 43 3 ((BV bs).take (k)).length ((Ay dyP ((BV bs).take (k))).map C.d)]) (n0:=(Bd bs).length) ⟨0,ad _,rfl,rfl,rfl⟩ ?_)
 rintro n Fr H ⟨k,hk,rfl,rfl,rfl⟩
 by_cases hlt:k<(Bd bs).length
 case pos =>
  obtain ⟨i,hi⟩:∃ i,(Bd bs)[k]?=some i:=⟨_,gE hlt⟩
  have hid:=Iz hi
  have hil:=hid.1
  obtain ⟨y,hy⟩:∃ y,bs[i]?=some y:=⟨_,gE hil⟩
  have hk2:=hid.2
  rw [Dv hy] at hk2
  have hsc:=Mo h0 hy (by unfold PC;rw [hk2];rfl)
  have NU:=Vg y.vn y.ve hsc
  obtain ⟨hap,hap2,hoL⟩:=QJ (AaN hi hy)
  repeat' (with_reducible first|refine qq ?_|(refine Tx 6 ?_;refine gO xLt ?_)|(refine Tx 7 ?_;refine gO (xIr Ae (AY (Mr hi))) <| gO xD <| gO xA ?_)|(refine Tx 8 ?_;refine gO xM <| gO xF <| gO xD <| gO xM <| gO (xIr Ak (El hy)) <| gO xF <| gO xL <| gO (xCl func130 (NU)) <| gN (by exact Cn rfl Ag Am rfl rfl (by decide) (by decide)) <| gT (by exact WY rfl rfl rfl rfl rfl rfl Ag Am (by omega) (by decide) (by decide) rfl hap hap2) <| gO xA ?_)|(refine Tx 9 ?_;refine gO xAd <| gO xM ?_))
  refine ⟨_,_,Cb 2,_,?_,k+1,by omega,rfl,rfl,rfl⟩
  ·omega
 obtain rfl:k=(Bd bs).length:=by omega
 clear hlt hk
 rw [←hsl,bh]
 unfold Alf
 repeat' (with_reducible first|refine qq ?_|(refine Tx 6 ?_;refine gO xLt ?_)|(refine Tx 10 ?_;refine gO xM <| gO xA <| gO xA ?_))
 exact AE rfl (.cons_ (.tmp (.one (AeR rfl rfl rfl))) (.cons_ (Fg rfl rfl) .nil_))
def IC (ps:List Prt) (bs:List Bk) (os:List Int):Bool:=decide (ps.length≤40∧bs.length≤80∧os.length≤40) && bs.all fun b=>decide (b.args.length≤10)
theorem AaO (k:p') (h:Hd9 p'→p:=by with_reducible first|(intro Z9;refine Tx 0 ?_;refine gN xBo <| gO xA ?_;exact Z9.o)|(intro Z9;refine Tx 1 ?_;refine gO xF <| gO xD <| gO xN <| gO xGt <| gO xM ?_;(first|iterate 4 refine Jd ?_|(refine Jy (xFa CB Bn) ?_;refine Jy (xLd Bn) ?_;refine Jy (xLn Ak) ?_;refine Jy xGt ?_));refine gO xPk <| gO xM ?_;(first|iterate 4 refine Jd ?_|(refine Jy (xFa Gw BW) ?_;refine Jy (xLd BW) ?_;refine Jy (xLn Ae) ?_;refine Jy xGt ?_));refine gO xPk ?_;exact Z9.o)|fail):p:=h ⟨k⟩
theorem AeV (h:p:=by
 exact AE rfl (.cons_ (Fd rfl (by unfold IC;rw [decide_eq_false (by omega)];rfl)) .nil_)):p:=h
theorem Yo (t:Bool) (ps:List Prt) (bs:List Bk) (os:List Int):CV prog Al 31 [aDg t ps bs os] [aB (IC ps bs os)]:=by
 refine cvz func31 ntmps31 ?_
 by_cases cp:40<ps.length
 case pos =>
  repeat' (with_reducible first|refine qq ?_|refine AaO ?_|(refine Tx 2 ?_;refine gO xA ?_))
  exact AeV
 by_cases cb:80<bs.length
 case pos =>
  repeat' (with_reducible first|refine qq ?_|refine AaO ?_|(refine Tx 2 ?_;refine gO xA ?_))
  exact AeV
 by_cases co:40<os.length
 case pos =>
  repeat' (with_reducible first|refine qq ?_|refine AaO ?_|(refine Tx 2 ?_;refine gO xA ?_))
  exact AeV
 repeat' (with_reducible first|refine qq ?_|refine AaO ?_|(refine Tx 3 ?_;refine gO xF <| gO xD <| gO xN <| gO xM ?_))
 refine Bm (Cb 1) (Aw (fun n Fr H=>∃ k:Nat,k≤bs.length∧n=bs.length - k∧(bs.take k).all (fun b:Bk=>decide (b.args.length≤10))=true∧Fr=ofL [(1,vr 0),(22,vd (Ee t bs)),(23,vi bs.length),(24,vi ((k:Nat)))]∧H=[.box 26 [.d (EP t ps),.d (Ee t bs),.d (Bw t os)]]) (n0:=bs.length) ⟨0,ad _,rfl,rfl,rfl,rfl⟩ ?_)
 rintro n Fr H ⟨k,hk,rfl,hall,rfl,rfl⟩
 by_cases hlt:k<bs.length
 case pos =>
  obtain ⟨y,hy⟩:∃ y,bs[k]?=some y:=⟨_,gE hlt⟩
  by_cases hy10:y.args.length≤10
  case pos =>
   repeat' (with_reducible first|refine qq ?_|(refine Tx 4 ?_;refine gO xLt ?_)|(refine Tx 5 ?_;refine gO (xIr Ak (El hy)) <| gO xL <| gN (xAl BP) <| gZ (xSk BE) ?_)|(refine Tx 6 ?_;refine gO xF <| gO xD <| gO xN <| gO xGt ?_)|(refine Tx 8 ?_;refine gO xAd <| gO xM ?_))
   refine ⟨_,_,Cb 1,_,?_,k+1,by omega,rfl,TQ hy hall (decide_eq_true hy10),rfl,rfl⟩
   ·omega
  case neg =>
   repeat' (with_reducible first|refine qq ?_|(refine Tx 4 ?_;refine gO xLt ?_)|(refine Tx 5 ?_;refine gO (xIr Ak (El hy)) <| gO xL <| gN (xAl BP) <| gZ (xSk BE) ?_)|(refine Tx 6 ?_;refine gO xF <| gO xD <| gO xN <| gO xGt ?_)|(refine Tx 7 ?_;refine gO xA ?_))
   exact AE rfl (.cons_ (Fd rfl (by unfold IC;rw [show bs.all (fun b:Bk=>decide (b.args.length≤10))=false from List.all_eq_false.2 ⟨y,gM hy,by rw [decide_eq_false hy10];exact Bool.false_ne_true⟩,Bool.and_false])) .nil_)
 obtain rfl:k=bs.length:=by omega
 rw [bh] at hall
 repeat' (with_reducible first|refine qq ?_|(refine Tx 4 ?_;refine gO xLt ?_)|(refine Tx 9 ?_;refine gO xA ?_))
 exact AE rfl (.cons_ (Fd rfl (by unfold IC;rw [hall,decide_eq_true (by omega)];rfl)) .nil_)
theorem AaP (ps:List Prt) (bs:List Bk) (os:List Int):CV prog Al 31 [aDg true ps bs os] [aB (IC ps bs os)]:=Yo true ps bs os
theorem Yp (h:IC ps bs os=true):Ff ps bs os∧bs.length≤80:=by
 unfold IC at h
 rw [aj] at h
 have h1:=of_decide_eq_true h.1
 exact ⟨⟨by omega,by omega,by omega,fun b hb=>by have:=of_decide_eq_true (List.all_eq_true.1 h.2 b hb);omega⟩,h1.2.1⟩
theorem Yq {p:Int × Nat} {k:Nat} (h:Nf p.1 p.2) (hl:(Aa p.1.natAbs).length≤k) (hn:32*k≤n):Sm p n 65536:=by
 refine ⟨h,?_,h.1⟩
 have hlt:p.1.natAbs<2 ^ (32*(Aa p.1.natAbs).length):=by have:=Br (Au p.1.natAbs);rw [Ao] at this;rw [dn];exact this
 exact ai hlt (ao (by decide) (by omega))
theorem AeW (k:p') (h:Hd9 p'→p:=by with_reducible first|(intro Z9;refine qq ?_;exact Z9.o)|(intro Z9;refine Tx 0 ?_;refine gN xBo <| gO xA ?_;exact Z9.o)|(intro Z9;refine Tx 1 ?_;refine gO xL <| gO (xCl func69 (PX)) <| gO xMt <| gO xEx <| gO xEx <| gO xEx <| gO xA <| gO xA <| gO xA ?_;exact Z9.o)|(intro Z9;refine Tx 2 ?_;refine gO xM <| gO xN <| gO xEq <| gO xA ?_;exact Z9.o)|fail):p:=h ⟨k⟩
theorem He (x:Int) (dx:Nat) (hnx:Nf x dx) (lx:(Aa x.natAbs).length≤40000):CV prog Al 55 [aDy false x dx] [aI (sgI x)]:=by
 refine cvz func55 ntmps55 ?_
 have PX:=Ef (G:=Al) x dx hnx (lT lx (by decide))
 by_cases c0:x=0
 case pos =>
  have l0:((Aa x.natAbs).length:Int)=0:=by rw [show x.natAbs=0 by omega,Ax];rfl
  rw [show decide (x<0)=false by rw [decide_eq_false (by omega)]] at PX
  rw [show sgI x=0 by unfold sgI;(repeat' split) <;> omega]
  repeat' (with_reducible first|refine AeW ?_|(refine Tx 3 ?_;refine gO xA ?_))
  exact AE rfl (.cons_ (WW rfl rfl) .nil_)
 by_cases cm1:x<0
 case pos =>
  have l0:¬ ((Aa x.natAbs).length:Int)=0:=fun hc=>by have:=Ce (n:=x.natAbs) (by omega);omega
  rw [show decide (x<0)=true by rw [decide_eq_true (by omega)]] at PX
  rw [show sgI x = -1 by unfold sgI;(repeat' split) <;> omega]
  repeat' (with_reducible first|refine AeW ?_|(refine Tx 4 ?_;refine gO xM <| gO xA ?_)|(refine Tx 5 ?_;refine gO xA ?_))
  exact AE rfl (.cons_ (WW rfl rfl) .nil_)
 have l0:¬ ((Aa x.natAbs).length:Int)=0:=fun hc=>by have:=Ce (n:=x.natAbs) (by omega);omega
 rw [show decide (x<0)=false by rw [decide_eq_false (by omega)]] at PX
 rw [show sgI x=1 by unfold sgI;(repeat' split) <;> omega]
 repeat' (with_reducible first|refine AeW ?_|(refine Tx 4 ?_;refine gO xM <| gO xA ?_)|(refine Tx 6 ?_;refine gO xA ?_))
 exact AE rfl (.cons_ (WW rfl rfl) .nil_)
theorem Oe (x:Int) (d den:Nat) (hn:Nf x d) (hl:(Aa x.natAbs).length≤40000) (hd:den≤65536):CVF prog Al 22 [aDy false x d,aI (den:Int)] [aDy false (Bz x d den).1 (Bz x d den).2,aE 0]:=fun w S vs hg hlt ha=>by
 obtain ⟨v,vs',rfl,h1,ha⟩:=ha.uncons
 obtain ⟨u,hu,h2⟩:=BZ ha
 subst hu
 cases h2
 exact (Nr (Mj h1 hlt hn) (aa _) (lT hl (by decide)) hd hg).mono fun r w' ⟨v,he,hd,hb⟩=>⟨_,he,OS (Iw hd) (Bf.val rfl),hb⟩
theorem AaQ {x:Int} {d:Nat} (hn:Nf x d) (hd:den≤65536):Nf (Bz x d den).1 (Bz x d den).2:=by
 unfold Bz
 split
 ·exact hn
 ·exact Nf.nf hd
theorem QK {x:Int} {k:Nat}:(x / 2 ^ k).natAbs≤x.natAbs:=by
 have h1:=Int.mul_ediv_add_emod x (2 ^ k)
 have h2:=Int.emod_nonneg x (Yi k)
 have h3:=Int.emod_lt_of_pos x (AI k)
 have hp:=AI k
 generalize (2:Int) ^ k=P at *
 generalize hq:x / P=q at *
 rcases Int.lt_or_le q 0 with hlt|hge
 ·have:P*q≤q:=by
   have:=Int.mul_le_mul_of_nonpos_right (show (1:Int)≤P by omega) (au hlt)
   omega
  rcases Int.lt_or_le x 0 with hx|hx
  ·by_cases hP:P=1
   ·subst hP;omega
   ·have h4:2*(-q)≤P*(-q):=ct (by omega) (by omega)
    rw [Int.mul_neg] at h4
    by_cases hq1:q = -1
    ·subst hq1;omega
    ·have h5:P*(-q - 1) ≥ 1*(-q - 1):=ct (by omega) (by omega)
     rw [Int.mul_sub,Int.mul_neg] at h5
     omega
  ·exfalso
   have:0≤q:=by rw [←hq];exact Int.ediv_nonneg hx (by omega)
   omega
 ·have:1*q≤P*q:=ct (by omega) hge
  omega
theorem Ys {x:Int} {d k:Nat} (hl:(Aa x.natAbs).length≤k):(Aa (Bz x d den).1.natAbs).length≤k:=by
 unfold Bz
 split
 ·exact hl
 ·exact lT (AC (lT (Fi _ _) QK)) hl
theorem AiD (h:p:=by first|exact xCl func176 (NG)|exact xCl func176 (NH)):p:=h
theorem QL (x:Int) (d den:Nat) (hn:Nf x d) (hl:(Aa x.natAbs).length≤40000) (hd:den≤65536):CV prog Al 153 [aDy false x d,aI (den:Int)] [aDy false (AaM (x,d) den).1 (AaM (x,d) den).2,aE 0]:=by
 refine cvz func153 ntmps153 ?_
 have NG:=EQ x d hn hl
 have hnn:Nf (-x) d:=⟨hn.1,fun h=>by have:=hn.2 h;omega⟩
 have FL:=(Oe (-x) d den hnn (by rw [jk];exact hl) hd).cv
 have NH:=EQ (Bz (-x) d den).1 (Bz (-x) d den).2 (AaQ hnn hd) (Ys (by rw [jk];exact hl))
 repeat' (with_reducible first|refine qq ?_|(refine Tx 0 ?_;refine gN xBo <| gN (xAl Am) <| gO xA ?_)|(refine Tx 1 ?_;refine gO xL <| gO AiD <| gO xM <| gO (xCl func22 (FL)) <| gO xMt <| gO (by exact DS rfl rfl rfl) <| gO xEx <| gN (xAl Am) <| gZ (xSk Ab) <| gO xA ?_)|(refine Tx 2 ?_;refine gO xL <| gO AiD <| gO xM <| gZ (xSk Ab) <| gO xA ?_))
 exact AE rfl (.cons_ (rvW Ab rfl) (.cons_ (Fg rfl rfl) .nil_))
def ivR (r s:Rv):Bool:=vdB r.rw && vdB s.rw && decide (Bx r.rw.x r.rw.d s.rw.x s.rw.d≤0)
def RvL (r:Rv):Prop:=An r.ws∧r.ws.length≤40000
def dIr (t:Bool) (a:Rv × Rv):List D:=dRv t a.1++dRv t a.2
theorem AiE (k:p') (h:Hd9 p'→p:=by with_reducible first|(intro Z9;refine Tx 1 ?_;refine gO xF <| gO xL <| gO (xCl func123 (V1)) <| gO xM ?_;(first|iterate 3 refine Jd ?_|(refine Jy (xFa Bj Ab) ?_;refine Jy (xLa Ab) ?_;refine Jy (xCl func123 (V2)) ?_));refine gO xPk <| gO xM ?_;(first|iterate 6 refine Jd ?_|(refine Jy (xFa Dp Ab) ?_;refine Jy (xLa Ab) ?_;refine Jy (xFa Bj Ab) ?_;refine Jy (xLa Ab) ?_;refine Jy (xCl func15 (CM)) ?_;refine Jy xLe ?_));refine gO xPk <| gO xA ?_;exact Z9.o)|fail):p:=h ⟨k⟩
theorem FX (r s:Rv) (hr:RvL r) (hs:RvL s):CV prog Al 122 [.agg (dIr false (r,s))] [aB (ivR r s)]:=by
 refine cvz func122 ntmps122 ?_
 have V1:=(Mn (G:=Al) false r hr.1 (lT hr.2 (by decide))).cv
 have V2:=(Mn (G:=Al) false s hs.1 (lT hs.2 (by decide))).cv
 by_cases c1:vdB r.rw=true
 case neg =>
  rw [bc] at c1
  rw [c1] at V1
  repeat' (with_reducible first|refine qq ?_|(refine Tx 0 ?_;refine gN xBo <| gO xA ?_)|(refine Tx 1 ?_;refine gO xF <| gO xL <| gO (xCl func123 (V1)) <| gO xM ?_;(first|iterate 3 refine Jd ?_|(refine Jy (xFa Bj Ab) ?_;refine Jy (xLa Ab) ?_;refine Jy (xCl func123 (V1)) ?_));refine gO xPk <| gO xM ?_;(first|iterate 4 refine Jd ?_|(refine Jy (xFa Dp Ab) ?_;refine Jy (xLa Ab) ?_;refine Jy (xFa Bj Ab) ?_;refine Jy (xLa Ab) ?_));refine Jd ?_;(first|refine Jd ?_|refine Jy xLe ?_);refine gO xPk <| gO xA ?_))
  exact AE rfl (.cons_ (Fd rfl (by unfold ivR;rw [c1];rfl)) .nil_)
 by_cases c2:vdB s.rw=true
 case neg =>
  rw [bc] at c2
  rw [c1] at V1
  rw [c2] at V2
  repeat' (with_reducible first|refine qq ?_|(refine Tx 0 ?_;refine gN xBo <| gO xA ?_)|(refine Tx 1 ?_;refine gO xF <| gO xL <| gO (xCl func123 (V1)) <| gO xM ?_;(first|iterate 3 refine Jd ?_|(refine Jy (xFa Bj Ab) ?_;refine Jy (xLa Ab) ?_;refine Jy (xCl func123 (V2)) ?_));refine gO xPk <| gO xM ?_;(first|iterate 4 refine Jd ?_|(refine Jy (xFa Dp Ab) ?_;refine Jy (xLa Ab) ?_;refine Jy (xFa Bj Ab) ?_;refine Jy (xLa Ab) ?_));refine Jd ?_;(first|refine Jd ?_|refine Jy xLe ?_);refine gO xPk <| gO xA ?_))
  exact AE rfl (.cons_ (Fd rfl (by unfold ivR;rw [c1,c2];rfl)) .nil_)
 rw [c1] at V1
 rw [c2] at V2
 obtain ⟨e1,n1,k1⟩:=XZ (t:=false) hr.1 c1
 obtain ⟨e2,n2,k2⟩:=XZ (t:=false) hs.1 c2
 have CM:=BJ r.rw.x r.rw.d s.rw.x s.rw.d n1 n2 (lT (Nat.le_of_eq k1) hr.2) (lT (Nat.le_of_eq k2) hs.2)
 unfold aDy at CM
 rw [←e1,←e2] at CM
 by_cases c3:Bx r.rw.x r.rw.d s.rw.x s.rw.d≤0
 case pos =>
  repeat' (with_reducible first|refine qq ?_|(refine Tx 0 ?_;refine gN xBo <| gO xA ?_)|refine AiE ?_)
  exact AE rfl (.cons_ (Fd rfl (by unfold ivR;rw [c1,c2,decide_eq_true c3];rfl)) .nil_)
 case neg =>
  repeat' (with_reducible first|refine qq ?_|(refine Tx 0 ?_;refine gN xBo <| gO xA ?_)|refine AiE ?_)
  exact AE rfl (.cons_ (Fd rfl (by unfold ivR;rw [c1,c2,decide_eq_false c3];rfl)) .nil_)
theorem Mu {p:Pq} {d:Nat} (h:Sm p n d) (hn:n≤1280000):RvL (DZ p):=⟨Au _,h.lenN 40000 (by omega)⟩
theorem AaR {a:Iq} {d:Nat} (h:IwS a n d):ivR (DZ a.1) (DZ a.2)=true:=by
 unfold ivR
 rw [Ss h.s1.ok,Ss h.s2.ok]
 have:Bx (DZ a.1).rw.x (DZ a.1).rw.d (DZ a.2).rw.x (DZ a.2).rw.d=Hd (rvP (DZ a.1)) (rvP (DZ a.2)):=rfl
 rw [IB,IB] at this
 rw [this,decide_eq_true ((FA h.s1.le h.s2.le).2 h.le)]
 rfl
theorem Vi (a:Iq) {n d:Nat} (h:IwS a n d) (hn:n≤1280000):CV prog Al 122 [aIw false a] [aB true]:=by
 have:=FX (DZ a.1) (DZ a.2) (Mu h.s1 hn) (Mu h.s2 hn)
 rw [AaR h] at this
 unfold dIr at this
 rwa [Mt,Mt] at this
theorem Sv (h:p:=by
 exact AE rfl (.cons_ (rvW Ab rfl) .nil_)):p:=h
theorem Mv (x:Int) (d:Nat) (hn:Nf x d) (hl:(Aa x.natAbs).length≤40000):CV prog Al 227 [aDy false x d] [aDy false x d]:=by
 refine cvz func227 ntmps227 ?_
 have SH:=Bo x d 0 hn (lT hl (by decide)) (by have:=hn.1;omega)
 rw [Ey hn] at SH
 repeat' (with_reducible first|refine qq ?_|(refine Tx 0 ?_;refine gN xBo <| gN (xAl Am) ?_)|(refine Tx 1 ?_;refine gO xL <| gO (xCl func21 (SH)) <| gZ (xSk Ab) ?_))
 exact Sv
theorem CY (h:p:=by
 exact AE rfl (.cons_ (rvJ Ac rfl) .nil_)):p:=h
theorem AiF (h:p:=by first|exact xCl func227 (S1)|exact xCl func227 (S2)):p:=h
theorem Yt (h:p:=by first|exact xNt|exact xNg):p:=h
theorem AaS (a:Iq) {n d:Nat} (h:IwS a n d) (hn:n≤1280000) (l1:(Aa a.1.1.natAbs).length≤40000) (l2:(Aa a.2.1.natAbs).length≤40000):CV prog Al 228 [aIw false a] [aIw false a]:=by
 refine cvz func228 ntmps228 ?_
 have V:=Vi a h hn
 have S1:=Mv a.1.1 a.1.2 h.s1.ok l1
 have S2:=Mv a.2.1 a.2.2 h.s2.ok l2
 repeat' (with_reducible first|refine qq ?_|(refine Tx 0 ?_;refine gN xBo <| gN (xAl Ah) ?_)|(refine Tx 1 ?_;refine gO xL <| gO (xCl func122 (V)) <| gO Yt ?_)|(refine AM (id:=3) 7 Bb (by kernel_rfl) ?_;dsimp only [List.take,List.drop];refine gP xF <| gP xL <| gP AiF <| gP xF <| gP xL <| gP AiF <| gP (by exact AU rfl Cm rfl rfl) ?_;refine Ke ?_;refine gZ (xSk Ac) ?_))
 exact CY
theorem CD (a:Iq) (h:IwS a 20000 20000):CV prog Al 228 [aIw false a] [aIw false a]:=AaS a h (by decide) h.s1.lz h.s2.lz
theorem CI (p:Pq) (hn:Nf p.1 p.2) (hl:(Aa p.1.natAbs).length≤40000):CV prog Al 140 [aDy false p.1 p.2] [aIw false (p,p)]:=by
 refine cvz func140 ntmps140 ?_
 have S1:=Mv p.1 p.2 hn hl
 repeat' (with_reducible first|refine qq ?_|(refine Tx 0 ?_;refine gN xBo <| gN (xAl Ah) ?_)|(refine AM (id:=1) 5 Bb (by kernel_rfl) ?_;dsimp only [List.take,List.drop];refine gP xL <| gP (xCl func227 (S1)) <| gP xL <| gP (xCl func227 (S1)) <| gP (by exact AU rfl Cm rfl rfl) ?_;refine Ke ?_;refine gZ (xSk Ac) ?_))
 exact CY
theorem Ud {l:List Pq} {k:Nat} {p:Pq} (h:l[k]?=some p):((Ay dyP l).drop (k*3)).take 3=dyP p:=AeC h
theorem QM {G:World→Prop} {o:Oper} {t e:TypeId} {x l:Operand} {tg:Bool} {s lo:Nat} {k:IntKind} {z:Int} {cs:List D} (ho:o.op=.slice t x (some l) none none) (hx:F.ev x=.one (.d (.row tg s n cs))) (hl:F.ev l=.one (.d (.val (.int k z)))) (hz:z=(lo:Int)) (ht:TyS P t e s) (h1:lo≤n):AK P G o F H (.one (.d (.row tg s (n - lo) (cs.drop (lo*s))))) []:=XQ ho hx hl hz ht h1
theorem AiG (h:p:=by
 refine ⟨_,_,Cb 2 (hH:=by rw [←hnx];rfl),_,?_,k+1,by omega,rfl,hIS,rfl,rfl⟩
 ·omega):p:=h
theorem Hf (t:Bool) (L:List Pq) (hne:L≠[]) (hs:∀ p∈L,Sm p 40064 40000) (hL:L.length≤100):CV prog Al 226 [.one (.row t 3 L.length (Ay dyP L))] [aIw false (Co L)]:=by
 refine cvz func226 ntmps226 ?_
 obtain ⟨p,l,rfl⟩:∃ p l,L=p::l:=by cases L with|nil=>exact absurd rfl hne|cons p l=>exact ⟨p,l,rfl⟩
 have hp:=hs p (fc ..)
 have hpl:=lT (hp.lenN 1252 (by decide)) (show 1252≤40000 by decide)
 have PT:=CI p hp.ok hpl
 have hlen:(p::l).length=l.length+1:=bl
 repeat' (with_reducible first|refine qq ?_|(refine Tx 0 ?_;refine gN (xAl Ah) ?_)|(refine Tx 1 ?_;refine gO xM <| gO (by exact TD (i:=0) rfl rfl rfl rfl Ag (by omega) (by decide) (Ud (l:=p::l) (k:=0) rfl)) <| gO xL <| gO (xCl func140 (PT)) <| gN (xAl Ah) <| gZ (xSk Ac) ?_)|(refine Tx 2 ?_;refine gO xM <| gO (by exact QM (lo:=1) rfl rfl rfl rfl Ag (by omega)) <| gO xN <| gO xM ?_))
 refine Bm (Cb 2) (Aw (fun n Fr H=>∃ k:Nat,k≤l.length∧n=l.length - k∧IwS ((l.take (k)).foldl FB (p,p)) 40064 40000∧Fr=ofL [(2,vr 0),(3,vr 1),(11,vd (.row t 3 ((p::l).length - 1) ((Ay dyP (p::l)).drop (1*3)))),(12,vi (((p::l).length - 1:Nat))),(13,vi ((k:Nat)))]∧H=[.box 45 [.d (.val (.bool false)),.d (.val (.slice none 0 0)),.d (.val (.int .i64 0)),.d (.val (.bool false)),.d (.val (.slice none 0 0)),.d (.val (.int .i64 0))],.box 45 ((dIw false ((l.take (k)).foldl FB (p,p))).map C.d)]) (n0:=l.length) ⟨0,ad _,rfl,.pt hp,rfl,rfl⟩ ?_)
 rintro n Fr H ⟨k,hk,rfl,hS,rfl,rfl⟩
 by_cases hlt:k<l.length
 case pos =>
  obtain ⟨x,hx⟩:∃ x,l[k]?=some x:=⟨_,gE hlt⟩
  have hxs:=hs x (ea _ (gM hx))
  have hxl:=lT (hxs.lenN 1252 (by decide)) (show 1252≤40000 by decide)
  have a1:=hS.s1
  have a2:=hS.s2
  have a1l:=lT (a1.lenN 1252 (by decide)) (show 1252≤40000 by decide)
  have a2l:=lT (a2.lenN 1252 (by decide)) (show 1252≤40000 by decide)
  have hnx:FB ((l.take (k)).foldl FB (p,p)) x=((l.take (k+1)).foldl FB (p,p)):=by rw [bg,hx,gi,ke];rfl
  have hIS:IwS (FB ((l.take (k)).foldl FB (p,p)) x) 40064 40000:=⟨Sm.min a1 hxs,Sm.max a2 hxs,by show gv (PD _ x)≤gv (FW _ x);rw [Gj a1.le hxs.le,DA a2.le hxs.le];have:=hS.le;omega⟩
  rw [hnx] at hIS
  have hxd:(((Ay dyP (p::l)).drop (1*3)).drop (k*3)).take 3=dyP x:=by rw [il,show 1*3+k*3=(k+1)*3 by omega];exact Ud (l:=p::l) (k:=k+1) (by rw [fk];exact hx)
  generalize hT:((l.take (k)).foldl FB (p,p))=T at *
  have MN:=Pa T.1.1 T.1.2 x.1 x.2 a1.ok hxs.ok a1l hxl
  have MX:=Eg T.2.1 T.2.2 x.1 x.2 a2.ok hxs.ok a2l hxl
  repeat' (with_reducible first|refine qq ?_|(refine Tx 3 ?_;refine gO xLt ?_)|(refine Tx 4 ?_;refine gO (xIr Ag (hxd)) <| gO xL <| gN (xAl Am) <| gZ (xSk Ab) ?_)|(refine AM (id:=5) 9 Bb (by kernel_rfl) ?_;dsimp only [List.take,List.drop];refine gP xF <| gP xL <| gP xL <| gP (xCl func225 (MN)) <| gP xF <| gP xL <| gP xL <| gP (xCl func156 (MX)) <| gP xF ?_;refine Ke ?_;refine gZ (xSk Ab) <| gO xF <| gZ (xSk Ab) ?_)|(refine Tx 6 ?_;refine gO xAd <| gO xM ?_))
  exact AiG
 obtain rfl:k=l.length:=by omega
 clear hlt hk
 rw [bh]
 repeat' (with_reducible first|refine qq ?_|(refine Tx 3 ?_;refine gO xLt ?_)|(refine Tx 7 ?_;refine gO xL <| gZ (xSk Ac) ?_))
 exact CY
theorem GB (x:Int) {n d:Nat} (h:x.natAbs<2 ^ 63) (hn:63≤n):Sm (x,0) n d:=⟨⟨ad _,fun h=>absurd rfl h⟩,ai h (ao (by decide) hn),ad _⟩
theorem Ue (x:Int) (h:x.natAbs<2 ^ 63):Sm (x,0) 40064 40000:=GB x h (by decide)
theorem AiH (h:p:=by first|exact xCl func68 (O1)|exact xCl func68 (O2)):p:=h
theorem QN (x y:Int) (hx : -9223372036854775807≤x∧x<9223372036854775808) (hy : -9223372036854775807≤y∧y<9223372036854775808):CV prog Al 139 [aI x,aI y] [aIw false (Co [(x,0),(y,0)])]:=by
 refine cvz func139 ntmps139 ?_
 have O1:=Em x (by omega) (by omega)
 have O2:=Em y (by omega) (by omega)
 have s1:Sm (x,0) 40064 40000:=Ue x (by omega)
 have s2:Sm (y,0) 40064 40000:=Ue y (by omega)
 have SP:=Hf true [(x,0),(y,0)] (by simp) (fun p hp=>by simp only [dj,dk,or_false] at hp;rcases hp with rfl|rfl <;> assumption) (bi rfl)
 repeat' (with_reducible first|refine qq ?_|(refine Tx 0 ?_;refine gN (xAl Ah) ?_)|(refine Tx 1 ?_;refine gO xM <| gO AiH <| gO xM <| gO AiH <| gN (by exact GS rfl Ag Am rfl rfl rfl rfl (by decide) (by decide)) <| gO (xCl func226 (SP)) <| gZ (xSk Ac) ?_))
 exact CY
theorem AiI (h:p:=by first|exact xCl func176 (N2)|exact xCl func176 (N1)):p:=h
theorem Ph (a:Iq) (h:IwS a 20000 20000):CV prog Al 146 [aIw false a] [aIw false (VM a)]:=by
 refine cvz func146 ntmps146 ?_
 have h1:=h.s1
 have h2:=h.s2
 have hl:=h1.l4
 have hm:=h2.l4
 have AR:=CD a h
 have N1:=EQ a.1.1 a.1.2 h1.ok hl
 have N2:=EQ a.2.1 a.2.2 h2.ok hm
 repeat' (with_reducible first|refine qq ?_|(refine Tx 0 ?_;refine gN xBo <| gN (xAl Ah) ?_)|(refine Tx 1 ?_;refine gO xL <| gO (xCl func228 (AR)) <| gZ (xSk Ac) ?_)|(refine AM (id:=2) 7 Bb (by kernel_rfl) ?_;dsimp only [List.take,List.drop];refine gP xF <| gP xL <| gP AiI <| gP xF <| gP xL <| gP AiI <| gP (by exact AU rfl Cm rfl rfl) ?_;refine Ke ?_;refine gZ (xSk Ac) ?_))
 exact CY
theorem IO (h:p:=by first|exact xCl func228 (AA)|exact xCl func228 (AB)):p:=h
theorem AiJ (h:p:=by first|exact xCl func152 (C1)|exact xCl func152 (C2)):p:=h
theorem Pi (a b:Iq) (h:IwS a 20000 20000) (k:IwS b 20000 20000):CV prog Al 143 [aIw false a,aIw false b] [aIw false (Acf a b)]:=by
 refine cvz func143 ntmps143 ?_
 have h1:=h.s1
 have h2:=h.s2
 have hl:=h1.l4
 have hm:=h2.l4
 have k1:=k.s1
 have k2:=k.s2
 have kl:=k1.l4
 have km:=k2.l4
 have AA:=CD a h
 have AB:=CD b k
 have C1:=CX a.1.1 a.1.2 b.1.1 b.1.2 h1.ok k1.ok hl kl
 have C2:=CX a.2.1 a.2.2 b.2.1 b.2.2 h2.ok k2.ok hm km
 repeat' (with_reducible first|refine qq ?_|(refine Tx 0 ?_;refine gN xBo <| gN xBo <| gN (xAl Ah) ?_)|(refine AM (id:=1) 4 Bb (by kernel_rfl) ?_;dsimp only [List.take,List.drop];refine gP xL <| gP IO <| gP xL <| gP IO ?_;refine Ke ?_;refine gZ (xSk Ac) <| gZ (xSk Ac) ?_)|(refine AM (id:=2) 11 Bb (by kernel_rfl) ?_;dsimp only [List.take,List.drop];refine gP xF <| gP xL <| gP xF <| gP xL <| gP AiJ <| gP xF <| gP xL <| gP xF <| gP xL <| gP AiJ <| gP (by exact AU rfl Cm rfl rfl) ?_;refine Ke ?_;refine gZ (xSk Ac) ?_))
 exact CY
theorem AiK (h:p:=by first|exact xCl func225 (C1)|exact xCl func225 (C2)):p:=h
theorem Pj (a b:Iq) (h:IwS a 20000 20000) (k:IwS b 20000 20000):CV prog Al 148 [aIw false a,aIw false b] [aIw false (Yl a b)]:=by
 refine cvz func148 ntmps148 ?_
 have h1:=h.s1
 have h2:=h.s2
 have hl:=h1.l4
 have hm:=h2.l4
 have k1:=k.s1
 have k2:=k.s2
 have kl:=k1.l4
 have km:=k2.l4
 have AA:=CD a h
 have AB:=CD b k
 have C1:=Pa a.1.1 a.1.2 b.1.1 b.1.2 h1.ok k1.ok hl kl
 have C2:=Pa a.2.1 a.2.2 b.2.1 b.2.2 h2.ok k2.ok hm km
 repeat' (with_reducible first|refine qq ?_|(refine Tx 0 ?_;refine gN xBo <| gN xBo <| gN (xAl Ah) ?_)|(refine AM (id:=1) 4 Bb (by kernel_rfl) ?_;dsimp only [List.take,List.drop];refine gP xL <| gP IO <| gP xL <| gP IO ?_;refine Ke ?_;refine gZ (xSk Ac) <| gZ (xSk Ac) ?_)|(refine AM (id:=2) 11 Bb (by kernel_rfl) ?_;dsimp only [List.take,List.drop];refine gP xF <| gP xL <| gP xF <| gP xL <| gP AiK <| gP xF <| gP xL <| gP xF <| gP xL <| gP AiK <| gP (by exact AU rfl Cm rfl rfl) ?_;refine Ke ?_;refine gZ (xSk Ac) ?_))
 exact CY
theorem AiL (h:p:=by first|exact xCl func156 (C1)|exact xCl func156 (C2)):p:=h
theorem Pk (a b:Iq) (h:IwS a 20000 20000) (k:IwS b 20000 20000):CV prog Al 149 [aIw false a,aIw false b] [aIw false (VN a b)]:=by
 refine cvz func149 ntmps149 ?_
 have h1:=h.s1
 have h2:=h.s2
 have hl:=h1.l4
 have hm:=h2.l4
 have k1:=k.s1
 have k2:=k.s2
 have kl:=k1.l4
 have km:=k2.l4
 have AA:=CD a h
 have AB:=CD b k
 have C1:=Eg a.1.1 a.1.2 b.1.1 b.1.2 h1.ok k1.ok hl kl
 have C2:=Eg a.2.1 a.2.2 b.2.1 b.2.2 h2.ok k2.ok hm km
 repeat' (with_reducible first|refine qq ?_|(refine Tx 0 ?_;refine gN xBo <| gN xBo <| gN (xAl Ah) ?_)|(refine AM (id:=1) 4 Bb (by kernel_rfl) ?_;dsimp only [List.take,List.drop];refine gP xL <| gP IO <| gP xL <| gP IO ?_;refine Ke ?_;refine gZ (xSk Ac) <| gZ (xSk Ac) ?_)|(refine AM (id:=2) 11 Bb (by kernel_rfl) ?_;dsimp only [List.take,List.drop];refine gP xF <| gP xL <| gP xF <| gP xL <| gP AiL <| gP xF <| gP xL <| gP xF <| gP xL <| gP AiL <| gP (by exact AU rfl Cm rfl rfl) ?_;refine Ke ?_;refine gZ (xSk Ac) ?_))
 exact CY
theorem AaT (h:p:=by first|exact xCl func157 (C0)|exact xCl func157 (C1)|exact xCl func157 (C2)|exact xCl func157 (C3)):p:=h
theorem Pm (a b:Iq) (h:IwS a 20000 20000) (k:IwS b 20000 20000):CV prog Al 145 [aIw false a,aIw false b] [aIw false (Acg a b)]:=by
 refine cvz func145 ntmps145 ?_
 have h1:=h.s1
 have h2:=h.s2
 have hl:=h1.l4
 have hm:=h2.l4
 have k1:=k.s1
 have k2:=k.s2
 have kl:=k1.l4
 have km:=k2.l4
 have AA:=CD a h
 have AB:=CD b k
 have C0:=Fy a.1.1 a.1.2 b.1.1 b.1.2 h1.ok k1.ok hl kl (by have:=h1.d;have:=k1.d;omega)
 have s0:Sm (CA a.1 b.1) 40064 40000:=(Sm.mul h1 k1 (by decide)).more (by decide) (by decide)
 have C1:=Fy a.1.1 a.1.2 b.2.1 b.2.2 h1.ok k2.ok hl km (by have:=h1.d;have:=k2.d;omega)
 have s1:Sm (CA a.1 b.2) 40064 40000:=(Sm.mul h1 k2 (by decide)).more (by decide) (by decide)
 have C2:=Fy a.2.1 a.2.2 b.1.1 b.1.2 h2.ok k1.ok hm kl (by have:=h2.d;have:=k1.d;omega)
 have s2:Sm (CA a.2 b.1) 40064 40000:=(Sm.mul h2 k1 (by decide)).more (by decide) (by decide)
 have C3:=Fy a.2.1 a.2.2 b.2.1 b.2.2 h2.ok k2.ok hm km (by have:=h2.d;have:=k2.d;omega)
 have s3:Sm (CA a.2 b.2) 40064 40000:=(Sm.mul h2 k2 (by decide)).more (by decide) (by decide)
 have SP:=Hf true [CA a.1 b.1,CA a.1 b.2,CA a.2 b.1,CA a.2 b.2] (by simp) (fun p hp=>by simp only [dj,dk,or_false] at hp;rcases hp with rfl|rfl|rfl|rfl <;> assumption) (bi rfl)
 repeat' (with_reducible first|refine qq ?_|(refine Tx 0 ?_;refine gN xBo <| gN xBo <| gN (xAl Ah) ?_)|(refine AM (id:=1) 4 Bb (by kernel_rfl) ?_;dsimp only [List.take,List.drop];refine gP xL <| gP IO <| gP xL <| gP IO ?_;refine Ke ?_;refine gZ (xSk Ac) <| gZ (xSk Ac) ?_)|(refine AM (id:=2) 22 Bb (by kernel_rfl) ?_;dsimp only [List.take,List.drop];refine gP xF <| gP xL <| gP xF <| gP xL <| gP AaT <| gP xF <| gP xL <| gP xF <| gP xL <| gP AaT <| gP xF <| gP xL <| gP xF <| gP xL <| gP AaT <| gP xF <| gP xL <| gP xF <| gP xL <| gP AaT <| gQ (by exact Eu rfl rfl Ag Am (by decide) (by decide) (by decide) rfl rfl rfl) <| gP (xCl func226 (SP)) ?_;refine Ke ?_;refine gZ (xSk Ac) ?_))
 exact CY
theorem Mw (a b:Iq) (h:IwS a 20000 20000) (k:IwS b 20000 20000):CV prog Al 142 [aIw false a,aIw false b] [aIw false (GA a b)]:=by
 refine cvz func142 ntmps142 ?_
 have h1:=h.s1
 have h2:=h.s2
 have hl:=h1.l4
 have hm:=h2.l4
 have k1:=k.s1
 have k2:=k.s2
 have kl:=k1.l4
 have km:=k2.l4
 have AA:=CD a h
 have AB:=CD b k
 have s0:=Sm.more (n':=40064) (d':=40000) h1 (by decide) (by decide)
 have s1:=Sm.more (n':=40064) (d':=40000) h2 (by decide) (by decide)
 have s2:=Sm.more (n':=40064) (d':=40000) k1 (by decide) (by decide)
 have s3:=Sm.more (n':=40064) (d':=40000) k2 (by decide) (by decide)
 have SP:=Hf true [a.1,a.2,b.1,b.2] (by simp) (fun p hp=>by simp only [dj,dk,or_false] at hp;rcases hp with rfl|rfl|rfl|rfl <;> assumption) (bi rfl)
 repeat' (with_reducible first|refine qq ?_|(refine Tx 0 ?_;refine gN xBo <| gN xBo <| gN (xAl Ah) ?_)|(refine AM (id:=1) 4 Bb (by kernel_rfl) ?_;dsimp only [List.take,List.drop];refine gP xL <| gP IO <| gP xL <| gP IO ?_;refine Ke ?_;refine gZ (xSk Ac) <| gZ (xSk Ac) ?_)|(refine Tx 2 ?_;refine gO xF <| gO xL <| gO xF <| gO xL <| gO xF <| gO xL <| gO xF <| gO xL <| gN (by exact Eu rfl rfl Ag Am (by decide) (by decide) (by decide) rfl rfl rfl) <| gO (xCl func226 (SP)) <| gZ (xSk Ac) ?_))
 exact CY
theorem FY (a:Iq) (f:Pq) (h:IwS a 20000 20000) (hf:Sm f 20000 20000):CV prog Al 138 [aIw false a,aDy false f.1 f.2] [aIw false (IA a f)]:=by
 refine cvz func138 ntmps138 ?_
 have PT:=CI f hf.ok hf.lz
 have ML:=Pm a (f,f) h (.pt hf)
 repeat' (with_reducible first|refine qq ?_|(refine Tx 0 ?_;refine gN xBo <| gN xBo <| gN (xAl Ah) ?_)|(refine AM (id:=1) 4 Bb (by kernel_rfl) ?_;dsimp only [List.take,List.drop];refine gP xL <| gP xL <| gP (xCl func140 (PT)) <| gP (xCl func145 (ML)) ?_;refine Ke ?_;refine gZ (xSk Ac) ?_))
 exact CY
theorem Uf (a b:Iq) (h:IwS a 20000 20000) (k:IwS b 20000 20000):CV prog Al 144 [aIw false a,aIw false b] [aIw false (AeT a b)]:=by
 refine cvz func144 ntmps144 ?_
 have NG:=Ph b k
 have AD:=Pi a (VM b) h k.neg
 repeat' (with_reducible first|refine qq ?_|(refine Tx 0 ?_;refine gN xBo <| gN xBo <| gN (xAl Ah) ?_)|(refine AM (id:=1) 4 Bb (by kernel_rfl) ?_;dsimp only [List.take,List.drop];refine gP xL <| gP xL <| gP (xCl func146 (NG)) <| gP (xCl func143 (AD)) ?_;refine Ke ?_;refine gZ (xSk Ac) ?_))
 exact CY
theorem rvJ0 {t:Tmp} {k:Nat} {q:Pq} (hk:TyK P ty true k) (hi:6=k) (hF:F t=.one (.ref id 0 none):=by with_unfolding_all exact rfl) (hH:H[id]?=some (.box ty' ([.d (.val (.bool false)),.d (.val (.slice none 0 0)),.d (.val (.int .i64 0))]++(dDy false q.1 q.2).map C.d)):=by with_unfolding_all exact rfl):RV P F H (.cell t ty) (aIw false ((0,0),q)):=by
 obtain ⟨⟨dd,hu,hd⟩,hz⟩:=hk
 have e:dDy false 0 0=[.val (.bool false),.row false 1 0 [],.val (.int .i64 0)]:=A.agg.inj Gy
 refine .cellA hF hH hu hd (by rw [hz,←hi];rfl) ?_
 show AG _ _ (dDy false 0 0++dDy false q.1 q.2)
 rw [e]
 refine .app (.cons_ (.d fun _=>.val _) (.cons_ .nil (.cons_ (.d fun _=>.val _) .nil_))) (AG.map_l.2 ⟨rfl,fun j x y hx hy=>?_⟩)
 rw [hx] at hy
 cases hy
 exact .d fun _=>HM _ _ x (gM hx)
theorem AiM (h:p:=by first|exact xCl func158 (A1)|exact xCl func158 (A2)):p:=h
theorem AiN (h:p:=by first|exact xCl func55 (G1)|exact xCl func55 (G2)):p:=h
theorem AeX (k:p') (h:Hd9 p'→p:=by with_reducible first|(intro Z9;refine qq ?_;exact Z9.o)|(intro Z9;refine Tx 0 ?_;refine gN xBo <| gN (xAl Ah) ?_;exact Z9.o)|(intro Z9;refine Tx 1 ?_;refine gO xL <| gO (xCl func228 (AR)) <| gZ (xSk Ac) ?_;exact Z9.o)|(intro Z9;refine AM (id:=2) 9 Bb (by kernel_rfl) ?_;dsimp only [List.take,List.drop];refine gP xF <| gP xL <| gP AiM <| gP xF <| gP xL <| gP AiM <| gQ (by exact GS rfl Ag Am rfl rfl rfl rfl (by decide) (by decide)) <| gP (xCl func226 (SP)) <| gQ (xAl Ah) ?_;refine Ke ?_;refine gZ (xSk Ac) ?_;exact Z9.o)|(intro Z9;refine Tx 3 ?_;refine gO xF <| gO xL <| gO AiN <| gO xLt <| gO xM ?_;(first|iterate 4 refine Jd ?_|(refine Jy (xFa Bj Ab) ?_;refine Jy (xLa Ab) ?_;refine Jy AiN ?_;refine Jy xGt ?_));refine gO xPk ?_;exact Z9.o)|(intro Z9;refine Tx 5 ?_;refine gO xL <| gZ (xSk Ac) ?_;exact Z9.o)|fail):p:=h ⟨k⟩
theorem Pn (a:Iq) (h:IwS a 20000 20000):CV prog Al 147 [aIw false a] [aIw false (Rq a)]:=by
 refine cvz func147 ntmps147 ?_
 have h1:=h.s1
 have h2:=h.s2
 have hl:=h1.l4
 have hm:=h2.l4
 have AR:=CD a h
 have A1:=OZ a.1.1 a.1.2 h1.ok hl
 have A2:=OZ a.2.1 a.2.2 h2.ok hm
 have s1:Sm (Hm a.1) 40064 40000:=h1.abs.more (by decide) (by decide)
 have s2:Sm (Hm a.2) 40064 40000:=h2.abs.more (by decide) (by decide)
 have SP:=Hf true [Hm a.1,Hm a.2] (by simp) (fun p hp=>by simp only [dj,dk,or_false] at hp;rcases hp with rfl|rfl <;> assumption) (bi rfl)
 have G1:=He a.1.1 a.1.2 h1.ok hl
 have G2:=He a.2.1 a.2.2 h2.ok hm
 by_cases c1:a.1.1<0
 case pos =>
  by_cases c2:0<a.2.1
  case pos =>
   rw [show sgI a.1.1 = -1 by unfold sgI;(repeat' split) <;> omega] at G1
   rw [show sgI a.2.1=1 by unfold sgI;(repeat' split) <;> omega] at G2
   have e:Rq a=((0,0),(Co [Hm a.1,Hm a.2]).2):=if_pos ⟨c1,c2⟩
   rw [e]
   repeat' (with_reducible first|refine AeX ?_|(refine Tx 4 ?_;refine gO (by exact AU rfl GR rfl rfl) <| gO xF <| gZ (xSk Ab) ?_))
   exact AE rfl (.cons_ (rvJ0 Ac rfl) .nil_)
  rw [show sgI a.1.1 = -1 by unfold sgI;(repeat' split) <;> omega] at G1
  have g2:sgI a.2.1≤0:=by unfold sgI;(repeat' split) <;> omega
  generalize sgI a.2.1=g at *
  rw [show Rq a=Co [Hm a.1,Hm a.2] from if_neg (fun h=>c2 h.2)]
  repeat' (with_reducible first|refine AeX ?_)
  exact CY
 have g1:0≤sgI a.1.1:=by unfold sgI;(repeat' split) <;> omega
 generalize sgI a.1.1=g at *
 rw [show Rq a=Co [Hm a.1,Hm a.2] from if_neg (fun h=>c1 h.1)]
 repeat' (with_reducible first|refine AeX ?_)
 exact CY
theorem AiO (h:p:=by first|exact xCl func140 (PV)|exact xCl func140 (PU)):p:=h
theorem QO (a:Iq) (v u:Pq) (h:IwS a 20000 20000) (hv:Sm v 20000 20000) (hu:Sm u 20000 20000) (hvu:Hd v u≤0):CV prog Al 150 [aIw false a,aDy false v.1 v.2,aDy false u.1 u.2] [aIw false (Sr a v u),aE 0]:=by
 refine cvz func150 ntmps150 ?_
 have CM:=BJ v.1 v.2 u.1 u.2 hv.ok hu.ok hv.lz hu.lz
 have PV:=CI v hv.ok hv.lz
 have PU:=CI u hu.ok hu.lz
 have MX:=Pk a (v,v) h (.pt hv)
 have MN:=Pj (VN a (v,v)) (u,u) (h.max (.pt hv)) (.pt hu)
 have hle:Hd v u≤0:=hvu
 unfold Hd at hle
 repeat' (with_reducible first|refine qq ?_|(refine Tx 0 ?_;refine gN xBo <| gN xBo <| gN xBo <| gN (xAl Ah) <| gO xA ?_)|(refine Tx 1 ?_;refine gO xL <| gO xL <| gO (xCl func15 (CM)) <| gO xGt ?_)|(refine AM (id:=3) 7 Bb (by kernel_rfl) ?_;dsimp only [List.take,List.drop];refine gP xL <| gP xL <| gP AiO <| gP (xCl func149 (MX)) <| gP xL <| gP AiO <| gP (xCl func148 (MN)) ?_;refine Ke ?_;refine gZ (xSk Ac) <| gO xA ?_))
 exact AE rfl (.cons_ (rvJ Ac rfl) (.cons_ (Fg rfl rfl) .nil_))
theorem Vj (a:Iq) (den:Nat) (h:IwS a 20000 20000) (hd:den≤65536):CV prog Al 175 [aIw false a,aI (den:Int)] [aIw false (FD a den),aE 0]:=by
 refine cvz func175 ntmps175 ?_
 have h1:=h.s1
 have h2:=h.s2
 have hl:=h1.l4
 have hm:=h2.l4
 have AR:=CD a h
 have FL:=(Oe a.1.1 a.1.2 den h1.ok hl hd).cv
 have CE:=QL a.2.1 a.2.2 den h2.ok hm hd
 repeat' (with_reducible first|refine qq ?_|(refine Tx 0 ?_;refine gN xBo <| gN (xAl Ah) <| gO xA ?_)|(refine Tx 1 ?_;refine gO xL <| gO (xCl func228 (AR)) <| gZ (xSk Ac) ?_)|(refine Tx 2 ?_;refine gO xF <| gO xL <| gO xM <| gO (xCl func22 (FL)) <| gO xMt <| gO (by exact DS rfl rfl rfl) <| gO xEx <| gN (xAl Am) <| gZ (xSk Ab) <| gO xA ?_)|(refine Tx 3 ?_;refine gO xM <| gO (xNE Ai) ?_)|(refine Tx 5 ?_;refine gO xF <| gO xL <| gO xM <| gO (xCl func153 (CE)) <| gO xMt <| gO (by exact DS rfl rfl rfl) <| gO xEx <| gN (xAl Am) <| gZ (xSk Ab) <| gO xA ?_)|(refine Tx 6 ?_;refine gO xM <| gO (xNE Ai) ?_)|(refine Tx 8 ?_;refine gO xL <| gO xL <| gO (by exact AU rfl Cm rfl rfl) <| gZ (xSk Ac) <| gO xA ?_))
 exact AE rfl (.cons_ (rvJ Ac rfl) (.cons_ (Fg rfl rfl) .nil_))
theorem AiP (h:p:=by first|exact xCl func15 (C1)|exact xCl func15 (C2)):p:=h
theorem AeY (k:p') (h:Hd9 p'→p:=by with_reducible first|(intro Z9;refine qq ?_;exact Z9.o)|(intro Z9;refine Tx 0 ?_;refine gN xBo <| gN xBo <| gO xA ?_;exact Z9.o)|(intro Z9;refine AM (id:=1) 4 Bb (by kernel_rfl) ?_;dsimp only [List.take,List.drop];refine gP xL <| gP IO <| gP xL <| gP IO ?_;refine Ke ?_;refine gZ (xSk Ac) <| gZ (xSk Ac) ?_;exact Z9.o)|(intro Z9;refine Tx 2 ?_;refine gO xF <| gO xL <| gO xF <| gO xL <| gO AiP <| gO xLe <| gO xM ?_;(first|iterate 6 refine Jd ?_|(refine Jy (xFa Bj Ab) ?_;refine Jy (xLa Ab) ?_;refine Jy (xFa Bj Ab) ?_;refine Jy (xLa Ab) ?_;refine Jy AiP ?_;refine Jy xLe ?_));refine gO xPk <| gO xA ?_;exact Z9.o)|fail):p:=h ⟨k⟩
theorem Bv (a b:Iq) (h:IwS a 20000 20000) (k:IwS b 20000 20000):CV prog Al 151 [aIw false a,aIw false b] [aB (iIn a b)]:=by
 refine cvz func151 ntmps151 ?_
 have h1:=h.s1
 have h2:=h.s2
 have hl:=h1.l4
 have hm:=h2.l4
 have k1:=k.s1
 have k2:=k.s2
 have kl:=k1.l4
 have km:=k2.l4
 have AA:=CD a h
 have AB:=CD b k
 have C1:=BJ b.1.1 b.1.2 a.1.1 a.1.2 k1.ok h1.ok kl hl
 have C2:=BJ a.2.1 a.2.2 b.2.1 b.2.2 h2.ok k2.ok hm km
 by_cases c1:Bx b.1.1 b.1.2 a.1.1 a.1.2≤0
 case neg =>
  repeat' (with_reducible first|refine AeY ?_)
  exact AE rfl (.cons_ (Fd rfl (by unfold iIn;rw [decide_eq_false c1];rfl)) .nil_)
 by_cases c2:Bx a.2.1 a.2.2 b.2.1 b.2.2≤0
 case pos =>
  repeat' (with_reducible first|refine AeY ?_)
  exact AE rfl (.cons_ (Fd rfl (by unfold iIn;rw [decide_eq_true c1,decide_eq_true c2];rfl)) .nil_)
 case neg =>
  repeat' (with_reducible first|refine AeY ?_)
  exact AE rfl (.cons_ (Fd rfl (by unfold iIn;rw [decide_eq_true c1,decide_eq_false c2];rfl)) .nil_)
theorem Hg (a:Iq) (h:IwS a 20000 20000):CV prog Al 159 [aIw false a] [aDy false (DM a).1 (DM a).2]:=by
 refine cvz func159 ntmps159 ?_
 have AB:=Pn a h
 repeat' (with_reducible first|refine qq ?_|(refine Tx 0 ?_;refine gN xBo <| gN (xAl Am) ?_)|(refine Tx 1 ?_;refine gO xL <| gO (xCl func147 (AB)) <| gO (by exact WO rfl rfl Bj Ab rfl) <| gZ (xSk Ab) ?_))
 exact Sv
theorem Acj {a b:Iq} {d:Nat} (h:IwS a n d) (k:IwS b n' d') (e1:gv a.1=gv b.1) (e2:gv a.2=gv b.2):a=b:=Prod.ext (Oc h.s1.ok k.s1.ok e1) (Oc h.s2.ok k.s2.ok e2)
theorem AiQ {r s:Rv} (hr:RvL r) (hs:RvL s) (h:ivR r s=true):dIr false (r,s)=dIw false (rvP r,rvP s)∧Nf (rvP r).1 (rvP r).2∧Nf (rvP s).1 (rvP s).2∧gv (rvP r)≤gv (rvP s)∧(Aa (rvP r).1.natAbs).length=r.ws.length∧(Aa (rvP s).1.natAbs).length=s.ws.length:=by
 unfold ivR at h
 rw [aj,aj] at h
 obtain ⟨⟨h1,h2⟩,h3⟩:=h
 obtain ⟨e1,n1,k1⟩:=XZ (t:=false) hr.1 h1
 obtain ⟨e2,n2,k2⟩:=XZ (t:=false) hs.1 h2
 refine ⟨?_,n1,n2,(FA (p:=rvP r) (q:=rvP s) n1.le n2.le).1 (of_decide_eq_true h3),k1,k2⟩
 show dRv false r++dRv false s=_
 rw [e1,e2]
 rfl
theorem Vk (p:Pq) (hn:Nf p.1 p.2) (hl:(Aa p.1.natAbs).length≤40000):CV prog Al 187 [aDy false p.1 p.2] [aIw false (p,p)]:=by
 refine cvz func187 ntmps187 ?_
 have NM:=Aek Al p.1 p.2 hn (lT hl (by decide))
 repeat' (with_reducible first|refine qq ?_|(refine Tx 0 ?_;refine gN xBo <| gN (xAl Ah) ?_)|(refine Tx 1 ?_;refine gO xL <| gO (xCl func105 (NM)) <| gZ (xSk Ab) ?_)|(refine Tx 2 ?_;refine gO xL <| gO xL <| gO (by exact AU rfl Cm rfl rfl) <| gZ (xSk Ac) ?_))
 exact CY
theorem Yu (t:Bool) (L:List Pq) (hne:L≠[]) (hs:∀ p∈L,Sm p 40064 40000) (hL:L.length≤100):CV prog Al 232 [.one (.row t 3 L.length (Ay dyP L))] [aIw false (Co L)]:=by
 refine cvz func232 ntmps232 ?_
 obtain ⟨p,l,rfl⟩:∃ p l,L=p::l:=by cases L with|nil=>exact absurd rfl hne|cons p l=>exact ⟨p,l,rfl⟩
 have hp:=hs p (fc ..)
 have hpl:=lT (hp.lenN 1252 (by decide)) (show 1252≤40000 by decide)
 have PT:=Vk p hp.ok hpl
 have hlen:(p::l).length=l.length+1:=bl
 repeat' (with_reducible first|refine qq ?_|(refine Tx 0 ?_;refine gN (xAl Ah) ?_)|(refine Tx 1 ?_;refine gO xM <| gO (by exact TD (i:=0) rfl rfl rfl rfl Ag (by omega) (by decide) (Ud (l:=p::l) (k:=0) rfl)) <| gO xL <| gO (xCl func187 (PT)) <| gN (xAl Ah) <| gZ (xSk Ac) ?_)|(refine Tx 2 ?_;refine gO xM <| gO (by exact QM (lo:=1) rfl rfl rfl rfl Ag (by omega)) <| gO xN <| gO xM ?_))
 refine Bm (Cb 2) (Aw (fun n Fr H=>∃ k:Nat,k≤l.length∧n=l.length - k∧IwS ((l.take (k)).foldl FB (p,p)) 40064 40000∧Fr=ofL [(2,vr 0),(3,vr 1),(11,vd (.row t 3 ((p::l).length - 1) ((Ay dyP (p::l)).drop (1*3)))),(12,vi (((p::l).length - 1:Nat))),(13,vi ((k:Nat)))]∧H=[.box 45 [.d (.val (.bool false)),.d (.val (.slice none 0 0)),.d (.val (.int .i64 0)),.d (.val (.bool false)),.d (.val (.slice none 0 0)),.d (.val (.int .i64 0))],.box 45 ((dIw false ((l.take (k)).foldl FB (p,p))).map C.d)]) (n0:=l.length) ⟨0,ad _,rfl,.pt hp,rfl,rfl⟩ ?_)
 rintro n Fr H ⟨k,hk,rfl,hS,rfl,rfl⟩
 by_cases hlt:k<l.length
 case pos =>
  obtain ⟨x,hx⟩:∃ x,l[k]?=some x:=⟨_,gE hlt⟩
  have hxs:=hs x (ea _ (gM hx))
  have hxl:=lT (lT (hxs.lenN 1252 (by decide)) (show 1252≤40000 by decide)) (show 40000≤50000 by decide)
  have a1:=hS.s1
  have a2:=hS.s2
  have a1l:=lT (lT (a1.lenN 1252 (by decide)) (show 1252≤40000 by decide)) (show 40000≤50000 by decide)
  have a2l:=lT (lT (a2.lenN 1252 (by decide)) (show 1252≤40000 by decide)) (show 40000≤50000 by decide)
  have hnx:FB ((l.take (k)).foldl FB (p,p)) x=((l.take (k+1)).foldl FB (p,p)):=by rw [bg,hx,gi,ke];rfl
  have hIS:IwS (FB ((l.take (k)).foldl FB (p,p)) x) 40064 40000:=⟨Sm.min a1 hxs,Sm.max a2 hxs,by show gv (PD _ x)≤gv (FW _ x);rw [Gj a1.le hxs.le,DA a2.le hxs.le];have:=hS.le;omega⟩
  rw [hnx] at hIS
  have hxd:(((Ay dyP (p::l)).drop (1*3)).drop (k*3)).take 3=dyP x:=by rw [il,show 1*3+k*3=(k+1)*3 by omega];exact Ud (l:=p::l) (k:=k+1) (by rw [fk];exact hx)
  generalize hT:((l.take (k)).foldl FB (p,p))=T at *
  have MN:=(AeA Al false false T.1.1 T.1.2 x.1 x.2 a1.ok hxs.ok a1l hxl).cv
  have MX:=(AeB Al false false T.2.1 T.2.2 x.1 x.2 a2.ok hxs.ok a2l hxl).cv
  repeat' (with_reducible first|refine qq ?_|(refine Tx 3 ?_;refine gO xLt ?_)|(refine Tx 4 ?_;refine gO (xIr Ag (hxd)) <| gO xL <| gN (xAl Am) <| gZ (xSk Ab) ?_)|(refine AM (id:=5) 9 Bb (by kernel_rfl) ?_;dsimp only [List.take,List.drop];refine gP xF <| gP xL <| gP xL <| gP (xCl func255 (MN)) <| gP xF <| gP xL <| gP xL <| gP (xCl func100 (MX)) <| gP xF ?_;refine Ke ?_;refine gZ (xSk Ab) <| gO xF <| gZ (xSk Ab) ?_)|(refine Tx 6 ?_;refine gO xAd <| gO xM ?_))
  exact AiG
 obtain rfl:k=l.length:=by omega
 clear hlt hk
 rw [bh]
 repeat' (with_reducible first|refine qq ?_|(refine Tx 3 ?_;refine gO xLt ?_)|(refine Tx 7 ?_;refine gO xL <| gZ (xSk Ac) ?_))
 exact CY
theorem AiR (h:p:=by first|exact xCl func39 (O1)|exact xCl func39 (O2)):p:=h
theorem QP (x y:Int) (hx : -9223372036854775807≤x∧x<9223372036854775808) (hy : -9223372036854775807≤y∧y<9223372036854775808):CV prog Al 165 [aI x,aI y] [aIw false (Co [(x,0),(y,0)])]:=by
 refine cvz func165 ntmps165 ?_
 have O1:=(Aar (G:=Al) x (by omega) (by omega)).cv
 have O2:=(Aar (G:=Al) y (by omega) (by omega)).cv
 have s1:Sm (x,0) 40064 40000:=Ue x (by omega)
 have s2:Sm (y,0) 40064 40000:=Ue y (by omega)
 have SP:=Yu true [(x,0),(y,0)] (by simp) (fun p hp=>by simp only [dj,dk,or_false] at hp;rcases hp with rfl|rfl <;> assumption) (bi rfl)
 repeat' (with_reducible first|refine qq ?_|(refine Tx 0 ?_;refine gN (xAl Ah) ?_)|(refine Tx 1 ?_;refine gO xM <| gO AiR <| gO xM <| gO AiR <| gN (by exact GS rfl Ag Am rfl rfl rfl rfl (by decide) (by decide)) <| gO (xCl func232 (SP)) <| gZ (xSk Ac) ?_))
 exact CY
abbrev iZ:Iq:=((0,0),(0,0))
def kW:Option Iq→List C
 | none=>[.d (.val (.bool false)),.d (.val (.slice none 0 0)),.d (.val (.int .i64 0)),.d (.val (.bool false)),.d (.val (.slice none 0 0)),.d (.val (.int .i64 0))]
 | some a=>(dIw false a).map C.d
def kWs (l:List (Option Iq)):List C:=(l.map kW).flatten
def gW (l:List (Option Iq)):List Iq:=l.map (·.getD iZ)
theorem Mx (o:Option Iq):(kW o).length=6:=by cases o <;> rfl
theorem Ei (o:Option Iq) (l:List (Option Iq)):kWs (o::l)=kW o++kWs l:=by simp [kWs]
theorem AeZ (l:List (Option Iq)):(kWs l).length=l.length*6:=by
 induction l with
 | nil=>rfl
 | cons o l ih=>rw [Ei,am,ih,Mx,bl];omega
theorem Ack:∀ {l:List (Option Iq)} {i:Nat} {o:Option Iq},l[i]?=some o→((kWs l).drop (i*6)).take 6=kW o
 | [],i,o,h=>by simp at h
 | q::l,0,o,h=>by
  simp only [gu,Option.some.injEq] at h
  subst h
  rw [Ei,fa,gr,ji (by rw [Mx];omega),ap (by rw [Mx];omega)]
 | q::l,i+1,o,h=>by
  simp only [fk] at h
  rw [Ei,show (i+1)*6=(kW q).length+i*6 by rw [Mx];omega,←il,im]
  exact Ack h
theorem Yv:∀ {l:List (Option Iq)} {i:Nat} (a:Iq),i<l.length→(kWs l).take (i*6)++(dIw false a).map C.d++(kWs l).drop (i*6+6)=kWs (l.set i (some a))
 | [],i,a,h=>by simp at h
 | q::l,0,a,h=>by
  rw [Ei,fa,jj,dp,bj,ce,Ei,show (6:Nat)=(kW q).length from (Mx q).symm,im]
  rfl
 | q::l,i+1,a,h=>by
  have ih:=Yv (l:=l) (i:=i) a (by simpa using h)
  rw [Ei,cm,Ei,←ih,show (i+1)*6+6=(kW q).length+(i*6+6) by rw [Mx];omega,←il,im,show (i+1)*6=(kW q).length+i*6 by rw [Mx];omega,List.take_length_add_append]
  simp
theorem Afa (n:Nat):DF (madeCells (Value.agg #[.bool false,.slice none 0 0,.int .i64 0,.bool false,.slice none 0 0,.int .i64 0]).cells (n*6)).toList=kWs (List.replicate n none):=by
 have h1:∀ a:Nat,(madeCells (Value.agg #[.bool false,.slice none 0 0,.int .i64 0,.bool false,.slice none 0 0,.int .i64 0]).cells a).toList=(List.range a).map (fun j=>#[Value.bool false,.slice none 0 0,.int .i64 0,.bool false,.slice none 0 0,.int .i64 0][j % 6]!):=fun a=>by
  unfold madeCells
  rw [ju,Array.toList_range]
  rfl
 rw [h1]
 induction n with
 | zero=>rfl
 | succ n ih =>
  rw [show (n+1)*6=n*6+1+1+1+1+1+1 by omega,cr,cr,cr,cr,cr,cr,List.replicate_succ']
  simp only [gg,DF] at ih ⊢
  rw [ih]
  simp only [kWs,gg,List.flatten_append,bk,List.map_nil,show n*6 % 6=0 by omega,show (n*6+1) % 6=1 by omega,show (n*6+1+1) % 6=2 by omega,show (n*6+1+1+1) % 6=3 by omega,show (n*6+1+1+1+1) % 6=4 by omega,show (n*6+1+1+1+1+1) % 6=5 by omega,List.append_assoc]
  rfl
theorem Afb {l:List (Option Iq)}:∀ c∈kWs l,C.bel n c:=fun c hc=>by
 obtain ⟨cs,hcs,hc⟩:=List.mem_flatten.1 hc
 obtain ⟨o,_,rfl⟩:=List.mem_map.1 hcs
 cases o with
 | none=>simp [kW] at hc;rcases hc with rfl|rfl|rfl|rfl|rfl|rfl <;> trivial
 | some p=>exact AeJ c hc
theorem AiS (o:Option Iq):AG (Er t H) (kW o) (dIw false (o.getD iZ)):=by
 cases o with
 | none =>
  show AG (Er t H) _ (dIw false iZ)
  rw [AeU]
  exact .cons_ (.d fun _=>.val _) (.cons_ .nil (.cons_ (.d fun _=>.val _) (.cons_ (.d fun _=>.val _) (.cons_ .nil (.cons_ (.d fun _=>.val _) .nil_)))))
 | some p=>exact AG.map_l.2 ⟨rfl,fun j a b ha hb=>by
   have:(dIw false p)[j]?=some b:=hb
   rw [ha] at this
   cases this
   exact .d fun _=>FF _ a (gM ha)⟩
theorem Afc (l:List (Option Iq)):AG (Er t H) (kWs l) (Ay (dIw false) (gW l)):=by
 induction l with
 | nil=>exact AG.nil_
 | cons o l ih =>
  rw [Ei]
  exact (AiS o).app ih
theorem Yw (l:List (Option Iq)):(gW l).length=l.length:=af ..
theorem AaU {l:List (Option Iq)} {p:Iq} (h:l[i]?=some (some p)):(gW l)[i]?=some p:=by
 unfold gW
 rw [ag,h]
 rfl
theorem Yx {c:C} {y:D} {l:List (Option Iq)} (hc:c=.own id n) (hH:H[id]?=some (.row ty 6 n (kWs l))) (hy:y=.row t 6 n (Ay (dIw false) (gW l))):Er t H c y:=CT hc hH hy (Afc l)
section
variable {P:Program} {G:World→Prop} {o:Oper} {F:Frm} {H:List Ob}
theorem QQ {t e:TypeId} {x y:Operand} {by_:Nat} {k k':IntKind} (ho:o.op=.makeSlice t x y) (hx:F.ev x=.one (.d (.val (.int k (n:Int))))) (hy:F.ev y=.one (.d (.val (.int k' (n:Int))))) (ht:TyS P t e 6) (hz:TyZ P e (.agg #[.bool false,.slice none 0 0,.int .i64 0,.bool false,.slice none 0 0,.int .i64 0]) 6 by_) (hn:n≤1000000) (hby:by_≤1000) :
  AK P G o F H (.one (.own H.length n)) [.row e 6 n (kWs (List.replicate n none))]:=by
 have:=Bi (P:=P) (G:=G) (H:=H) ho hx hy ht hz hn hby
 rwa [Afa] at this
theorem Afd {t ty:TypeId} {x:Operand} {l:List (Option Iq)} {p:Iq} (ho:o.op=.load t x) (hx:F.ev x=.one (.ref id (i*6) (some n))) (hH:H[id]?=some (.row ty 6 n (kWs l))) (hp:l[i]?=some (some p)) (hk:TyK P t true 6):AK P G o F H (.agg ((dIw false p).map C.d)) [] :=
 OB ho hx (.row hH) hk (Ack hp) rfl
theorem Afe {t ty:TypeId} {x y:Operand} {l l':List (Option Iq)} {p:Iq} (ho:o.op=.store t x y) (hx:F.ev x=.one (.ref id (i*6) (some n))) (hH:H[id]?=some (.row ty 6 n (kWs l))) (hy:F.ev y=.agg ((dIw false p).map C.d)) (hty:TyK P t true 6) (hi:i<l.length) (hl:l.set i (some p)=l'):TOk P G o F H .any (H.set id (.row ty 6 n (kWs l'))):=by
 have h3:((dIw false p).map C.d).length=6:=rfl
 have:=Md (P:=P) (G:=G) ho hx hH rfl (show DQ (F.ev y)=some ((dIw false p).map C.d) by rw [hy];rfl) hty rfl (by rw [h3];show i*6+6≤(kWs l).length;rw [AeZ];omega)
 rw [h3] at this
 simp only [Ob.cs,Ob.setC] at this
 rw [Yv p hi,hl] at this
 exact this
end
def Eo (a:Iq):Bool:=Dr a.1 || Dr a.2
def Gc (p:Prt):Iq:=(Ad p.lo 0 (-p.fr),Ad p.hi 0 (-p.fr))
def Dx (y:Bk) (l:List Iq):Iq :=
 if y.kind=1 then (Ad y.vn 0 y.ve,Ad y.vn 0 y.ve)
 else if y.kind=3 then Acf (l[0]?.getD iZ) (l[1]?.getD iZ)
 else if y.kind=4 then AeT (l[0]?.getD iZ) (l[1]?.getD iZ)
 else if y.kind=5 then VM (l[0]?.getD iZ)
 else if y.kind=6 then IA (l[0]?.getD iZ) (Ad y.vn 0 y.ve)
 else if y.kind=7 then Acg (l[0]?.getD iZ) (l[1]?.getD iZ)
 else if y.kind=8 then Yl (l[0]?.getD iZ) (l[1]?.getD iZ)
 else if y.kind=9 then VN (l[0]?.getD iZ) (l[1]?.getD iZ)
 else if y.kind=10 then Rq (l[0]?.getD iZ)
 else Sr (l[0]?.getD iZ) (Ad y.vn 0 y.ve) (Ad y.un 0 y.ue)
def AZ (y:Bk) (l:List Iq) (ps:List Prt):Iq:=if y.kind=0 then (ps[((y.args[0]?).getD 0).toNat]?.map Gc).getD iZ else Dx y l
theorem Og {a:Iq} {d:Nat} (h:IwS a n d) (hl:Eo a=false):IwS a LB LB:=by
 unfold Eo at hl
 rw [jx] at hl
 exact ⟨AeS h.s1.ok hl.1,AeS h.s2.ok hl.2,h.le⟩
theorem IwS.zero (n d:Nat):IwS iZ n d:=.pt (Sm.zero n d)
theorem Bl {l:List Iq} {d:Nat} (h:∀ p∈l,IwS p n d) (k:Nat):IwS (l[k]?.getD iZ) n d:=by
 cases hk:l[k]? with
 | none=>exact IwS.zero n d
 | some p=>exact h p (gM hk)
theorem Fh {n:Int} (h:DJ n e):Sm (Ad n 0 e) LB LB:=by
 obtain ⟨h1,h2,h3,h4⟩:=h
 exact (Sm.shift (n:=32) (by omega) (by omega) (by omega)).more (by decide) (by decide)
theorem FG {l:List Iq} (hl:∀ p∈l,IwS p LB LB) (hv:(y.kind=1∨y.kind=6∨y.kind=11)→DJ y.vn y.ve) (hu:y.kind=11→DJ y.un y.ue) (hk:y.kind=1∨y.kind=3∨y.kind=4∨y.kind=5∨y.kind=6∨y.kind=7∨y.kind=8∨y.kind=9∨y.kind=10∨y.kind=11):IwS (Dx y l) LC LC:=by
 have a:=Bl hl 0
 have b:=Bl hl 1
 have up:∀ {r:Iq},IwS r LB LB→IwS r LC LC:=fun h=>h.more (by decide) (by decide)
 unfold Dx
 generalize l[0]?.getD iZ=p at a ⊢
 generalize l[1]?.getD iZ=q at b ⊢
 rcases hk with h|h|h|h|h|h|h|h|h|h <;> simp only [h,Int.reduceEq,if_true,if_false,reduceIte]
 ·exact up (.pt (Fh (hv (.inl h))))
 ·exact (IwS.add a b (by decide:LB≤65536)).more (by decide:LB+LB+1≤LC) lb_c
 ·exact (IwS.sub a b (by decide:LB≤65536)).more (by decide:LB+LB+1≤LC) lb_c
 ·exact up a.neg
 ·exact (IwS.mul a (.pt (Fh (hv (.inr (.inl h))))) (by decide:LB≤30000)).more (by decide:LB+LB≤LC) (by decide:LB+LB≤LC)
 ·exact (IwS.mul a b (by decide:LB≤30000)).more (by decide:LB+LB≤LC) (by decide:LB+LB≤LC)
 ·exact up (a.min b)
 ·exact up (a.max b)
 ·exact up a.abs
 ·exact up (a.clip (Fh (hv (.inr (.inr h)))) (Fh (hu h)))
structure My (p:Prt):Prop where
 l0 : -2147483648≤p.lo
 le:p.lo≤p.hi
 h1:p.hi<2147483648
 f0:0≤p.fr
 f1:p.fr≤30
theorem Ib {z f:Int} (f0:0≤f) (f1:f≤30):gv (Ad z 0 (-f))*2 ^ f.toNat=z*2 ^ GQ:=by
 have:=QI (p:=(z,0)) (n:=f.toNat) (by show 0+f.toNat≤65536;omega) (by omega)
 rw [show (-(f.toNat:Int)) = -f by omega,Hb] at this
 exact this
theorem Po {z f:Int} (h0 : -2147483648≤z) (h1:z<2147483648) (f0:0≤f) (f1:f≤30):Sm (Ad z 0 (-f)) 264 200:=Sm.shift (n:=64) (by omega) (by omega) (by omega)
theorem My.iw {p:Prt} (h:My p):IwS (Gc p) 264 200:=by
 obtain ⟨h1,h2,h3,h4,h5⟩:=h
 refine ⟨Po h1 (by omega) h4 h5,Po (by omega) h3 h4 h5,?_⟩
 have e1:=Ib (z:=p.lo) h4 h5
 have e2:=Ib (z:=p.hi) h4 h5
 refine Int.not_lt.1 fun hc=>?_
 have:=ki hc (AI p.fr.toNat)
 have g2:=ct h2 (au (AI GQ))
 have e1':gv (Gc p).1*2 ^ p.fr.toNat=p.lo*2 ^ GQ:=e1
 have e2':gv (Gc p).2*2 ^ p.fr.toNat=p.hi*2 ^ GQ:=e2
 omega
theorem My.scale {p:Prt} (h:My p):IA (Co [(p.lo,0),(p.hi,0)]) (Ad 1 0 (-p.fr))=Gc p:=by
 have H:=h.iw
 obtain ⟨h1,h2,h3,h4,h5⟩:=h
 have s1:Sm (p.lo,0) 264 200:=GB p.lo (by omega) (by decide)
 have s2:Sm (p.hi,0) 264 200:=GB p.hi (by omega) (by decide)
 obtain ⟨e1,e2,e3⟩:=FE s1 s2
 have s3:Sm (Ad 1 0 (-p.fr)) 264 200:=Po (by decide) (by decide) h4 h5
 have g2:=ct h2 (au (AI GQ))
 rw [Hb,Hb] at e1 e2
 have E1:gv (Co [(p.lo,0),(p.hi,0)]).1=p.lo*2 ^ GQ:=by rw [e1];omega
 have E2:gv (Co [(p.lo,0),(p.hi,0)]).2=p.hi*2 ^ GQ:=by rw [e2];omega
 generalize Co [(p.lo,0),(p.hi,0)]=w at e3 E1 E2 ⊢
 have m1:=Sm.mul e3.s1 s3 (by decide)
 have m2:=Sm.mul e3.s2 s3 (by decide)
 obtain ⟨k1,k2,k3⟩:=ED m1 m1 m2 m2
 have mg:∀ {x:Pq} {z:Int},Sm x 264 200→gv x=z*2 ^ GQ→gv (CA x (Ad 1 0 (-p.fr)))=gv (Ad z 0 (-p.fr)):=fun {x z} hx hz=>by
  have a1:=Yj (p:=x) (q:=Ad 1 0 (-p.fr)) (lT (dq hx.d s3.d) (by decide))
  have a2:=Ib (z:=1) h4 h5
  have a3:=Ib (z:=z) h4 h5
  rw [hz] at a1
  have p1:=AI GQ
  have p2:=AI p.fr.toNat
  refine jn (ii p2) (jn (ii p1) ?_)
  rw [a3,ij,a1,ar (z*2 ^ GQ),a2,gk]
 have G1:=mg e3.s1 E1
 have G2:=mg e3.s2 E2
 refine Acj (n:=264+264) (d:=200+200) k3 H ?_ ?_
 ·show gv (Co [CA w.1 (Ad 1 0 (-p.fr)),CA w.1 (Ad 1 0 (-p.fr)),CA w.2 (Ad 1 0 (-p.fr)),CA w.2 (Ad 1 0 (-p.fr))]).1=gv (Ad p.lo 0 (-p.fr))
  rw [k1,G1,G2]
  have:=H.le
  simp only [Gc] at this
  omega
 ·show gv (Co [CA w.1 (Ad 1 0 (-p.fr)),CA w.1 (Ad 1 0 (-p.fr)),CA w.2 (Ad 1 0 (-p.fr)),CA w.2 (Ad 1 0 (-p.fr))]).2=gv (Ad p.hi 0 (-p.fr))
  rw [k2,G1,G2]
  have:=H.le
  simp only [Gc] at this
  omega
theorem Mz (h:AP ps bs os=0) {i:Nat} {p:Prt} (hp:ps[i]?=some p):My p:=by
 have hpp:=AaG h hp
 have h3 : -2147483648≤p.lo∧p.lo≤p.hi∧p.hi<2147483648∧0≤p.fr∧p.fr≤30:=df fun hn=>by unfold Gb at hpp;rw [if_neg hn] at hpp;cases hpp
 exact ⟨h3.1,h3.2.1,h3.2.2.1,h3.2.2.2.1,h3.2.2.2.2⟩
def GD (vs:List (Option (Iq))) (y:Bk):List (Iq):=if y.kind=0 then [] else y.args.map fun a=>(vs[a.toNat]?.getD none).getD iZ
def tkW (ps:List Prt) (bs:List Bk) (vs:List (Option (Iq))) (i:Nat):Iq:=match bs[i]? with
 | some y=>AZ y (GD vs y) ps
 | none=>iZ
def Aff (ps:List Prt) (bs:List Bk) (vs:List (Option (Iq))) (l:List Nat):List (Option (Iq)):=l.foldl (fun v i=>v.set i (some (tkW ps bs  v i))) vs
def Vl (dl:List Nat) (st:List (Iq)) (vs:List (Option (Iq))):List (Option (Iq)):=(dl.zip st).foldl (fun v p=>v.set p.1 (some p.2)) vs
theorem Ug (ps:List Prt) (bs:List Bk):∀ (l:List Nat) (vs:List (Option (Iq))),(Aff ps bs  vs l).length=vs.length
 | [],vs=>rfl
 | i::l,vs=>by show (Aff ps bs  _ l).length=_;rw [Ug ps bs  l];simp
theorem Lm:∀ (dl:List Nat) (st:List (Iq)) (vs:List (Option (Iq))),(Vl dl st vs).length=vs.length
 | [],st,vs=>rfl
 | i::dl,[],vs=>rfl
 | i::dl,x::st,vs=>by show (Vl dl st _).length=_;rw [Lm dl st];simp
theorem Yy (ps:List Prt) (bs:List Bk) (vs:List (Option (Iq))) {l:List Nat} {t j:Nat} (h:l[t]?=some j):Aff ps bs  vs (l.take (t+1))=(Aff ps bs  vs (l.take t)).set j (some (tkW ps bs  (Aff ps bs  vs (l.take t)) j)):=by
 unfold Aff
 rw [bg,h,gi,ke]
 rfl
theorem QR (vs:List (Option (Iq))) {dl:List Nat} {st:List (Iq)} {t j:Nat} {p:Iq} (h:dl[t]?=some j) (h2:st[t]?=some p):Vl (dl.take (t+1)) (st.take (t+1)) vs=(Vl (dl.take t) (st.take t) vs).set j (some p):=by
 have l1:=(gS.1 h).1
 have l2:=(gS.1 h2).1
 unfold Vl
 rw [bg,bg,h,h2,gi,gi,List.zip_append (by simp;omega),ke]
 rfl
def rgS (ps:List Prt) (bs:List Bk) (st:List (Iq)) (t:Nat):List (Option (Iq)):=Aff ps bs  (Vl (Bd bs) st (List.replicate bs.length none)) ((BS bs).take t)
def rgN (ps:List Prt) (bs:List Bk) (st:List (Iq)) (t:Nat):Iq:=tkW ps bs  (rgS ps bs st t) ((BS bs)[t]?.getD 0)
def CO (ps:List Prt) (bs:List Bk) (st:List (Iq)):Bool:=st.any Eo || (List.range (BS bs).length).any fun t=>Eo (rgN ps bs st t)
def rgV (ps:List Prt) (bs:List Bk) (st:List (Iq)):List (Iq):=gW (rgS ps bs st  (BS bs).length)
theorem Ic (ps:List Prt) (bs:List Bk) (st:List (Iq)) (t:Nat):(rgS ps bs st t).length=bs.length:=by unfold rgS;rw [Ug,Lm,fi]
theorem Ln {st:List (Iq)} {t:Nat} (h:(BS bs)[t]?=some j):rgS ps bs st  (t+1)=(rgS ps bs st t).set j (some (rgN ps bs st t)):=by
 unfold rgN
 rw [h]
 exact Yy ps bs  _ h
theorem AaV (ps:List Prt) (bs:List Bk) (st:List (Iq)):rgS ps bs st  0=Vl (Bd bs) st (List.replicate bs.length none):=rfl
structure VO (vs:List (Option (Iq))) (D:Nat→Prop):Prop where
 at_:∀ i,D i→∃ p,vs[i]?=some (some p)∧IwS p LB LB
theorem VO.set {vs:List (Option (Iq))} {D D':Nat→Prop} (h:VO vs D) {j:Nat} {p:Iq} (hj:j<vs.length) (hp:IwS p LB LB) (hD:∀ i,D' i→D i∨i=j):VO (vs.set j (some p)) D':=⟨fun i hi=>by
 rw [bt]
 by_cases hij:j=i
 ·rw [if_pos hij,if_pos hj]
  exact ⟨p,rfl,hp⟩
 ·rw [if_neg hij]
  rcases hD i hi with h1|h1
  ·exact h.at_ i h1
  ·exact absurd h1.symm hij⟩
theorem AaW {st:List (Iq)} {k:Nat} {p:Iq} (h:st[k]?=some p) (hl:Eo p=true):CO ps bs st  = true:=by
 unfold CO
 rw [em]
 exact .inl (List.any_eq_true.2 ⟨p,gM h,hl⟩)
theorem AaX {st:List (Iq)} {t:Nat} (h:t<(BS bs).length) (hl:Eo (rgN ps bs st t)=true):CO ps bs st  = true:=by
 unfold CO
 rw [em]
 exact .inr (List.any_eq_true.2 ⟨t,List.mem_range.2 h,hl⟩)
theorem Uh {st:List (Iq)} (h1:∀ p∈st,Eo p=false) (h2:∀ t,t<(BS bs).length→Eo (rgN ps bs st t)=false):CO ps bs st  = false:=by
 unfold CO
 rw [jx]
 exact ⟨List.any_eq_false.2 fun p hp=>by rw [h1 p hp];decide,List.any_eq_false.2 fun t ht=>by rw [h2 t (List.mem_range.1 ht)];decide⟩
theorem Pp {st:List (Iq)} (hn:∀ p∈st,IwS p LB LB) (hl:st.length=(Bd bs).length):VO (Vl (Bd bs) st (List.replicate bs.length none)) (ZD bs 0):=by
 have key:∀ t,t≤(Bd bs).length→VO (Vl ((Bd bs).take t) (st.take t) (List.replicate bs.length none)) (fun i=>i∈(Bd bs).take t):=fun t=>by
  induction t with
  | zero=>intro _;exact ⟨fun i hi=>by simp at hi⟩
  | succ t ih =>
   intro ht
   obtain ⟨j,hj⟩:∃ j,(Bd bs)[t]?=some j:=⟨_,gE (by omega)⟩
   obtain ⟨p,hp⟩:∃ p,st[t]?=some p:=⟨_,gE (by omega)⟩
   have h1:=hn p (gM hp)
   rw [QR _ hj hp]
   refine (ih (by omega)).set (by rw [Lm,fi];have:=gM hj;unfold Bd at this;rw [List.mem_filter,jg] at this;exact this.1) h1 fun i hi=>?_
   rw [bg,hj] at hi
   simpa using hi
 have h:=key (Bd bs).length (aa _)
 rw [bh,ap (by omega)] at h
 refine ⟨fun i hi=>h.at_ i ?_⟩
 rcases hi with ⟨h1,h2⟩|h1
 ·unfold Bd
  rw [List.mem_filter,jg,h2]
  exact ⟨h1,rfl⟩
 ·simp at h1
theorem MD {st:List (Iq)} {t:Nat} (h:VO (rgS ps bs st t) (ZD bs t)) (hj:(BS bs)[t]?=some j) (hsm:IwS (rgN ps bs st t) LB LB):VO (rgS ps bs st  (t+1)) (ZD bs (t+1)):=by
 rw [Ln hj]
 refine h.set (by rw [Ic];exact (Mp hj).1) hsm fun i hi=>?_
 rcases hi with h1|h1
 ·exact .inl (.inl h1)
 ·rw [bg,hj] at h1
  rcases List.mem_append.1 h1 with h1|h1
  ·exact .inl (.inr h1)
  ·exact .inr (by simpa using h1)
theorem AaY (he:AP ps bs os=0) {st:List (Iq)} (h:VO (rgS ps bs st  (BS bs).length) (ZD bs (BS bs).length)) {i:Nat} (hi:i<bs.length):∃ p,(rgS ps bs st  (BS bs).length)[i]?=some (some p)∧IwS p LB LB:=by
 refine h.at_ i ?_
 by_cases hk:Cy bs i=2
 ·exact .inl ⟨hi,hk⟩
 ·refine .inr ?_
  rw [bh]
  exact Pb (Iu he).2.2 hi hk
theorem GE {l:List Iq} {k:Nat} {a:Iq} (h:l[k]?=some a):((Ay (dIw false) l).drop (k*6)).take 6=dIw false a:=EO (f:=dIw false) (s:=6) (fun _=>rfl) h
structure AiT (ps:List Prt) (bs:List Bk) (vs:List (Option Iq)) (y:Bk):Prop where
 hk:y.kind=0∨y.kind=1∨y.kind=3∨y.kind=4∨y.kind=5∨y.kind=6∨y.kind=7∨y.kind=8∨y.kind=9∨y.kind=10∨y.kind=11
 args:y.kind≠0→∀ (k:Nat) (a:Int),y.args[k]?=some a→∃ p,0≤a∧a.toNat<bs.length∧vs[a.toNat]?=some (some p)∧(GD vs y)[k]?=some p
 len:y.args.length≤2
 hl:∀ k:Nat,(k=0∧y.kind≠0∧y.kind≠1∨k=1∧(y.kind=3∨y.kind=4∨y.kind=7∨y.kind=8∨y.kind=9))→∃ p i,(GD vs y)[k]?=some p∧y.args[k]?=some ((i:Nat):Int)∧(gW vs)[i]?=some p
 hs:∀ p∈GD vs y,IwS p LB LB
 hin:y.kind=0→∃ (i:Nat) (pp:Prt),y.args[0]?=some (i:Int)∧ps[i]?=some pp∧My pp
 hsv:(y.kind=1∨y.kind=6∨y.kind=11)→DJ y.vn y.ve
 hsu:y.kind=11→DJ y.un y.ue
 hcl:y.kind=11→Hd (Ad y.vn 0 y.ve) (Ad y.un 0 y.ue)≤0
 sm:IwS (AZ y (GD vs y) ps) LC LC
theorem Yz (he:AP ps bs os=0) {vs:List (Option Iq)} {j:Nat} {y:Bk} (hy:bs[j]?=some y) (hk2:y.kind≠2) (hv:y.kind≠0→∀ a∈y.args,0≤a→a<(bs.length:Int)→∃ p,vs[a.toNat]?=some (some p)∧IwS p LB LB):AiT ps bs vs y:=by
 have hK:=Ub he hy
 have hA:=FV he hy
 have hlen:y.args.length≤2:=by
  have h1:=hA.1
  have h2:=hA.2.1
  unfold Bp at h1 h2
  (repeat' split at h2) <;> omega
 have args:y.kind≠0→∀ (k:Nat) (a:Int),y.args[k]?=some a→∃ p,0≤a∧a.toNat<bs.length∧vs[a.toNat]?=some (some p)∧(GD vs y)[k]?=some p∧IwS p LB LB:=fun h0 k a ha=>by
  have hm:=gM ha
  have hb:=hA.2.2 a hm
  rw [show DU ps.length bs.length y.kind=bs.length from if_neg h0] at hb
  obtain ⟨p,hp,hsm⟩:=hv h0 a hm hb.1 hb.2
  exact ⟨p,hb.1,by omega,hp,by unfold GD;rw [if_neg h0,ag,ha,ck,hp];rfl,hsm⟩
 have hs:y.kind≠0→∀ p∈GD vs y,IwS p LB LB:=fun h0 p hp=>by
  obtain ⟨k,hk⟩:=List.mem_iff_getElem?.1 hp
  have hk':=hk
  unfold GD at hk'
  rw [if_neg h0,ag,cq] at hk'
  obtain ⟨a,ha,_⟩:=hk'
  obtain ⟨q,_,_,_,h4,h5⟩:=args h0 k a ha
  rw [hk] at h4
  cases h4
  exact h5
 have hin:y.kind=0→∃ (i:Nat) (pp:Prt),y.args[0]?=some (i:Int)∧ps[i]?=some pp∧My pp:=fun h0=>by
  have h1:=hA.2.1
  rw [h0] at h1
  have hl1:y.args.length=1:=by unfold Bp at h1;(repeat' split at h1) <;> omega
  obtain ⟨a,ha⟩:∃ a,y.args[0]?=some a:=⟨_,gE (by omega)⟩
  have hb:=hA.2.2 a (gM ha)
  rw [show DU ps.length bs.length y.kind=ps.length from if_pos h0] at hb
  obtain ⟨p,hp⟩:∃ p,ps[a.toNat]?=some p:=⟨_,gE (by omega)⟩
  exact ⟨a.toNat,p,by rw [ha];congr 1;omega,hp,Mz he hp⟩
 have hsv:(y.kind=1∨y.kind=6∨y.kind=11)→DJ y.vn y.ve:=fun h=>Mo he hy (by unfold PC;rcases h with h|h|h <;> rw [h] <;> rfl)
 have hsu:y.kind=11→DJ y.un y.ue:=fun h=>(Lj he hy h).2.1
 have h0s:y.kind=0→∀ p∈([]:List Iq),IwS p LB LB:=fun _ p hp=>by cases hp
 have hk3:y.kind=0∨y.kind=1∨y.kind=3∨y.kind=4∨y.kind=5∨y.kind=6∨y.kind=7∨y.kind=8∨y.kind=9∨y.kind=10∨y.kind=11:=by clear hin args hs;omega
 refine ⟨hk3,fun h0 k a ha=>?_,hlen,fun k hk=>?_,?_,hin,hsv,hsu,fun h=>(Lj he hy h).2.2,?_⟩
 ·obtain ⟨p,h1,h2,h3,h4,_⟩:=args h0 k a ha
  exact ⟨p,h1,h2,h3,h4⟩
 ·have h0:y.kind≠0:=by omega
  have hkl:k<y.args.length:=by
   have h1:=hA.2.1
   unfold Bp at h1
   (repeat' split at h1) <;> omega
  obtain ⟨a,ha⟩:∃ a,y.args[k]?=some a:=⟨_,gE hkl⟩
  obtain ⟨p,h1,h2,h3,h4,_⟩:=args h0 k a ha
  exact ⟨p,a.toNat,h4,by rw [ha];congr 1;omega,AaU h3⟩
 ·by_cases h0:y.kind=0
  ·unfold GD;rw [if_pos h0];exact h0s h0
  ·exact hs h0
 ·unfold AZ
  by_cases h0:y.kind=0
  ·rw [if_pos h0]
   obtain ⟨i,pp,q1,q3,q4⟩:=hin h0
   rw [q1]
   simp only [ax,ak,q3,ck]
   exact q4.iw.more (by decide) (by decide)
  ·rw [if_neg h0]
   exact FG (hs h0) hsv hsu (by clear hin args hs;omega)
theorem Lo (he:AP ps bs os=0) {vs:List (Option Iq)} {t j:Nat} (hj:(BS bs)[t]?=some j) (hv:VO vs (ZD bs t)):∃ y,bs[j]?=some y∧y.kind≠2∧AiT ps bs vs y:=by
 obtain ⟨hjl,hk2⟩:=Mp hj
 obtain ⟨y,hy⟩:∃ y,bs[j]?=some y:=⟨_,gE hjl⟩
 rw [Dv hy] at hk2
 refine ⟨y,hy,hk2,Yz he hy hk2 fun h0 a ha a0 a1=>?_⟩
 have hsplit:BS bs=(BS bs).take t++j::(BS bs).drop (t+1):=by
  obtain ⟨hlt,he⟩:=gS.1 hj
  rw [←he,←cn hlt,eg]
 have hd:=Lh hsplit (a:=a) (by rw [Lk hy h0];exact ha)
 exact hv.at_ a.toNat (hd.imp (fun h=>⟨by omega,h⟩) id)
theorem Afg {G:World→Prop} {o:Oper} {x y z u:Operand} {k:IntKind} {p q r:Int} (ho:o.op=.call { callee:=.builtin .max,args:=#[x,y,z,u],argTypes:=ts }) (hx:F.ev x=.one (.d (.val (.int k p)))) (hy:F.ev y=.one (.d (.val (.int k q)))) (hz:F.ev z=.one (.d (.val (.int k r)))) (hu:F.ev u=.one (.d (.val (.int k s)))):AK P G o F H (.one (.d (.val (.int k (max (max (max p q) r) s))))) []:=BB fun b0 m a hp hcx hor=>by
 have ex:=CF (m:=m) (v:=a.eval x) (by rw [←hx];exact AO hor (by rw [ho];simp [Op.operands,Call.operands]))
 have ey:=CF (m:=m) (v:=a.eval y) (by rw [←hy];exact AO hor (by rw [ho];simp [Op.operands,Call.operands]))
 have ez:=CF (m:=m) (v:=a.eval z) (by rw [←hz];exact AO hor (by rw [ho];simp [Op.operands,Call.operands]))
 have eu:=CF (m:=m) (v:=a.eval u) (by rw [←hu];exact AO hor (by rw [ho];simp [Op.operands,Call.operands]))
 refine ⟨_,?_,Bf.val rfl⟩
 unfold execOp
 have key:∀ a b:Int,(if a<b then b else a)=max a b:=fun a b=>by split <;> omega
 simp [ho,resolve,invoke,builtin,ex,ey,ez,eu,Builtin.max_,Builtin.max2,key]
theorem Lp (n e:Int) (hs:DJ n e):CV prog Al 235 [.agg [dI n,dI e]] [aDy false (Ad n 0 e).1 (Ad n 0 e).2]:=by
 refine cvz func235 ntmps235 ?_
 have VA:=Pc n e
 exact Ait
theorem AiU (h:p:=by first|exact xCl func212 (B1)|exact xCl func212 (B2)):p:=h
theorem QS (a:Iq) (n1:Nf a.1.1 a.1.2) (n2:Nf a.2.1 a.2.2) (l1:(Aa a.1.1.natAbs).length≤40000) (l2:(Aa a.2.1.natAbs).length≤40000):CV prog Al 178 [aIw false a] [aB (Eo a)]:=by
 refine cvz func178 ntmps178 ?_
 have B1:=Li a.1.1 a.1.2 n1 l1
 have B2:=Li a.2.1 a.2.2 n2 l2
 have hm:decide ((4096:Int)<max (max (max ((Be a.1.1.natAbs:Nat):Int) (a.1.2:Int)) ((Be a.2.1.natAbs:Nat):Int)) (a.2.2:Int))=Eo a:=by unfold Eo Dr AeK;rw [io,em,decide_eq_true_eq,decide_eq_true_eq,decide_eq_true_eq];omega
 repeat' (with_reducible first|refine qq ?_|(refine Tx 0 ?_;refine gN xBo <| gO xA ?_)|(refine Cj (id:=1) Bb (by kernel_rfl) ?_;refine gP xF <| gP xL <| gP AiU <| gP xF <| gP xF <| gP xD <| gP xF <| gP xL <| gP AiU <| gP xF <| gP xF <| gP xD <| gP (by first|exact Afg rfl rfl rfl rfl rfl|exact Gs rfl rfl rfl) <| gP (by first|exact OJ rfl rfl rfl hm|exact xGt) <| gP xA ?_;refine Ke ?_))
 exact AE rfl (.cons_ (Fd rfl rfl) .nil_)
theorem Cf (t u:Bool) (y:Bk) (vals:List Iq) (k:Nat) {i:Nat} {p:Iq} (hk:y.args[k]?=some (i:Int)) (hp:vals[i]?=some p) (ha:y.args.length≤1000000) (hv:vals.length≤1000000):CV prog Al 234 [aI (k:Int),.one (.ptr true [.row u 6 vals.length (Ay (dIw false) vals)]),.one (.ptr true (dBk t y))] [aIw false p]:=by
 refine cvz func234 ntmps234 ?_
 have l1:=(gS.1 hk).1
 have l2:=(gS.1 hp).1
 repeat' (with_reducible first|refine qq ?_|(refine Tx 0 ?_;refine gN (xAl Ah) ?_)|(refine AM (id:=1) 8 Bb (by kernel_rfl) ?_;dsimp only [List.take,List.drop];refine gP xD <| gP xF <| gP xD <| gP xM <| gP (by first|exact xIr Ae (AY hk)|exact xIr Ae (GE hp)) <| gP xD <| gP (xIr Af (GE hp)) <| gP xL ?_;refine Ke ?_;refine gZ (xSk Ac) ?_))
 exact CY
theorem ME (k:p') (h:Hd9 p'→p:=by with_reducible first|(intro Z9;refine qq ?_;exact Z9.o)|(intro Z9;refine Tx 0 ?_;refine gN xBo <| gN xBo <| gN xBo <| gN (xAl Ah) ?_;exact Z9.o)|(intro Z9;refine Tx 1 ?_;refine gO (by first|exact xMf [(2,0,none),(1,0,none)]|exact Ck rfl (by repeat' first|exact Bt rfl rfl|refine AH rfl rfl rfl ?_)) <| gO xA ?_;exact Z9.o)|(intro Z9;refine Tx 2 ?_;refine gO xF <| gO xD ?_;exact Z9.o)|(intro Z9;refine Tx 3 ?_;refine gO xEq <| gO xA ?_;exact Z9.o)|fail):p:=h ⟨k⟩
theorem Nb (k:p') (h:Hd9 p'→p:=by with_reducible first|(intro Z9;refine Tx 6 ?_;refine gO xEq <| gO xA ?_;exact Z9.o)|fail):p:=h ⟨k⟩
theorem AiV (h:p:=by first|exact xCl func235 (RV)|exact xCl func235 (RU)):p:=h
theorem Vm (t:Bool) (ps:List Prt) (bs:List Bk) (os:List Int) (y:Bk) (vals l:List Iq) (hk:y.kind=0∨y.kind=1∨y.kind=3∨y.kind=4∨y.kind=5∨y.kind=6∨y.kind=7∨y.kind=8∨y.kind=9∨y.kind=10∨y.kind=11) (ha:y.args.length≤1000000) (hvl:vals.length≤1000000) (hpl:ps.length≤1000000)
  (hl:∀ k:Nat,(k=0∧y.kind≠0∧y.kind≠1∨k=1∧(y.kind=3∨y.kind=4∨y.kind=7∨y.kind=8∨y.kind=9))→∃ p i,l[k]?=some p∧y.args[k]?=some ((i:Nat):Int)∧vals[i]?=some p) (hs:∀ p∈l,IwS p 20000 20000)
  (hin:y.kind=0→∃ (i:Nat) (pp:Prt),y.args[0]?=some (i:Int)∧ps[i]?=some pp∧My pp)
  (hsv:(y.kind=1∨y.kind=6∨y.kind=11)→DJ y.vn y.ve) (hsu:y.kind=11→DJ y.un y.ue) (hcl:y.kind=11→Hd (Ad y.vn 0 y.ve) (Ad y.un 0 y.ue)≤0):CV prog Al 179 [aDg t ps bs os,.agg (dBk t y),.one (.row true 6 vals.length (Ay (dIw false) vals))] [aIw false (AZ y l ps)]:=by
 refine cvz func179 ntmps179 ?_
 rcases hk with h|h|h|h|h|h|h|h|h|h|h
 ·
  obtain ⟨i0,pp,q0,w0,ps0⟩:=hin h
  have l1:=(gS.1 q0).1
  have l3:=(gS.1 w0).1
  have f0:=ps0.l0
  have f1:=ps0.le
  have f2:=ps0.h1
  have f3:=ps0.f0
  have f4:=ps0.f1
  have IN:=QN pp.lo pp.hi (by omega) (by omega)
  have OF:=Em 1 (by decide) (by decide)
  have SH:=Bo 1 0 (-pp.fr) ⟨by decide,fun h=>absurd rfl h⟩ (lT (Az (k:=2) (by decide)) (by decide)) (by omega)
  have SC:=FY (Co [(pp.lo,0),(pp.hi,0)]) (Ad 1 0 (-pp.fr)) (FE (GB pp.lo (by omega) (by decide)) (GB pp.hi (by omega) (by decide))).2.2 ((Po (by decide) (by decide) f3 f4).more (by decide) (by decide))
  rw [ps0.scale] at SC
  have hb:AZ y l ps=Gc pp:=by unfold AZ;rw [if_pos h,q0];simp [w0]
  rw [hb]
  repeat' (with_reducible first|refine ME ?_|(refine AM (id:=4) 9 Bb (by kernel_rfl) ?_;dsimp only [List.take,List.drop];refine gP xF <| gP xD <| gP xF <| gP xD <| gP (xIr Ae (AY q0)) <| gP xD <| gP (xIr CS (NQ w0)) <| gP xL <| gQ (xAl Mb) ?_;refine Ke ?_;refine gZ (xSk Gx) ?_)|(refine AM (id:=5) 11 Bb (by kernel_rfl) ?_;dsimp only [List.take,List.drop];refine gP xF <| gP xD <| gP xF <| gP xD <| gP (xCl func139 (IN)) <| gP (xCl func68 (OF)) <| gP xF <| gP xD <| gP (by first|exact Tr rfl rfl (by omega)|exact AbN rfl rfl) <| gP (xCl func21 (SH)) <| gP (xCl func138 (SC)) ?_;refine Ke ?_;refine gZ (xSk Ac) ?_))
  exact CY
 ·
  have hv:=hsv (by omega)
  have RV:=Lp y.vn y.ve hv
  have sv:=(Fh hv).more LBx LBx
  have C:=CI (Ad y.vn 0 y.ve) sv.ok sv.lz
  have hb:AZ y l ps=((Ad y.vn 0 y.ve),(Ad y.vn 0 y.ve)):=by unfold AZ Dx;simp [h]
  rw [hb]
  repeat' (with_reducible first|refine ME ?_|refine Nb ?_|(refine Tx 7 ?_;refine gO xF <| gO xL <| gO (xCl func235 (RV)) <| gO (xCl func140 (C)) <| gZ (xSk Ac) ?_))
  exact CY
 ·
  obtain ⟨p,i0,h0,q0,r0⟩:=hl 0 (by omega)
  have sp:=(hs p (gM h0))
  have A0:=Cf t true y vals 0 q0 r0 ha hvl
  obtain ⟨q,i1,h1,q1,r1⟩:=hl 1 (by omega)
  have sq:=(hs q (gM h1))
  have A1:=Cf t true y vals 1 q1 r1 ha hvl
  have C:=Pi p q sp sq
  have hb:AZ y l ps=Acf p q:=by unfold AZ Dx;simp [h,h0,h1]
  rw [hb]
  repeat' (with_reducible first|refine ME ?_|refine Nb ?_|(refine Tx 8 ?_;refine gO xEq <| gO xA ?_)|(refine Tx 9 ?_;refine gO xM <| gO (xCc func234 A0 (args:=[_]) rfl) <| gO xM <| gO (xCc func234 A1 (args:=[_]) rfl) <| gO (xCl func143 (C)) <| gZ (xSk Ac) ?_))
  exact CY
 ·
  obtain ⟨p,i0,h0,q0,r0⟩:=hl 0 (by omega)
  have sp:=(hs p (gM h0))
  have A0:=Cf t true y vals 0 q0 r0 ha hvl
  obtain ⟨q,i1,h1,q1,r1⟩:=hl 1 (by omega)
  have sq:=(hs q (gM h1))
  have A1:=Cf t true y vals 1 q1 r1 ha hvl
  have C:=Uf p q sp sq
  have hb:AZ y l ps=AeT p q:=by unfold AZ Dx;simp [h,h0,h1]
  rw [hb]
  repeat' (with_reducible first|refine ME ?_|refine Nb ?_|(refine Tx 8 ?_;refine gO xEq <| gO xA ?_)|(refine Tx 10 ?_;refine gO xEq <| gO xA ?_)|(refine Tx 11 ?_;refine gO xM <| gO (xCc func234 A0 (args:=[_]) rfl) <| gO xM <| gO (xCc func234 A1 (args:=[_]) rfl) <| gO (xCl func144 (C)) <| gZ (xSk Ac) ?_))
  exact CY
 ·
  obtain ⟨p,i0,h0,q0,r0⟩:=hl 0 (by omega)
  have sp:=(hs p (gM h0))
  have A0:=Cf t true y vals 0 q0 r0 ha hvl
  have C:=Ph p sp
  have hb:AZ y l ps=VM p:=by unfold AZ Dx;simp [h,h0]
  rw [hb]
  repeat' (with_reducible first|refine ME ?_|refine Nb ?_|(refine Tx 8 ?_;refine gO xEq <| gO xA ?_)|(refine Tx 10 ?_;refine gO xEq <| gO xA ?_)|(refine Tx 12 ?_;refine gO xEq <| gO xA ?_)|(refine Tx 14 ?_;refine gO xEq <| gO xA ?_)|(refine Tx 15 ?_;refine gO xM <| gO (xCc func234 A0 (args:=[_]) rfl) <| gO (xCl func146 (C)) <| gZ (xSk Ac) ?_))
  exact CY
 ·
  obtain ⟨p,i0,h0,q0,r0⟩:=hl 0 (by omega)
  have sp:=(hs p (gM h0))
  have A0:=Cf t true y vals 0 q0 r0 ha hvl
  have hv:=hsv (by omega)
  have RV:=Lp y.vn y.ve hv
  have sv:=(Fh hv).more LBx LBx
  have C:=FY p (Ad y.vn 0 y.ve) sp sv
  have hb:AZ y l ps=IA p (Ad y.vn 0 y.ve):=by unfold AZ Dx;simp [h,h0]
  rw [hb]
  repeat' (with_reducible first|refine ME ?_|refine Nb ?_|(refine Tx 8 ?_;refine gO xEq <| gO xA ?_)|(refine Tx 10 ?_;refine gO xEq <| gO xA ?_)|(refine Tx 12 ?_;refine gO xEq <| gO xA ?_)|(refine Tx 14 ?_;refine gO xEq <| gO xA ?_)|(refine Tx 16 ?_;refine gO xEq <| gO xA ?_)|(refine Tx 18 ?_;refine gO xEq <| gO xA ?_)|(refine AM (id:=19) 6 Bb (by kernel_rfl) ?_;dsimp only [List.take,List.drop];refine gP xM <| gP (xCc func234 A0 (args:=[_]) rfl) <| gP xF <| gP xL <| gP (xCl func235 (RV)) <| gP (xCl func138 (C)) ?_;refine Ke ?_;refine gZ (xSk Ac) ?_))
  exact CY
 ·
  obtain ⟨p,i0,h0,q0,r0⟩:=hl 0 (by omega)
  have sp:=(hs p (gM h0))
  have A0:=Cf t true y vals 0 q0 r0 ha hvl
  obtain ⟨q,i1,h1,q1,r1⟩:=hl 1 (by omega)
  have sq:=(hs q (gM h1))
  have A1:=Cf t true y vals 1 q1 r1 ha hvl
  have C:=Pm p q sp sq
  have hb:AZ y l ps=Acg p q:=by unfold AZ Dx;simp [h,h0,h1]
  rw [hb]
  repeat' (with_reducible first|refine ME ?_|refine Nb ?_|(refine Tx 8 ?_;refine gO xEq <| gO xA ?_)|(refine Tx 10 ?_;refine gO xEq <| gO xA ?_)|(refine Tx 12 ?_;refine gO xEq <| gO xA ?_)|(refine Tx 13 ?_;refine gO xM <| gO (xCc func234 A0 (args:=[_]) rfl) <| gO xM <| gO (xCc func234 A1 (args:=[_]) rfl) <| gO (xCl func145 (C)) <| gZ (xSk Ac) ?_))
  exact CY
 ·
  obtain ⟨p,i0,h0,q0,r0⟩:=hl 0 (by omega)
  have sp:=(hs p (gM h0))
  have A0:=Cf t true y vals 0 q0 r0 ha hvl
  obtain ⟨q,i1,h1,q1,r1⟩:=hl 1 (by omega)
  have sq:=(hs q (gM h1))
  have A1:=Cf t true y vals 1 q1 r1 ha hvl
  have C:=Pj p q sp sq
  have hb:AZ y l ps=Yl p q:=by unfold AZ Dx;simp [h,h0,h1]
  rw [hb]
  repeat' (with_reducible first|refine ME ?_|refine Nb ?_|(refine Tx 8 ?_;refine gO xEq <| gO xA ?_)|(refine Tx 10 ?_;refine gO xEq <| gO xA ?_)|(refine Tx 12 ?_;refine gO xEq <| gO xA ?_)|(refine Tx 14 ?_;refine gO xEq <| gO xA ?_)|(refine Tx 16 ?_;refine gO xEq <| gO xA ?_)|(refine Tx 18 ?_;refine gO xEq <| gO xA ?_)|(refine Tx 20 ?_;refine gO xEq <| gO xA ?_)|(refine Tx 21 ?_;refine gO xM <| gO (xCc func234 A0 (args:=[_]) rfl) <| gO xM <| gO (xCc func234 A1 (args:=[_]) rfl) <| gO (xCl func148 (C)) <| gZ (xSk Ac) ?_))
  exact CY
 ·
  obtain ⟨p,i0,h0,q0,r0⟩:=hl 0 (by omega)
  have sp:=(hs p (gM h0))
  have A0:=Cf t true y vals 0 q0 r0 ha hvl
  obtain ⟨q,i1,h1,q1,r1⟩:=hl 1 (by omega)
  have sq:=(hs q (gM h1))
  have A1:=Cf t true y vals 1 q1 r1 ha hvl
  have C:=Pk p q sp sq
  have hb:AZ y l ps=VN p q:=by unfold AZ Dx;simp [h,h0,h1]
  rw [hb]
  repeat' (with_reducible first|refine ME ?_|refine Nb ?_|(refine Tx 8 ?_;refine gO xEq <| gO xA ?_)|(refine Tx 10 ?_;refine gO xEq <| gO xA ?_)|(refine Tx 12 ?_;refine gO xEq <| gO xA ?_)|(refine Tx 14 ?_;refine gO xEq <| gO xA ?_)|(refine Tx 16 ?_;refine gO xEq <| gO xA ?_)|(refine Tx 18 ?_;refine gO xEq <| gO xA ?_)|(refine Tx 20 ?_;refine gO xEq <| gO xA ?_)|(refine Tx 22 ?_;refine gO xEq <| gO xA ?_)|(refine Tx 23 ?_;refine gO xM <| gO (xCc func234 A0 (args:=[_]) rfl) <| gO xM <| gO (xCc func234 A1 (args:=[_]) rfl) <| gO (xCl func149 (C)) <| gZ (xSk Ac) ?_))
  exact CY
 ·
  obtain ⟨p,i0,h0,q0,r0⟩:=hl 0 (by omega)
  have sp:=(hs p (gM h0))
  have A0:=Cf t true y vals 0 q0 r0 ha hvl
  have C:=Pn p sp
  have hb:AZ y l ps=Rq p:=by unfold AZ Dx;simp [h,h0]
  rw [hb]
  repeat' (with_reducible first|refine ME ?_|refine Nb ?_|(refine Tx 8 ?_;refine gO xEq <| gO xA ?_)|(refine Tx 10 ?_;refine gO xEq <| gO xA ?_)|(refine Tx 12 ?_;refine gO xEq <| gO xA ?_)|(refine Tx 14 ?_;refine gO xEq <| gO xA ?_)|(refine Tx 16 ?_;refine gO xEq <| gO xA ?_)|(refine Tx 17 ?_;refine gO xM <| gO (xCc func234 A0 (args:=[_]) rfl) <| gO (xCl func147 (C)) <| gZ (xSk Ac) ?_))
  exact CY
 ·
  obtain ⟨p,i0,h0,q0,r0⟩:=hl 0 (by omega)
  have sp:=(hs p (gM h0))
  have A0:=Cf t true y vals 0 q0 r0 ha hvl
  have hv:=hsv (by omega)
  have RV:=Lp y.vn y.ve hv
  have sv:=(Fh hv).more LBx LBx
  have hu:=hsu h
  have RU:=Lp y.un y.ue hu
  have su:=(Fh hu).more LBx LBx
  have C:=QO p (Ad y.vn 0 y.ve) (Ad y.un 0 y.ue) sp sv su (hcl h)
  have hb:AZ y l ps=Sr p (Ad y.vn 0 y.ve) (Ad y.un 0 y.ue):=by unfold AZ Dx;simp [h,h0]
  rw [hb]
  repeat' (with_reducible first|refine ME ?_|refine Nb ?_|(refine Tx 8 ?_;refine gO xEq <| gO xA ?_)|(refine Tx 10 ?_;refine gO xEq <| gO xA ?_)|(refine Tx 12 ?_;refine gO xEq <| gO xA ?_)|(refine Tx 14 ?_;refine gO xEq <| gO xA ?_)|(refine Tx 16 ?_;refine gO xEq <| gO xA ?_)|(refine Tx 18 ?_;refine gO xEq <| gO xA ?_)|(refine Tx 20 ?_;refine gO xEq <| gO xA ?_)|(refine Tx 22 ?_;refine gO xEq <| gO xA ?_)|(refine IY (id:=24) 13 [(13,11)] Bb (by kernel_rfl) ?_;dsimp only [List.take,List.drop];refine gP xM <| gP (xCc func234 A0 (args:=[_]) rfl) <| gP xF <| gP xL <| gP AiV <| gP xF <| gP xL <| gP AiV <| gP (xCl func150 (C)) <| gP xMt <| gP (by exact DS rfl rfl rfl) <| gP xEx <| gQ (xAl Ah) ?_;refine Ke ?_;refine gZ (xSk Ac) <| gO xA ?_)|(refine Tx 25 ?_;refine gO xL <| gZ (xSk Ac) ?_))
  exact CY
abbrev ivQ (q:Rv × Rv):Iq:=(rvP q.1,rvP q.2)
def VP (qs:List (Rv × Rv)):D:=.row false 6 qs.length (Ay (dIr false) qs)
def AiW (l:List Iq):A:=.one (.row false 6 l.length (Ay (dIw false) l))
abbrev ivC (q:Rv × Rv):Bool:=ivR q.1 q.2
def rgE (ps:List Prt) (bs:List Bk) (os:List Int) (qs:List (Rv × Rv)):Int :=
 if AP ps bs os≠0 then AP ps bs os else if qs.length≠(Bd bs).length then 11 else if qs.all ivC=false then 2 else if CO ps bs (qs.map ivQ)=true then 4 else 0
section
variable {ps:List Prt} {bs:List Bk} {os:List Int} {qs:List (Rv × Rv)}
theorem rgE1 (h:AP ps bs os≠0):rgE ps bs os qs=AP ps bs os:=by unfold rgE;rw [if_pos h]
theorem rgE2 (h:AP ps bs os=0) (h2:qs.length≠(Bd bs).length):rgE ps bs os qs=11:=by unfold rgE;rw [if_neg (not_not_intro h),if_pos h2]
theorem rgE3 (h:AP ps bs os=0) (h2:qs.length=(Bd bs).length) (h3:qs.all ivC=false):rgE ps bs os qs=2:=by unfold rgE;rw [if_neg (not_not_intro h),if_neg (not_not_intro h2),if_pos h3]
theorem rgE4 (h:AP ps bs os=0) (h2:qs.length=(Bd bs).length) (h3:¬ qs.all ivC=false):rgE ps bs os qs=if CO ps bs (qs.map ivQ)=true then 4 else 0:=by unfold rgE;rw [if_neg (not_not_intro h),if_neg (not_not_intro h2),if_neg h3]
end
theorem QT {qs:List (Rv × Rv)} {k:Nat} {q:Rv × Rv} (h:qs[k]?=some q):((Ay (dIr false) qs).drop (k*6)).take 6=dIr false q:=EO (f:=dIr false) (s:=6) (fun _=>rfl) h
theorem QU {q:Rv × Rv} (hr:RvL q.1) (hs:RvL q.2) (h:ivC q=true):IwS (ivQ q) 1280000 65536∧dIr false q=dIw false (ivQ q)∧(Aa (rvP q.1).1.natAbs).length≤40000∧(Aa (rvP q.2).1.natAbs).length≤40000:=by
 obtain ⟨e,n1,n2,g,k1,k2⟩:=AiQ hr hs h
 exact ⟨⟨Yq (p:=rvP q.1) n1 (k:=40000) (k1 ▸ hr.2) (by decide),Yq (p:=rvP q.2) n2 (k:=40000) (k2 ▸ hs.2) (by decide),g⟩,e,k1 ▸ hr.2,k2 ▸ hs.2⟩
theorem Afh {qs:List (Rv × Rv)} {k:Nat} {q:Rv × Rv} (h:qs[k]?=some q) (hv:ivC q=false):qs.all ivC=false:=by
 rw [List.all_eq_false]
 exact ⟨q,gM h,by rw [hv];decide⟩
theorem YA {a:Iq} {d:Nat} (h:IwS a n d):GA a a=a:=by
 obtain ⟨e1,e2,e3⟩:=ED h.s1 h.s2 h.s1 h.s2
 have hle:=h.le
 exact Acj e3 h (by show gv (Co [a.1,a.2,a.1,a.2]).1=_;rw [e1];omega) (by show gv (Co [a.1,a.2,a.1,a.2]).2=_;rw [e2];omega)
theorem Afi (k:p') (h:Hd9 p'→p:=by with_reducible first|(intro Z9;refine Tx 0 ?_;refine gN xBo <| gO xA <| gO xA ?_;exact Z9.o)|(intro Z9;refine Tx 1 ?_;refine gO xL <| gO (xCl func19 (DL)) <| gO xMt <| gO xEx <| gO xEx <| gO xA <| gO xA ?_;exact Z9.o)|(intro Z9;refine Tx 2 ?_;refine gO xM <| gO (xNE Ai) ?_;exact Z9.o)|fail):p:=h ⟨k⟩
theorem AaZ (h:p:=by first|exact xIr Af (hra)|exact xIo (i:=i) Af):p:=h
theorem AiX (k:p') (h:Hd9 p'→p:=by with_reducible first|(intro Z9;refine Tx 18 ?_;refine gO xM <| gO (by first|exact xIr Ae (AY (Mr hi))|exact xIr Ae (hra)|exact xIo (i:=i) Ae) <| gO xD <| gO xA <| gO xA ?_;exact Z9.o)|(intro Z9;refine Tx 19 ?_;refine gO xM <| gO xM <| gO AaZ <| gO xL <| gO (xCl func178 (LG)) ?_;exact Z9.o)|fail):p:=h ⟨k⟩
theorem Afj (h:p:=by first|exact Afe rfl rfl rfl rfl Ac tl stV|exact xSk Ac):p:=h
theorem AiY (k:p') (h:Hd9 p'→p:=by with_reducible first|(intro Z9;refine Tx 25 ?_;refine gO (by first|exact xIr Ae (AY (Mr hj))|exact xIo (i:=j) Ae) <| gO xD <| gO xA ?_;exact Z9.o)|(intro Z9;refine AM (id:=26) 11 Bb (by kernel_rfl) ?_;dsimp only [List.take,List.drop];refine gP xM <| gP xM <| gP xL <| gP xF <| gP xD <| gP xM <| gP (by first|exact xIr Ak (El hy)|exact xIo (i:=j) Ak) <| gP xL <| gP xM <| gP (xCl func179 BL (ha:=by with_unfolding_all first|((repeat' first|exact Bt rfl rfl|refine AH rfl rfl ?_ ?_|refine Fq rfl rfl ?_|refine Cz rfl rfl ?_|exact Bs rfl (fun h=>by cases h)|exact Yx rfl rfl rfl) <;> fail)|fail)) <| gP (xIo (i:=j) Af) ?_;refine Ke ?_;refine gZ Afj ?_;exact Z9.o)|(intro Z9;refine Tx 27 ?_;refine gO xM <| gO xM <| gO (xIo (i:=j) Af) <| gO (by first|exact Afd rfl rfl rfl hat Ac|exact xLa Ac) <| gO (xCl func178 (LG)) ?_;exact Z9.o)|fail):p:=h ⟨k⟩
theorem Sw (h:p:=by
 exact AE rfl (.cons_ (.tmp (.one (Gh rfl rfl))) (.cons_ (Aah rfl (by decide) rfl) .nil_))):p:=h
theorem QV (t:Bool) {ps:List Prt} {bs:List Bk} {os:List Int} (hl:Ff ps bs os) (qs:List (Rv × Rv)) (hw:∀ q∈qs,RvL q.1∧RvL q.2) (hrl:qs.length≤1000000):CV prog Al 85 [aDg t ps bs os,.one (VP qs)] [AiW (okQ (rgE ps bs os qs) (rgV ps bs (qs.map ivQ))),aE (rgE ps bs os qs)]:=by
 refine cvz func85 ntmps85 ?_
 have DL:=(GZ t hl (ps:=ps) (bs:=bs) (os:=os)).cv
 have OL:=(TY t hl (ps:=ps) (bs:=bs) (os:=os)).cv
 have hnl:=Dg (Bd bs)
 have hol:=Dg (BS bs)
 have hl1:=hl.l1
 have hl2:=hl.l2
 have hl3:=hl.l3
 have hob:=Pd (bs:=bs)
 have hdb:=Ia bs
 by_cases h0:AP ps bs os=0
 case neg =>
  rw [if_neg h0] at DL
  have hE:=rgE1 (qs:=qs) h0
  rw [hE,So h0]
  repeat' (with_reducible first|refine qq ?_|refine Afi ?_|(refine Tx 3 ?_;refine gO xM <| gO xA <| gO xA ?_))
  exact AE rfl (.cons_ (.tmp (.one (Gh rfl rfl))) (.cons_ (ZB rfl rfl) .nil_))
 rw [if_pos h0,h0] at DL
 rw [if_pos h0,h0] at OL
 by_cases hL:qs.length=(Bd bs).length
 case neg =>
  have hE:=rgE2 (os:=os) h0 hL
  rw [hE,So (by decide)]
  repeat' (with_reducible first|refine qq ?_|refine Afi ?_|(refine Tx 4 ?_;refine gO xM <| gO xN <| gO xM <| gO xN <| gO xNe ?_)|(refine Tx 5 ?_;refine gO (xMi underlying109) <| gO xA <| gO xA ?_))
  exact Sw
 repeat' (with_reducible first|refine qq ?_|refine Afi ?_|(refine Tx 4 ?_;refine gO xM <| gO xN <| gO xM <| gO xN <| gO xNe ?_)|(refine Tx 6 ?_;refine gO xM <| gO xN <| gO xM ?_))
 refine Bm (Cb 1) (Aw (fun n Fr H=>∃ k:Nat,k≤qs.length∧n=qs.length - k∧(∀ q∈qs.take k,ivC q=true)∧Fr=ofL [(1,vd (VP qs)),(2,vr 0),(6,vd (Bw false (Cu (Bd bs)))),(30,vd (VP qs)),(31,vi qs.length),(32,vi ((k:Nat)))]∧H=[.box 26 [.d (EP t ps),.d (Ee t bs),.d (Bw t os)]]) (n0:=qs.length) ⟨0,ad _,rfl,(fun r hr=>by simp at hr),rfl,rfl⟩ ?_)
 rintro n Fr H ⟨k,hk,rfl,hv,rfl,rfl⟩
 by_cases hlt:k<qs.length
 case pos =>
  obtain ⟨q,hq⟩:∃ q,qs[k]?=some q:=⟨_,gE hlt⟩
  have hqm:=hw q (gM hq)
  have VA:CV prog Al 122 [.agg (dIr false q)] [aB (ivC q)]:=FX q.1 q.2 hqm.1 hqm.2
  cases hb:ivC q
  case false =>
   rw [hb] at VA
   have hE:=rgE3 (os:=os) h0 hL (Afh hq hb)
   rw [hE,So (by decide)]
   repeat' (with_reducible first|refine qq ?_|(refine Tx 7 ?_;refine gO xLt ?_)|(refine Tx 8 ?_;refine gO (xIr Af (QT hq)) <| gO xL <| gN (xAl Ah) <| gZ (xSk Ac) ?_)|(refine Tx 9 ?_;refine gO xL <| gO (xCl func122 (VA)) <| gO Yt ?_)|(refine Tx 10 ?_;refine gO (xMi underlying109) <| gO xA <| gO xA ?_))
   exact Sw
  case true =>
   rw [hb] at VA
   repeat' (with_reducible first|refine qq ?_|(refine Tx 7 ?_;refine gO xLt ?_)|(refine Tx 8 ?_;refine gO (xIr Af (QT hq)) <| gO xL <| gN (xAl Ah) <| gZ (xSk Ac) ?_)|(refine Tx 9 ?_;refine gO xL <| gO (xCl func122 (VA)) <| gO Yt ?_)|(refine Tx 11 ?_;refine gO xAd <| gO xM ?_))
   refine ⟨_,_,Cb 1,_,?_,k+1,by omega,rfl,EA hv hq hb,rfl,rfl⟩
   ·omega
 obtain rfl:k=qs.length:=by omega
 rw [bh] at hv
 clear hlt hk
 have hva:¬ qs.all ivC=false:=by rw [jo];exact List.all_eq_true.2 hv
 have hE:=rgE4 (os:=os) h0 hL hva
 have hsl:(qs.map ivQ).length=(Bd bs).length:=by rw [af];exact hL
 repeat' (with_reducible first|refine qq ?_|(refine Tx 7 ?_;refine gO xLt ?_)|(refine Tx 12 ?_;refine gO xL <| gO (xCl func60 (OL)) <| gO xMt <| gO xEx <| gO xEx <| gO xA <| gO xA ?_)|(refine Tx 13 ?_;refine gO xM <| gO (xNE Ai) ?_)|(refine Tx 15 ?_;refine gO xF <| gO xD <| gO xN <| gN (by first|exact QQ (n:=bs.length) rfl rfl rfl Af Ah (by omega) (by decide)|exact Bi rfl rfl rfl Af Ah (by omega) (by decide)) <| gO xA ?_)|(refine Tx 16 ?_;refine gO xM <| gO xN <| gO xM ?_))
 refine Bm (Cb 2 (h:=by rw [←hnl];exact mB rfl rfl)) (Aw (fun n Fr H=>∃ k:Nat,k≤(Bd bs).length∧n=(Bd bs).length - k∧(∀ p∈(qs.map ivQ).take k,Eo p=false)∧Fr=ofL [(1,vd (VP qs)),(2,vr 0),(6,vd (Bw false (Cu (Bd bs)))),(10,vd (Bw false (Cu (BS bs)))),(11,vo 1 bs.length),(53,vd (Bw false (Cu (Bd bs)))),(54,vi ((Bd bs).length)),(55,vi ((k:Nat)))]∧H=[.box 26 [.d (EP t ps),.d (Ee t bs),.d (Bw t os)],.row 45 6 bs.length (kWs (Vl ((Bd bs).take (k)) ((qs.map ivQ).take (k)) (List.replicate bs.length none)))]) (n0:=(Bd bs).length) ⟨0,ad _,rfl,(fun r hr=>by simp at hr),rfl,rfl⟩ ?_)
 rintro n Fr H ⟨k,hk,rfl,hnl2,rfl,rfl⟩
 by_cases hlt:k<(Bd bs).length
 case pos =>
  obtain ⟨i,hi⟩:∃ i,(Bd bs)[k]?=some i:=⟨_,gE hlt⟩
  obtain ⟨q,hq⟩:∃ q,qs[k]?=some q:=⟨_,gE (by omega)⟩
  have hqm:=gM hq
  obtain ⟨sw,hdy,lw1,lw2⟩:=QU (hw q hqm).1 (hw q hqm).2 (hv q hqm)
  have hst:(qs.map ivQ)[k]?=some (ivQ q):=by rw [ag,hq];rfl
  have hra:=QT hq
  rw [hdy] at hra
  have hil2:=(Iz hi).1
  have LG:=QS (ivQ q) sw.s1.ok sw.s2.ok lw1 lw2
  by_cases hlg:Eo (ivQ q)=true
  case pos =>
   rw [hlg] at LG
   rw [AaW hst hlg,if_pos rfl] at hE
   rw [hE,So (by decide)]
   repeat' (with_reducible first|refine qq ?_|(refine Tx 17 ?_;refine gO xLt ?_)|refine AiX ?_|(refine Tx 20 ?_;refine gO (xMi underlying109) <| gO xA <| gO xA ?_))
   exact Sw
  rw [bc] at hlg
  rw [hlg] at LG
  have sb:=(Og sw hlg)
  have sb2:=sb.more LBx LBx
  have HU:=Mw (ivQ q) (ivQ q) sb2 sb2
  rw [YA sb] at HU
  have tl:i<(Vl ((Bd bs).take (k)) ((qs.map ivQ).take (k)) (List.replicate bs.length none)).length:=by rw [Lm,fi];exact hil2
  have stV:(Vl ((Bd bs).take (k)) ((qs.map ivQ).take (k)) (List.replicate bs.length none)).set i (some (ivQ q))=(Vl ((Bd bs).take (k+1)) ((qs.map ivQ).take (k+1)) (List.replicate bs.length none)):=(QR _ hi hst).symm
  repeat' (with_reducible first|refine qq ?_|(refine Tx 17 ?_;refine gO xLt ?_)|refine AiX ?_|(refine AM (id:=21) 12 Bb (by kernel_rfl) ?_;dsimp only [List.take,List.drop];refine gP xM <| gP xM <| gP xM <| gP xM <| gP AaZ <| gP xL <| gP xM <| gP xM <| gP AaZ <| gP xL <| gP (xCl func142 (HU)) <| gP AaZ ?_;refine Ke ?_;refine gZ Afj ?_)|(refine Tx 22 ?_;refine gO xAd <| gO xM ?_))
  refine ⟨_,_,Cb 2,_,by omega,k+1,by omega,rfl,EA hnl2 hst hlg,rfl,rfl⟩
 obtain rfl:k=(Bd bs).length:=by omega
 clear hlt hk
 rw [ap (by omega)] at hnl2
 have HD:=Pp (bs:=bs) (st:=(qs.map ivQ)) (fun p hp=>by obtain ⟨q,hq,rfl⟩:=List.mem_map.1 hp;exact Og (QU (hw q hq).1 (hw q hq).2 (hv q hq)).1 (hnl2 _ hp)) hsl
 rw [←AaV ps bs (qs.map ivQ)] at HD
 rw [bh,ap (l:=(qs.map ivQ)) (by omega),←AaV ps bs (qs.map ivQ)]
 repeat' (with_reducible first|refine qq ?_|(refine Tx 17 ?_;refine gO xLt ?_)|(refine Tx 23 ?_;refine gO xM <| gO xN <| gO xM ?_))
 refine Bm (Cb 2 (h:=by rw [←hol];exact mB rfl rfl)) (Aw (fun n Fr H=>∃ k:Nat,k≤(BS bs).length∧n=(BS bs).length - k∧VO (rgS ps bs (qs.map ivQ) (k)) (ZD bs k)∧(∀ s,s<k→Eo (rgN ps bs (qs.map ivQ) s)=false)∧Fr=ofL [(1,vd (VP qs)),(2,vr 0),(6,vd (Bw false (Cu (Bd bs)))),(10,vd (Bw false (Cu (BS bs)))),(11,vo 1 bs.length),(79,vd (Bw false (Cu (BS bs)))),(80,vi ((BS bs).length)),(81,vi ((k:Nat)))]∧H=[.box 26 [.d (EP t ps),.d (Ee t bs),.d (Bw t os)],.row 45 6 bs.length (kWs (rgS ps bs (qs.map ivQ) (k)))]) (n0:=(BS bs).length) ⟨0,ad _,rfl,HD,(fun s hs=>absurd hs (gl s)),rfl,rfl⟩ ?_)
 rintro n Fr H ⟨k,hk,rfl,HK,hgd,rfl,rfl⟩
 by_cases hlt:k<(BS bs).length
 case pos =>
  obtain ⟨j,hj⟩:∃ j,(BS bs)[k]?=some j:=⟨_,gE hlt⟩
  obtain ⟨y,hy,hk2,T⟩:=Lo h0 hj HK
  have hjl:=(Mp hj).1
  have hvn:rgN ps bs (qs.map ivQ) k=AZ y (GD (rgS ps bs (qs.map ivQ) (k)) y) ps:=by unfold rgN tkW;rw [hj];simp only [ax];rw [hy]
  have hgl:(gW (rgS ps bs (qs.map ivQ) (k))).length=bs.length:=by rw [Yw,Ic]
  have BL:=Vm t ps bs os y (gW (rgS ps bs (qs.map ivQ) (k))) (GD (rgS ps bs (qs.map ivQ) (k)) y) T.hk (by have:=T.len;omega) (by omega) (by omega) T.hl (fun p hp=>(T.hs p hp).more (by decide) (by decide)) T.hin T.hsv T.hsu T.hcl
  have TS:=T.sm
  rw [←hvn] at BL TS
  rw [hgl] at BL
  have LG:=QS (rgN ps bs (qs.map ivQ) k) TS.s1.ok TS.s2.ok TS.s1.lz TS.s2.lz
  have tl:j<(rgS ps bs (qs.map ivQ) (k)).length:=by rw [Ic];exact hjl
  have stV:(rgS ps bs (qs.map ivQ) (k)).set j (some (rgN ps bs (qs.map ivQ) k))=(rgS ps bs (qs.map ivQ) (k+1)):=(Ln hj).symm
  have hbad:=AaX (ps:=ps) (st:=(qs.map ivQ)) hlt
  have hnx:=MD HK hj
  have hat:(rgS ps bs (qs.map ivQ) (k+1))[j]?=some (some (rgN ps bs (qs.map ivQ) k)):=by rw [←stV,bt,if_pos rfl,if_pos tl]
  by_cases hlg:Eo (rgN ps bs (qs.map ivQ) k)=true
  case pos =>
   rw [hlg] at LG
   rw [hbad hlg,if_pos rfl] at hE
   rw [hE,So (by decide)]
   repeat' (with_reducible first|refine qq ?_|(refine Tx 24 ?_;refine gO xLt ?_)|refine AiY ?_|(refine Tx 28 ?_;refine gO (xMi underlying109) <| gO xA <| gO xA ?_))
   exact Sw
  rw [bc] at hlg
  rw [hlg] at LG
  repeat' (with_reducible first|refine qq ?_|(refine Tx 24 ?_;refine gO xLt ?_)|refine AiY ?_|(refine Tx 29 ?_;refine gO xAd <| gO xM ?_))
  refine ⟨_,_,Cb 2,_,by omega,k+1,by omega,rfl,hnx (Og TS hlg),Sp hgd hlg,rfl,rfl⟩
 obtain rfl:k=(BS bs).length:=by omega
 clear hlt hk
 rw [Uh hnl2 hgd,if_neg (by decide)] at hE
 rw [hE,Ye rfl]
 have hvE:(rgV ps bs (qs.map ivQ)).length=bs.length:=by unfold rgV;rw [Yw,Ic]
 unfold AiW
 rw [hvE]
 repeat' (with_reducible first|refine qq ?_|(refine Tx 24 ?_;refine gO xLt ?_)|(refine Tx 30 ?_;refine gO xM <| gO xA <| gO xA ?_))
 exact AE rfl (.cons_ (.tmp (.one (Yx rfl rfl rfl))) (.cons_ (Fg rfl rfl) .nil_))
section
variable {ps:List Prt} {bs:List Bk} {os:List Int} {qs:List (Rv × Rv)} {st:List Iq}
theorem YB (h:CO ps bs st=false):(∀ p∈st,Eo p=false)∧∀ t,t<(BS bs).length→Eo (rgN ps bs st t)=false:=by
 unfold CO at h
 rw [jx] at h
 exact ⟨fun p hp=>by have:=List.any_eq_false.1 h.1 p hp;rwa [bc] at this,fun t ht=>by have:=List.any_eq_false.1 h.2 t (List.mem_range.2 ht);rwa [bc] at this⟩
theorem YD {t:Nat} (hj:(BS bs)[t]?=some j) (hy:bs[j]?=some y):rgN ps bs st t=AZ y (GD (rgS ps bs st t) y) ps:=by
 unfold rgN tkW
 rw [hj]
 simp only [ax]
 rw [hy]
theorem YE (he:AP ps bs os=0) (hst:∀ p∈st,IwS p LB LB) (hl:st.length=(Bd bs).length) (hb:CO ps bs st=false):∀ t,t≤(BS bs).length→VO (rgS ps bs st t) (ZD bs t):=fun t=>by
 induction t with
 | zero=>intro _;rw [AaV];exact Pp hst hl
 | succ t ih =>
  intro ht
  obtain ⟨j,hj⟩:∃ j,(BS bs)[t]?=some j:=⟨_,gE ht⟩
  have h:=ih (by omega)
  obtain ⟨y,hy,_,T⟩:=Lo he hj h
  have TS:=T.sm
  rw [←YD hj hy] at TS
  exact MD h hj (Og TS ((YB hb).2 t ht))
theorem YF (he:AP ps bs os=0) (hst:∀ p∈st,IwS p LB LB) (hl:st.length=(Bd bs).length) (hb:CO ps bs st=false) {i:Nat} (hi:i<bs.length):∃ p,(rgV ps bs st)[i]?=some p∧(rgS ps bs st (BS bs).length)[i]?=some (some p)∧IwS p LB LB:=by
 obtain ⟨p,hp,hs⟩:=AaY he (YE he hst hl hb _ (aa _)) hi
 exact ⟨p,AaU hp,hp,hs⟩
theorem Ie:(rgV ps bs st).length=bs.length:=by unfold rgV;rw [Yw,Ic]
end
def clOk (ps:List Prt) (bs:List Bk) (st:List Iq) (k:Nat):Bool :=
 iIn ((BV bs)[k]?.getD (0,0),(BV bs)[k]?.getD (0,0)) (st[k]?.getD iZ) && iIn ((rgV ps bs st)[Akk bs ((Bd bs)[k]?.getD 0)]?.getD iZ) (st[k]?.getD iZ)
def Vn (ps:List Prt) (bs:List Bk) (st:List Iq):Bool:=(List.range (Bd bs).length).all (clOk ps bs st)
theorem Aba {st:List Iq} (h:∀ k,k<(Bd bs).length→clOk ps bs st k=true):Vn ps bs st=true:=List.all_eq_true.2 fun k hk=>h k (List.mem_range.1 hk)
abbrev pw (k:Int):Pq:=Ad 1 0 k
theorem Sy {k:Int} (h0 : -(n:Int)≤k) (h1:k≤n) (hn:n≤65536):Sm (pw k) (n+1) n:=by
 unfold pw Ad
 split
 ·exact (Sm.mk_nf (m:=1) (n:=n+1) (d:=n) (p:=0+(-(max (-65536) (min k 65536))).toNat) (by omega) (by omega) (Nat.one_lt_two_pow (by omega)))
 ·refine (Sm.mk_nf (n:=n+1) (d:=n) (p:=0) (by omega) (by omega) ?_)
  rw [gk,fh]
  exact Nat.pow_lt_pow_right (by decide) (by omega)
theorem IP {k:Int} (h0 : -65536≤k) (h1:k≤65536):gv (pw k)=2 ^ (65536+k).toNat:=by
 by_cases hk:0≤k
 ·have:=Ha (p:=(1,0)) (n:=k.toNat) (ad _) (by omega)
  rw [show ((k.toNat:Nat):Int)=k by omega,Hb,gk,←aw] at this
  rw [show gv (pw k)=_ from this]
  congr 1
  show 65536+k.toNat=_
  omega
 ·have:=QI (p:=(1,0)) (n:=(-k).toNat) (by show 0+(-k).toNat≤65536;omega) (by omega)
  rw [show (-(((-k).toNat:Nat):Int))=k by omega,Hb,gk] at this
  refine jn (ii (AI (-k).toNat)) ?_
  rw [this,←aw]
  congr 1
  show 65536=_
  omega
def upK (x:Pq):Int:=(Be x.1.natAbs:Int) - 1 - x.2
def upP (x:Pq):Pq:=if x.1=0 then x else if x.1<0 then (if upK x < -30 then (0,0) else Hc (pw (upK x))) else pw (max (if Hd (pw (upK x)) x<0 then upK x+1 else upK x) (-30))
theorem Lr (k:Int) (h0 : -65536≤k) (h1:k≤65536):CV prog Al 233 [aI k] [aDy false (pw k).1 (pw k).2]:=by
 refine cvz func233 ntmps233 ?_
 have OF:=Em 1 (by decide) (by decide)
 have SH:=Bo 1 0 k ⟨by decide,fun h=>absurd rfl h⟩ (lT (Az (k:=2) (by decide)) (by decide)) (by omega)
 repeat' (with_reducible first|refine qq ?_|(refine Tx 0 ?_;refine gN (xAl Am) ?_)|(refine Tx 1 ?_;refine gO (xCl func68 (OF)) <| gO xM <| gO (xCl func21 (SH)) <| gZ (xSk Ab) ?_))
 exact Sv
def Nc (a:Iq):Bool:=decide (0<Hd (DM a) (pw 40))
theorem Ui (a:Iq) (h:IwS a 20000 20000):CV prog Al 174 [aIw false a] [aB (Nc a)]:=by
 refine cvz func174 ntmps174 ?_
 have MG:=Hg a h
 have hm:=h.abs.s2
 have PW:=Lr 40 (by decide) (by decide)
 have hp:=Sy (k:=40) (n:=40) (by decide) (by decide) (by decide)
 have CM:=(BJ (DM a).1 (DM a).2 (pw 40).1 (pw 40).2 hm.ok hp.ok hm.lz hp.lz)
 have hf:decide (0<Hd (DM a) (pw 40))=Nc a:=rfl
 repeat' (with_reducible first|refine qq ?_|(refine Tx 0 ?_;refine gN xBo <| gO xA ?_)|(refine Tx 1 ?_;refine gO xL <| gO (xCl func159 (MG)) <| gO (xCl func233 (PW)) <| gO (xCl func15 (CM)) <| gO (by first|exact OJ rfl rfl rfl hf|exact xGt) <| gO xA ?_))
 exact AE rfl (.cons_ (Fd rfl rfl) .nil_)
def P2 (j:Nat):Int:=2 ^ (65506+j)
theorem AiZ (h:P2 i≤P2 j):i≤j:=Nat.not_lt.1 fun hc=>by
 unfold P2 at h
 rw [show 65506+i=(65506+j)+((i - j - 1)+1) by omega,aw,Int.pow_succ] at h
 have q1:=AI (65506+j)
 have q2:=AI (i - j - 1)
 have:=jp (show (2:Int)≤2 ^ (i - j - 1)*2 by omega) (au q1)
 omega
def inU (z:Int):Prop:=z=0∨∃ j:Nat,z=P2 j∨z = -P2 j
theorem Afk {x:Pq} (h0:x.1≠0):1≤Be x.1.natAbs∧2 ^ (Be x.1.natAbs - 1)≤x.1.natAbs∧x.1.natAbs<2 ^ Be x.1.natAbs:=by
 have h1:1≤Be x.1.natAbs:=Nat.one_le_iff_ne_zero.2 fun hc=>by
  have:Be x.1.natAbs≤0:=by omega
  have:=Cw.1 this
  omega
 refine ⟨h1,Nat.not_lt.1 fun hc=>?_,Cw.1 (aa _)⟩
 have:=Cw.2 hc
 omega
theorem Ali {x:Pq} (h:Sm x n n) (hn:n≤65000) (h30:30≤n):Sm (upP x) (n+2) (n+1)∧gv x≤gv (upP x)∧inU (gv (upP x)):=by
 by_cases h0:x.1=0
 ·exact ⟨by unfold upP;rw [if_pos h0];exact h.more (by omega) (by omega),by unfold upP;rw [if_pos h0];exact ci _,by unfold upP gv;rw [if_pos h0,h0,Int.zero_mul];exact .inl rfl⟩
 ·obtain ⟨b1,b2,b3⟩:=Afk h0
  have bn:Be x.1.natAbs≤n:=Cw.2 h.n
  have hd:=h.d
  have hk:upK x=(Be x.1.natAbs:Int) - 1 - x.2:=rfl
  have ex:gv x=x.1*2 ^ (GQ - x.2):=rfl
  have hG:GQ=65536:=rfl
  have pk:gv (pw (upK x))=2 ^ (Be x.1.natAbs - 1)*2 ^ (GQ - x.2):=by rw [IP (by omega) (by omega),←aw];congr 1;omega
  have pk1:gv (pw (upK x+1))=2 ^ Be x.1.natAbs*2 ^ (GQ - x.2):=by rw [IP (by omega) (by omega),←aw];congr 1;omega
  have grid:∀ k:Int,-30≤k→k≤65536→gv (pw k)=P2 (k+30).toNat:=fun k k0 k1=>by rw [IP (by omega) k1];unfold P2;congr 1;omega
  have p0:=AI (GQ - x.2)
  have c2:((2 ^ (Be x.1.natAbs - 1):Nat):Int)=2 ^ (Be x.1.natAbs - 1):=Int.natCast_pow ..
  have c3:((2 ^ Be x.1.natAbs:Nat):Int)=2 ^ Be x.1.natAbs:=Int.natCast_pow ..
  unfold upP
  rw [if_neg h0]
  by_cases h1:x.1<0
  ·rw [if_pos h1]
   by_cases h2:upK x < -30
   ·rw [if_pos h2]
    refine ⟨Sm.zero _ _,?_,by rw [Dw];exact .inl rfl⟩
    rw [Dw,ex]
    exact Int.mul_nonpos_of_nonpos_of_nonneg (au h1) (au p0)
   ·rw [if_neg h2]
    refine ⟨((Sy (n:=n) (by omega) (by omega) (by omega)).neg).more (by omega) (by omega),?_,?_⟩
    ·rw [EW,pk,ex,←dc]
     exact ct (by omega) (au p0)
    ·rw [EW,grid _ (by omega) (by omega)];exact .inr ⟨_,.inr rfl⟩
  ·rw [if_neg h1]
   have key:∀ k':Int,gv x≤gv (pw k')→k'≤n → -65536≤k'→Sm (pw (max k' (-30))) (n+2) (n+1)∧gv x≤gv (pw (max k' (-30)))∧inU (gv (pw (max k' (-30)))):=fun k' hk' hn' hl'=>by
    refine ⟨(Sy (n:=n) (by omega) (by omega) (by omega)).more (by omega) (by omega),eb hk' ?_,.inr ⟨_,.inl (grid _ (by omega) (by omega))⟩⟩
    rw [IP hl' (by omega),IP (by omega) (by omega)]
    have hle:(65536+k').toNat≤(65536+max k' (-30)).toNat:=by omega
    rw [show (65536+max k' (-30)).toNat=(65536+k').toNat+((65536+max k' (-30)).toNat - (65536+k').toNat) by omega,aw]
    have q1:=AI (65536+k').toNat
    have q2:=AI ((65536+max k' (-30)).toNat - (65536+k').toNat)
    have:=jp (show (1:Int)≤2 ^ ((65536+max k' (-30)).toNat - (65536+k').toNat) by omega) (au q1)
    rwa [Int.mul_one] at this
   have sk:=Sy (k:=upK x) (n:=n) (by omega) (by omega) (by omega)
   by_cases h3:Hd (pw (upK x)) x<0
   ·rw [if_pos h3]
    refine key _ ?_ (by omega) (by omega)
    rw [pk1,ex]
    exact ct (by omega) (au p0)
   ·rw [if_neg h3]
    exact key _ ((QH sk.le h.le).1 (Int.not_lt.1 h3)) (by omega) (by omega)
theorem YG (k:p') (h:Hd9 p'→p:=by with_reducible first|(intro Z9;refine qq ?_;exact Z9.o)|(intro Z9;refine Tx 0 ?_;refine gN xBo <| gN (xAl Am) ?_;exact Z9.o)|(intro Z9;refine Tx 1 ?_;refine gO xL <| gO (xCl func55 (SG)) <| gO xEq ?_;exact Z9.o)|fail):p:=h ⟨k⟩
theorem Abb (k:p') (h:Hd9 p'→p:=by with_reducible first|(intro Z9;refine Cj (id:=3) Bb (by kernel_rfl) ?_;refine gP xL <| gP (xCl func212 (BT)) <| gP xSb <| gP xF <| gP xD <| gP xSb <| gP xA ?_;refine Ke ?_;exact Z9.o)|(intro Z9;refine Tx 4 ?_;refine gO xL <| gO (xCl func55 (SG)) <| gO xLt ?_;exact Z9.o)|fail):p:=h ⟨k⟩
theorem Aja (k:p') (h:Hd9 p'→p:=by with_reducible first|(intro Z9;refine Cj (id:=8) Bb (by kernel_rfl) ?_;refine gP xM <| gP (xCl func233 (PW)) <| gP xL <| gP (xCl func15 (CM)) <| gP xLt ?_;refine Ke ?_;exact Z9.o)|(intro Z9;refine Tx 10 ?_;refine gO xM <| gO (by exact Gs rfl rfl rfl) <| gO (by first|exact xCl func233 (PM)|exact xCl func233 (PW)) <| gZ (xSk Ab) ?_;exact Z9.o)|fail):p:=h ⟨k⟩
theorem YH (x:Pq) (h:Sm x 20000 20000):CV prog Al 177 [aDy false x.1 x.2] [aDy false (upP x).1 (upP x).2]:=by
 refine cvz func177 ntmps177 ?_
 have hd:=h.d
 have hbn:Be x.1.natAbs≤20000:=Cw.2 h.n
 have hl:(Aa x.1.natAbs).length≤40000:=lT (h.lenN 625 (by decide)) (by decide)
 have SG:=He x.1 x.2 h.ok hl
 have BT:=Li x.1 x.2 h.ok hl
 have PW:=Lr (((Be x.1.natAbs:Nat):Int) - 1 - (x.2:Int)) (by omega) (by omega)
 have sp:=Sy (k:=((Be x.1.natAbs:Nat):Int) - 1 - (x.2:Int)) (n:=20001) (by omega) (by omega) (by decide)
 have lp:=lT (sp.lenN 626 (by decide)) (show 626≤40000 by decide)
 by_cases h0:x.1=0
 case pos =>
  rw [show upP x=x from if_pos h0]
  rw [show sgI x.1=0 by unfold sgI;(repeat' split) <;> omega] at SG
  repeat' (with_reducible first|refine YG ?_|(refine Tx 2 ?_;refine gO xL <| gZ (xSk Ab) ?_))
  exact Sv
 have hk:upK x=((Be x.1.natAbs:Nat):Int) - 1 - (x.2:Int):=rfl
 by_cases h1:x.1<0
 case pos =>
  rw [show sgI x.1 = -1 by unfold sgI;(repeat' split) <;> omega] at SG
  by_cases h2:((Be x.1.natAbs:Nat):Int) - 1 - (x.2:Int) < -30
  case pos =>
   rw [show upP x=(0,0) by unfold upP;rw [if_neg h0,if_pos h1,if_pos (by omega)],Gy]
   repeat' (with_reducible first|refine YG ?_|refine Abb ?_|(refine Tx 5 ?_;refine gO xM <| gO xLt ?_)|(refine Tx 6 ?_;refine gO (by exact AU rfl GR rfl rfl) <| gZ (xSk Ab) ?_))
   exact AE rfl (.cons_ (Ale Ab rfl) .nil_)
  rw [show upP x=Hc (pw (((Be x.1.natAbs:Nat):Int) - 1 - (x.2:Int))) by unfold upP;rw [if_neg h0,if_pos h1,if_neg (by omega),hk]]
  have NG:=EQ (pw (((Be x.1.natAbs:Nat):Int) - 1 - (x.2:Int))).1 (pw (((Be x.1.natAbs:Nat):Int) - 1 - (x.2:Int))).2 sp.ok lp
  repeat' (with_reducible first|refine YG ?_|refine Abb ?_|(refine Tx 5 ?_;refine gO xM <| gO xLt ?_)|(refine Tx 7 ?_;refine gO xM <| gO (xCl func233 (PW)) <| gO (xCl func176 (NG)) <| gZ (xSk Ab) ?_))
  exact Sv
 rw [show sgI x.1=1 by unfold sgI;(repeat' split) <;> omega] at SG
 have CM:=BJ (pw (((Be x.1.natAbs:Nat):Int) - 1 - (x.2:Int))).1 (pw (((Be x.1.natAbs:Nat):Int) - 1 - (x.2:Int))).2 x.1 x.2 sp.ok h.ok lp hl
 by_cases h3:Bx (pw (((Be x.1.natAbs:Nat):Int) - 1 - (x.2:Int))).1 (pw (((Be x.1.natAbs:Nat):Int) - 1 - (x.2:Int))).2 x.1 x.2<0
 case pos =>
  have PM:=Lr (max (((Be x.1.natAbs:Nat):Int) - 1 - (x.2:Int)+1) (-30)) (by omega) (by omega)
  rw [show upP x=pw (max (((Be x.1.natAbs:Nat):Int) - 1 - (x.2:Int)+1) (-30)) by unfold upP;rw [if_neg h0,if_neg h1,hk,if_pos h3]]
  repeat' (with_reducible first|refine YG ?_|refine Abb ?_|refine Aja ?_|(refine Tx 9 ?_;refine gO xM <| gO xAd <| gO xA ?_))
  exact Sv
 case neg =>
  have PM:=Lr (max (((Be x.1.natAbs:Nat):Int) - 1 - (x.2:Int)) (-30)) (by omega) (by omega)
  rw [show upP x=pw (max (((Be x.1.natAbs:Nat):Int) - 1 - (x.2:Int)) (-30)) by unfold upP;rw [if_neg h0,if_neg h1,hk,if_neg h3]]
  repeat' (with_reducible first|refine YG ?_|refine Abb ?_|refine Aja ?_)
  exact Sv
def UL:List Int:=0::((List.range 71).map P2++(List.range 71).map fun j => -P2 j)
def phi (z:Int):Nat:=UL.countP fun m=>decide (m<z)
def psi (z:Int):Nat:=UL.countP fun m=>decide (z<m)
theorem Acl:UL.length=143:=by unfold UL;rw [bl,am,af,af,gj]
theorem Ajb (z:Int):phi z≤143:=by have:=List.countP_le_length (p:=fun m=>decide (m<z)) (l:=UL);rw [Acl] at this;exact this
theorem Ajc (z:Int):psi z≤143:=by have:=List.countP_le_length (p:=fun m=>decide (z<m)) (l:=UL);rw [Acl] at this;exact this
theorem Pr {α:Type} {p q:α→Bool} {m:α} (h:∀ x,p x=true→q x=true) (h1:p m=false) (h2:q m=true):∀ {l:List α},m∈l→l.countP p<l.countP q
 | [],hm=>by cases hm
 | x::l,hm=>by
  have hle:l.countP p≤l.countP q:=List.countP_mono_left fun y _ hy=>h y hy
  rw [List.countP_cons,List.countP_cons]
  rcases List.mem_cons.1 hm with rfl|hm
  ·rw [h1,h2];simp;omega
  ·have ih:=Pr h h1 h2 hm
   cases hp:p x with
   | true=>rw [h x hp];omega
   | false=>simp;cases q x <;> simp <;> omega
theorem YI {z:Int} (h:inU z) (h1 : -P2 70≤z) (h2:z≤P2 70):z∈UL:=by
 unfold UL
 rcases h with rfl|⟨j,rfl|rfl⟩
 ·exact fc ..
 ·have:=AiZ h2
  exact ea _ (List.mem_append_left _ (jy (List.mem_range.2 (by omega))))
 ·have:=AiZ (i:=j) (j:=70) (by omega)
  exact ea _ (List.mem_append_right _ (jy (f:=fun j => -P2 j) (List.mem_range.2 (by omega))))
theorem Ajd {z z':Int} (hm:z'∈UL) (h:z'<z):phi z'<phi z:=Pr (p:=fun m=>decide (m<z')) (q:=fun m=>decide (m<z)) (m:=z') (fun x hx=>decide_eq_true (by have:=of_decide_eq_true hx;omega)) (decide_eq_false (by omega)) (decide_eq_true h) hm
theorem Aje {z z':Int} (hm:z'∈UL) (h:z<z'):psi z'<psi z:=Pr (p:=fun m=>decide (z'<m)) (q:=fun m=>decide (z<m)) (m:=z') (fun x hx=>decide_eq_true (by have:=of_decide_eq_true hx;omega)) (decide_eq_false (by omega)) (decide_eq_true h) hm
theorem Ajf {a:Iq} {d:Nat} (h:IwS a n d) (hf:Nc a=false) : -P2 70≤gv a.1∧gv a.1≤P2 70 ∧ -P2 70≤gv a.2∧gv a.2≤P2 70:=by
 have hp:=Sy (k:=40) (n:=40) (by decide) (by decide) (by decide)
 have h1:=of_decide_eq_false hf
 have h2:=(FA (p:=DM a) (q:=pw 40) h.abs.s2.le hp.le).1 (Int.not_lt.1 h1)
 rw [IP (by decide) (by decide),show gv (DM a)=_ from (HW h).2] at h2
 have e:(2:Int) ^ (65536+(40:Int)).toNat=P2 70:=by unfold P2;congr 1
 rw [e] at h2
 omega
theorem Ps {p:Pq} {d:Nat} (h:Sm p n d) (hd:den≤65536):Sm (Od p den) n den:=by
 unfold Od Bz
 split
 ·exact ⟨h.ok,h.n,by assumption⟩
 ·exact Sm.mk_nf (aa _) hd (fy QK h.n)
theorem Abc {a:Iq} {d:Nat} (h:IwS a n d) (hd:den≤65536):IwS (FD a den) n den∧gv (FD a den).1≤gv a.1∧gv a.2≤gv (FD a den).2:=by
 have f1:=Pg (p:=a.1) (den:=den) h.s1.le hd
 have f2:=Pg (p:=Hc a.2) (den:=den) h.s2.neg.le hd
 rw [EW] at f2
 have g1:gv (FD a den).1≤gv a.1:=f1.1
 have g2:gv a.2≤gv (FD a den).2:=by
  show _≤gv (Hc (Od (Hc a.2) den))
  rw [EW]
  have f3:gv (Od (Hc a.2) den) ≤ -gv a.2:=f2.1
  omega
 exact ⟨⟨Ps h.s1 hd,(Ps h.s2.neg hd).neg,by have:=h.le;omega⟩,g1,g2⟩
def DH (inv r:Iq):Iq:=FD (GA inv r) 64
def loC (inv r:Iq):Bool:=decide (¬ (DH inv r).1=inv.1)
def hiC (inv r:Iq):Bool:=decide (¬ (DH inv r).2=inv.2)
def De (w:Bool) (inv r:Iq):Iq:=(if (w && loC inv r)=true then Hc (upP (Hc (DH inv r).1)) else (DH inv r).1,if (w && hiC inv r)=true then upP (DH inv r).2 else (DH inv r).2)
theorem Afl {a b:Iq} {d:Nat} (h:IwS a n d) (k:IwS b n d):gv (GA a b).1=min (gv a.1) (gv b.1)∧gv (GA a b).2=max (gv a.2) (gv b.2):=by
 obtain ⟨e1,e2,e3⟩:=ED h.s1 h.s2 k.s1 k.s2
 have h1:=h.le
 have h2:=k.le
 exact ⟨by show gv (Co [a.1,a.2,b.1,b.2]).1=_;rw [e1];omega,by show gv (Co [a.1,a.2,b.1,b.2]).2=_;rw [e2];omega⟩
theorem YJ {a r:Iq} (h:IwS a LB LB) (k:IwS r LB LB):IwS (DH a r) LB 64∧gv (DH a r).1≤gv a.1∧gv (DH a r).1≤gv r.1∧gv a.2≤gv (DH a r).2∧gv r.2≤gv (DH a r).2:=by
 obtain ⟨e1,e2⟩:=Afl h k
 obtain ⟨s,r1,r2⟩:=Abc (h.hull k) (den:=64) (by decide)
 exact ⟨s,by show gv (FD (GA a r) 64).1≤_;omega,by show gv (FD (GA a r) 64).1≤_;omega,by show _≤gv (FD (GA a r) 64).2;omega,by show _≤gv (FD (GA a r) 64).2;omega⟩
theorem Sz {p:Pq} (h:Sm p LB 64):Sm (upP p) 20000 20000∧gv p≤gv (upP p)∧inU (gv (upP p)):=by
 obtain ⟨h1,h2,h3⟩:=Ali (h.more (aa LB) (show 64≤LB by decide)) (by decide) (by decide)
 exact ⟨h1.more (by decide) (by decide),h2,h3⟩
theorem SA {a r:Iq} (h:IwS a LB LB) (k:IwS r LB LB):IwS (De w a r) 20000 20000∧gv (De w a r).1≤gv a.1∧gv a.2≤gv (De w a r).2 ∧
  (w=true→((loC a r=false∧(De w a r).1=a.1)∨(gv (De w a r).1<gv a.1∧inU (gv (De w a r).1)))∧((hiC a r=false∧(De w a r).2=a.2)∨(gv a.2<gv (De w a r).2∧inU (gv (De w a r).2)))):=by
 obtain ⟨s,r1,r2,r3,r4⟩:=YJ h k
 have hh:=h.le
 obtain ⟨u1,u2,u3⟩:Sm (upP (Hc (DH a r).1)) 20000 20000∧gv (Hc (DH a r).1)≤gv (upP (Hc (DH a r).1))∧inU (gv (upP (Hc (DH a r).1))):=Sz s.s1.neg
 obtain ⟨v1,v2,v3⟩:=Sz s.s2
 rw [show gv (Hc (DH a r).1) = -gv (DH a r).1 from EW _] at u2
 have q1:Sm (De w a r).1 20000 20000∧gv (De w a r).1≤gv a.1∧(w=true→((loC a r=false∧(De w a r).1=a.1)∨(gv (De w a r).1<gv a.1∧inU (gv (De w a r).1)))):=by
  show Sm (if (w && loC a r)=true then _ else _) _ _∧gv (if (w && loC a r)=true then _ else _)≤_∧(w=true→((_∧(if (w && loC a r)=true then _ else _)=_)∨(gv (if (w && loC a r)=true then _ else _)<_∧inU (gv (if (w && loC a r)=true then _ else _)))))
  by_cases hc:(w && loC a r)=true
  ·rw [if_pos hc]
   rw [aj] at hc
   have hne:¬ (DH a r).1=a.1:=of_decide_eq_true hc.2
   have hlt:gv (DH a r).1<gv a.1:=Int.lt_iff_le_and_ne.2 ⟨r1,fun e=>hne (Oc s.s1.ok h.s1.ok e)⟩
   rw [EW]
   refine ⟨u1.neg,by omega,fun _=>.inr ⟨by omega,?_⟩⟩
   rcases u3 with e|⟨j,e|e⟩
   ·exact .inl (by omega)
   ·exact .inr ⟨j,.inr (by omega)⟩
   ·exact .inr ⟨j,.inl (by omega)⟩
  ·rw [if_neg hc]
   refine ⟨s.s1.more (by decide) (by decide),r1,fun hw=>.inl ?_⟩
   rw [hw,dr,bc] at hc
   exact ⟨hc,df fun hn=>by rw [show loC a r=true from decide_eq_true hn] at hc;cases hc⟩
 have q2:Sm (De w a r).2 20000 20000∧gv a.2≤gv (De w a r).2∧(w=true→((hiC a r=false∧(De w a r).2=a.2)∨(gv a.2<gv (De w a r).2∧inU (gv (De w a r).2)))):=by
  show Sm (if (w && hiC a r)=true then _ else _) _ _∧_≤gv (if (w && hiC a r)=true then _ else _)∧(w=true→((_∧(if (w && hiC a r)=true then _ else _)=_)∨(_<gv (if (w && hiC a r)=true then _ else _)∧inU (gv (if (w && hiC a r)=true then _ else _)))))
  by_cases hc:(w && hiC a r)=true
  ·rw [if_pos hc]
   rw [aj] at hc
   have hne:¬ (DH a r).2=a.2:=of_decide_eq_true hc.2
   have hlt:gv a.2<gv (DH a r).2:=Int.lt_iff_le_and_ne.2 ⟨r3,fun e=>hne (Oc h.s2.ok s.s2.ok e).symm⟩
   exact ⟨v1,by omega,fun _=>.inr ⟨by omega,v3⟩⟩
  ·rw [if_neg hc]
   refine ⟨s.s2.more (by decide) (by decide),r3,fun hw=>.inl ?_⟩
   rw [hw,dr,bc] at hc
   exact ⟨hc,df fun hn=>by rw [show hiC a r=true from decide_eq_true hn] at hc;cases hc⟩
 exact ⟨⟨q1.1,q2.1,by have:=q1.2.1;have:=q2.2.1;omega⟩,q1.2.1,q2.2.1,fun hw=>⟨q1.2.2 hw,q2.2.2 hw⟩⟩
def rgA (ps:List Prt) (bs:List Bk) (l:List Iq) (k:Nat):Iq:=(rgV ps bs l)[Akk bs ((Bd bs)[k]?.getD 0)]?.getD iZ
def nxI (ps:List Prt) (bs:List Bk) (w:Bool) (l:List Iq) (k:Nat):Iq:=De w (l[k]?.getD iZ) (rgA ps bs l k)
def Cg (ps:List Prt) (bs:List Bk) (w:Bool) (l:List Iq):List Iq:=(List.range (Bd bs).length).map (nxI ps bs w l)
def Akl (ps:List Prt) (bs:List Bk) (l:List Iq) (k:Nat):Bool:=loC (l[k]?.getD iZ) (rgA ps bs l k) || hiC (l[k]?.getD iZ) (rgA ps bs l k)
def Uj (ps:List Prt) (bs:List Bk) (l:List Iq) (k:Nat):Bool:=(List.range k).any (Akl ps bs l)
def EX (ps:List Prt) (bs:List Bk) (rd:Int):Nat→Nat→List Iq→Option (Int × List Iq)
 | 0,_,_=>none
 | f+1,r,l=>if CO ps bs l=true then some (4,[]) else if Uj ps bs l (Bd bs).length=false then some (0,l)
  else if (Cg ps bs (decide (rd<(r:Int))) l).any Nc=true then some (22,[]) else EX ps bs rd f (r+1) (Cg ps bs (decide (rd<(r:Int))) l)
structure QW (bs:List Bk) (l:List Iq):Prop where
 len:l.length=(Bd bs).length
 iw:∀ a∈l,IwS a 20000 20000
 far:∀ a∈l,Nc a=false
 st:∀ k,k<(Bd bs).length→gv (l[k]?.getD iZ).1≤gv ((BV bs)[k]?.getD (0,0))∧gv ((BV bs)[k]?.getD (0,0))≤gv (l[k]?.getD iZ).2
theorem Hh {α:Type} {l:List α} {k:Nat} (h:k<l.length) (z:α):l[k]?.getD z∈l:=by rw [gE h,ax];exact fe h
section
variable {ps:List Prt} {bs:List Bk} {os:List Int} {l:List Iq} {rd:Int}
theorem QX (w:Bool):(Cg ps bs w l).length=(Bd bs).length:=by unfold Cg;rw [af,gj]
theorem Uk (w:Bool) {k:Nat} (hk:k<(Bd bs).length):(Cg ps bs w l)[k]?=some (nxI ps bs w l k):=by unfold Cg;rw [ag,jm hk];rfl
theorem QW.lb (h:QW bs l) (hb:CO ps bs l=false):∀ a∈l,IwS a LB LB:=fun a ha=>Og (h.iw a ha) ((YB hb).1 a ha)
theorem Ul (he:AP ps bs os=0) (h:QW bs l) (hb:CO ps bs l=false) {k:Nat} (hk:k<(Bd bs).length):IwS (rgA ps bs l k) LB LB:=by
 obtain ⟨i,hi⟩:∃ i,(Bd bs)[k]?=some i:=⟨_,gE hk⟩
 have hid:=Iz hi
 obtain ⟨y,hy⟩:∃ y,bs[i]?=some y:=⟨_,gE hid.1⟩
 obtain ⟨b,hA0,hbl⟩:=Yf he hy (by rw [←Dv hy];exact hid.2)
 obtain ⟨r,hr,_,hrs⟩:=YF he (h.lb hb) h.len hb hbl
 unfold rgA
 rw [hi,ax,Yg hy hA0,hr]
 exact hrs
theorem QW.next (he:AP ps bs os=0) (h:QW bs l) (hb:CO ps bs l=false) (w:Bool) (hf:(Cg ps bs w l).any Nc=false):QW bs (Cg ps bs w l):=by
 have key:∀ k,k<(Bd bs).length→IwS (nxI ps bs w l k) 20000 20000∧gv (nxI ps bs w l k).1≤gv (l[k]?.getD iZ).1∧gv (l[k]?.getD iZ).2≤gv (nxI ps bs w l k).2:=fun k hk=>by
  have:=SA (w:=w) (h.lb hb _ (Hh (by rw [h.len];exact hk) iZ)) (Ul he h hb hk)
  exact ⟨this.1,this.2.1,this.2.2.1⟩
 refine ⟨QX w,fun a ha=>?_,fun a ha=>?_,fun k hk=>?_⟩
 ·obtain ⟨k,hk,rfl⟩:=List.mem_map.1 ha
  exact (key k (List.mem_range.1 hk)).1
 ·have:=List.any_eq_false.1 hf a ha
  rwa [bc] at this
 ·rw [Uk w hk,ax]
  obtain ⟨_,k1,k2⟩:=key k hk
  obtain ⟨s1,s2⟩:=h.st k hk
  exact ⟨eb k1 s1,eb s2 k2⟩
theorem Abd (h:Uj ps bs l (Bd bs).length=false) {k:Nat} (hk:k<(Bd bs).length):loC (l[k]?.getD iZ) (rgA ps bs l k)=false∧hiC (l[k]?.getD iZ) (rgA ps bs l k)=false:=by
 have:=List.any_eq_false.1 h k (List.mem_range.2 hk)
 rw [bc] at this
 exact Bool.or_eq_false_iff.1 this
theorem YK (he:AP ps bs os=0) (h:QW bs l) (hb:CO ps bs l=false) (hc:Uj ps bs l (Bd bs).length=false):Vn ps bs l=true:=Aba fun k hk=>by
 have hl:=h.lb hb _ (Hh (l:=l) (k:=k) (by rw [h.len];exact hk) iZ)
 have hr:=Ul he h hb hk
 have hst:=Ll he
 have hs:=En hst.sm k
 obtain ⟨s1,s2⟩:=h.st k hk
 obtain ⟨c1,c2⟩:=Abd hc hk
 have e1:(DH (l[k]?.getD iZ) (rgA ps bs l k)).1=(l[k]?.getD iZ).1:=df fun hn=>by rw [show loC _ _=true from decide_eq_true hn] at c1;cases c1
 have e2:(DH (l[k]?.getD iZ) (rgA ps bs l k)).2=(l[k]?.getD iZ).2:=df fun hn=>by rw [show hiC _ _=true from decide_eq_true hn] at c2;cases c2
 obtain ⟨_,_,r2,_,r4⟩:=YJ hl hr
 rw [e1] at r2
 rw [e2] at r4
 show (iIn _ _ && iIn (rgA ps bs l k) _)=true
 rw [Ym (IwS.pt hs) hl,Ym hr hl,decide_eq_true (show _∧_ from ⟨s1,s2⟩),decide_eq_true (show _∧_ from ⟨r2,r4⟩)]
 rfl
theorem Um (he:AP ps bs os=0):∀ (f r:Nat) (l:List Iq) (e:Int) (l':List Iq),QW bs l→EX ps bs rd f r l=some (e,l')→(e=0∧QW bs l'∧CO ps bs l'=false∧Vn ps bs l'=true)∨((e=4∨e=22)∧l'=[])
 | 0,r,l,e,l',h,hi=>by cases hi
 | f+1,r,l,e,l',h,hi=>by
  unfold EX at hi
  by_cases h1:CO ps bs l=true
  ·rw [if_pos h1] at hi;cases hi;exact .inr ⟨.inl rfl,rfl⟩
  ·rw [if_neg h1] at hi
   rw [bc] at h1
   by_cases h2:Uj ps bs l (Bd bs).length=false
   ·rw [if_pos h2] at hi;cases hi;exact .inl ⟨rfl,h,h1,YK he h h1 h2⟩
   ·rw [if_neg h2] at hi
    by_cases h3:(Cg ps bs (decide (rd<(r:Int))) l).any Nc=true
    ·rw [if_pos h3] at hi;cases hi;exact .inr ⟨.inr rfl,rfl⟩
    ·rw [if_neg h3] at hi
     rw [bc] at h3
     exact Um he f (r+1) _ e l' (h.next he h1 _ h3) hi
def mI (a:Iq):Nat:=phi (gv a.1)+psi (gv a.2)
def mL (bs:List Bk) (l:List Iq):Nat:=((List.range (Bd bs).length).map fun k=>mI (l[k]?.getD iZ)).sum
theorem Acm {α:Type} {f:α→Nat} {B:Nat} (h:∀ k,f k≤B):∀ L:List α,(L.map f).sum≤B*L.length
 | []=>by simp
 | x::L=>by
  have:=Acm h L
  have:=h x
  rw [bk,List.sum_cons,bl,Nat.mul_succ]
  omega
theorem Acn {f g:Nat→Nat}:∀ {L:List Nat},(∀ k∈L,f k≤g k)→((L.map f).sum≤(L.map g).sum)∧((∃ k∈L,f k<g k)→(L.map f).sum<(L.map g).sum)
 | [],h=>⟨aa _,fun ⟨k,hk,_⟩=>by cases hk⟩
 | x::L,h=>by
  obtain ⟨i1,i2⟩:=Acn (L:=L) fun k hk=>h k (ea _ hk)
  have hx:=h x (fc ..)
  rw [bk,bk,List.sum_cons,List.sum_cons]
  refine ⟨by omega,fun ⟨k,hk,hlt⟩=>?_⟩
  rcases List.mem_cons.1 hk with rfl|hk
  ·omega
  ·have:=i2 ⟨k,hk,hlt⟩;omega
theorem Alj:mL bs l≤286*(Bd bs).length:=by
 have:=Acm (f:=fun k=>mI (l[k]?.getD iZ)) (B:=286) (fun k=>by have:=Ajb (gv (l[k]?.getD iZ).1);have:=Ajc (gv (l[k]?.getD iZ).2);unfold mI;omega) (List.range (Bd bs).length)
 rwa [gj] at this
theorem Alk (he:AP ps bs os=0) (h:QW bs l) (hb:CO ps bs l=false) (hc:¬ Uj ps bs l (Bd bs).length=false) (hf:(Cg ps bs true l).any Nc=false):mL bs (Cg ps bs true l)<mL bs l:=by
 have hn:=h.next he hb true hf
 have key:∀ k,k<(Bd bs).length→mI ((Cg ps bs true l)[k]?.getD iZ)≤mI (l[k]?.getD iZ)∧(Akl ps bs l k=true→mI ((Cg ps bs true l)[k]?.getD iZ)<mI (l[k]?.getD iZ)):=fun k hk=>by
  have hm:=Hh (l:=Cg ps bs true l) (k:=k) (by rw [hn.len];exact hk) iZ
  obtain ⟨f1,f2,f3,f4⟩:=Ajf (hn.iw _ hm) (hn.far _ hm)
  have hs:=SA (w:=true) (h.lb hb _ (Hh (by rw [h.len];exact hk) iZ)) (Ul he h hb hk)
  have e:(Cg ps bs true l)[k]?.getD iZ=De true (l[k]?.getD iZ) (rgA ps bs l k):=by rw [Uk true hk];rfl
  rw [e] at f1 f2 f3 f4 ⊢
  obtain ⟨_,_,_,h4⟩:=hs
  obtain ⟨a1,a2⟩:=h4 rfl
  have hcb:Akl ps bs l k=(loC (l[k]?.getD iZ) (rgA ps bs l k) || hiC (l[k]?.getD iZ) (rgA ps bs l k)):=rfl
  have b1:phi (gv (De true (l[k]?.getD iZ) (rgA ps bs l k)).1)≤phi (gv (l[k]?.getD iZ).1)∧(loC (l[k]?.getD iZ) (rgA ps bs l k)=true→phi (gv (De true (l[k]?.getD iZ) (rgA ps bs l k)).1)<phi (gv (l[k]?.getD iZ).1)):=by
   rcases a1 with ⟨c,e⟩|⟨c,u⟩
   ·rw [e,c];exact ⟨aa _,fun h=>by cases h⟩
   ·have:=Ajd (YI u f1 f2) c
    exact ⟨by omega,fun _=>this⟩
  have b2:psi (gv (De true (l[k]?.getD iZ) (rgA ps bs l k)).2)≤psi (gv (l[k]?.getD iZ).2)∧(hiC (l[k]?.getD iZ) (rgA ps bs l k)=true→psi (gv (De true (l[k]?.getD iZ) (rgA ps bs l k)).2)<psi (gv (l[k]?.getD iZ).2)):=by
   rcases a2 with ⟨c,e⟩|⟨c,u⟩
   ·rw [e,c];exact ⟨aa _,fun h=>by cases h⟩
   ·have:=Aje (YI u f3 f4) c
    exact ⟨by omega,fun _=>this⟩
  unfold mI
  refine ⟨by omega,fun hch=>?_⟩
  rw [hcb,em] at hch
  rcases hch with hch|hch
  ·have:=b1.2 hch;omega
  ·have:=b2.2 hch;omega
 rw [jo] at hc
 obtain ⟨k,hk,hck⟩:=List.any_eq_true.1 hc
 exact (Acn fun k hk=>(key k (List.mem_range.1 hk)).1).2 ⟨k,hk,(key k (List.mem_range.1 hk)).2 hck⟩
theorem Oh (he:AP ps bs os=0):∀ (f r:Nat) (l:List Iq),QW bs l→rd<(r:Int)→mL bs l<f→∃ res,EX ps bs rd f r l=some res
 | 0,r,l,h,hr,hm=>absurd hm (gl _)
 | f+1,r,l,h,hr,hm=>by
  unfold EX
  by_cases h1:CO ps bs l=true
  ·rw [if_pos h1];exact ⟨_,rfl⟩
  ·rw [if_neg h1]
   rw [bc] at h1
   by_cases h2:Uj ps bs l (Bd bs).length=false
   ·rw [if_pos h2];exact ⟨_,rfl⟩
   ·rw [if_neg h2,decide_eq_true hr]
    by_cases h3:(Cg ps bs true l).any Nc=true
    ·rw [if_pos h3];exact ⟨_,rfl⟩
    ·rw [if_neg h3]
     rw [bc] at h3
     have:=Alk he h h1 h2 h3
     exact Oh he f (r+1) _ (h.next he h1 _ h3) (by omega) (by omega)
theorem Oi (he:AP ps bs os=0):∀ (d f r:Nat) (l:List Iq),QW bs l→rd<(r:Int)+d→d+286*(Bd bs).length<f→∃ res,EX ps bs rd f r l=some res
 | 0,f,r,l,h,hr,hf=>Oh he f r l h (by omega) (by have:=Alj (bs:=bs) (l:=l);omega)
 | d+1,0,r,l,h,hr,hf=>absurd hf (gl _)
 | d+1,f+1,r,l,h,hr,hf=>by
  unfold EX
  by_cases h1:CO ps bs l=true
  ·rw [if_pos h1];exact ⟨_,rfl⟩
  ·rw [if_neg h1]
   rw [bc] at h1
   by_cases h2:Uj ps bs l (Bd bs).length=false
   ·rw [if_pos h2];exact ⟨_,rfl⟩
   ·rw [if_neg h2]
    by_cases h3:(Cg ps bs (decide (rd<(r:Int))) l).any Nc=true
    ·rw [if_pos h3];exact ⟨_,rfl⟩
    ·rw [if_neg h3]
     rw [bc] at h3
     exact Oi he d f (r+1) _ (h.next he h1 _ h3) (by omega) (by omega)
def Cp (bs:List Bk):List Iq:=(BV bs).map fun p=>(p,p)
theorem Oj (he:AP ps bs os=0) (hf:(Cp bs).any Nc=false):QW bs (Cp bs):=by
 have hst:=Ll he
 refine ⟨by unfold Cp;rw [af];exact hst.len,fun a ha=>?_,fun a ha=>?_,fun k hk=>?_⟩
 ·obtain ⟨p,hp,rfl⟩:=List.mem_map.1 ha
  exact (IwS.pt (hst.sm p hp)).more (by decide) (by decide)
 ·have:=List.any_eq_false.1 hf a ha
  rwa [bc] at this
 ·obtain ⟨p,hp⟩:∃ p,(BV bs)[k]?=some p:=⟨_,gE (by rw [hst.len];exact hk)⟩
  unfold Cp
  rw [ag,hp]
  exact ⟨ci _,ci _⟩
end
def Nd (a:Iq):Rv × Rv:=(DZ a.1,DZ a.2)
theorem MF (l:List Iq):VP (l.map Nd)=.row false 6 l.length (Ay (dIw false) l):=by
 unfold VP Ay
 rw [af,de]
 congr 2
 refine dz fun a _=>?_
 show dRv false (DZ a.1)++dRv false (DZ a.2)=dIw false a
 rw [Mt,Mt]
 rfl
theorem Ls (l:List Iq):(l.map Nd).map ivQ=l:=by
 rw [de]
 refine (dz fun a _=>?_).trans (List.map_id l)
 show (rvP (DZ a.1),rvP (DZ a.2))=a
 rw [IB,IB]
section
variable {ps:List Prt} {bs:List Bk} {os:List Int} {l:List Iq} {rd:Int}
theorem QY {d:Nat} (h:∀ a∈l,IwS a n d) (hn:n≤1280000):∀ q∈l.map Nd,RvL q.1∧RvL q.2:=fun q hq=>by
 obtain ⟨a,ha,rfl⟩:=List.mem_map.1 hq
 exact ⟨Mu (h a ha).s1 hn,Mu (h a ha).s2 hn⟩
theorem Aco {d:Nat} (h0:AP ps bs os=0) (h:∀ a∈l,IwS a n d) (hl:l.length=(Bd bs).length):rgE ps bs os (l.map Nd)=if CO ps bs l=true then 4 else 0:=by
 rw [rgE4 h0 (by rw [af];exact hl) (by rw [jo];exact List.all_eq_true.2 fun q hq=>by obtain ⟨a,ha,rfl⟩:=List.mem_map.1 hq;exact AaR (h a ha)),Ls]
def nxS (ps:List Prt) (bs:List Bk) (w:Bool) (l:List Iq) (k:Nat):List (Option Iq):=(List.range (Bd bs).length).map fun j=>if j<k then some (nxI ps bs w l j) else none
theorem YL {k:Nat}:(nxS ps bs w l k).length=(Bd bs).length:=by unfold nxS;rw [af,gj]
theorem All:List.replicate (Bd bs).length none=nxS ps bs w l 0:=by
 unfold nxS
 refine ew fun i=>?_
 rw [ag,ja]
 by_cases hi:i<(Bd bs).length
 ·rw [jm hi,if_pos hi];rfl
 ·rw [dg (by rw [gj];omega),if_neg hi];rfl
theorem Afm {k:Nat} (hk:k<(Bd bs).length):(nxS ps bs w l k).set k (some (nxI ps bs w l k))=nxS ps bs w l (k+1):=by
 refine ew fun i=>?_
 rw [bt,YL]
 unfold nxS
 rw [ag,ag]
 by_cases hi:i<(Bd bs).length
 ·rw [jm hi,ck,ck]
  by_cases hik:k=i
  ·subst hik
   rw [if_pos rfl,if_pos hk,if_pos (by omega)]
  ·rw [if_neg hik]
   by_cases h2:i<k
   ·rw [if_pos h2,if_pos (by omega)]
   ·rw [if_neg h2,if_neg (by omega)]
 ·rw [dg (by rw [gj];omega),if_neg (by omega)];rfl
theorem Afn:kWs (nxS ps bs w l (Bd bs).length)=(Ay (dIw false) (Cg ps bs w l)).map C.d:=by
 unfold kWs nxS Ay Cg
 rw [List.map_flatten,de,de,de]
 congr 1
 refine dz fun j hj=>?_
 show kW (if j<_ then _ else _)=_
 rw [if_pos (List.mem_range.1 hj)]
 rfl
theorem YM {k b:Nat} {a r:Iq} (hi:(Bd bs)[k]?=some i) (hy:bs[i]?=some y) (hA:y.args[0]?=some (b:Int)) (ha:l[k]?=some a) (hr:(rgV ps bs l)[b]?=some r):Uj ps bs l (k+1)=(Uj ps bs l k || loC a r || hiC a r)∧(∀ w,nxI ps bs w l k=De w a r):=by
 have e1:rgA ps bs l k=r:=by unfold rgA;rw [hi,ax,Yg hy hA,hr,ax]
 refine ⟨?_,fun w=>by unfold nxI;rw [ha,ax,e1]⟩
 unfold Uj
 rw [cr,List.any_append,List.any_cons,List.any_nil,Bool.or_false]
 unfold Akl
 rw [ha,ax,e1,Bool.or_assoc]
theorem Acp {p q:Pq} {d:Nat} (hp:Sm p n d) (hq:Sm q n' d'):(Bx p.1 p.2 q.1 q.2 != 0)=decide (¬ p=q):=by
 rw [io,bne_iff_ne,decide_eq_true_eq]
 refine not_congr ((Aix hp.le hq.le).trans ⟨fun h=>Oc hp.ok hq.ok h,fun h=>by rw [h]⟩)
def IE (ps:List Prt) (bs:List Bk) (rd:Int) (f:Nat):Option (Int × List Iq):=if (Cp bs).any Nc=true then some (22,[]) else EX ps bs rd f 1 (Cp bs)
theorem Vo {l:List Iq} {k:Nat} {p:Iq} (h:l[k]?=some p):(Ay (dIw false) (l.take k)).map C.d++(dIw false p).map C.d=(Ay (dIw false) (l.take (k+1))).map C.d∧(l.take k).length+1=(l.take (k+1)).length∧(l.take k).length≤k:=by
 exact AiC
end
theorem Ajg (k:p') (h:Hd9 p'→p:=by with_reducible first|(intro Z9;refine Tx 12 ?_;refine gO (xIr Ag (AeC hp)) <| gO xL <| gN (xAl Am) <| gZ (xSk Ab) ?_;exact Z9.o)|(intro Z9;refine Tx 13 ?_;refine gO xL <| gO (xCl func140 (PT)) <| gN (xAl Ah) <| gZ (xSk Ac) ?_;exact Z9.o)|(intro Z9;refine Tx 14 ?_;refine gO xL <| gO (xCl func174 (FR)) ?_;exact Z9.o)|fail):p:=h ⟨k⟩
theorem Vp (t:Bool) {ps:List Prt} {bs:List Bk} {os:List Int} (hl:Ff ps bs os) (h0:AP ps bs os=0) (rd:Int) (r0:1≤rd) (r1:rd≤16) (res:Int × List Iq) (f:Nat) (hf:f≤1000000000) (hres:IE ps bs rd f=some res):CV prog Al 84 [aDg t ps bs os,aI rd] [AiW res.2,aE res.1]:=by
 refine cvz func84 ntmps84 ?_
 have SC:=Yn t hl (ps:=ps) (bs:=bs) (os:=os)
 have DL:=(GZ t hl (ps:=ps) (bs:=bs) (os:=os)).cv
 rw [h0,Ye rfl] at SC
 rw [if_pos h0,h0] at DL
 unfold Alf at SC
 have hnl:=Dg (Bd bs)
 have hl2:=hl.l2
 have hdb:=Ia bs
 have hso:=Ll h0
 have hsl:=hso.len
 have hsi:(Cp bs).length=(BV bs).length:=af ..
 repeat' (with_reducible first|refine qq ?_|(refine Tx 0 ?_;refine gN xBo <| gO xA <| gO xA ?_)|(refine Tx 1 ?_;refine gO xL <| gO (xCl func53 (SC)) <| gO xMt <| gO xEx <| gO xEx <| gO xA <| gO xA ?_)|(refine Tx 2 ?_;refine gO xM <| gO (xNE Ai) ?_)|(refine Tx 4 ?_;refine gO xM <| gO xLt <| gO xM ?_;(first|iterate 2 refine Jd ?_|(refine Jy xM1 ?_;refine Jy xGt ?_));refine gO xPk ?_)|(refine Tx 6 ?_;refine gO xL <| gO (xCl func19 (DL)) <| gO xMt <| gO xEx <| gO xEx <| gO xA <| gO xA ?_)|(refine Tx 7 ?_;refine gO xM <| gO (xNE Ai) ?_)|(refine Tx 9 ?_;refine gO xA ?_)|(refine Tx 10 ?_;refine gO xM <| gO xN <| gO xM ?_))
 refine Bm (NF 9 45 6 rfl) ?_
 refine Bm (Cb 2) (Aw (fun n Fr H=>∃ k:Nat,k≤(BV bs).length∧n=(BV bs).length - k∧(∀ p∈((Cp bs).take (k)),Nc p=false)∧Fr=ofL [(1,vd (.val (.int .i64 rd))),(2,vr 0),(8,vd (Bw false (Cu (Bd bs)))),(9,vo 1 (((Cp bs).take k).length)),(49,vd (.row false 3 (BV bs).length (Ay dyP (BV bs)))),(50,vi ((BV bs).length)),(51,vi ((k:Nat)))]∧H=[.box 26 [.d (EP t ps),.d (Ee t bs),.d (Bw t os)],.row 45 6 ((Cp bs).take (k)).length ((Ay (dIw false) ((Cp bs).take (k))).map C.d)]) (n0:=(BV bs).length) ⟨0,ad _,rfl,(fun p hp=>by simp at hp),rfl,rfl⟩ ?_)
 rintro n Fr H ⟨k,hk,rfl,hnf,rfl,rfl⟩
 by_cases hlt:k<(BV bs).length
 case pos =>
  obtain ⟨p,hp⟩:∃ p,(BV bs)[k]?=some p:=⟨_,gE hlt⟩
  have hsm:=hso.sm p (gM hp)
  have lp:=lT (hsm.lenN 128 (by decide)) (show 128≤40000 by decide)
  have PT:=CI p hsm.ok lp
  have FR:=Ui (p,p) ((IwS.pt hsm).more (by decide) (by decide))
  have hsp:(Cp bs)[k]?=some (p,p):=by unfold Cp;rw [ag,hp];rfl
  obtain ⟨hap,hap2,hoL⟩:=Vo hsp
  cases hf:Nc (p,p)
  case true =>
   rw [hf] at FR
   have hany:(Cp bs).any Nc=true:=List.any_eq_true.2 ⟨_,gM hsp,hf⟩
   rw [show IE ps bs rd f=some (22,[]) from if_pos hany] at hres
   cases hres
   repeat' (with_reducible first|refine qq ?_|(refine Tx 11 ?_;refine gO xLt ?_)|refine Ajg ?_|(refine Tx 15 ?_;refine gO (xMi underlying109) <| gO xA <| gO xA ?_))
   exact Sw
  case false =>
   rw [hf] at FR
   repeat' (with_reducible first|refine qq ?_|(refine Tx 11 ?_;refine gO xLt ?_)|refine Ajg ?_|(refine Tx 16 ?_;refine gO xM <| gO xL <| gN (by exact Cn rfl Af Ah rfl rfl (by decide) (by decide)) <| gT (by exact WY rfl rfl rfl rfl rfl rfl Af Ah (by omega) (by decide) (by decide) rfl hap hap2) <| gO xA ?_)|(refine Tx 17 ?_;refine gO xAd <| gO xM ?_))
   refine ⟨_,_,Cb 2,_,?_,k+1,by omega,rfl,EA hnf hsp hf,rfl,rfl⟩
   ·omega
 obtain rfl:k=(BV bs).length:=by omega
 clear hlt hk
 have htk:(Cp bs).take (BV bs).length=Cp bs:=by rw [←hsi,bh]
 rw [htk] at hnf ⊢
 have hany:(Cp bs).any Nc=false:=List.any_eq_false.2 fun p hp=>by rw [hnf p hp];decide
 rw [show IE ps bs rd f=EX ps bs rd f 1 (Cp bs) from if_neg (by rw [hany];decide)] at hres
 have hI0:=Oj h0 hany
 repeat' (with_reducible first|refine qq ?_|(refine Tx 11 ?_;refine gO xLt ?_)|(refine Tx 18 ?_;refine gO xA ?_))
 refine Bm (Ex (ds:=Ay (dIw false) (Cp bs)) 9 1 rfl rfl) ?_
 refine Bm (Cb 1) (Aw (fun n Fr H=>∃ (r:Nat) (l:List Iq),EX ps bs rd n r l=some res∧QW bs l∧r+n≤1+f∧Fr=ofL [(1,vd (.val (.int .i64 rd))),(2,vr 0),(8,vd (Bw false (Cu (Bd bs)))),(9,vd (.row false 6 l.length (Ay (dIw false) l))),(13,vi ((r:Nat)))]∧H=[.box 26 [.d (EP t ps),.d (Ee t bs),.d (Bw t os)]]) (n0:=f) ⟨1,_,hres,hI0,aa _,rfl,rfl⟩ ?_)
 clear hres hI0 hnf hany htk
 rintro n Fr H ⟨r,l,hres,hI,hrn,rfl,rfl⟩
 cases n
 case zero =>
  cases hres
 rename_i n
 case succ =>
  unfold EX at hres
  have hll:=hI.len
  have EV:=QV t hl (l.map Nd) (QY hI.iw (by decide)) (by rw [af];omega)
  rw [Aco h0 hI.iw hll,Ls,MF] at EV
  by_cases hb:CO ps bs l=true
  case pos =>
   rw [if_pos hb] at hres
   cases hres
   rw [if_pos hb,So (by decide)] at EV
   repeat' (with_reducible first|refine qq ?_|(refine Tx 20 ?_;refine gO xL <| gO xM <| gO (xCl func85 (EV)) <| gO xMt <| gO xEx <| gO xEx <| gO xA <| gO xA ?_)|(refine Tx 21 ?_;refine gO xM <| gO (xNE Ai) ?_)|(refine Tx 22 ?_;refine gO xM <| gO xA <| gO xA ?_))
   exact Sw
  rw [if_neg hb] at hres
  rw [if_neg hb,Ye rfl] at EV
  rw [bc] at hb
  unfold AiW at EV
  have hlb:=hI.lb hb
  have hvl:(rgV ps bs l).length=bs.length:=Ie
  obtain ⟨w,hwd⟩:∃ w,decide (rd<(r:Int))=w:=⟨_,rfl⟩
  rw [hwd] at hres
  repeat' (with_reducible first|refine qq ?_|(refine Tx 20 ?_;refine gO xL <| gO xM <| gO (xCl func85 (EV)) <| gO xMt <| gO xEx <| gO xEx <| gO xA <| gO xA ?_)|(refine Tx 21 ?_;refine gO xM <| gO (xNE Ai) ?_)|(refine Tx 23 ?_;refine gO xA ?_)|(refine Tx 24 ?_;refine gO xM <| gO xN <| gN (by first|exact QQ (n:=l.length) rfl rfl rfl Af Ah (by omega) (by decide)|exact Bi rfl rfl rfl Af Ah (by omega) (by decide)) <| gO xA ?_)|(refine Tx 25 ?_;refine gO xM <| gO xN <| gO xM ?_))
  refine Bm (Cb 2 (hH:=by rw [←All,←hll];rfl) (h:=by rw [←hnl];exact mB rfl rfl)) (Aw (fun n Fr H=>∃ k:Nat,k≤(Bd bs).length∧n=(Bd bs).length - k∧Fr=ofL [(1,vd (.val (.int .i64 rd))),(2,vr 0),(8,vd (Bw false (Cu (Bd bs)))),(9,vd (.row false 6 l.length (Ay (dIw false) l))),(13,vi ((r:Nat))),(14,vd (.row false 6 (rgV ps bs l).length (Ay (dIw false) (rgV ps bs l)))),(16,vd (.val (.bool (Uj ps bs l k)))),(17,vo 1 l.length),(79,vd (Bw false (Cu (Bd bs)))),(80,vi ((Bd bs).length)),(81,vi ((k:Nat)))]∧H=[.box 26 [.d (EP t ps),.d (Ee t bs),.d (Bw t os)],.row 45 6 l.length (kWs (nxS ps bs w l (k)))]) (n0:=(Bd bs).length) ⟨0,ad _,rfl,rfl,rfl⟩ ?_)
  rintro m Fr H ⟨k,hk,rfl,rfl,rfl⟩
  by_cases hlt:k<(Bd bs).length
  case pos =>
   obtain ⟨i,hi⟩:∃ i,(Bd bs)[k]?=some i:=⟨_,gE hlt⟩
   have hid:=Iz hi
   have hil:=hid.1
   obtain ⟨y,hy⟩:∃ y,bs[i]?=some y:=⟨_,gE hil⟩
   have hk2:=hid.2
   rw [Dv hy] at hk2
   obtain ⟨b,hA0,hbl⟩:=Yf h0 hy hk2
   obtain ⟨rr,hr,_,hrs⟩:=YF h0 hlb hll hb hbl
   have hal:=(gS.1 hA0).1
   obtain ⟨a,ha⟩:∃ a,l[k]?=some a:=⟨_,gE (by omega)⟩
   have has:=hlb a (gM ha)
   have has2:=has.more LBx LBx
   have hrs2:=hrs.more LBx LBx
   have HU:=Mw a rr has2 hrs2
   have RO:CV prog Al 175 [aIw false (GA a rr),aI (64:Int)] [aIw false (DH a rr),aE 0]:=Vj (GA a rr) 64 (has2.hull hrs2) (by decide)
   obtain ⟨hq,_,_,_,_⟩:=YJ has hrs
   have q1:=hq.s1
   have q2:=hq.s2
   have l1:=lT (q1.lenN 128 (by decide)) (show 128≤40000 by decide)
   have l2:=lT (q2.lenN 128 (by decide)) (show 128≤40000 by decide)
   have m1:=lT (has.s1.lenN 128 (by decide)) (show 128≤40000 by decide)
   have m2:=lT (has.s2.lenN 128 (by decide)) (show 128≤40000 by decide)
   have C1:=BJ (DH a rr).1.1 (DH a rr).1.2 a.1.1 a.1.2 q1.ok has.s1.ok l1 m1
   have C2:=BJ (DH a rr).2.1 (DH a rr).2.2 a.2.1 a.2.2 q2.ok has.s2.ok l2 m2
   have hb1:(Bx (DH a rr).1.1 (DH a rr).1.2 a.1.1 a.1.2 != 0)=loC a rr:=Acp q1 has.s1
   have hb2:(Bx (DH a rr).2.1 (DH a rr).2.2 a.2.1 a.2.2 != 0)=hiC a rr:=Acp q2 has.s2
   have NG1:=EQ (DH a rr).1.1 (DH a rr).1.2 q1.ok l1
   obtain ⟨u1,_,_⟩:Sm (upP (Hc (DH a rr).1)) 20000 20000∧gv (Hc (DH a rr).1)≤gv (upP (Hc (DH a rr).1))∧inU (gv (upP (Hc (DH a rr).1))):=Sz q1.neg
   have UP1:=YH (Hc (DH a rr).1) (q1.neg.more (by decide) (by decide))
   have NG2:=EQ (upP (Hc (DH a rr).1)).1 (upP (Hc (DH a rr).1)).2 u1.ok u1.lz
   have UP2:=YH (DH a rr).2 (q2.more (by decide) (by decide))
   obtain ⟨hck,hnx⟩:=YM hi hy hA0 ha hr
   have tl:k<(nxS ps bs w l k).length:=by rw [YL];exact hlt
   have stV:=Afm (ps:=ps) (bs:=bs) (w:=w) (l:=l) hlt
   rw [hnx w,show De w a rr=(if (decide (rd<(r:Int)) && loC a rr)=true then Hc (upP (Hc (DH a rr).1)) else (DH a rr).1,if (decide (rd<(r:Int)) && hiC a rr)=true then upP (DH a rr).2 else (DH a rr).2) from by rw [hwd];rfl] at stV
   clear hq
   generalize upP (Hc (DH a rr).1)=u at *
   generalize upP (DH a rr).2=v at *
   generalize DH a rr=q at *
   repeat' (with_reducible first|refine qq ?_|(refine Tx 26 ?_;refine gO xLt ?_)|(refine Tx 27 ?_;refine gO xM <| gO (by first|exact xIr Ae (AY (Mr hi))|exact xIr Ae (GE ha)) <| gO xD <| gO xA <| gO xA ?_)|(refine IY (id:=28) 21 [(21,19)] Bb (by kernel_rfl) ?_;dsimp only [List.take,List.drop];refine gP xM <| gP xM <| gP (xIr Af (GE ha)) <| gP xL <| gP xM <| gP xF <| gP xD <| gP xM <| gP (by first|exact xIr Ak (El hy)|exact xIr Ak (GE ha)) <| gP xF <| gP xD <| gP (by first|exact xIr Ae (AY hA0)|exact xIr Ae (GE ha)) <| gP xD <| gP (by first|exact xIr Af (GE hr)|exact xIr Af (GE ha)) <| gP xL <| gP (xCl func142 (HU)) <| gP (xCl func175 (RO)) <| gP xMt <| gP (by exact DS rfl rfl rfl) <| gP xEx <| gQ (xAl Ah) ?_;refine Ke ?_;refine gZ (xSk Ac) <| gO xA ?_)|(refine Tx 29 ?_;refine gO xM <| gO (xNE Ai) ?_)|(refine Cj (id:=31) Bb (by kernel_rfl) ?_;refine gP xF <| gP xL <| gP xM <| gP xM <| gP (xIr Af (GE ha)) <| gP xF <| gP xL <| gP (xCl func15 (C1)) <| gP (by first|exact RT rfl rfl rfl hb1|exact xNe) <| gP xF <| gP xL <| gP xM <| gP xM <| gP (xIr Af (GE ha)) <| gP xF <| gP xL <| gP (xCl func15 (C2)) <| gP (by first|exact RT rfl rfl rfl hb2|exact xNe) <| gP xA <| gP xA ?_;refine Ke ?_))
   refine Bm (F':=ofL [(1,vd (.val (.int .i64 rd))),(2,vr 0),(8,vd (Bw false (Cu (Bd bs)))),(9,vd (.row false 6 l.length (Ay (dIw false) l))),(13,vi ((r:Nat))),(14,vd (.row false 6 (rgV ps bs l).length (Ay (dIw false) (rgV ps bs l)))),(16,vd (.val (.bool (Uj ps bs l k)))),(17,vo 1 l.length),(79,vd (Bw false (Cu (Bd bs)))),(80,vi ((Bd bs).length)),(81,vi ((k:Nat))),(18,vi ((k:Nat))),(20,vr 2),(22,vd (.val (.bool (loC a rr)))),(23,vd (.val (.bool (hiC a rr))))]) (H':=[.box 26 [.d (EP t ps),.d (Ee t bs),.d (Bw t os)],.row 45 6 l.length (kWs (nxS ps bs w l k)),.box 45 ((dIw false q).map C.d)]) (Cb 3) ?_
   clear hb1 hb2 C1 C2 HU RO m1 m2 SC EV DL
   cases hb1:loC a rr <;> cases hb2:hiC a rr <;> cases hc:Uj ps bs l k <;> by_cases hw:rd<(r:Int)
   all_goals
    rw [hb1,hb2] at stV
    simp only [hw,decide_true,decide_false,dr,gh,gf,if_true,if_false] at stV
    skip
    repeat' (with_reducible first|refine qq ?_|(refine Tx 32 ?_;refine gO xM <| gO xM ?_;(first|refine Jd ?_|refine Jy xM1 ?_);refine gO xPk <| gO xM ?_;(first|refine Jd ?_|refine Jy xM1 ?_);refine gO xPk <| gO xA ?_)|(refine Tx 33 ?_;refine gO xM <| gO xM <| gO xGt <| gO xM ?_;(first|refine Jd ?_|refine Jy xM1 ?_);refine gO xPk ?_)|(refine Tx 34 ?_;refine gO xF <| gO xL <| gO (xCl func176 (NG1)) <| gO (xCl func177 (UP1)) <| gO (xCl func176 (NG2)) <| gO xF <| gZ (xSk Ab) ?_)|(refine Tx 35 ?_;refine gO xM <| gO xM <| gO xGt <| gO xM ?_;(first|refine Jd ?_|refine Jy xM1 ?_);refine gO xPk ?_)|(refine Tx 36 ?_;refine gO xF <| gO xL <| gO (xCl func177 (UP2)) <| gO xF <| gZ (xSk Ab) ?_)|(refine Tx 37 ?_;refine gO xM <| gO xM <| gO xL <| gO (xIo (i:=k) Af) <| gZ Afj ?_)|(refine Tx 38 ?_;refine gO xAd <| gO xM ?_))
    refine ⟨_,_,Cb 2 (h:=by rw [hck,hc,hb1,hb2];exact mB rfl rfl),_,?_,k+1,by omega,rfl,rfl,rfl⟩
    ·omega
  obtain rfl:k=(Bd bs).length:=by omega
  clear hlt hk
  rw [Afn]
  have hnL:(Cg ps bs w l).length=(Bd bs).length:=QX w
  by_cases hch:Uj ps bs l (Bd bs).length=false
  case pos =>
   rw [if_pos hch] at hres
   cases hres
   rw [hch]
   repeat' (with_reducible first|refine qq ?_|(refine Tx 26 ?_;refine gO xLt ?_)|(refine Tx 39 ?_;refine gO xM <| gO Yt ?_)|(refine Tx 40 ?_;refine gO xM <| gO xA <| gO xA ?_))
   exact AE rfl (.cons_ (.tmp (.one (Bs rfl fun _=>.row (Cv (f:=dIw false) FF l)))) (.cons_ (Fg rfl rfl) .nil_))
  rw [if_neg hch] at hres
  rw [jo] at hch
  rw [hch]
  repeat' (with_reducible first|refine qq ?_|(refine Tx 26 ?_;refine gO xLt ?_)|(refine Tx 39 ?_;refine gO xM <| gO Yt ?_))
  refine Bm (Ex (ds:=Ay (dIw false) (Cg ps bs w l)) 17 1 rfl rfl) ?_
  repeat' (with_reducible first|refine qq ?_|(refine Tx 41 ?_;refine gO xM <| gO xN <| gO xM ?_))
  refine Bm (Cb 1 (h:=by rw [hnL,←hll];exact mB rfl rfl)) (Aw (fun n Fr H=>∃ k:Nat,k≤(Cg ps bs w l).length∧n=(Cg ps bs w l).length - k∧(∀ p∈(Cg ps bs w l).take k,Nc p=false)∧Fr=ofL [(1,vd (.val (.int .i64 rd))),(2,vr 0),(8,vd (Bw false (Cu (Bd bs)))),(13,vi ((r:Nat))),(17,vd (.row false 6 (Cg ps bs w l).length (Ay (dIw false) (Cg ps bs w l)))),(164,vd (.row false 6 (Cg ps bs w l).length (Ay (dIw false) (Cg ps bs w l)))),(165,vi ((Cg ps bs w l).length)),(166,vi ((k:Nat)))]∧H=[.box 26 [.d (EP t ps),.d (Ee t bs),.d (Bw t os)]]) (n0:=(Cg ps bs w l).length) ⟨0,ad _,rfl,(fun p hp=>by simp at hp),rfl,rfl⟩ ?_)
  rintro m Fr H ⟨k,hk,rfl,hnf,rfl,rfl⟩
  by_cases hlt:k<(Cg ps bs w l).length
  case pos =>
   obtain ⟨x,hx⟩:∃ x,(Cg ps bs w l)[k]?=some x:=⟨_,gE hlt⟩
   have hxs:IwS x 20000 20000:=by
    obtain ⟨j,hj,rfl⟩:=List.mem_map.1 (gM hx)
    have hj:=List.mem_range.1 hj
    exact (SA (hlb _ (Hh (by omega) iZ)) (Ul h0 hI hb hj)).1
   have FR:=Ui x hxs
   cases hf:Nc x
   case true =>
    rw [hf] at FR
    have hany:(Cg ps bs w l).any Nc=true:=List.any_eq_true.2 ⟨_,gM hx,hf⟩
    rw [if_pos hany] at hres
    cases hres
    repeat' (with_reducible first|refine qq ?_|(refine Tx 42 ?_;refine gO xLt ?_)|(refine Tx 43 ?_;refine gO (xIr Af (GE hx)) <| gO xL <| gN (xAl Ah) <| gZ (xSk Ac) ?_)|(refine Tx 44 ?_;refine gO xL <| gO (xCl func174 (FR)) ?_)|(refine Tx 45 ?_;refine gO (xMi underlying109) <| gO xA <| gO xA ?_))
    exact Sw
   case false =>
    rw [hf] at FR
    repeat' (with_reducible first|refine qq ?_|(refine Tx 42 ?_;refine gO xLt ?_)|(refine Tx 43 ?_;refine gO (xIr Af (GE hx)) <| gO xL <| gN (xAl Ah) <| gZ (xSk Ac) ?_)|(refine Tx 44 ?_;refine gO xL <| gO (xCl func174 (FR)) ?_)|(refine Tx 46 ?_;refine gO xAd <| gO xM ?_))
    refine ⟨_,_,Cb 1,_,?_,k+1,by omega,rfl,EA hnf hx hf,rfl,rfl⟩
    ·omega
  obtain rfl:k=(Cg ps bs w l).length:=by omega
  clear hlt hk
  rw [bh] at hnf
  have hany:(Cg ps bs w l).any Nc=false:=List.any_eq_false.2 fun p hp=>by rw [hnf p hp];decide
  rw [if_neg (by rw [hany];decide)] at hres
  repeat' (with_reducible first|refine qq ?_|(refine Tx 42 ?_;refine gO xLt ?_)|(refine Tx 47 ?_;refine gO xM <| gO xA ?_)|(refine Tx 19 ?_;refine gO xM <| gO xAd <| gO xA ?_))
  refine ⟨_,_,Cb 1,n,Nat.lt_succ_self n,r+1,(Cg ps bs w l),hres,hI.next h0 hb w hany,by omega,rfl,rfl⟩
theorem Un {p:Pq} (h:Sm p LB LB):Dr p=false:=by
 have h1:=Cw.2 h.n
 have h2:=h.d
 unfold LB at h1 h2
 exact decide_eq_false (by omega)
theorem Abe {a:Iq} (h:IwS a LB LB):Eo a=false:=by unfold Eo;rw [Un h.s1,Un h.s2];rfl
theorem QZ {l:List Iq} (h:y.kind≠0):AZ y l ps=Dx y l:=by unfold AZ;rw [if_neg h]
theorem Ajh (n e f:Int):CVF prog Al 117 [.agg [dI n,dI e],aI f] [aI (ZC n e f),aE (DW n e f)]:=fun w S vs hg hlt ha=>by
 obtain ⟨v,vs',rfl,h1,ha⟩:=ha.uncons
 obtain ⟨u,hu,h2⟩:=BZ ha
 subst hu
 obtain ⟨xs,rfl,h3⟩:=h1
 have h4:=OQ (vs:=[.int .i64 n,.int .i64 e]) h3
 subst h4
 cases h2
 refine (Aaq n e f w hg).mono fun r w' ⟨he,hb⟩=>?_
 exact ⟨_,he,OS (Bf.val rfl) (Bf.val (Aag _)),hb⟩
def flP:List Prt:=[⟨-1,1,0⟩]
def flB:List Bk:=[⟨0,none,[0],0,0,0,0,0⟩,⟨6,none,[3],0,1,-1,0,0⟩,⟨3,none,[0,1],0,0,0,0,0⟩,⟨2,none,[2],0,0,0,0,0⟩]
def flO:List Int:=[2]
theorem YN:CV prog Al 74 [] [aDg false flP flB flO]:=by
 refine cvz func74 ntmps74 ?_
 repeat' (with_reducible first|refine qq ?_|(refine Tx 0 ?_;refine gN (xAl NK) ?_)|(refine Tx 1 ?_;refine gO (by exact AU rfl AdD rfl rfl) <| gN (by exact Cn rfl CS Mb rfl rfl (by decide) (by decide)) <| gN (by exact Cn rfl Ae CR rfl rfl (by decide) (by decide)) <| gN (by exact Cn rfl Ae CR rfl rfl (by decide) (by decide)) <| gO (by exact AU rfl IZ rfl rfl) <| gN (by exact Cn rfl Ae CR rfl rfl (by decide) (by decide)) <| gO (by exact AU rfl LZ rfl rfl) <| gO (by exact AU rfl IZ rfl rfl) <| gN (by exact GS rfl Ae CR rfl rfl rfl rfl (by decide) (by decide)) <| gO (by exact AU rfl IZ rfl rfl) <| gN (by exact Cn rfl Ae CR rfl rfl (by decide) (by decide)) <| gO (by exact AU rfl IZ rfl rfl) <| gN (by exact Eu rfl rfl Ak BP (by decide) (by decide) (by decide) rfl rfl rfl) <| gO (by exact AU rfl UM rfl rfl) <| gZ (xSk BH) ?_))
 exact AE rfl (.cons_ (AbT rfl rfl BH rfl rfl (by first|((repeat' first|exact Bt rfl rfl|refine AH rfl rfl ?_ ?_|refine Fq rfl rfl ?_|refine Cz rfl rfl ?_|exact Bs rfl (fun _=>Da.val _)|exact Gh rfl rfl|exact cexp_e rfl rfl|refine CT rfl rfl rfl ?_) <;> fail)|fail)) .nil_)
theorem Acq {α:Type} {p:α→Bool} {l:List α} {k:Nat} {x:α} (h:l[k]?=some x) (hp:p x=false):l.all p=false:=List.all_eq_false.2 ⟨x,gM h,by rw [hp];exact Bool.false_ne_true⟩
theorem YO (h0:AP ps bs os=0) (hl:Ff ps bs os) (rd:Int) (r1:rd≤16):∃ (f:Nat) (e:Int) (l:List Iq),f≤1000000000∧IE ps bs rd f=some (e,l)∧((e=0∧QW bs l∧CO ps bs l=false∧Vn ps bs l=true)∨((e=4∨e=22)∧l=[])):=by
 have hdb:=Ia bs
 have hl2:=hl.l2
 refine ⟨300000000,?_⟩
 unfold IE
 by_cases hf:(Cp bs).any Nc=true
 ·exact ⟨22,[],by decide,by rw [if_pos hf],.inr ⟨.inr rfl,rfl⟩⟩
 ·rw [if_neg hf]
  rw [bc] at hf
  have hI:=Oj h0 hf
  obtain ⟨⟨e,l⟩,hr⟩:=Oi (rd:=rd) h0 20 300000000 1 (Cp bs) hI (by omega) (by omega)
  exact ⟨e,l,by decide,hr,Um h0 _ _ _ _ _ hI hr⟩
section
variable {ps:List Prt} {bs:List Bk} {os:List Int} {st:List Iq}
theorem YP {t:Nat} (htu:t≤u) (hu:u≤(BS bs).length) (h:∀ v,t≤v→v<u→(BS bs)[v]?≠some i):(rgS ps bs st u)[i]?=(rgS ps bs st t)[i]?:=by
 induction u with
 | zero=>rw [show t=0 by omega]
 | succ u ih =>
  by_cases e:t=u+1
  ·rw [e]
  ·obtain ⟨j,hj⟩:∃ j,(BS bs)[u]?=some j:=⟨_,gE (by omega)⟩
   have hne:j≠i:=fun hji=>h u (by omega) (by omega) (by rw [hj,hji])
   rw [Ln hj,gd hne]
   exact ih (by omega) (by omega) fun v h1 h2=>h v h1 (by omega)
theorem Vq {t:Nat} (htu:t≤u) (hu:u≤(BS bs).length) (h:ZD bs t i):(rgS ps bs st u)[i]?=(rgS ps bs st t)[i]?:=by
 refine YP htu hu fun v h1 h2 hv=>?_
 rcases h with ⟨_,hk⟩|hm
 ·exact (Mp hv).2 hk
 ·obtain ⟨w,hw⟩:=List.mem_iff_getElem?.1 hm
  rw [bp] at hw
  split at hw
  ·have:=Uc (Ms bs) hw hv
   omega
  ·cases hw
def Cr (V:List Iq) (y:Bk):List Iq:=if y.kind=0 then [] else y.args.map fun a=>V[a.toNat]?.getD iZ
theorem Abf (he:AP ps bs os=0) (hs:∀ p∈st,IwS p LB LB) (hl:st.length=(Bd bs).length) (hb:CO ps bs st=false) {i:Nat} {y:Bk} (hy:bs[i]?=some y) (hk:y.kind≠2) :
  (rgV ps bs st)[i]?=some (AZ y (Cr (rgV ps bs st) y) ps):=by
 have H:=YE he hs hl hb
 have hil:=(gS.1 hy).1
 obtain ⟨t,ht⟩:=List.mem_iff_getElem?.1 (Pb (Iu he).2.2 hil (by rw [Dv hy];exact hk))
 have htl:=(gS.1 ht).1
 obtain ⟨y',hy',_,T⟩:=Lo he ht (H t (by omega))
 obtain rfl:y'=y:=Option.some.inj (hy'.symm.trans hy)
 have e1:(rgS ps bs st (BS bs).length)[i]?=some (some (rgN ps bs st t)):=by
  rw [YP (t:=t+1) htl (aa _) fun v k1 k2 kv=>by have:=Uc (Ms bs) ht kv;omega]
  rw [Ln ht,fo (by rw [Ic];exact hil)]
 rw [show rgV ps bs st=gW (rgS ps bs st (BS bs).length) from rfl,AaU e1,YD ht hy']
 congr 2
 unfold GD Cr
 by_cases h0:y'.kind=0
 ·rw [if_pos h0,if_pos h0]
 ·rw [if_neg h0,if_neg h0]
  refine dz fun a ha=>?_
  obtain ⟨k,hk'⟩:=List.mem_iff_getElem?.1 ha
  obtain ⟨p,a0,a1,a2,_⟩:=T.args h0 k a hk'
  have hst:ZD bs t a.toNat:=by
   have hsplit:BS bs=(BS bs).take t++i::(BS bs).drop (t+1):=by
    obtain ⟨hlt,he⟩:=gS.1 ht
    rw [←he,←cn hlt,eg]
   exact (Lh hsplit (a:=a) (by rw [Lk hy h0];exact ha)).imp (fun q=>⟨a1,q⟩) id
  have e2:=Vq (ps:=ps) (st:=st) (Nat.le_of_lt htl) (aa _) hst
  rw [a2] at e2
  rw [a2,AaU e2]
  rfl
theorem Ca {V:List Iq} (h:y.kind≠0) {k:Nat} {a:Int} (ha:y.args[k]?=some a) {p:Iq} (hp:V[a.toNat]?=some p):(Cr V y)[k]?=some p:=by
 unfold Cr
 rw [if_neg h,ag,ha,ck,hp]
 rfl
theorem Di {V:List Iq} (hV:∀ p∈V,IwS p LB LB):∀ p∈Cr V y,IwS p LB LB:=fun p hp=>by
 unfold Cr at hp
 split at hp
 ·cases hp
 ·obtain ⟨a,_,rfl⟩:=List.mem_map.1 hp
  exact Bl hV _
theorem SE (he:AP ps bs os=0) (hs:∀ p∈st,IwS p LB LB) (hl:st.length=(Bd bs).length) (hb:CO ps bs st=false):∀ p∈rgV ps bs st,IwS p LB LB:=fun p hp=>by
 obtain ⟨i,hi⟩:=List.mem_iff_getElem?.1 hp
 have hil:=(gS.1 hi).1
 rw [Ie] at hil
 obtain ⟨q,hq,_,hs⟩:=YF he hs hl hb hil
 rw [hi] at hq
 cases hq
 exact hs
end
structure Ct where
 F:List Int
 R:List Iq
 E:List Pq
def dCt (u:Bool) (c:Ct):List D:=[Bw u c.F,.row false 6 c.R.length (Ay (dIw false) c.R),.row false 3 c.E.length (Ay dyP c.E)]
def rowE (E:List Pq):D:=.row false 3 E.length (Ay dyP E)
abbrev eG (E:List Pq) (a:Int):Pq:=E[a.toNat]?.getD (0,0)
abbrev rG (R:List Iq) (a:Int):Iq:=R[a.toNat]?.getD iZ
abbrev sG (F:List Int) (a:Int):Int:=scA F a.toNat
def inK (k:Int):Bool:=decide (-62≤k∧k≤30)
def frB (f:Int):Bool:=decide (0≤f∧f≤30)
def rwB (n e f:Int):Bool:=decide (DW n e f=0)
def Rr (ps:List Prt) (F:List Int) (y:Bk) (s:Int):Bool :=
 if y.kind=0 then inK (s - Iy ps (BQ y))
 else if y.kind=1 then rwB y.vn y.ve s
 else if y.kind=6 then inK (s - sG F (BQ y)+y.ve)
 else if y.kind=7 then inK (s - sG F (BQ y) - sG F (DX y))
 else if y.kind=2 then inK (s - sG F (BQ y)) && rwB y.vn y.ve s
 else if y.kind=11 then inK (s - sG F (BQ y)) && rwB y.vn y.ve s && rwB y.un y.ue s
 else y.args.all fun a=>inK (s - sG F a)
def DB (ps:List Prt) (F:List Int) (y:Bk) (i:Nat):Bool :=
 frB (scA F i) && ((decide (y.kind=0) || y.args.all fun a=>frB (sG F a)) && Rr ps F y (scA F i))
def Ig (ps:List Prt) (R:List Iq) (y:Bk):Iq :=
 if y.kind=2 then GA (Ad y.vn 0 y.ve,Ad y.vn 0 y.ve) (rG R (BQ y)) else AZ y (Cr R y) ps
def Cs (ps:List Prt) (R:List Iq) (y:Bk) (i:Nat):Bool:=iIn (Ig ps R y) (R[i]?.getD iZ)
def BR (n e f:Int):Bool:=decide ((Eh (Ad n 0 e) f).2=0)
def ixP (b:Bool) (s:Int):Pq:=if b=true then pw (-s) else (0,0)
def mvP (F:List Int) (E:List Pq) (s a:Int):Pq:=if sG F a≤s then eG E a else Ep (eG E a) (pw (-s))
def AF (ps:List Prt) (F:List Int) (R:List Iq) (E:List Pq) (y:Bk) (s:Int):Pq :=
 if y.kind=0 then ixP (decide (s<Iy ps (BQ y))) s
 else if y.kind=1 then ixP (!BR y.vn y.ve s) s
 else if y.kind=3∨y.kind=4 then Ep (mvP F E s (BQ y)) (mvP F E s (DX y))
 else if y.kind=5∨y.kind=10 then mvP F E s (BQ y)
 else if y.kind=8∨y.kind=9 then FW (mvP F E s (BQ y)) (mvP F E s (DX y))
 else if y.kind=6 then Ep (CA (Hm (Ad y.vn 0 y.ve)) (eG E (BQ y))) (ixP (decide (s - sG F (BQ y)+y.ve<0)) s)
 else if y.kind=7 then Ep (Ep (Ep (CA (DM (rG R (BQ y))) (eG E (DX y))) (CA (DM (rG R (DX y))) (eG E (BQ y)))) (CA (eG E (BQ y)) (eG E (DX y)))) (ixP (decide (s - sG F (BQ y) - sG F (DX y)<0)) s)
 else if y.kind=11 then FW (mvP F E s (BQ y)) (ixP (!BR y.vn y.ve s || !BR y.un y.ue s) s)
 else FW (mvP F E s (BQ y)) (ixP (!BR y.vn y.ve s) s)
def IG (x:Pq) (f:Int):Bool:=decide (Hd (Eh x f) (2147483647,0)≤0)
def Afo (F:List Int) (R:List Iq) (E:List Pq) (y:Bk) (i:Nat):Bool :=
 IG (Ep (DM (R[i]?.getD iZ)) (E[i]?.getD (0,0))) (scA F i) && (!decide (y.kind=11) || IG (Ep (rG R (BQ y)).2 (eG E (BQ y))) (scA F i))
def IQ (ps:List Prt) (bs:List Bk) (c:Ct) (i:Nat):Int :=
 let y:=Akj bs i
 if DB ps c.F y i=false then 1 else if Cs ps c.R y i=false then 2
 else if Hd (c.E[i]?.getD (0,0)) (AF ps c.F c.R c.E y (scA c.F i))<0 then 3 else if Afo c.F c.R c.E y i=false then 4 else 0
def upQ (x:Pq):Pq:=AaM x 62
def YQ (x:Pq):Bool:=decide (0<Hd x (1099511627776,0))
structure Alm (bs:List Bk) (c:Ct):Prop where
 lF:c.F.length=bs.length
 lR:c.R.length=bs.length
 lE:c.E.length=bs.length
 sR:∀ p∈c.R,IwS p LB LB
 sE:∀ p∈c.E,Sm p LB LB
 nE:∀ p∈c.E,0≤gv p
theorem Eb {E:List Pq} {d:Nat} (h:∀ p∈E,Sm p n d) (a:Int):Sm (eG E a) n d:=En h _
theorem Afp {R:List Iq} {d:Nat} (h:∀ p∈R,IwS p n d) (a:Int):IwS (rG R a) n d:=Bl h _
theorem Ra (h0:0≤s) (h1:s≤30):Sm (pw (-s)) 31 30:=Sy (n:=30) (by omega) (by omega) (by decide)
theorem Aji (h0:0≤s) (h1:s≤30):gv (pw (-s))=2 ^ (65536 - s.toNat):=by rw [IP (by omega) (by omega)];congr 1;omega
theorem Pt {b:Bool} (h0:0≤s) (h1:s≤30):Sm (ixP b s) 31 30:=by
 unfold ixP
 split
 ·exact Ra h0 h1
 ·exact Sm.zero _ _
theorem Gd {F:List Int} {E:List Pq} (h0:0≤s) (h1:s≤30) (hE:∀ p∈E,Sm p LB LB) (a:Int):Sm (mvP F E s a) 8200 LB:=by
 unfold mvP
 split
 ·exact (Eb hE a).more (by decide) (by decide)
 ·exact (Sm.sum (Eb hE a) ((Ra h0 h1).more (n':=LB) (d':=LB) (by decide) (by decide)) (by decide)).more (by decide) (by decide)
theorem EE {p:Pq} {d:Nat} (h:Sm p n d) {f:Int} (f0:0≤f) (f1:f≤30):Sm (Eh p f) (n+30) d:=by
 show Sm (Ad p.1 p.2 f) (n+30) d
 unfold Ad
 rw [show max (-65536) (min f 65536)=f by omega,if_neg (by omega)]
 refine Sm.mk_nf h.d h.ok.le ?_
 rw [fz,fh,show Int.natAbs 2=2 from rfl,ay]
 have h1:2 ^ f.toNat≤2 ^ 30:=ao (by decide) (by omega)
 have h2:(0:Nat)<2 ^ f.toNat:=ba _
 exact ai (iy h.n h2) (fw _ h1)
theorem IH {a:Iq} {d:Nat} (h:IwS a n d):Sm (DM a) n d:=h.abs.s2
theorem Pu {F:List Int} {R:List Iq} {E:List Pq} (h0:0≤s) (h1:s≤30) (hR:∀ p∈R,IwS p LB LB) (hE:∀ p∈E,Sm p LB LB) (hv:y.kind=6→DJ y.vn y.ve):Sm (AF ps F R E y s) 40064 9000:=by
 have ix:∀ b,Sm (ixP b s) 16000 8192:=fun b=>(Pt h0 h1).more (by decide) (by decide)
 have mv:∀ a,Sm (mvP F E s a) 8200 LB:=Gd h0 h1 hE
 unfold AF
 split
 ·exact (ix _).more (by decide) (by decide)
 split
 ·exact (ix _).more (by decide) (by decide)
 split
 ·exact (Sm.sum (mv _) (mv _) (by decide)).more (by decide) (by decide)
 split
 ·exact (mv _).more (by decide) (by decide)
 split
 ·exact (Sm.max (mv _) (mv _)).more (by decide) (by decide)
 split
 ·next h=>exact (Sm.sum ((Sm.mul (Fh (hv h)).abs (Eb hE _) (by decide)).more (n':=16000) (d':=8192) (by decide) (by decide)) (ix _) (by decide)).more (by decide) (by decide)
 split
 ·have m1:∀ a b,Sm (CA (DM (rG R a)) (eG E b)) 8192 8192:=fun a b=>Sm.mul (IH (Afp hR a)) (Eb hE b) (by decide)
  have m2:∀ a b,Sm (CA (eG E a) (eG E b)) 8192 8192:=fun a b=>Sm.mul (Eb hE a) (Eb hE b) (by decide)
  have s1:=Sm.sum (m1 (BQ y) (DX y)) (m1 (DX y) (BQ y)) (by decide)
  have s2:=Sm.sum s1 ((m2 (BQ y) (DX y)).more (n':=16385) (d':=8192) (by decide) (by decide)) (by decide)
  exact (Sm.sum s2 ((Pt h0 h1).more (n':=24578) (d':=8192) (by decide) (by decide)) (by decide)).more (by decide) (by decide)
 split
 ·exact (Sm.max (mv _) ((Pt h0 h1).more (by decide) (by decide))).more (by decide) (by decide)
 ·exact (Sm.max (mv _) ((Pt h0 h1).more (by decide) (by decide))).more (by decide) (by decide)
theorem YS {x:Pq} (h:x.2≤GQ):gv x≤gv (upQ x)∧gv (upQ x)<gv x+2 ^ (GQ - 62)∧∃ k:Int,gv (upQ x)=k*2 ^ (GQ - 62):=by
 obtain ⟨a,b,k,c⟩:=Pg (p:=(-x.1,x.2)) (den:=62) h (by decide)
 have e:gv (upQ x) = -gv (Bz (-x.1) x.2 62):=EW _
 have f:gv (-x.1,x.2) = -gv x:=EW x
 dsimp only at a b c
 rw [f] at a b
 rw [e]
 generalize gv (Bz (-x.1) x.2 62)=w at *
 refine ⟨by omega,by omega,-k,?_⟩
 rw [c,dc]
end Go.Proofs.YtmdfjbpggbhgnaaGreatDoor
